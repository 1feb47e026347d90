/- maps.Keys and its iterator: the keys come, each once, in some order. -/
import Derived.Test.YtifdfhonhphojaaKy
import Derived.RangeFuncSeq
import Derived.RangeFuncGives
import Derived.WalkKit
import Derived.OwnWalkIn
import Derived.TacticsInMore
import Derived.RegionIn
import Derived.LoopNIn
import Derived.LoopIn
namespace Go.Proofs.Ytifdfhonhphojaa.Ks
open Go Go.RowKit Go.Maps Go.Proofs.YtifdfhonhphojaaCore Go.Proofs.Ytifdfhonhphojaa.Fr Go.Proofs.Ytifdfhonhphojaa.Mp Go.Proofs.Ytifdfhonhphojaa.Rgm Go.Proofs.Ytifdfhonhphojaa.Ky

theorem nodup_len {α : Type} [DecidableEq α] : ∀ {a b : List α}, a.Nodup → (∀ x ∈ a, x ∈ b) → a.length ≤ b.length
  | [], _, _, _ => Nat.zero_le _
  | x :: a, b, h, hs => by
    rw [List.nodup_cons] at h
    have hx := hs x (List.mem_cons_self ..)
    have h1 := nodup_len (a := a) (b := b.erase x) h.2 (fun y hy => (List.mem_erase_of_ne (fun e => h.1 (by rw [← e]; exact hy))).2 (hs y (List.mem_cons_of_mem _ hy)))
    rw [List.length_erase_of_mem hx] at h1
    have := List.length_pos_of_mem hx
    simp only [List.length_cons]
    omega

set_option maxRecDepth 100000 in
set_option maxHeartbeats 1000000 in
theorem int_keys1 {V : Type} {ev : V → Value} (F : Fence) (n : Nat) (h10 : F.fn 35) (hro : F.round = none) (hn : 1 ≤ n) (lp Bm b : Nat) (l : List (Int × V)) (J : List Int → World → Prop)
    (hY : ∀ pre x W, J pre W → pre.length < l.length → YieldAt F (n - 1) Try.prog lp #[encI x] W fun e W' => e = .returned (.bool true) ∧ J (pre ++ [x]) W' ∧ KeepsWalks W W')
    (W : World) (hJ : AbidesFrom W.heap.size J) (hm : W.cell? ⟨Bm, 0, none⟩ = some (.map (some b))) (hown : MapIs encI ev okI W b l) (h0 : J [] W) :
    CallsIn F n Try.prog 35 #[.func (.yield lp) #[] #[], .pointer (some ⟨Bm, 0, none⟩)] W fun e W' => (∃ v, e = .returned v) ∧ ∃ ss : List Int, ss.Perm (l.map Prod.fst) ∧ J ss W' := by
  refine callsIn_of_wp Try.func35 rfl h10 ?_ hro
  simp only [Try.ntmps35, List.size_toArray, List.length_cons, List.length_nil, Nat.reduceAdd, Nat.reduceSub, Array.replicate_succ, Array.replicate_zero, List.push_toArray, List.append_toArray, List.nil_append, List.cons_append]
  gi_wp2_with (first
    | (gi_at_range; refine wpListIn_range_is rfl _ rfl Try.underlying61 rfl hown ?_; intro w0 hrg0 hg0 hs0)
    | gi_in)
  go_frame
  gi_loopw [3] (fun _ wr => ∃ (ss : List Int), RangeIs encI ev okI wr b W.heap.size l ss ∧ J ss wr)
    (fun _ wr => wr.rangeLeft b W.heap.size)
  case atStart =>
    exact ⟨[], hrg0, hJ [] W w0 none h0 hg0 (fun r e => by cases e)⟩
  case round =>
    obtain ⟨ss, hrg, hJs⟩ := hrel
    gi_wp2_with (first
      | (gi_at_next; refine wpListIn_next_is encI_M rfl _ rfl rfl hrg ?_ ?_)
      | gi_in)
    · intro hp
      gi_wp2
      go_end0
      exact ⟨⟨_, rfl⟩, ss, hp, hJs⟩
    · intro x v w2 hmem hnot hrg2 hg2 hs2 hlt hen
      have hJ2 : J ss w2 := hJ ss wr w2 (some W.heap.size) hJs hg2 (fun r e => by cases e; exact ⟨Nat.le_refl _, hrg.iter⟩)
      have hlen : ss.length < l.length := by
        obtain ⟨es, clock, since, seen, c0, _, _, _, _, _, _, _, _, hd, hsub, _⟩ := hrg2
        have := nodup_len hd hsub
        simp at this
        omega
      obtain ⟨fn, tmps, assign, body, hy, hR⟩ := hY ss x w2 hJ2 hlen
      clear hs2
      gi_wp2
      refine hR.mono ?_
      rintro e W3 ⟨rfl, hJ3, hk3⟩
      gi_wp2
      have hk3' := hk3
      have hrg3 := hrg2.of_walks hk3'
      go_roundw
      case rel => exact ⟨ss ++ [_], hrg3, hJ3⟩
      case measure =>
        obtain ⟨o1, ho1, hw1⟩ := hrg2.iter
        obtain ⟨es2, c2, hm2, _⟩ := hrg2.map
        rw [left_eq (w := w2) (w' := W3) (by rw [hk3'.same _ _ hm2 rfl, hm2]) (by rw [hk3'.same _ _ ho1 hw1, ho1])]
        exact hlt

/-- What maps.Keys hands back, in the world behind the call, gives the keys. -/
theorem int_gives {V : Type} {ev : V → Value} (F : Fence) (n : Nat) (h10 : F.fn 35) (hro : F.round = none) (hn : 1 ≤ n) (Bm b : Nat) (l : List (Int × V)) (w : World) (hBm : Bm < w.heap.size)
    (hm : w.cell? ⟨Bm, 0, none⟩ = some (.map (some b))) (hown : MapIs encI ev okI w b l) :
    SeqGives F n Try.prog 35 #[.pointer (some ⟨Bm, 0, none⟩)] encI (fun ss => ss.Perm (l.map Prod.fst)) l.length w := fun lp J W hW hJ hY h0 =>
  int_keys1 F n h10 hro hn lp Bm b l J hY W hJ ((hW.cell (p := ⟨Bm, 0, none⟩) hBm).trans hm) (hown.at_ (hW.block b hown.lt)) h0

set_option maxHeartbeats 1000000 in
theorem int_keys (mb : Option Nat) (w : World) : Calls Try.prog 24 #[.map mb] w fun e w' => e = .returned (.func (.func 35) #[] #[.pointer (some ⟨w.heap.size, 0, none⟩)]) ∧ w' = w.alloc (.cells #[.map mb] 61) := by
  go_enter Try.func24, Try.ntmps24
  go_wp2_with fail
  go_ret
  exact ⟨rfl, rfl⟩

set_option maxRecDepth 100000 in
set_option maxHeartbeats 1000000 in
theorem key_keys1 {V : Type} {ev : V → Value} (F : Fence) (n : Nat) (h10 : F.fn 38) (hro : F.round = none) (hn : 1 ≤ n) (lp Bm b : Nat) (l : List (GKey × V)) (J : List GKey → World → Prop)
    (hY : ∀ pre x W, J pre W → pre.length < l.length → YieldAt F (n - 1) Try.prog lp #[encK x] W fun e W' => e = .returned (.bool true) ∧ J (pre ++ [x]) W' ∧ KeepsWalks W W')
    (W : World) (hJ : AbidesFrom W.heap.size J) (hm : W.cell? ⟨Bm, 0, none⟩ = some (.map (some b))) (hown : MapIs encK ev okK W b l) (h0 : J [] W) :
    CallsIn F n Try.prog 38 #[.func (.yield lp) #[] #[], .pointer (some ⟨Bm, 0, none⟩)] W fun e W' => (∃ v, e = .returned v) ∧ ∃ ss : List GKey, ss.Perm (l.map Prod.fst) ∧ J ss W' := by
  refine callsIn_of_wp Try.func38 rfl h10 ?_ hro
  simp only [Try.ntmps38, List.size_toArray, List.length_cons, List.length_nil, Nat.reduceAdd, Nat.reduceSub, Array.replicate_succ, Array.replicate_zero, List.push_toArray, List.append_toArray, List.nil_append, List.cons_append]
  gi_wp2_with (first
    | (gi_at_range; refine wpListIn_range_is rfl _ rfl Try.underlying59 rfl hown ?_; intro w0 hrg0 hg0 hs0)
    | gi_in)
  go_frame
  gi_loopw [3] (fun _ wr => ∃ (ss : List GKey), RangeIs encK ev okK wr b W.heap.size l ss ∧ J ss wr)
    (fun _ wr => wr.rangeLeft b W.heap.size)
  case atStart =>
    exact ⟨[], hrg0, hJ [] W w0 none h0 hg0 (fun r e => by cases e)⟩
  case round =>
    obtain ⟨ss, hrg, hJs⟩ := hrel
    gi_wp2_with (first
      | (gi_at_next; refine wpListIn_next_is encK_M rfl _ rfl rfl hrg ?_ ?_)
      | gi_in)
    · intro hp
      gi_wp2
      go_end0
      exact ⟨⟨_, rfl⟩, ss, hp, hJs⟩
    · intro x v w2 hmem hnot hrg2 hg2 hs2 hlt hen
      have hJ2 : J ss w2 := hJ ss wr w2 (some W.heap.size) hJs hg2 (fun r e => by cases e; exact ⟨Nat.le_refl _, hrg.iter⟩)
      have hlen : ss.length < l.length := by
        obtain ⟨es, clock, since, seen, c0, _, _, _, _, _, _, _, _, hd, hsub, _⟩ := hrg2
        have := nodup_len hd hsub
        simp at this
        omega
      obtain ⟨xc, xf⟩ := x
      simp only [encK] at hen
      obtain ⟨wb, hwb⟩ : ∃ wb, w2.alloc (.cells #[.int .i64 xc, .string xf] 48) = wb := ⟨_, rfl⟩
      have hcb0 : wb.cell? ⟨w2.heap.size, 0, none⟩ = some (.int .i64 xc) := by rw [← hwb]; unfold World.cell?; rw [heap_alloc_new]; rfl
      have hcb1 : wb.cell? ⟨w2.heap.size, 1, none⟩ = some (.string xf) := by rw [← hwb]; unfold World.cell?; rw [heap_alloc_new]; rfl
      have hgb : w2.grownBy wb none := by rw [← hwb]; exact ⟨rfl, rfl, rfl, by simp, fun i hi _ => Below.heap_alloc _ _ _ hi⟩
      have hkb : KeepsWalks w2 wb := by rw [← hwb]; exact KeepsWalks.alloc _ _
      have hJb : J ss wb := hJ ss w2 wb none hJ2 hgb (fun r e => by cases e)
      obtain ⟨fn, tmps, assign, body, hy, hR⟩ := hY ss ⟨xc, xf⟩ wb hJb hlen
      simp only [encK] at hy
      clear hs2
      simp only [encK]
      gi_wp2_with (rw [hwb])
      refine hR.mono ?_
      rintro e W3 ⟨rfl, hJ3, hk3⟩
      clear hwb
      gi_wp2
      have hk3' := hkb.trans hk3
      have hrg3 := hrg2.of_walks hk3'
      go_roundw
      case rel => exact ⟨ss ++ [_], hrg3, hJ3⟩
      case measure =>
        obtain ⟨o1, ho1, hw1⟩ := hrg2.iter
        obtain ⟨es2, c2, hm2, _⟩ := hrg2.map
        rw [left_eq (w := w2) (w' := W3) (by rw [hk3'.same _ _ hm2 rfl, hm2]) (by rw [hk3'.same _ _ ho1 hw1, ho1])]
        exact hlt

/-- What maps.Keys hands back, in the world behind the call, gives the keys. -/
theorem key_gives {V : Type} {ev : V → Value} (F : Fence) (n : Nat) (h10 : F.fn 38) (hro : F.round = none) (hn : 1 ≤ n) (Bm b : Nat) (l : List (GKey × V)) (w : World) (hBm : Bm < w.heap.size)
    (hm : w.cell? ⟨Bm, 0, none⟩ = some (.map (some b))) (hown : MapIs encK ev okK w b l) :
    SeqGives F n Try.prog 38 #[.pointer (some ⟨Bm, 0, none⟩)] encK (fun ss => ss.Perm (l.map Prod.fst)) l.length w := fun lp J W hW hJ hY h0 =>
  key_keys1 F n h10 hro hn lp Bm b l J hY W hJ ((hW.cell (p := ⟨Bm, 0, none⟩) hBm).trans hm) (hown.at_ (hW.block b hown.lt)) h0

set_option maxHeartbeats 1000000 in
theorem key_keys (mb : Option Nat) (w : World) : Calls Try.prog 28 #[.map mb] w fun e w' => e = .returned (.func (.func 38) #[] #[.pointer (some ⟨w.heap.size, 0, none⟩)]) ∧ w' = w.alloc (.cells #[.map mb] 59) := by
  go_enter Try.func28, Try.ntmps28
  go_wp2_with fail
  go_ret
  exact ⟨rfl, rfl⟩

end Go.Proofs.Ytifdfhonhphojaa.Ks
