/- Frames, heads, sizes: closed forms of what the program computes; A stream in memory; its small methods; lay; Append. -/
import Derived.Test.YtekpbpcfeopilaaDoorPStrmx
import Derived.Test.YtekpbpcfeopilaaDoorK3
import Derived.Test.YtekpbpcfeopilaaDoorK2
import Derived.IntWalk
import Derived.LoopTactic
import Derived.StillTailTactics

set_option linter.unusedSimpArgs false
set_option linter.unusedVariables false

/-! Frames, heads, sizes: closed forms of what the program computes. -/
namespace Go.Proofs.YtekpbpcfeopilaaDoor.Fz
open Go Go.RowKit Go.Proofs.YtekpbpcfeopilaaDoorCore Go.Proofs.YtekpbpcfeopilaaDoor.Puts Go.Proofs.YtekpbpcfeopilaaDoor.Pars Go.Proofs.YtekpbpcfeopilaaDoor.Gw Go.Proofs.YtekpbpcfeopilaaDoor.Sm Go.Proofs.YtekpbpcfeopilaaDoor.PStrm Go.Proofs.YtekpbpcfeopilaaDoor.Fp Go.Proofs.YtekpbpcfeopilaaDoor.Sp Go.Proofs.YtekpbpcfeopilaaDoorW.PrintWords Go.Proofs.YtekpbpcfeopilaaDoorW.PrintLast Go.Proofs.YtekpbpcfeopilaaDoorW.PrintMore

theorem hs (l : List UInt8) : sumN l < 4294967296 := sumN_lt l
theorem size_mkB (l : List UInt8) : (mkB l).size = l.length := by simp [mkB, ByteArray.size]
theorem data_mkB (l : List UInt8) : (mkB l).data.toList = l := by simp [mkB]
theorem app_mkB (a b : List UInt8) : mkB a ++ mkB b = mkB (a ++ b) := by apply ByteArray.ext; simp [mkB, ByteArray.data_append]
theorem ext_mkB (s : ByteArray) (a b : Nat) : s.extract a b = mkB ((s.data.toList.drop a).take (b - a)) := by
  apply ByteArray.ext
  apply Array.toList_inj.1
  rw [Lib.extract_data, data_mkB]
theorem get_two (s : ByteArray) (at_ : Nat) (ha : at_ ≤ s.size) (n : Nat) (h1 : 1 ≤ n) (h8 : n ≤ 8) (hb : s.size ≤ 1000000000) : words_Get.f s (at_ : Int) (n : Int) = some (if (s.data.toList.drop at_).length < n then (0, 0, 3) else (((num ((s.data.toList.drop at_).take n) : Nat) : Int), ((at_ + n : Nat) : Int), 0)) := by
  have hl : (s.data.toList.drop at_).length = s.size - at_ := by rw [List.length_drop]; simp
  unfold words_Get.f getS
  rw [if_pos (by omega), if_neg (by omega)]
  by_cases h : s.size - at_ < n
  · rw [if_pos (by omega), if_pos (by omega)]
  · rw [if_neg (by omega), if_neg (by omega)]
    rfl

theorem wrap_nat {n : Nat} (h : n ≤ 2000000000) : wrap64 (n : Int) = (n : Int) := by unfold wrap64; omega
theorem wrap_add {a b : Nat} (h : a + b ≤ 2000000000) : wrap64 ((a : Int) + (b : Int)) = ((a + b : Nat) : Int) := by rw [← Int.natCast_add]; exact wrap_nat h
theorem wrap_sub {a b : Nat} (h : b ≤ a) (h2 : a ≤ 2000000000) : wrap64 ((a : Int) - (b : Int)) = ((a - b : Nat) : Int) := by rw [← Int.ofNat_sub h]; exact wrap_nat (by omega)
theorem get_f {s : ByteArray} {at_ : Nat} (ha : at_ ≤ s.size) (hb : s.size ≤ 1000000000) : ∃ x y e, frame_Get.f s (at_ : Int) = some (x, y, e) ∧
    ((getL sumN (s.data.toList.drop at_) = none ∧ e ≠ 0) ∨ ∃ b r, getL sumN (s.data.toList.drop at_) = some (b, r) ∧ x = mkB b ∧ y = ((at_ + (6 + b.length) : Nat) : Int) ∧ e = 0) := by
  have hl : (s.data.toList.drop at_).length = s.size - at_ := by rw [List.length_drop]; simp
  have g2 := get_two s at_ ha 2 (by omega) (by omega) hb
  obtain ⟨D, hD⟩ : ∃ D, s.data.toList.drop at_ = D := ⟨_, rfl⟩
  rw [hD] at hl g2 ⊢
  unfold frame_Get.f getL
  obtain ⟨B, hB⟩ : ∃ B : Nat, 9223372036854775807 = B := ⟨_, rfl⟩
  rw [hB]
  have hB2 : 5000000000 ≤ B := by omega
  clear hB
  rw [show ((2 : Nat) : Int) = 2 from rfl] at g2
  rw [g2]
  by_cases c0 : D.length < 2
  · rw [if_pos c0, if_pos c0]
    simp only [Option.bind_some]
    rw [if_neg (by decide)]
    exact ⟨_, _, 3, rfl, .inl ⟨by simp, by decide⟩⟩
  · rw [if_neg c0, if_neg c0]
    simp only [Option.bind_some, if_true]
    obtain ⟨n, hn⟩ : ∃ n, num (D.take 2) = n := ⟨_, rfl⟩
    rw [hn]
    by_cases c1 : n = 0
    · rw [if_pos (by omega), if_pos (.inl c1)]
      exact ⟨_, _, 13, rfl, .inl ⟨by simp, by decide⟩⟩
    · rw [if_neg (by omega)]
      by_cases c2 : 4096 < n
      · rw [if_pos (by omega), if_pos (.inr (.inl c2))]
        exact ⟨_, _, 5, rfl, .inl ⟨by simp, by decide⟩⟩
      · rw [if_neg (by omega)]
        have e1 : wrap64 (n : Int) = (n : Int) := wrap_nat (by omega)
        have e2 : wrap64 (6 + (n : Int)) = ((6 + n : Nat) : Int) := wrap_add (a := 6) (b := n) (by omega)
        have e3 : wrap64 ((s.size : Int) - (at_ : Int)) = ((s.size - at_ : Nat) : Int) := wrap_sub ha (by omega)
        rw [e1, e2, e3]
        clear e1 e2 e3
        by_cases c3 : D.length < 6 + n
        · rw [if_pos (by omega), if_pos (.inr (.inr c3))]
          exact ⟨_, _, 3, rfl, .inl ⟨by simp, by decide⟩⟩
        · rw [if_neg (by omega), if_neg (by omega)]
          obtain ⟨q, hq⟩ : ∃ q, at_ + 2 + 4 = q := ⟨_, rfl⟩
          obtain ⟨u, hu⟩ : ∃ u, at_ + (6 + n) = u := ⟨_, rfl⟩
          obtain ⟨t, ht⟩ : ∃ t, at_ + 2 = t := ⟨_, rfl⟩
          have k1 : (0 : Int) ≤ (q : Int) := by omega
          have k2 : (q : Int) ≤ (u : Int) := by omega
          have k3 : (u : Int) ≤ (s.size : Int) := by omega
          have k4 : (0 : Int) ≤ (at_ : Int) := by omega
          have k5 : (at_ : Int) ≤ (t : Int) := by omega
          have k6 : (t : Int) ≤ (s.size : Int) := by omega
          have k7 : 2 + n ≤ B := by omega
          have k8 : t - at_ = 2 := by omega
          have k9 : at_ + 6 = q := by omega
          have k10 : u - q = n := by omega
          have k11 : t + 4 = q := by omega
          have k12 : 2 ≤ D.length := by omega
          have k13 : 6 + n ≤ D.length := by omega
          have k14 : 2 + n ≤ 140737488355328 := by omega
          have k15 : q + n = u := by omega
          have k16 : q + n ≤ 2000000000 := by omega
          have k17 : at_ + 2 ≤ 2000000000 := by omega
          have k18 : at_ + 2 ≤ s.size := by omega
          have k19 : ¬ (D.drop 2).length < 4 := by rw [List.length_drop]; omega
          have k20 : n ≤ D.length - 6 := by omega
          have g4 := get_two s (at_ + 2) k18 4 (by decide) (by decide) hb
          have hD2 : s.data.toList.drop (at_ + 2) = D.drop 2 := by rw [← hD, List.drop_drop]
          rw [hD2, if_neg k19, show ((4 : Nat) : Int) = 4 from rfl] at g4
          have e5 : wrap64 ((q : Int) + (n : Int)) = (u : Int) := by rw [wrap_add k16, k15]
          have e4 : wrap64 ((at_ : Int) + 2) = ((at_ + 2 : Nat) : Int) := wrap_add (a := at_) (b := 2) k17
          rw [ht] at e4 g4
          rw [k11] at g4
          rw [e4, g4, Option.bind_some]
          dsimp only
          rw [e5, if_pos k1, if_pos k2, if_pos k3, if_pos k4, if_pos k5, if_pos k6]
          rw [Int.toNat_natCast, Int.toNat_natCast, Int.toNat_natCast, Int.toNat_natCast]
          clear e4 e5 g4
          have x1 : s.extract at_ t = mkB (D.take 2) := by rw [ext_mkB, hD, k8]
          have x2 : s.extract q u = mkB ((D.drop 6).take n) := by rw [ext_mkB, ← hD, List.drop_drop, k9, k10]
          have y1 : (mkB (D.take 2)).size = 2 := by rw [size_mkB, List.length_take, Nat.min_eq_left k12]
          have y2 : (mkB ((D.drop 6).take n)).size = n := by rw [size_mkB, List.length_take, List.length_drop, Nat.min_eq_left k20]
          rw [x1, x2, y1, y2, if_pos k7]
          have hsum : frame_Sum.f (mkB (D.take 2) ++ mkB ((D.drop 6).take n)) = some ((sumN (D.take 2 ++ (D.drop 6).take n) : Nat) : Int) := by
            unfold frame_Sum.f
            rw [if_pos (by rw [ByteArray.size_append, y1, y2]; exact k14), app_mkB, data_mkB]
          rw [hsum, Option.bind_some]
          clear hsum k1 k2 k3 k4 k5 k6 k7 k8 k9 k10 k11
          have hlt : num ((D.drop 2).take 4) < 4294967296 := by
            have := num_lt ((D.drop 2).take 4)
            have hl4 : ((D.drop 2).take 4).length = 4 := by rw [List.length_take, List.length_drop]; omega
            rw [hl4] at this
            exact this
          by_cases c4 : num ((D.drop 2).take 4) = sumN (D.take 2 ++ (D.drop 6).take n)
          · rw [if_pos (by omega), if_pos c4]
            refine ⟨_, _, 0, rfl, .inr ⟨_, _, rfl, rfl, ?_, rfl⟩⟩
            rw [show ((D.drop 6).take n).length = n by rw [List.length_take, List.length_drop]; omega, hu]
          · rw [if_neg (by omega), if_neg c4]
            exact ⟨_, _, 6, rfl, .inl ⟨by simp, by decide⟩⟩
theorem get_none {s : ByteArray} {at_ : Nat} (ha : at_ ≤ s.size) (hb : s.size ≤ 1000000000) (h : getL sumN (s.data.toList.drop at_) = none) : ∃ x y e, frame_Get.f s (at_ : Int) = some (x, y, e) ∧ e ≠ 0 := by
  obtain ⟨x, y, e, h1, h2⟩ := get_f ha hb
  rcases h2 with ⟨_, h2⟩ | ⟨b, r, h2, _⟩
  · exact ⟨x, y, e, h1, h2⟩
  · rw [h] at h2
    cases h2
theorem get_some {s : ByteArray} {at_ : Nat} (ha : at_ ≤ s.size) (hb : s.size ≤ 1000000000) {b r : List UInt8} (h : getL sumN (s.data.toList.drop at_) = some (b, r)) : frame_Get.f s (at_ : Int) = some (mkB b, ((at_ + (6 + b.length) : Nat) : Int), 0) := by
  obtain ⟨x, y, e, h1, h2⟩ := get_f ha hb
  rcases h2 with ⟨h2, _⟩ | ⟨b2, r2, h2, rfl, rfl, rfl⟩
  · rw [h] at h2
    cases h2
  · rw [h] at h2
    injection h2 with h2
    injection h2 with h3 h4
    rw [h3]
    exact h1

theorem all_loop (s : ByteArray) (hb : s.size ≤ 1000000000) : ∀ (k at_ : Nat) (acc : List ByteArray), at_ ≤ s.size → s.size - at_ < k → acc.length + (s.size - at_) ≤ 2000000000 →
    ∃ n, frame_All.l0 k s acc (at_ : Int) = some (acc ++ (allL sumN k (s.data.toList.drop at_)).map mkB, n) := by
  intro k
  induction k with
  | zero => intro at_ acc _ h; omega
  | succ k ih =>
    intro at_ acc ha hk hl
    rw [frame_All.l0, allL]
    cases hg : getL sumN (s.data.toList.drop at_) with
    | none =>
      obtain ⟨x, y, e, h1, h2⟩ := get_none ha hb hg
      rw [h1]
      simp only [Option.bind_some]
      rw [if_neg h2]
      exact ⟨(at_ : Int), by simp⟩
    | some p =>
      obtain ⟨b, r⟩ := p
      rw [get_some ha hb hg]
      simp only [Option.bind_some, if_true]
      obtain ⟨hf, hd⟩ := getL_some hg
      have hlen := congrArg List.length hd
      rw [List.length_append, frameL_length, List.length_drop] at hlen
      have hsz : s.data.toList.length = s.size := by simp
      rw [hsz] at hlen
      rw [if_pos (by omega)]
      have hr : s.data.toList.drop (at_ + (6 + b.length)) = r := by
        rw [← List.drop_drop, hd, List.drop_append_of_le_length (by rw [frameL_length]; exact Nat.le_refl _), List.drop_of_length_le (by rw [frameL_length]; exact Nat.le_refl _), List.nil_append]
      obtain ⟨n, hn⟩ := ih (at_ + (6 + b.length)) (acc ++ [mkB b]) (by omega) (by omega) (by rw [List.length_append, List.length_singleton]; omega)
      rw [hr] at hn
      refine ⟨n, hn.trans ?_⟩
      simp
theorem all_f (s : ByteArray) (hb : s.size ≤ 1000000000) : ∃ n, frame_All.f (s.size + 1) s = some (recs sumN s.data.toList, n) := by
  obtain ⟨n, hn⟩ := all_loop s hb (s.size + 1) 0 [] (by omega) (by omega) (by simp; omega)
  refine ⟨n, ?_⟩
  unfold frame_All.f recs
  rw [List.drop_zero] at hn
  have e : s.data.toList.length = s.size := by simp
  rw [e]
  exact hn

theorem head_f {g k : Nat} (hg : g ≤ 281474976710655) (hk : k ≤ 1) : stream_head.f (g : Int) (k : Int) = some (headS g k) := by
  unfold stream_head.f
  rw [if_pos (by omega)]
  rfl

theorem parse_f {s : ByteArray} (h : s.size = 64) : stream_parse.f s = some (((parseH s).1 : Int), ((parseH s).2.1 : Int), (parseH s).2.2) := by
  have hdl : s.data.toList.length = 64 := by simpa using h
  have g1 : words_Get.f s 8 6 = some (((num (cut s 8 6) : Nat) : Int), 14, 0) := by
    have := get_two s 8 (by omega) 6 (by omega) (by omega) (by omega)
    rw [if_neg (by rw [List.length_drop]; omega)] at this
    exact this
  have g2 : words_Get.f s 14 1 = some (((num (cut s 14 1) : Nat) : Int), 15, 0) := by
    have := get_two s 14 (by omega) 1 (by omega) (by omega) (by omega)
    rw [if_neg (by rw [List.length_drop]; omega)] at this
    exact this
  unfold stream_parse.f
  rw [g1]
  simp only [Option.bind_some]
  rw [g2]
  simp only [Option.bind_some]
  unfold parseH
  have hb6 : num (cut s 8 6) < 281474976710656 := by
    have := num_lt (cut s 8 6)
    have hl : (cut s 8 6).length = 6 := by unfold cut; rw [List.length_take, List.length_drop]; omega
    rw [hl] at this
    exact this
  obtain ⟨g, hg⟩ : ∃ g, num (cut s 8 6) = g := ⟨_, rfl⟩
  obtain ⟨k, hk⟩ : ∃ k, num (cut s 14 1) = k := ⟨_, rfl⟩
  rw [hg] at hb6
  rw [hg, hk]
  by_cases c1 : g = 0
  · rw [if_pos (by omega), if_pos (.inl c1)]
    rfl
  · rw [if_neg (by omega)]
    by_cases c2 : 1 < k
    · rw [if_pos (by omega), if_pos (.inr (.inl c2))]
      rfl
    · rw [if_neg (by omega)]
      have e1 : wrap64 ((g : Nat) : Int) = (g : Int) := by unfold wrap64; omega
      have e2 : wrap64 ((k : Nat) : Int) = (k : Int) := by unfold wrap64; omega
      rw [e1, e2, head_f (by omega) (by omega)]
      simp only [Option.bind_some]
      by_cases c3 : s = headS g k
      · rw [if_pos (by rw [c3]), if_neg (by rintro (h | h | h); exact c1 h; exact c2 h; exact h c3)]
      · rw [if_neg (fun hh => c3 (Hd.ba_inj.1 hh)), if_pos (.inr (.inr c3))]
        rfl

theorem size_f (n : Nat) : stream_size.f (n : Int) = some ((sizeH n : Nat) : Int) := by
  unfold stream_size.f sizeH mx mn
  congr 1
  (repeat' split) <;> omega

theorem rd_at (l : List ByteArray) (k : Nat) (h : k < l.length) : rdOf ByteArray.empty l (k : Int) = l[k] := by simp [rdOf, h]
theorem toList_inj {a b : ByteArray} : a.toList = b.toList ↔ a = b := Hd.ba_inj
theorem equal_loop (a b : List ByteArray) (hl : a.length = b.length) (hn : a.length ≤ 1000000000) : ∀ (m j k : Nat), j + m = a.length → m < k → precinctlaw08_equal.l0 k a b (a.length : Int) (j : Int) = some (decide (a.drop j = b.drop j)) := by
  intro m
  induction m with
  | zero =>
    intro j k hj hk
    obtain ⟨k, rfl⟩ : ∃ j, k = j + 1 := ⟨k - 1, by omega⟩
    simp only [precinctlaw08_equal.l0]
    rw [if_neg (by omega), List.drop_of_length_le (by omega), List.drop_of_length_le (by omega)]
    rfl
  | succ m ih =>
    intro j k hj hk
    obtain ⟨k, rfl⟩ : ∃ j, k = j + 1 := ⟨k - 1, by omega⟩
    simp only [precinctlaw08_equal.l0]
    rw [if_pos (by omega), if_pos (by omega), if_pos (by omega), if_pos (by omega), rd_at a j (by omega), rd_at b j (by omega)]
    have e : wrap64 ((j : Int) + 1) = ((j + 1 : Nat) : Int) := by unfold wrap64; omega
    have da : a.drop j = a[j] :: a.drop (j + 1) := List.drop_eq_getElem_cons (by omega)
    have db : b.drop j = b[j] :: b.drop (j + 1) := List.drop_eq_getElem_cons (by omega)
    by_cases h : a[j] = b[j]
    · rw [if_pos (toList_inj.2 h), e, ih (j + 1) k (by omega) (by omega)]
      congr 1
      rw [decide_eq_decide, da, db]
      rw [h]
      exact ⟨fun e => by rw [e], fun e => (List.cons.inj e).2⟩
    · rw [if_neg (fun hh => h (toList_inj.1 hh))]
      congr 1
      symm
      rw [decide_eq_false_iff_not, da, db]
      intro hc
      injection hc with hc _
      exact h hc
theorem equal_f (a b : List ByteArray) (hn : a.length ≤ 1000000000) : precinctlaw08_equal.f (a.length + 1) a b = some (decide (a = b)) := by
  unfold precinctlaw08_equal.f
  by_cases h : a.length = b.length
  · rw [if_pos (by omega)]
    have := equal_loop a b h hn a.length 0 (a.length + 1) (by omega) (by omega)
    simpa using this
  · rw [if_neg (by omega), decide_eq_false (fun e => h (by rw [e]))]

end Go.Proofs.YtekpbpcfeopilaaDoor.Fz

/-! A stream in memory; its small methods; lay. -/
namespace Go.Proofs.YtekpbpcfeopilaaDoor.St
open Go Go.RowKit Go.Joins Go.Proofs.YtekpbpcfeopilaaDoorCore Go.Proofs.YtekpbpcfeopilaaDoor.Dm Go.Proofs.YtekpbpcfeopilaaDoor.Dr Go.Proofs.YtekpbpcfeopilaaDoor.Da Go.Proofs.YtekpbpcfeopilaaDoor.Df Go.Proofs.YtekpbpcfeopilaaDoor.Dg Go.Proofs.YtekpbpcfeopilaaDoor.Dk Go.Proofs.YtekpbpcfeopilaaDoor.Dl Go.Proofs.YtekpbpcfeopilaaDoor.Du Go.Proofs.YtekpbpcfeopilaaDoor.Dw Go.Proofs.YtekpbpcfeopilaaDoor.Sys Go.Proofs.YtekpbpcfeopilaaDoor.Lw Go.Proofs.YtekpbpcfeopilaaDoor.Fp Go.Proofs.YtekpbpcfeopilaaDoor.Sp Go.Proofs.YtekpbpcfeopilaaDoorW.PrintWords Go.Proofs.YtekpbpcfeopilaaDoorW.PrintLast Go.Proofs.YtekpbpcfeopilaaDoorW.PrintMore

theorem ret_i64 {a b : Int} (h : a = b) : Ending.returned (.int .i64 a) = .returned (.int .i64 b) := by rw [h]
/-- A stream, as plain data. -/
structure MSt where
  b : Nat
  rg : Int
  h : Nat
  g : Nat
  half : Nat
  data : ByteArray
  broken : Bool
def MSt.cells (s : MSt) : Array Value := #[.pointer (some ⟨s.b, 0, none⟩), .int .i64 s.rg, .int .i64 (s.h : Int), .int .i64 (s.g : Int), .int .i64 (s.half : Int), .string s.data, .bool s.broken]
/-- It lies in a block. -/
def SAt (w : World) (sb : Nat) (s : MSt) : Prop := w.heap[sb]? = some (.cells s.cells 90 (0, 0))
section
variable {w w' : World} {sb : Nat} {s : MSt}
theorem SAt.fr {S : Nat → Prop} (h : SAt w sb s) (f : Fr S w w') (hs : ¬ S sb) : SAt w' sb s := f.at_ h hs
theorem SAt.below (h : SAt w sb s) (f : Below w.heap.size w w') : SAt w' sb s := h.fr (S := fun _ => False) (Fr.of_below f) (fun h => h)
theorem SAt.lt (h : SAt w sb s) : sb < w.heap.size := heap_lt h
end

section
variable {w : World} {sb : Nat} {s : MSt}
set_option maxHeartbeats 4000000 in
set_option maxRecDepth 100000 in
theorem may_any (h : SAt w sb s) : Calls Tryd.prog 51 #[.pointer (some ⟨sb, 0, none⟩)] w fun e w' => e = .returned (.int .i64 (if s.broken = true then 13 else 0)) ∧ Below w.heap.size w w' := by
  have c6 : w.cell? ⟨sb, 6, none⟩ = some (.bool s.broken) := cell_of_block h 6
  cases hb : s.broken with
  | true =>
    rw [hb] at c6
    go_enter Tryd.func51, Tryd.ntmps51
    go_wp2_with fail
    exact bodyPost_ret (v := .int .i64 13) (by simp [results, Tryd.results51, go_sem]) rfl ⟨rfl, Below.refl _ _⟩
  | false =>
    rw [hb] at c6
    go_enter Tryd.func51, Tryd.ntmps51
    go_wp2_with fail
    exact bodyPost_ret (v := .int .i64 0) (by simp [results, Tryd.results51, go_sem]) rfl ⟨rfl, Below.refl _ _⟩
set_option maxHeartbeats 4000000 in
set_option maxRecDepth 100000 in
theorem from_any (h : SAt w sb s) (hh : s.h ≤ 1000000) (hf : s.half ≤ 1) : Calls Tryd.prog 47 #[.pointer (some ⟨sb, 0, none⟩)] w fun e w' => e = .returned (.int .i64 ((1 + s.half * s.h : Nat) : Int)) ∧ Below w.heap.size w w' := by
  have c2 : w.cell? ⟨sb, 2, none⟩ = some (.int .i64 (s.h : Int)) := cell_of_block h 2
  have c4 : w.cell? ⟨sb, 4, none⟩ = some (.int .i64 (s.half : Int)) := cell_of_block h 4
  obtain ⟨a, ha⟩ : ∃ a, s.half = a := ⟨_, rfl⟩
  obtain ⟨b, hb⟩ : ∃ b, s.h = b := ⟨_, rfl⟩
  rw [ha] at c4 hf ⊢
  rw [hb] at c2 hh ⊢
  clear ha hb
  rcases (show a = 0 ∨ a = 1 by omega) with rfl | rfl
  · go_enter Tryd.func47, Tryd.ntmps47
    go_wp2_with fail
    go_quiet (fail)
    go_wp2_with fail
    exact bodyPost_ret (v := .int .i64 1) (by simp [results, Tryd.results47, go_sem]) rfl ⟨ret_i64 (by omega), Go.Proofs.YtekpbpcfeopilaaDoorCore.below_drewN _⟩
  · go_enter Tryd.func47, Tryd.ntmps47
    go_wp2_with fail
    go_quiet (fail)
    have e : IntKind.i64.wrap (1 + (b : Int)) = ((1 + b : Nat) : Int) := by rw [IntWalk.i64_in _ (by omega)]; omega
    go_wp2_with fail
    exact bodyPost_ret (v := .int .i64 (1 + (b : Int))) (by simp [results, Tryd.results47, go_sem]) rfl ⟨ret_i64 (by omega), Go.Proofs.YtekpbpcfeopilaaDoorCore.below_drewN _⟩
set_option maxHeartbeats 4000000 in
set_option maxRecDepth 100000 in
theorem gen_any (h : SAt w sb s) : Calls Tryd.prog 27 #[.pointer (some ⟨sb, 0, none⟩)] w fun e w' => e = .returned (.int .i64 (s.g : Int)) ∧ Below w.heap.size w w' := by
  have c3 : w.cell? ⟨sb, 3, none⟩ = some (.int .i64 (s.g : Int)) := cell_of_block h 3
  go_enter Tryd.func27, Tryd.ntmps27
  go_wp2_with fail
  exact bodyPost_ret (v := .int .i64 (s.g : Int)) (by simp [results, Tryd.results27, go_sem]) rfl ⟨rfl, Below.refl _ _⟩
end

/-- What holds behind some cells: where the rest goes on. -/
structure LInv (Z : Nat → Prop) (w : World) (ds : List DK) (i : Nat) (d : DK) (n : Int) (b : Nat) (cs : List ByteArray) (gk : Nat) (v : Value) (wr : World) (k : Nat) (m : MDisk) : Prop where
  le : k ≤ cs.length
  slot : v = .int .i64 k
  ghost : gk + k = cs.length
  dks : Dks Z wr (ds.set i ⟨d.b, m, d.n + k⟩)
  fr : Fr (fun k => ¬ Z k) w wr
  rest : layW n d.m (b : Int) cs = layW n m ((b + k : Nat) : Int) (cs.drop k)
def LRel (Z : Nat → Prop) (w : World) (ds : List DK) (i : Nat) (d : DK) (n : Int) (b : Nat) (cs : List ByteArray) (gk : Nat) (v : Value) (wr : World) : Prop := ∃ k m, LInv Z w ds i d n b cs gk v wr k m

/-- What a call of lay leaves. -/
def LayPost (Z : Nat → Prop) (w : World) (ds : List DK) (i : Nat) (d : DK) (n : Int) (b : Int) (cs : List ByteArray) (e : Ending) (w' : World) : Prop :=
  e = .returned (.int .i64 (layW n d.m b cs).1) ∧ (∃ N', N' ≤ d.n + cs.length ∧ Dks Z w' (ds.set i ⟨d.b, (layW n d.m b cs).2, N'⟩)) ∧ Fr (fun k => ¬ Z k) w w'
theorem set_at {ds : List DK} {i : Nat} {d : DK} (hi : ds[i]? = some d) (x : DK) : (ds.set i x)[i]? = some x := List.getElem?_set_self (List.getElem?_eq_some_iff.1 hi).1
theorem set_same {ds : List DK} {i : Nat} {d : DK} (hi : ds[i]? = some d) : ds.set i d = ds := by
  apply List.ext_getElem?
  intro j
  by_cases h : i = j
  · subst h
    rw [set_at hi, hi]
  · rw [List.getElem?_set_ne h]
theorem layW_ok {n : Int} {m : MDisk} {b : Int} {c : ByteArray} {r : List ByteArray} (h : writeE m n b c = 0) : layW n m b (c :: r) = layW n (writeM m n b c) (b + 1) r := by rw [layW, if_pos h]
theorem layW_no {n : Int} {m : MDisk} {b : Int} {c : ByteArray} {r : List ByteArray} (h : ¬ writeE m n b c = 0) : layW n m b (c :: r) = (writeE m n b c, writeM m n b c) := by rw [layW, if_neg h]

set_option maxHeartbeats 8000000 in
set_option maxRecDepth 100000 in
theorem lay_any {Z : Nat → Prop} {w : World} {ds : List DK} (hD : Dks Z w ds) (i : Nat) {d : DK} (hi : ds[i]? = some d) {sb : Nat} {s : MSt} (hS : SAt w sb s) (hZ : Z sb) (hb : s.b = d.b) (hh : s.h ≤ 4096) (half index : Nat) (hf : half ≤ 1) (hx : index ≤ 65535)
    (A : Option Addr) (cc : Nat) (cs : List ByteArray) (hR : Kd.R Kd.string 9 w 0 Z (.slice A cs.length cc) cs) (hn : d.n + cs.length < 1000000) :
    Calls Tryd.prog 53 #[.pointer (some ⟨sb, 0, none⟩), .int .i64 (half : Int), .int .i64 (index : Int), .slice A cs.length cc] w fun e w' => LayPost Z w ds i d s.rg ((1 + half * s.h + index : Nat) : Int) cs e w' := by
  obtain ⟨base, hbase⟩ : ∃ base, 1 + half * s.h + index = base := ⟨_, rfl⟩
  have hbl : base ≤ 1000000 := by
    rw [← hbase]
    rcases (show half = 0 ∨ half = 1 by omega) with rfl | rfl <;> omega
  rw [hbase]
  have HBS := Lib.hid hbase
  have HD := Lib.hid hD
  have HI := Lib.hid hi
  have HSA := Lib.hid hS
  have HR := Lib.hid hR
  have HB := Lib.hid hb
  have hcc : cs.length ≤ cc := (Kd.R_reads' hR).2.1
  clear hD hi hS hR hb hbase
  go_enter Tryd.func53, Tryd.ntmps53
  go_wp2_with fail
  go_loopg [14] cs.length (fun gk v wr => LRel Z w ds i d s.rg base cs gk v wr)
  case atStart => exact ⟨0, d.m, Nat.zero_le _, rfl, rfl, by rw [show (⟨d.b, d.m, d.n + 0⟩ : DK) = d from rfl, set_same HI.out]; exact HD.out, Fr.refl _ _, by rw [Nat.add_zero, List.drop_zero]⟩
  case round =>
    obtain ⟨k, m, hk, rfl, hg, hdk, hfr, hrest⟩ := hrel
    have HG := Lib.hid hg
    have HK := Lib.hid hdk
    have HF := Lib.hid hfr
    have HT := Lib.hid hrest
    clear hg hdk hfr hrest
    have hsw := HSA.out.fr HF.out (fun h => h hZ)
    have HSW := Lib.hid hsw
    by_cases hlt : k < cs.length
    · have c0 : wr.cell? ⟨sb, 0, none⟩ = some (.pointer (some ⟨d.b, 0, none⟩)) := by rw [← HB.out]; exact cell_of_block HSW.out 0
      have c1 : wr.cell? ⟨sb, 1, none⟩ = some (.int .i64 s.rg) := cell_of_block HSW.out 1
      have c2 : wr.cell? ⟨sb, 2, none⟩ = some (.int .i64 (s.h : Int)) := cell_of_block HSW.out 2
      clear hsw
      have hC := (Kd.R_reads' (Rfr HR.out HF.out (fun k hk _ hs => hs hk))).2.2
      obtain ⟨_, _, hC⟩ := Kd.reads_of_C hC
      obtain ⟨ad, rfl, hC⟩ := hC (by omega)
      have hck := hC k hlt
      obtain ⟨c, hc⟩ : ∃ c, cs.getD k ByteArray.empty = c := ⟨_, rfl⟩
      rw [show cs.getD k _ = c from hc] at hck
      have HCC := Lib.hid hc
      clear hC hc
      obtain ⟨p, hp⟩ : ∃ p, half * s.h = p := ⟨_, rfl⟩
      have hpe : (half : Int) * (s.h : Int) = (p : Int) := by rw [← hp]; exact (Int.natCast_mul half s.h).symm
      have hbk : 1 + p + index = base := by rw [← HBS.out, hp]
      have v1 : IntKind.i64.wrap (p : Int) = (p : Int) := IntWalk.i64_in _ (by omega)
      have v2 : IntKind.i64.wrap (1 + (p : Int)) = 1 + (p : Int) := IntWalk.i64_in _ (by omega)
      have v3 : IntKind.i64.wrap (1 + (p : Int) + (index : Int)) = (base : Int) := by rw [IntWalk.i64_in _ (by omega)]; omega
      have v4 : IntKind.i64.wrap ((base : Int) + (k : Int)) = ((base + k : Nat) : Int) := by rw [IntWalk.i64_in _ (by omega)]; omega
      have hNk : d.n + k < 1000000 := by omega
      clear hp hbk
      have hd2 := HK.out.keep ((Below.refl wr.heap.size wr).drew)
      have HK2 := Lib.hid hd2
      clear hd2
      have hck2 : cs.drop k = c :: cs.drop (k + 1) := by
        rw [List.drop_eq_getElem_cons hlt]
        congr 1
        rw [← HCC.out, List.getD_eq_getElem?_getD, List.getElem?_eq_getElem hlt]
        rfl
      have HDC := Lib.hid hck2
      clear hck2
      go_wp2_with fail
      go_still_tail 20, (by kernel_rfl)
      change wpList _ _ _ _ _ wr.drew
      clear c0 c1 c2 hck hpe v1 v2 v3 v4
      go_wp2_with fail
      refine (write_z HK2.out i (set_at HI.out _) hNk s.rg ((base + k : Nat) : Int) c).mono ?_
      rintro e w5 ⟨rfl, hd5, hf5⟩
      have HK5 := Lib.hid hd5
      have HF5 := Lib.hid ((HF.out.trans (fr_of_below ((Below.refl wr.heap.size wr).drew))).trans hf5)
      clear hd5 hf5 HK2
      by_cases hE : writeE m s.rg ((base + k : Nat) : Int) c = 0
      · have hrest5 : layW s.rg d.m (base : Int) cs = layW s.rg (writeM m s.rg ((base + k : Nat) : Int) c) ((base + (k + 1) : Nat) : Int) (cs.drop (k + 1)) := by
          rw [HT.out, HDC.out, layW_ok hE]
          rfl
        have HT5 := Lib.hid hrest5
        rw [show (({ b := d.b, m := m, n := d.n + k } : DK).m) = m from rfl, hE]
        clear hrest5 hE
        go_wp2_with fail
        go_roundg (gk - 1)
        case measure => have := HG.out; omega
        case rel => exact ⟨k + 1, _, by omega, by go_num, by have := HG.out; omega, by have := HK5.out; rw [List.set_set] at this; exact this, HF5.out, HT5.out⟩
      · have hrest5 : layW s.rg d.m (base : Int) cs = (writeE m s.rg ((base + k : Nat) : Int) c, writeM m s.rg ((base + k : Nat) : Int) c) := by
          rw [HT.out, HDC.out, layW_no hE]
        have HT5 := Lib.hid hrest5
        have hK6 := HK5.out
        rw [List.set_set] at hK6
        have HK6 := Lib.hid hK6
        rw [show (({ b := d.b, m := m, n := d.n + k } : DK).m) = m from rfl]
        obtain ⟨E, hEE⟩ : ∃ E, writeE m s.rg ((base + k : Nat) : Int) c = E := ⟨_, rfl⟩
        rw [hEE] at hE
        rw [hEE]
        have hE0 : (E == 0) = false := by simpa using hE
        have HEE := Lib.hid hEE
        clear hrest5 hK6 hEE hE
        go_wp2_with fail
        refine bodyPost_ret (v := .int .i64 E) (by simp [results, Tryd.results53, go_sem]) rfl ⟨?_, ⟨d.n + k + 1, by omega, ?_⟩, HF5.out⟩
        · rw [HT5.out, HEE.out]
        · rw [HT5.out]
          exact HK6.out
    · obtain rfl : k = cs.length := by omega
      have c0 : wr.cell? ⟨sb, 0, none⟩ = some (.pointer (some ⟨d.b, 0, none⟩)) := by rw [← HB.out]; exact cell_of_block HSW.out 0
      have c1 : wr.cell? ⟨sb, 1, none⟩ = some (.int .i64 s.rg) := cell_of_block HSW.out 1
      clear hsw
      have hd2 := HK.out.keep ((Below.refl wr.heap.size wr).drew)
      have HK2 := Lib.hid hd2
      clear hd2
      have hnl : d.n + cs.length ≤ 1000000 := by omega
      go_wp2_with fail
      go_still_tail 8, (by kernel_rfl)
      change wpList _ _ _ _ _ wr.drew
      clear c0 c1
      go_wp2_with fail
      refine (flush_z HK2.out i (set_at HI.out _) hnl s.rg).mono ?_
      rintro e w5 ⟨rfl, hd5, hf5⟩
      rw [List.set_set] at hd5
      have HK5 := Lib.hid hd5
      have HF5 := Lib.hid ((HF.out.trans (fr_of_below ((Below.refl wr.heap.size wr).drew))).trans hf5)
      have hrest5 : layW s.rg d.m (base : Int) cs = (flushE m s.rg, flushM m s.rg) := by
        rw [HT.out, List.drop_of_length_le (Nat.le_refl _)]
        rfl
      have HT5 := Lib.hid hrest5
      clear hd5 hf5 HK2 hrest5
      rw [show (({ b := d.b, m := m, n := d.n + cs.length } : DK).m) = m from rfl]
      obtain ⟨E, hEE⟩ : ∃ E, flushE m s.rg = E := ⟨_, rfl⟩
      rw [hEE]
      have HEE := Lib.hid hEE
      clear hEE
      go_wp2_with fail
      refine bodyPost_ret (v := .int .i64 E) (by simp [results, Tryd.results53, go_sem]) rfl ⟨?_, ⟨d.n + cs.length, Nat.le_refl _, ?_⟩, HF5.out⟩
      · rw [HT5.out, HEE.out]
      · rw [HT5.out]
        exact HK5.out

set_option maxHeartbeats 4000000 in
set_option maxRecDepth 100000 in
theorem cap_any {w : World} {sb : Nat} {s : MSt} (h : SAt w sb s) (hh : s.h ≤ 1000000) : Calls Tryd.prog 56 #[.pointer (some ⟨sb, 0, none⟩)] w fun e w' => e = .returned (.int .i64 ((s.h : Int) * 55 - 1)) ∧ w' = w := by
  have c2 : w.cell? ⟨sb, 2, none⟩ = some (.int .i64 (s.h : Int)) := cell_of_block h 2
  go_enter Tryd.func56, Tryd.ntmps56
  go_wp2_with fail
  exact bodyPost_ret (v := .int .i64 ((s.h : Int) * 55 - 1)) (by simp [results, Tryd.results56, go_sem]) rfl ⟨rfl, rfl⟩
set_option maxHeartbeats 4000000 in
set_option maxRecDepth 100000 in
theorem left_any {w : World} {sb : Nat} {s : MSt} (h : SAt w sb s) (hh : s.h ≤ 1000000) (hd : s.data.size ≤ 1000000000) : Calls Tryd.prog 26 #[.pointer (some ⟨sb, 0, none⟩)] w fun e w' => e = .returned (.int .i64 ((s.h : Int) * 55 - 1 - (s.data.size : Int))) ∧ Below w.heap.size w w' := by
  have H := Lib.hid h
  have c5 : w.cell? ⟨sb, 5, none⟩ = some (.string s.data) := cell_of_block h 5
  clear h
  go_enter Tryd.func26, Tryd.ntmps26
  go_wp2_with fail
  go_quiet ((go_at_call 56; exact Calls.quiet_of_same (cap_any (s := s) H.out hh)))
  go_wp2_with fail
  exact bodyPost_ret (v := .int .i64 ((s.h : Int) * 55 - 1 - (s.data.size : Int))) (by simp [results, Tryd.results26, go_sem]) rfl ⟨rfl, Go.Proofs.YtekpbpcfeopilaaDoorCore.below_drewN _⟩
set_option maxHeartbeats 4000000 in
set_option maxRecDepth 100000 in
theorem failed_any {w : World} {sb : Nat} {s : MSt} (h : SAt w sb s) (E : Int) (hE : E ≠ 0) : Calls Tryd.prog 54 #[.pointer (some ⟨sb, 0, none⟩), .int .i64 E] w fun e w' => e = .returned (.int .i64 E) ∧ SAt w' sb { s with broken := true } ∧ Fr (fun k => k = sb) w w' := by
  obtain ⟨br, hbr⟩ : ∃ br, s.broken = br := ⟨_, rfl⟩
  have c6 : w.cell? ⟨sb, 6, none⟩ = some (.bool br) := by rw [← hbr]; exact cell_of_block h 6
  have hE0 : (E == 0) = false := by simpa using hE
  have fin : SAt (w.setCell ⟨sb, 6, none⟩ (.bool true)) sb { s with broken := true } := by
    have := block_setCell h (i := 6) (.bool true)
    unfold SAt
    rw [this]
    simp [MSt.cells]
  have HFN := Lib.hid fin
  have hfz : w.frozen? ⟨sb, 6, none⟩ = false := unfrozen_of_block h 6
  have hE1 : (E != 0) = true := by simpa using hE
  clear hE hbr fin
  cases br
  all_goals
    go_enter Tryd.func54, Tryd.ntmps54
    go_wp2_with fail
    exact bodyPost_ret (v := .int .i64 E) (by simp [results, Tryd.results54, go_sem]) rfl ⟨rfl, HFN.out, Fr.setAt (Fr.refl _ _) rfl⟩

end Go.Proofs.YtekpbpcfeopilaaDoor.St

/-! Append. -/
namespace Go.Proofs.YtekpbpcfeopilaaDoor.Ap
open Go Go.RowKit Go.Joins Go.Proofs.YtekpbpcfeopilaaDoorCore Go.Proofs.YtekpbpcfeopilaaDoor.Dm Go.Proofs.YtekpbpcfeopilaaDoor.Dr Go.Proofs.YtekpbpcfeopilaaDoor.Dw Go.Proofs.YtekpbpcfeopilaaDoor.Sys Go.Proofs.YtekpbpcfeopilaaDoor.Areas Go.Proofs.YtekpbpcfeopilaaDoor.Back Go.Proofs.YtekpbpcfeopilaaDoor.PAreas Go.Proofs.YtekpbpcfeopilaaDoor.Lw Go.Proofs.YtekpbpcfeopilaaDoor.Fp Go.Proofs.YtekpbpcfeopilaaDoor.Sp Go.Proofs.YtekpbpcfeopilaaDoor.Hd Go.Proofs.YtekpbpcfeopilaaDoor.Reg Go.Proofs.YtekpbpcfeopilaaDoor.St Go.Proofs.YtekpbpcfeopilaaDoorW.PrintWords Go.Proofs.YtekpbpcfeopilaaDoorW.PrintLast Go.Proofs.YtekpbpcfeopilaaDoorW.PrintMore

/-- What an Append answers, and leaves. -/
def appR (m : MDisk) (s : MSt) (body : ByteArray) : Int × MSt × MDisk :=
  if s.broken = true then (13, s, m)
  else if (putS body).2 ≠ 0 then ((putS body).2, s, m)
  else if (s.h : Int) * 55 - 1 - (s.data.size : Int) < ((putS body).1.size : Int) then (12, s, m)
  else if (appendW s.rg s.h s.g s.half m s.data (s.data ++ (putS body).1)).1 = 0 then (0, { s with data := s.data ++ (putS body).1 }, (appendW s.rg s.h s.g s.half m s.data (s.data ++ (putS body).1)).2)
  else ((appendW s.rg s.h s.g s.half m s.data (s.data ++ (putS body).1)).1, { s with broken := true }, (appendW s.rg s.h s.g s.half m s.data (s.data ++ (putS body).1)).2)

/-- What a call that may change a stream and its disk leaves. -/
def StepPost (Z : Nat → Prop) (w : World) (ds : List DK) (i : Nat) (d : DK) (sb : Nat) (r : Int × MSt × MDisk) (e : Ending) (w' : World) : Prop :=
  e = .returned (.int .i64 r.1) ∧ SAt w' sb r.2.1 ∧ (∃ N', N' ≤ d.n + 1000 ∧ Dks Z w' (ds.set i ⟨d.b, r.2.2, N'⟩)) ∧ Fr (fun k => ¬ Z k ∨ k = sb) w w'

/-- A stream's generation, as a region reads it. -/
structure HeldG (sb : Nat) (g : Int) (w' : World) : Prop where
  cell : w'.cell? ⟨sb, 3, none⟩ = some (.int .i64 g)
theorem HeldG.below {sb : Nat} {g : Int} {w w' : World} (h : HeldG sb g w) (hb : Below w.heap.size w w') : HeldG sb g w' := ⟨pw_cell_below hb h.cell⟩
theorem split_any (g i : Nat) (x : ByteArray) (w : World) (hg1 : 1 ≤ g) (hg2 : g ≤ 281474976710655) (hx : x.size ≤ 20000) (hi : i ≤ 60000) :
    Calls Tryd.prog 19 #[.int .i64 (g : Int), .int .i64 (i : Int), .string x] w fun e w' => ∃ (A : Option Addr) (c : Nat), e = .returned (.tuple #[.slice A (splitL g (x.size / 55 + 1) i x).length c, .int .i64 0]) ∧
      Kd.R Kd.string 9 w' w.heap.size (fun _ => True) (.slice A (splitL g (x.size / 55 + 1) i x).length c) (splitL g (x.size / 55 + 1) i x) ∧ Below w.heap.size w w' ∧ (splitL g (x.size / 55 + 1) i x).length ≤ c := by
  have hs : splitS g i x = (splitL g (x.size / 55 + 1) i x, 0) := by
    unfold splitS
    rw [if_pos (by simp only [Amk.goodB, decide_eq_true_eq]; omega), if_neg (by omega)]
  have h := split_f g i x hx
  rw [hs] at h
  refine (area_Split.calls 1000 g i x _ _ w h).mono ?_
  rintro e w' ⟨v, rfl, hR, hb⟩
  obtain ⟨A, c, rfl, hc, _⟩ := Kd.R_reads hR
  exact ⟨A, c, rfl, hR, hb, hc⟩

theorem keepS {Z : Nat → Prop} {w w' : World} {ds : List DK} {i : Nat} {d : DK} {sb : Nat} {s : MSt} {E : Int} (hD : Dks Z w ds) (hi : ds[i]? = some d) (hS : SAt w sb s) (hb : Below w.heap.size w w') : StepPost Z w ds i d sb (E, s, d.m) (.returned (.int .i64 E)) w' := by
  refine ⟨rfl, hS.below hb, ⟨d.n, by omega, ?_⟩, (Fr.of_below (S := fun _ => False) hb).mono (fun _ h => h.elim)⟩
  rw [show (⟨d.b, d.m, d.n⟩ : DK) = d from rfl, set_same hi]
  exact hD.keep hb

set_option maxHeartbeats 8000000 in
set_option maxRecDepth 100000 in
theorem app_ok {Z : Nat → Prop} {w : World} {ds : List DK} (hD : Dks Z w ds) (i : Nat) {d : DK} (hi : ds[i]? = some d) {sb : Nat} {s : MSt} (hS : SAt w sb s) (hZ : Z sb) (hb : s.b = d.b) (hh : s.h ≤ 300) (hf : s.half ≤ 1) (hg1 : 1 ≤ s.g) (hg2 : s.g ≤ 281474976710655) (hds : s.data.size ≤ 16500) (hn : d.n < 900000)
    (body : ByteArray) (h1 : s.broken = false) (h2 : (putS body).2 = 0) (h3 : ¬ (s.h : Int) * 55 - 1 - (s.data.size : Int) < ((putS body).1.size : Int)) :
    Calls Tryd.prog 24 #[.pointer (some ⟨sb, 0, none⟩), .string body] w fun e w' => StepPost Z w ds i d sb (appR d.m s body) e w' := by
  obtain ⟨f, hfe⟩ : ∃ f, (putS body).1 = f := ⟨_, rfl⟩
  obtain ⟨D, hDe⟩ : ∃ D, s.data = D := ⟨_, rfl⟩
  obtain ⟨last, hle⟩ : ∃ q, D.size / 55 = q := ⟨_, rfl⟩
  have hq1 : (D.size : Int) / 55 = (last : Int) := by rw [← hle]; rfl
  have hq2 : 55 * last ≤ D.size := by omega
  rw [hDe] at hds h3
  rw [hfe] at h3
  obtain ⟨cs, hcs⟩ : ∃ cs, splitL (s.g : Int) (((D ++ f).extract (55 * last) (D ++ f).size).size / 55 + 1) (last : Int) ((D ++ f).extract (55 * last) (D ++ f).size) = cs := ⟨_, rfl⟩
  have hxs : (D ++ f).size = D.size + f.size := ByteArray.size_append
  have hR : appR d.m s body = if (layW s.rg d.m ((1 + s.half * s.h + last : Nat) : Int) cs).1 = 0 then (0, { s with data := D ++ f }, (layW s.rg d.m ((1 + s.half * s.h + last : Nat) : Int) cs).2) else ((layW s.rg d.m ((1 + s.half * s.h + last : Nat) : Int) cs).1, { s with broken := true }, (layW s.rg d.m ((1 + s.half * s.h + last : Nat) : Int) cs).2) := by
    have hx2 : ((D ++ f).extract (55 * last) (D ++ f).size).size = (D ++ f).size - 55 * last := by rw [ByteArray.size_extract]; omega
    have e : appendW s.rg s.h s.g s.half d.m s.data (s.data ++ (putS body).1) = layW s.rg d.m ((1 + s.half * s.h + last : Nat) : Int) cs := by
      unfold appendW
      rw [hfe, hDe, hle, ← hx2, hcs]
    unfold appR
    rw [if_neg (by rw [h1]; decide), if_neg (by rw [h2]; decide), hfe, hDe, if_neg h3]
    rw [hfe, hDe] at e
    rw [e]
  have hm : (if s.broken = true then (13 : Int) else 0) = 0 := by rw [h1]; rfl
  have HDK := Lib.hid hD
  have HI := Lib.hid hi
  have HS := Lib.hid hS
  have HB := Lib.hid hb
  have HM := Lib.hid hm
  have HR := Lib.hid hR
  have HFE := Lib.hid hfe
  have HDE := Lib.hid hDe
  have HP2 := Lib.hid h2
  have HCS := Lib.hid hcs
  have h3' : decide (((s.h : Int) * 55 - 1 - (D.size : Int)) < (f.size : Int)) = false := by simpa using h3
  clear hD hi hS hb hm hR hfe hDe h1 h2 hcs hle
  go_enter Tryd.func24, Tryd.ntmps24
  go_wp2_with fail
  refine (may_any HS.out).mono ?_
  rintro e w2 ⟨rfl, hb2⟩
  rw [HM.out]
  have HB2 := Lib.hid hb2
  clear hb2
  go_wp2_with fail
  refine (put_any body _).mono ?_
  rintro e w3 ⟨rfl, hb3⟩
  rw [HFE.out, HP2.out]
  have HB3 := Lib.hid (HB2.out.trans (hb3.mono HB2.out.size))
  clear hb3
  go_wp2_with fail
  have hS3 := HS.out.below HB3.out
  refine (left_any hS3 (by omega) (by rw [HDE.out]; omega)).mono ?_
  rintro e w4 ⟨rfl, hb4⟩
  rw [HDE.out]
  have HB4 := Lib.hid (HB3.out.trans (hb4.mono HB3.out.size))
  have HS4 := Lib.hid (HS.out.below HB4.out)
  clear hb4 hS3
  have c3 : w4.cell? ⟨sb, 3, none⟩ = some (.int .i64 (s.g : Int)) := cell_of_block HS4.out 3
  have c5 : w4.cell? ⟨sb, 5, none⟩ = some (.string D) := by rw [← HDE.out]; exact cell_of_block HS4.out 5
  have hsz : D.size + f.size ≤ 9223372036854775807 := by omega
  obtain ⟨l55, hl55⟩ : ∃ q, 55 * last = q := ⟨_, rfl⟩
  have v1 : (last : Int) * 55 = (l55 : Int) := by omega
  have v2 : IntKind.i64.wrap (l55 : Int) = (l55 : Int) := IntWalk.i64_in _ (by omega)
  have v3 : l55 ≤ (D ++ f).size := by omega
  rw [hl55] at HCS
  have v4 : (l55 : Int) ≤ (D.size : Int) + (f.size : Int) := by omega
  rw [hxs] at HCS
  obtain ⟨x, hx⟩ : ∃ x, (D ++ f).extract l55 (D.size + f.size) = x := ⟨_, rfl⟩
  have hx20 : x.size ≤ 20000 := by rw [← hx, ByteArray.size_extract]; omega
  rw [hx] at HCS
  have HX := Lib.hid hx
  have hl60 : last ≤ 60000 := by omega
  clear hx
  go_wp2_with fail
  refine wp_region_T 14 (HeldG sb (s.g : Int)) (by kernel_rfl) ?_
  have hS0 : HeldG sb (s.g : Int) w4.drew := ⟨c3⟩
  refine wpAnyT_take (i := 0) (v := ?mv1) rfl (by kernel_rfl) (by kernel_rfl) (by kernel_rfl) rfl rfl (by kernel_rfl) (by rfl) (fun _ _ _ h => h) (Or.inl ⟨by rfl, ?mh1⟩) (by assumption) ?mr1
  case mh1 => intro w hSw; (try have hSw1 := hSw.1); (try have hSw2 := hSw.2); go_simp; try with_reducible rfl
  (try simp only [Act.put]); (try simp only [List.getElem_toArray, List.getElem_cons_zero, List.getElem_cons_succ]); (try simp only [List.setIfInBounds_toArray]); (try simp only [List.set_cons_zero, List.set_cons_succ])
  refine wpAnyT_take (i := 1) (v := ?mv2) rfl (by kernel_rfl) (by kernel_rfl) (by kernel_rfl) rfl rfl (by kernel_rfl) (by rfl) (fun _ _ _ h => h) (Or.inl ⟨by rfl, ?mh2⟩) (by assumption) ?mr2
  case mh2 => intro w hSw; (try have hSw1 := hSw.1); (try have hSw2 := hSw.2); go_simp; try with_reducible rfl
  (try simp only [Act.put]); (try simp only [List.getElem_toArray, List.getElem_cons_zero, List.getElem_cons_succ]); (try simp only [List.setIfInBounds_toArray]); (try simp only [List.set_cons_zero, List.set_cons_succ])
  refine wpAnyT_take (i := 2) (v := ?mv3) rfl (by kernel_rfl) (by kernel_rfl) (by kernel_rfl) rfl rfl (by kernel_rfl) (by rfl) (fun _ _ _ h => h) (Or.inl ⟨by rfl, ?mh3⟩) (by assumption) ?mr3
  case mh3 => intro w hSw; (try have hSw1 := hSw.1); (try have hSw2 := hSw.2); go_simp; try with_reducible rfl
  (try simp only [Act.put]); (try simp only [List.getElem_toArray, List.getElem_cons_zero, List.getElem_cons_succ]); (try simp only [List.setIfInBounds_toArray]); (try simp only [List.set_cons_zero, List.set_cons_succ])
  refine wpAnyT_take (i := 3) (v := ?mv4) rfl (by kernel_rfl) (by kernel_rfl) (by kernel_rfl) rfl rfl (by kernel_rfl) (by rfl) (fun _ _ _ h => h) (Or.inl ⟨by rfl, ?mh4⟩) (by assumption) ?mr4
  case mh4 => intro w hSw; (try have hSw1 := hSw.1); (try have hSw2 := hSw.2); go_simp; try with_reducible rfl
  (try simp only [Act.put]); (try simp only [List.getElem_toArray, List.getElem_cons_zero, List.getElem_cons_succ]); (try simp only [List.setIfInBounds_toArray]); (try simp only [List.set_cons_zero, List.set_cons_succ])
  refine wpAnyT_take (i := 4) (v := ?mv5) rfl (by kernel_rfl) (by kernel_rfl) (by kernel_rfl) rfl rfl (by kernel_rfl) (by rfl) (fun _ _ _ h => h) (Or.inl ⟨by rfl, ?mh5⟩) (by assumption) ?mr5
  case mh5 => intro w hSw; (try have hSw1 := hSw.1); (try have hSw2 := hSw.2); go_simp; try with_reducible rfl
  (try simp only [Act.put]); (try simp only [List.getElem_toArray, List.getElem_cons_zero, List.getElem_cons_succ]); (try simp only [List.setIfInBounds_toArray]); (try simp only [List.set_cons_zero, List.set_cons_succ])
  refine wpAnyT_take (i := 5) (v := ?mv6) rfl (by kernel_rfl) (by kernel_rfl) (by kernel_rfl) rfl rfl (by kernel_rfl) (by rfl) (fun _ _ _ h => h) (Or.inl ⟨by rfl, ?mh6⟩) (by assumption) ?mr6
  case mh6 => intro w hSw; (try have hSw1 := hSw.1); (try have hSw2 := hSw.2); go_simp; try with_reducible rfl
  (try simp only [Act.put]); (try simp only [List.getElem_toArray, List.getElem_cons_zero, List.getElem_cons_succ]); (try simp only [List.setIfInBounds_toArray]); (try simp only [List.set_cons_zero, List.set_cons_succ])
  refine wpAnyT_take (i := 6) (v := ?mv7) rfl (by kernel_rfl) (by kernel_rfl) (by kernel_rfl) rfl rfl (by kernel_rfl) (by rfl) (fun _ _ _ h => h) (Or.inl ⟨by rfl, ?mh7⟩) (by assumption) ?mr7
  case mh7 => intro w hSw; (try have hSw1 := hSw.1); (try have hSw2 := hSw.2); go_simp; try with_reducible rfl
  (try simp only [Act.put]); (try simp only [List.getElem_toArray, List.getElem_cons_zero, List.getElem_cons_succ]); (try simp only [List.setIfInBounds_toArray]); (try simp only [List.set_cons_zero, List.set_cons_succ])
  refine wpAnyT_take (i := 7) (v := ?mv8) rfl (by kernel_rfl) (by kernel_rfl) (by kernel_rfl) rfl rfl (by kernel_rfl) (by rfl) (fun _ _ _ h => h) (Or.inl ⟨by rfl, ?mh8⟩) (by assumption) ?mr8
  case mh8 => intro w hSw; (try have hSw1 := hSw.1); (try have hSw2 := hSw.2); go_simp; try with_reducible rfl
  (try simp only [Act.put]); (try simp only [List.getElem_toArray, List.getElem_cons_zero, List.getElem_cons_succ]); (try simp only [List.setIfInBounds_toArray]); (try simp only [List.set_cons_zero, List.set_cons_succ])
  refine wpAnyT_take (i := 8) (v := ?mv9) rfl (by kernel_rfl) (by kernel_rfl) (by kernel_rfl) rfl rfl (by kernel_rfl) (by rfl) (fun _ _ _ h => h) (Or.inl ⟨by rfl, ?mh9⟩) (by assumption) ?mr9
  case mh9 => intro w hSw; (try have hSw1 := hSw.1); (try have hSw2 := hSw.2); go_simp; try with_reducible rfl
  (try simp only [Act.put]); (try simp only [List.getElem_toArray, List.getElem_cons_zero, List.getElem_cons_succ]); (try simp only [List.setIfInBounds_toArray]); (try simp only [List.set_cons_zero, List.set_cons_succ])
  refine wpAnyT_one (j := 9) rfl (by kernel_rfl) (fun K hK => ?_)
  go_simp
  rw [HX.out]
  go_at_call 19
  refine (split_any s.g last x _ hg1 hg2 hx20 hl60).mono ?_
  rintro e w5 ⟨A5, n5, rfl, hR5, hb5, hc5⟩
  rw [HCS.out] at hR5 hc5 ⊢
  have hS5 := hS0.below hb5
  have hb45 : Below w4.heap.size w4 w5 := ((Below.refl w4.heap.size w4).drew).trans (hb5.mono (Nat.le_refl _))
  have HB5 := Lib.hid (HB4.out.trans (hb45.mono HB4.out.size))
  have hR5' : Kd.R Kd.string 9 w5 0 (more Z w w5) (.slice A5 cs.length n5) cs := Kd.R_lower (Kd.R_mono (Kd.R_bound hR5) (fun k hk => .inr ⟨Nat.le_trans HB4.out.size hk.2.1, hk.2.2.1⟩)) (Nat.zero_le _)
  have HR5 := Lib.hid hR5'
  clear hR5 hR5' hb5 hb45
  refine hK.out _ _ (fun _ => hS5) ?_
  clear hK K
  (try simp only [Act.put]); (try simp only [List.getElem_toArray, List.getElem_cons_zero, List.getElem_cons_succ]); (try simp only [List.setIfInBounds_toArray]); (try simp only [List.set_cons_zero, List.set_cons_succ])
  refine wpAnyT_take (i := 10) (v := ?mv10) rfl (by kernel_rfl) (by kernel_rfl) (by kernel_rfl) rfl rfl (by kernel_rfl) (by rfl) (fun _ _ _ h => h) (Or.inl ⟨by rfl, ?mh10⟩) (by assumption) ?mr10
  case mh10 => intro w hSw; (try have hSw1 := hSw.1); (try have hSw2 := hSw.2); go_simp; try with_reducible rfl
  (try simp only [Act.put]); (try simp only [List.getElem_toArray, List.getElem_cons_zero, List.getElem_cons_succ]); (try simp only [List.setIfInBounds_toArray]); (try simp only [List.set_cons_zero, List.set_cons_succ])
  refine wpAnyT_take (i := 11) (v := ?mv11) rfl (by kernel_rfl) (by kernel_rfl) (by kernel_rfl) rfl rfl (by kernel_rfl) (by rfl) (fun _ _ _ h => h) (Or.inl ⟨by rfl, ?mh11⟩) (by assumption) ?mr11
  case mh11 => intro w hSw; (try have hSw1 := hSw.1); (try have hSw2 := hSw.2); go_simp; try with_reducible rfl
  (try simp only [Act.put]); (try simp only [List.getElem_toArray, List.getElem_cons_zero, List.getElem_cons_succ]); (try simp only [List.setIfInBounds_toArray]); (try simp only [List.set_cons_zero, List.set_cons_succ])
  refine wpAnyT_take (i := 12) (v := ?mv12) rfl (by kernel_rfl) (by kernel_rfl) (by kernel_rfl) rfl rfl (by kernel_rfl) (by rfl) (fun _ _ _ h => h) (Or.inl ⟨by rfl, ?mh12⟩) (by assumption) ?mr12
  case mh12 => intro w hSw; (try have hSw1 := hSw.1); (try have hSw2 := hSw.2); go_simp; try with_reducible rfl
  (try simp only [Act.put]); (try simp only [List.getElem_toArray, List.getElem_cons_zero, List.getElem_cons_succ]); (try simp only [List.setIfInBounds_toArray]); (try simp only [List.set_cons_zero, List.set_cons_succ])
  refine wpAnyT_one (j := 13) rfl (by kernel_rfl) (fun K hK => ?_)
  go_simp
  refine hK.out _ _ (fun _ => hS5) ?_
  clear hK K
  (try simp only [Act.put]); (try simp only [List.getElem_toArray, List.getElem_cons_zero, List.getElem_cons_succ]); (try simp only [List.setIfInBounds_toArray]); (try simp only [List.set_cons_zero, List.set_cons_succ])
  refine wpAnyT_one (j := 14) rfl (by kernel_rfl) (fun K hK => ?_)
  go_simp
  refine hK.out _ _ (fun _ => hS5) ?_
  clear hK K
  (try simp only [Act.put]); (try simp only [List.getElem_toArray, List.getElem_cons_zero, List.getElem_cons_succ]); (try simp only [List.setIfInBounds_toArray]); (try simp only [List.set_cons_zero, List.set_cons_succ])
  refine wpAnyT_done (by kernel_rfl) ?_ _
  have HD5 := Lib.hid (HDK.out.below HB5.out)
  have HS5 := Lib.hid (HS.out.below HB5.out)
  have c4 : w5.cell? ⟨sb, 4, none⟩ = some (.int .i64 (s.half : Int)) := cell_of_block HS5.out 4
  have hcl : cs.length ≤ x.size / 55 + 1 := by rw [← HCS.out]; exact splitL_length _ _ _ _
  have hnc : d.n + cs.length < 1000000 := by omega
  have HCL := Lib.hid hcl
  clear c3 c5 hS0 hS5 v1 v2 v3 v4 hq1 hcl
  go_wp2_with fail
  refine (lay_any HD5.out i HI.out HS5.out (.inl hZ) HB.out (by omega) s.half last hf (by omega) _ n5 cs HR5.out hnc).mono ?_
  rintro e w6 ⟨rfl, ⟨N', hN', hD6⟩, hF6⟩
  have HD6 := Lib.hid hD6
  have HF6 := Lib.hid hF6
  have HF06 : Hid (Fr (fun k => ¬ Z k ∨ k = sb) w w6) := Lib.hid (((Fr.of_below (S := fun _ => False) HB5.out).mono (fun _ h => h.elim)).trans (hF6.mono (fun k hk => .inl (fun h => hk (.inl h)))))
  have HS6 := Lib.hid (HS5.out.fr hF6 (fun h => h (.inl hZ)))
  have HN' : Hid (N' ≤ d.n + 1000) := Lib.hid (by have := HCL.out; omega)
  obtain ⟨E, hE⟩ : ∃ E, (layW s.rg d.m ((1 + s.half * s.h + last : Nat) : Int) cs).1 = E := ⟨_, rfl⟩
  obtain ⟨m6, hm6⟩ : ∃ m6, (layW s.rg d.m ((1 + s.half * s.h + last : Nat) : Int) cs).2 = m6 := ⟨_, rfl⟩
  have hR := HR.out
  rw [hE, hm6] at hR
  rw [hm6] at HD6
  rw [hE]
  clear hD6 hF6 hE hm6 hN' HR c4
  by_cases hE0 : E = 0
  · subst hE0
    rw [if_pos rfl] at hR
    have HR := Lib.hid hR
    have hfz : w6.frozen? ⟨sb, 5, none⟩ = false := unfrozen_of_block HS6.out 5
    have c5 : w6.cell? ⟨sb, 5, none⟩ = some (.string s.data) := cell_of_block HS6.out 5
    clear hR
    have hS7 : SAt (w6.setCell ⟨sb, 5, none⟩ (.string (D ++ f))) sb { s with data := D ++ f } := by
      have := block_setCell HS6.out (i := 5) (.string (D ++ f))
      unfold SAt
      rw [this]
      simp [MSt.cells]
    have HS7 := Lib.hid hS7
    clear hS7
    go_wp2_with fail
    refine bodyPost_ret (v := .int .i64 0) (by simp [results, Tryd.results24, go_sem]) rfl ?_
    rw [HR.out]
    have hf7 : Fr (fun k => k = sb) w6 (w6.setCell ⟨sb, 5, none⟩ (.string (D ++ f))) := Fr.setAt (Fr.refl _ _) rfl
    exact ⟨rfl, HS7.out, ⟨N', HN'.out, (HD6.out.own hf7 (fun k _ hk => by rw [hk]; exact .inl hZ)).mono (fun k hk => .inl (.inl hk))⟩, HF06.out.trans (hf7.mono (fun k hk => .inr hk))⟩
  · rw [if_neg hE0] at hR
    have HR := Lib.hid hR
    have hE1 : (E == 0) = false := by simpa using hE0
    clear hR
    go_wp2_with fail
    refine (failed_any HS6.out E hE0).mono ?_
    rintro e w7 ⟨rfl, hS7, hF7⟩
    have HS7 := Lib.hid hS7
    have HD7 := Lib.hid (HD6.out.own hF7 (fun k _ hk => by rw [hk]; exact .inl hZ))
    have HF7 := Lib.hid (HF06.out.trans (hF7.mono (fun k hk => .inr hk)))
    clear hS7 hF7
    go_wp2_with fail
    refine bodyPost_ret (v := .int .i64 E) (by simp [results, Tryd.results24, go_sem]) rfl ?_
    rw [HR.out]
    exact ⟨rfl, HS7.out, ⟨N', HN'.out, HD7.out.mono (fun k hk => .inl (.inl hk))⟩, HF7.out⟩

section
variable {Z : Nat → Prop} {w : World} {ds : List DK} {i : Nat} {d : DK} {sb : Nat} {s : MSt}
set_option maxHeartbeats 8000000 in
set_option maxRecDepth 100000 in
theorem app_broken (hD : Dks Z w ds) (hi : ds[i]? = some d) (hS : SAt w sb s) (body : ByteArray) (h1 : s.broken = true) :
    Calls Tryd.prog 24 #[.pointer (some ⟨sb, 0, none⟩), .string body] w fun e w' => StepPost Z w ds i d sb (13, s, d.m) e w' := by
  have hm : (if s.broken = true then (13 : Int) else 0) = 13 := by rw [if_pos h1]
  have HM := Lib.hid hm
  have HDK := Lib.hid hD
  have HI := Lib.hid hi
  have HS := Lib.hid hS
  clear hD hi hS hm h1
  go_enter Tryd.func24, Tryd.ntmps24
  go_wp2_with fail
  refine (may_any HS.out).mono ?_
  rintro e w2 ⟨rfl, hb2⟩
  rw [HM.out]
  have HB2 := Lib.hid hb2
  clear hb2
  go_wp2_with fail
  exact bodyPost_ret (v := .int .i64 13) (by simp [results, Tryd.results24, go_sem]) rfl (keepS HDK.out HI.out HS.out HB2.out)
set_option maxHeartbeats 8000000 in
set_option maxRecDepth 100000 in
theorem app_bad (hD : Dks Z w ds) (hi : ds[i]? = some d) (hS : SAt w sb s) (body : ByteArray) (h1 : s.broken = false) (h2 : (putS body).2 ≠ 0) :
    Calls Tryd.prog 24 #[.pointer (some ⟨sb, 0, none⟩), .string body] w fun e w' => StepPost Z w ds i d sb ((putS body).2, s, d.m) e w' := by
  have hm : (if s.broken = true then (13 : Int) else 0) = 0 := by rw [h1]; rfl
  obtain ⟨E, hE⟩ : ∃ E, (putS body).2 = E := ⟨_, rfl⟩
  obtain ⟨f, hf⟩ : ∃ f, (putS body).1 = f := ⟨_, rfl⟩
  rw [hE] at h2 ⊢
  have h3 : (E == 0) = false := by simpa using h2
  have HE := Lib.hid hE
  have HF := Lib.hid hf
  have HM := Lib.hid hm
  have HDK := Lib.hid hD
  have HI := Lib.hid hi
  have HS := Lib.hid hS
  clear hD hi hS hm h1 h2 hE hf
  go_enter Tryd.func24, Tryd.ntmps24
  go_wp2_with fail
  refine (may_any HS.out).mono ?_
  rintro e w2 ⟨rfl, hb2⟩
  rw [HM.out]
  have HB2 := Lib.hid hb2
  clear hb2
  go_wp2_with fail
  refine (put_any body _).mono ?_
  rintro e w3 ⟨rfl, hb3⟩
  rw [HF.out, HE.out]
  have HB3 := Lib.hid (HB2.out.trans (hb3.mono HB2.out.size))
  clear hb3
  go_wp2_with fail
  exact bodyPost_ret (v := .int .i64 E) (by simp [results, Tryd.results24, go_sem]) rfl (keepS HDK.out HI.out HS.out HB3.out)
set_option maxHeartbeats 8000000 in
set_option maxRecDepth 100000 in
theorem app_full (hD : Dks Z w ds) (hi : ds[i]? = some d) (hS : SAt w sb s) (hh : s.h ≤ 300) (hds : s.data.size ≤ 16500) (body : ByteArray) (h1 : s.broken = false) (h2 : (putS body).2 = 0) (h3 : (s.h : Int) * 55 - 1 - (s.data.size : Int) < ((putS body).1.size : Int)) :
    Calls Tryd.prog 24 #[.pointer (some ⟨sb, 0, none⟩), .string body] w fun e w' => StepPost Z w ds i d sb (12, s, d.m) e w' := by
  have hm : (if s.broken = true then (13 : Int) else 0) = 0 := by rw [h1]; rfl
  obtain ⟨f, hf⟩ : ∃ f, (putS body).1 = f := ⟨_, rfl⟩
  rw [hf] at h3
  have HE := Lib.hid h2
  have HF := Lib.hid hf
  have HM := Lib.hid hm
  have HDK := Lib.hid hD
  have HI := Lib.hid hi
  have HS := Lib.hid hS
  clear hD hi hS hm h1 h2 hf
  go_enter Tryd.func24, Tryd.ntmps24
  go_wp2_with fail
  refine (may_any HS.out).mono ?_
  rintro e w2 ⟨rfl, hb2⟩
  rw [HM.out]
  have HB2 := Lib.hid hb2
  clear hb2
  go_wp2_with fail
  refine (put_any body _).mono ?_
  rintro e w3 ⟨rfl, hb3⟩
  rw [HF.out, HE.out]
  have HB3 := Lib.hid (HB2.out.trans (hb3.mono HB2.out.size))
  clear hb3
  have hS3 := HS.out.below HB3.out
  go_wp2_with fail
  refine (left_any hS3 (by omega) (by omega)).mono ?_
  rintro e w4 ⟨rfl, hb4⟩
  have HB4 := Lib.hid (HB3.out.trans (hb4.mono HB3.out.size))
  clear hb4 hS3
  go_wp2_with fail
  exact bodyPost_ret (v := .int .i64 12) (by simp [results, Tryd.results24, go_sem]) rfl (keepS HDK.out HI.out HS.out HB4.out)

theorem app_any (hD : Dks Z w ds) (i : Nat) {d : DK} (hi : ds[i]? = some d) (hS : SAt w sb s) (hZ : Z sb) (hb : s.b = d.b) (hh : s.h ≤ 300) (hf : s.half ≤ 1) (hg1 : 1 ≤ s.g) (hg2 : s.g ≤ 281474976710655) (hds : s.data.size ≤ 16500) (hn : d.n < 900000) (body : ByteArray) :
    Calls Tryd.prog 24 #[.pointer (some ⟨sb, 0, none⟩), .string body] w fun e w' => StepPost Z w ds i d sb (appR d.m s body) e w' := by
  by_cases h1 : s.broken = true
  · have e : appR d.m s body = (13, s, d.m) := by unfold appR; rw [if_pos h1]
    rw [e]
    exact app_broken hD hi hS body h1
  · have h1' : s.broken = false := by simpa using h1
    by_cases h2 : (putS body).2 = 0
    · by_cases h3 : (s.h : Int) * 55 - 1 - (s.data.size : Int) < ((putS body).1.size : Int)
      · have e : appR d.m s body = (12, s, d.m) := by unfold appR; rw [if_neg h1, if_neg (fun h => h h2), if_pos h3]
        rw [e]
        exact app_full hD hi hS hh hds body h1' h2 h3
      · exact app_ok hD i hi hS hZ hb hh hf hg1 hg2 hds hn body h1' h2 h3
    · have e : appR d.m s body = ((putS body).2, s, d.m) := by unfold appR; rw [if_neg h1, if_pos h2]
      rw [e]
      exact app_bad hD hi hS body h1' h2
end

end Go.Proofs.YtekpbpcfeopilaaDoor.Ap
