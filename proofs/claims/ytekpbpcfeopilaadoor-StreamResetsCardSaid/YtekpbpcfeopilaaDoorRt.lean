/- StreamResets: the walk. -/
import Derived.Test.YtekpbpcfeopilaaDoorNy
import Derived.Test.YtekpbpcfeopilaaDoorOpens
namespace Go.Proofs.YtekpbpcfeopilaaDoor.Rt
open Go Go.RowKit Go.Joins Go.Proofs.YtekpbpcfeopilaaDoorCore Go.Proofs.YtekpbpcfeopilaaDoor.Dm Go.Proofs.YtekpbpcfeopilaaDoor.Dr Go.Proofs.YtekpbpcfeopilaaDoor.Da Go.Proofs.YtekpbpcfeopilaaDoor.Dl Go.Proofs.YtekpbpcfeopilaaDoor.Dn Go.Proofs.YtekpbpcfeopilaaDoor.Ds Go.Proofs.YtekpbpcfeopilaaDoor.Dt Go.Proofs.YtekpbpcfeopilaaDoor.Dw Go.Proofs.YtekpbpcfeopilaaDoor.Sys Go.Proofs.YtekpbpcfeopilaaDoor.PStrm Go.Proofs.YtekpbpcfeopilaaDoor.Sm Go.Proofs.YtekpbpcfeopilaaDoor.Lw Go.Proofs.YtekpbpcfeopilaaDoor.Fp Go.Proofs.YtekpbpcfeopilaaDoor.Sp Go.Proofs.YtekpbpcfeopilaaDoor.Fz Go.Proofs.YtekpbpcfeopilaaDoor.Hd Go.Proofs.YtekpbpcfeopilaaDoor.St Go.Proofs.YtekpbpcfeopilaaDoor.Ap Go.Proofs.YtekpbpcfeopilaaDoor.Rs Go.Proofs.YtekpbpcfeopilaaDoor.Op Go.Proofs.YtekpbpcfeopilaaDoor.Cm Go.Proofs.YtekpbpcfeopilaaDoor.Ws Go.Proofs.YtekpbpcfeopilaaDoor.Ny Go.Proofs.YtekpbpcfeopilaaDoor.Reg Go.Proofs.YtekpbpcfeopilaaDoorW.PrintWords Go.Proofs.YtekpbpcfeopilaaDoorW.PrintLast Go.Proofs.YtekpbpcfeopilaaDoorW.PrintMore

theorem cut_lit_z {Z : Nat → Prop} {w : World} {ds : List DK} (h : Dks Z w ds) (i : Nat) {d : DK} (hi : ds[i]? = some d) (n left : Int) (hleft : left ≤ 9223372036854775807) (e : Nat) (cc : Nat) (keep : List Int) (hK : ∀ x ∈ keep, 0 ≤ x ∧ x ≤ 18446744073709551615) (hl : keep.length ≤ 1000000) :
    Calls Tryd.prog 32 #[.pointer (some ⟨d.b, 0, none⟩), .int .i64 n, .int .i64 left, .slice (some ⟨w.heap.size, 0, none⟩) keep.length cc] (w.alloc (.cells (encs (Value.int .u64) keep).toArray e)) fun e w' => e = .returned (.tuple #[]) ∧ Dks Z w' (ds.set i ⟨d.b, cutM d.m n left keep, d.n⟩) ∧ Fr (fun k => ¬ Z k) w w' := by
  have hb : Below w.heap.size w (w.alloc (.cells (encs (Value.int .u64) keep).toArray e)) := (Below.refl _ _).alloc (Nat.le_refl _) _
  refine (cut_z (h.below hb) i hi n left hleft _ cc keep (by omega) hK (fun W hW => C_fr (lit_C .u64 w e keep (by omega)) hW (fun hs => hs (.inr ⟨Nat.le_refl _, by simp⟩)))).mono fun _ _ ⟨he, h1, h2⟩ => ⟨he, h1.mono (fun _ hk => .inl hk), (fr_of_below hb).trans (h2.mono (fun k hk hz => hk (.inl hz)))⟩

def cutB (x : ByteArray) : ByteArray := x.extract 0 (min x.size 100)
def fl (l : List ByteArray) : List ByteArray := (l.map cutB).filter (fun b => decide (b.size ≠ 0))
theorem fl_snoc (l : List ByteArray) (x : ByteArray) : fl (l ++ [x]) = fl l ++ (if (cutB x).size = 0 then [] else [cutB x]) := by
  unfold fl
  rw [List.map_append, List.filter_append]
  congr 1
  by_cases h : (cutB x).size = 0
  · rw [if_pos h, List.map_singleton, List.filter_cons, if_neg (by simp only [h]; decide)]
    rfl
  · rw [if_neg h, List.map_singleton, List.filter_cons, if_pos (by simpa using h)]
    rfl
theorem fl_ok {l : List ByteArray} : ∀ b ∈ fl l, 1 ≤ b.size ∧ b.size ≤ 100 := by
  intro b hb
  unfold fl at hb
  rw [List.mem_filter] at hb
  obtain ⟨h1, h2⟩ := hb
  obtain ⟨x, _, rfl⟩ := List.mem_map.1 h1
  have h3 : (cutB x).size ≠ 0 := by simpa using h2
  have h4 : (cutB x).size ≤ 100 := by unfold cutB; rw [ByteArray.size_extract]; omega
  omega
theorem fl_len (l : List ByteArray) : (fl l).length ≤ l.length := by
  unfold fl
  have := List.length_filter_le (fun b : ByteArray => decide (b.size ≠ 0)) (l.map cutB)
  rwa [List.length_map] at this
theorem data_small : ∀ (l : List ByteArray), (∀ b ∈ l, b.size ≤ 100) → (dataOf sumN l).length ≤ 106 * l.length := by
  intro l
  induction l with
  | nil => intro _; exact Nat.zero_le _
  | cons b l ih =>
    intro h
    have h1 := ih (fun x hx => h x (List.mem_cons_of_mem _ hx))
    have h2 := h b (List.mem_cons_self ..)
    unfold dataOf at h1 ⊢
    rw [List.map_cons, framesL_cons, List.length_append, frameL_length, toL_length, List.length_cons]
    omega

/-- What stands whatever the loops do. -/
structure Base (w : World) (b sb q lb : Nat) (c : Array Value) (x1 x2 : Int) (m : MDisk) (N : Nat) (s : MSt) (wr : World) (Z : Nat → Prop) : Prop where
  z1 : ∀ k, k ≤ q → Z k
  zs : Z sb
  zl : Z lb
  dks : Dks Z wr [⟨b, m, N⟩]
  at_ : SAt wr sb s
  box : wr.heap[q]? = some (.cells #[.int .i64 x1, .int .u64 x2] 64 (0, 0))
  lit : wr.heap[lb + 1]? = some (.cells c 31 (0, 0))
  below : Below w.heap.size w wr
/-- Blocks of ours may turn. -/
theorem Base.step {w : World} {b sb q lb : Nat} {c : Array Value} {x1 x2 : Int} {m : MDisk} {N : Nat} {s : MSt} {wr wr' : World} {Z S : Nat → Prop} (h : Base w b sb q lb c x1 x2 m N s wr Z) (f : Fr S wr wr') (hz : ∀ k, k < wr.heap.size → S k → Z k) (h1 : ¬ S q) (h2 : ¬ S sb) (h3 : ¬ S (lb + 1)) (h4 : ∀ k, k < w.heap.size → ¬ S k) :
    Base w b sb q lb c x1 x2 m N s wr' (more Z wr wr') :=
  ⟨fun k hk => .inl (h.z1 k hk), .inl h.zs, .inl h.zl, h.dks.own f hz, h.at_.fr f h2, f.at_ h.box h1, f.at_ h.lit h3, h.below.trans (f.below h.below.size h4)⟩

/-- While a list is gathered. -/
structure JInv (w : World) (b sb q lb : Nat) (c : Array Value) (x1 x2 : Int) (m : MDisk) (N : Nat) (s : MSt) (M lo i : Nat) (xs ys : List ByteArray) (gk : Nat) (v : Value) (wr : World) (j : Nat) (Z : Nat → Prop) (vx vy : Value) : Prop where
  le : j ≤ M
  slot : v = .int .i64 j
  ghost : gk + j = M
  base : Base w b sb q lb c x1 x2 m N s wr Z
  blk : wr.heap[lb]? = some (.cells (if i = 0 then #[vx, vy] else #[vy, vx]) 66 (0, 0))
  own : Kd.R Kd.string 9 wr w.heap.size (fun k => Z k ∧ lo ≤ k) vx (fl (xs.take j))
  oth : Kd.R Kd.string 9 wr w.heap.size (fun k => Z k ∧ k < lo ∧ lb + 1 < k) vy ys
  size : lo ≤ wr.heap.size
  nil : i = 0 → vy = .slice none 0 0
def JRel (w : World) (b sb q lb : Nat) (c : Array Value) (x1 x2 : Int) (m : MDisk) (N : Nat) (s : MSt) (M lo i : Nat) (xs ys : List ByteArray) (gk : Nat) (v : Value) (wr : World) : Prop := ∃ j Z vx vy, JInv w b sb q lb c x1 x2 m N s M lo i xs ys gk v wr j Z vx vy
/-- Ahead of each list. -/
structure OInv (w : World) (b sb q lb : Nat) (c : Array Value) (x1 x2 : Int) (m : MDisk) (N : Nat) (s : MSt) (y0 y1 : List ByteArray) (gk : Nat) (v : Value) (wr : World) (Z : Nat → Prop) (v0 v1 : Value) : Prop where
  base : Base w b sb q lb c x1 x2 m N s wr Z
  blk : wr.heap[lb]? = some (.cells #[v0, v1] 66 (0, 0))
  st : (v = .int .i64 0 ∧ gk = 2 ∧ v0 = .slice none 0 0 ∧ v1 = .slice none 0 0) ∨
    (v = .int .i64 1 ∧ gk = 1 ∧ v1 = .slice none 0 0 ∧ Kd.R Kd.string 9 wr w.heap.size (fun k => Z k ∧ lb + 1 < k) v0 y0) ∨
    (v = .int .i64 2 ∧ gk = 0 ∧ Kd.R Kd.string 9 wr w.heap.size (fun k => Z k ∧ lb + 1 < k) v0 y0 ∧ Kd.R Kd.string 9 wr w.heap.size (fun k => Z k ∧ lb + 1 < k) v1 y1)
def ORel (w : World) (b sb q lb : Nat) (c : Array Value) (x1 x2 : Int) (m : MDisk) (N : Nat) (s : MSt) (y0 y1 : List ByteArray) (gk : Nat) (v : Value) (wr : World) : Prop := ∃ Z v0 v1, OInv w b sb q lb c x1 x2 m N s y0 y1 gk v wr Z v0 v1

set_option maxHeartbeats 40000000 in
set_option maxRecDepth 100000 in
theorem law (A0 : Option Addr) (c0 : Nat) (l0 : List ByteArray) (A1 : Option Addr) (c1 : Nat) (l1 : List ByteArray) (x1 x2 : Int) (w : World) (hC0 : Kd.C Kd.string w A0 l0.length l0) (hcc0 : l0.length ≤ c0) (hC1 : Kd.C Kd.string w A1 l1.length l1) (hcc1 : l1.length ≤ c1)
    (hx1 : x1 ≤ 9223372036854775807) (hx2 : 0 ≤ x2 ∧ x2 ≤ 18446744073709551615) :
    Calls Tryd.prog 11 #[.slice A0 l0.length c0, .slice A1 l1.length c1, .agg #[.int .i64 x1, .int .u64 x2]] w fun e w' => e = .returned (.bool true) ∧ Below w.heap.size w w' := by
  have HC0 := Lib.hid hC0
  have HC1 := Lib.hid hC1
  clear hC0 hC1
  obtain ⟨wb, hwb⟩ : ∃ wb, w.alloc (.cells #[.int .i64 x1, .int .u64 x2] 64) = wb := ⟨_, rfl⟩
  have hbb : Below w.heap.size w wb := by rw [← hwb]; exact (Below.refl _ _).alloc (Nat.le_refl _) _
  have hqb : wb.heap[w.heap.size]? = some (.cells #[.int .i64 x1, .int .u64 x2] 64 (0, 0)) := by rw [← hwb]; exact heap_alloc_new _ _
  have hzb : wb.heap.size = w.heap.size + 1 := by rw [← hwb]; simp
  obtain ⟨q, hq⟩ : ∃ q, w.heap.size = q := ⟨_, rfl⟩
  have HBB := Lib.hid hbb
  have HQB := Lib.hid hqb
  have HZB := Lib.hid hzb
  have HQ := Lib.hid hq
  have hL1 := lit_C .i64 wb 3 [63] (by simp)
  obtain ⟨w1, hw1⟩ : ∃ w1, wb.alloc (.cells #[.int .i64 63] 3) = w1 := ⟨_, rfl⟩
  have hw1' : wb.alloc (.cells (encs (Value.int .i64) [63]).toArray 3) = w1 := hw1
  have hb1 : Below wb.heap.size wb w1 := by rw [← hw1]; exact (Below.refl _ _).alloc (Nat.le_refl _) _
  rw [hw1'] at hL1
  have hnw := new_z (Dks.nil w1) (some ⟨wb.heap.size, 0, none⟩) 1 [63] hL1 (by simp)
  obtain ⟨b, hb⟩ : ∃ b, w1.heap.size = b := ⟨_, rfl⟩
  rw [hb, hzb, hq] at hnw
  have HNW := Lib.hid hnw
  have HB1 := Lib.hid (hbb.trans (hb1.mono hbb.size))
  have HQ1 : Hid (w1.heap[q]? = some (.cells #[.int .i64 x1, .int .u64 x2] 64 (0, 0))) := Lib.hid (by rw [← hq]; exact (hb1.block _ (by rw [hzb]; omega)).trans hqb)
  have HWB : Hid (q < b) := Lib.hid (by rw [← hb, ← hq]; have := hb1.size; rw [hzb] at this; omega)
  clear hL1 hnw hb1 hb hbb hqb hw1'
  go_enter Tryd.func11, Tryd.ntmps11
  rw [hq] at hzb
  go_wp2_with (first | (rw [hwb]) | (rw [hw1]) | (rw [hq]) | (rw [hzb]))
  refine HNW.out.mono ?_
  rintro e w2 ⟨rfl, hD2, hb2⟩
  rw [List.nil_append] at hD2
  have HB2 := Lib.hid (HB1.out.trans (hb2.mono (by have := HWB.out; have := HQ.out; omega)))
  have HD2 := Lib.hid hD2
  have HQ2 : Hid (w2.heap[q]? = some (.cells #[.int .i64 x1, .int .u64 x2] 64 (0, 0))) := Lib.hid ((hb2.block _ HWB.out).trans HQ1.out)
  have hL0 := new_live 63 (by omega)
  have e5 : (List.replicate 63 noneS).length = 63 := List.length_replicate ..
  have hr0 := new_rec 63 (by omega) (sizeH (List.replicate 63 noneS).length)
  have s63 : sizeH 63 = 31 := by decide
  have ho := opened hD2 0 (d := ⟨b, newM [63], 0⟩) rfl hL0 rfl (by rw [e5]; omega) (by rw [e5, s63]; omega) (by show 0 < 900000; omega) (by rw [hr0.1, e5, s63]; decide) (by rw [hr0.2]; omega)
  rw [hr0.1, hr0.2, e5, s63] at ho
  have HO := Lib.hid ho
  clear hD2 hb2 hL0 hr0 e5 s63 ho HNW hw1 hzb hwb
  go_wp2_with fail
  refine HO.out.mono ?_
  rintro e w3 ⟨sb, A3, c3, Z', m', s', L', N', rfl, hz1, hz2, hsb0, hzs, hS, hsb, hsg, hsh, hR, hN', hD3, hF, hl3, hG⟩
  have HB3 : Hid (Below w.heap.size w w3) := Lib.hid (HB2.out.trans (hF.below HB2.out.size (fun k hk hz => hz (by have := HWB.out; have := HQ.out; omega))))
  have HD3 := Lib.hid hD3
  have HG := Lib.hid hG
  have HS3 := Lib.hid hS
  have HZ1 := Lib.hid hz1
  have HZS := Lib.hid hzs
  have HSB : Hid (w.heap.size ≤ sb) := Lib.hid (Nat.le_trans HB2.out.size hsb0)
  have HN : Hid (N' ≤ 1000) := Lib.hid (by have : N' ≤ 0 + 1000 := hN'; omega)
  have HES : Hid (s'.b = b) := Lib.hid hsb
  have HEH : Hid (s'.h = 31) := Lib.hid hsh
  have HEG : Hid (s'.g = 1) := Lib.hid (by omega)
  have HL3 := Lib.hid hl3
  have HQ3 : Hid (w3.heap[q]? = some (.cells #[.int .i64 x1, .int .u64 x2] 64 (0, 0))) := Lib.hid (hF.at_ HQ2.out (fun h => h HWB.out))
  clear hz1 hz2 hsb0 hzs hS hsb hsg hsh hR hN' hD3 hF hl3 hG HO
  go_wp2_with fail
  refine (wakes_any w3).mono ?_
  rintro e w4 ⟨rfl, hb4⟩
  have HB4 := Lib.hid (HB3.out.trans (hb4.mono HB3.out.size))
  have HD4 := Lib.hid (HD3.out.keep hb4)
  have HS4 := Lib.hid (HS3.out.below hb4)
  have HQ4 : Hid (w4.heap[q]? = some (.cells #[.int .i64 x1, .int .u64 x2] 64 (0, 0))) := Lib.hid ((hb4.block _ (heap_lt HQ3.out)).trans HQ3.out)
  clear hb4
  go_wp2_with fail
  obtain ⟨lb, hlb⟩ : ∃ lb, w4.heap.size = lb := ⟨_, rfl⟩
  obtain ⟨w5, hw5⟩ : ∃ w5, (w4.alloc (.cells #[.slice none 0 0, .slice none 0 0] 66)).alloc (.cells #[.slice A0 l0.length c0, .slice A1 l1.length c1] 31) = w5 := ⟨_, rfl⟩
  have hb5 : Below w4.heap.size w4 w5 := by rw [← hw5]; exact ((Below.refl _ _).alloc (Nat.le_refl _) _).alloc (by simp) _
  have hblk : w5.heap[lb]? = some (.cells #[.slice none 0 0, .slice none 0 0] 66 (0, 0)) := by
    rw [← hw5, ← hlb]
    exact Go.Proofs.YtekpbpcfeopilaaDoorCore.heap_alloc_old _ _ _ _ (heap_alloc_new _ _)
  have hlit : w5.heap[lb + 1]? = some (.cells #[.slice A0 l0.length c0, .slice A1 l1.length c1] 31 (0, 0)) := by
    rw [← hw5, ← hlb]
    have := heap_alloc_new (w4.alloc (.cells #[.slice none 0 0, .slice none 0 0] 66)) (.cells #[.slice A0 l0.length c0, .slice A1 l1.length c1] 31)
    rw [show (w4.alloc (.cells #[.slice none 0 0, .slice none 0 0] 66)).heap.size = w4.heap.size + 1 by simp] at this
    exact this
  rw [hw5, hlb]
  have hbase : Base w b sb q lb #[.slice A0 l0.length c0, .slice A1 l1.length c1] x1 x2 m' N' s' w5 (more Z' w4 w5) := by
    refine ⟨fun k hk => .inl (HZ1.out k (by have := HWB.out; omega)), .inl HZS.out, .inr ⟨by omega, heap_lt hblk⟩, HD4.out.below hb5, HS4.out.below hb5, (hb5.block _ (heap_lt HQ4.out)).trans HQ4.out, hlit, HB4.out.trans (hb5.mono HB4.out.size)⟩
  have HBA := Lib.hid hbase
  have HBK := Lib.hid hblk
  have HSL : Hid (sb < lb) := Lib.hid (by rw [← hlb]; exact HS4.out.lt)
  have HQS : Hid (q < sb) := Lib.hid (by
    have h1 := HSB.out
    rw [HQ.out] at h1
    rcases Nat.lt_or_ge q sb with h | h
    · exact h
    · exfalso
      obtain rfl : q = sb := by omega
      have h2 := HQ4.out.symm.trans HS4.out
      injection h2 with h2
      injection h2 with h2 _ _
      exact absurd (congrArg Array.size h2) (by simp [MSt.cells]))
  clear hb5 hw5 hlb hblk hlit hbase HD2 HD3 HD4 HS3 HS4 HQ1 HQ2 HQ3 HQ4 HZ1 HZS HSB
  go_loopg [38] 2 (fun gk v wr => ORel w b sb q lb #[.slice A0 l0.length c0, .slice A1 l1.length c1] x1 x2 m' N' s' (fl (l0.take 10)) (fl (l1.take 10)) gk v wr)
  case atStart => exact ⟨_, _, _, ⟨HBA.out, HBK.out, .inl ⟨rfl, rfl, rfl, rfl⟩⟩⟩
  case round =>
    obtain ⟨Z, v0, v1, hbase, hblk, hst⟩ := hrel
    have HBA := Lib.hid hbase
    clear HBK
    have HBK := Lib.hid hblk
    clear hbase
    have q0 : wr.cell? ⟨lb + 1, 0, none⟩ = some (.slice A0 l0.length c0) := cell_of_block HBA.out.lit 0
    have q1 : wr.cell? ⟨lb + 1, 1, none⟩ = some (.slice A1 l1.length c1) := cell_of_block HBA.out.lit 1
    rcases hst with ⟨rfl, rfl, rfl, rfl⟩ | ⟨rfl, rfl, rfl, how⟩ | ⟨rfl, rfl, how, how2⟩
    · obtain ⟨M, hM⟩ : ∃ M : Nat, min l0.length 10 = M := ⟨_, rfl⟩
      have hMi : min (l0.length : Int) 10 = (M : Int) := by omega
      have hMc : M ≤ c0 := by omega
      have hMl : M ≤ l0.length := by omega
      have hM10 : M ≤ 10 := by omega
      have hMt : l0.take M = l0.take 10 := by
        rcases Nat.lt_or_ge l0.length 10 with h | h
        · rw [List.take_of_length_le (by omega), List.take_of_length_le (by omega)]
        · rw [show M = 10 by omega]
      have HMT := Lib.hid hMt
      clear hM hMt
      obtain ⟨lo, hlo⟩ : ∃ lo, wr.heap.size = lo := ⟨_, rfl⟩
      have hlb2 : lb + 1 < lo := by rw [← hlo]; exact heap_lt HBA.out.lit
      have HLO := Lib.hid hlb2
      have HOT : Hid (Kd.R Kd.string 9 wr w.heap.size (fun k => Z k ∧ k < lo ∧ lb + 1 < k) (.slice none 0 0) ([] : List ByteArray)) := Lib.hid (Kd.R_nil _ _ _ _ _)
      clear hblk
      go_wp2_with fail
      go_loopg [49] M (fun gk v wr => JRel w b sb q lb #[.slice A0 l0.length c0, .slice A1 l1.length c1] x1 x2 m' N' s' M lo 0 l0 [] gk v wr)
      case atStart => exact ⟨0, Z, .slice none 0 0, .slice none 0 0, ⟨Nat.zero_le _, rfl, rfl, HBA.out, HBK.out, Kd.R_nil _ _ _ _ _, HOT.out, by omega, fun _ => rfl⟩⟩
      case round =>
        obtain ⟨j, Z2, vx, vy, hj, rfl, hg2, hbase2, hblk2, hown2, hoth2, hsz2, hnil2⟩ := hrel
        have HGK := Lib.hid hg2
        have HBA2 := Lib.hid hbase2
        have HBK2 := Lib.hid hblk2
        have HOW := Lib.hid hown2
        have HOT2 := Lib.hid hoth2
        have HSZ := Lib.hid hsz2
        have HN2 := Lib.hid hnil2
        clear hg2 hbase2 hown2 hoth2 hsz2 hnil2
        by_cases hlt : j < M
        · obtain ⟨_, _, hcl⟩ := Kd.reads_of_C (d := ByteArray.empty) HC0.out
          obtain ⟨ad, hA, hcl2⟩ := hcl (by omega)
          subst hA
          have hx := hcl2 j (by omega)
          obtain ⟨x, hxe⟩ : ∃ x, l0.getD j ByteArray.empty = x := ⟨_, rfl⟩
          rw [show l0.getD j _ = x from hxe] at hx
          have hx := pw_cell_below HBA2.out.below hx
          have htk : l0.take (j + 1) = l0.take j ++ [x] := by
            rw [List.take_succ_eq_append_getElem (by omega), ← hxe, List.getD_eq_getElem?_getD, List.getElem?_eq_getElem (by omega)]
            rfl
          have hfl := fl_snoc (l0.take j) x
          rw [← htk] at hfl
          obtain ⟨y6, hy6⟩ : ∃ y6 : Nat, min x.size 100 = y6 := ⟨_, rfl⟩
          have u1 : min (x.size : Int) 100 = (y6 : Int) := by omega
          have u2 : y6 ≤ x.size := by omega
          have hcb : cutB x = x.extract 0 y6 := by unfold cutB; rw [hy6]
          clear hcl hcl2 hxe hy6 htk
          obtain ⟨y, hy⟩ : ∃ y, x.extract 0 y6 = y := ⟨_, rfl⟩
          rw [hcb, hy] at hfl
          have HY := Lib.hid hy
          clear hy hcb
          have hlx : (fl (l0.take j)).length ≤ 10 := Nat.le_trans (fl_len _) (by rw [List.length_take]; omega)
          by_cases h0 : y.size = 0
          · rw [if_pos h0, List.append_nil] at hfl
            have HFL := Lib.hid hfl
            have hne : y.toList = [] := (Hd.nil_size y).2 h0
            clear hfl hlx
            go_wp2_with (rw [HY.out])
            go_roundg (gk - 1)
            case measure => have := HGK.out; omega
            case rel => exact ⟨j + 1, Z2, vx, vy, ⟨by omega, by go_num, by have := HGK.out; omega, HBA2.out, HBK2.out, by rw [HFL.out]; exact HOW.out, HOT2.out, HSZ.out, fun _ => HN2.out trivial⟩⟩
          · rw [if_neg h0] at hfl
            have HFL := Lib.hid hfl
            have hne : ¬ y.toList = [] := fun h => h0 ((Hd.nil_size y).1 h)
            have hne2 : y.toList.isEmpty = false := by simpa using hne
            have c01 : wr.cell? ⟨lb, 0, none⟩ = some vx := cell_of_block HBK2.out 0
            have hln : ((fl (l0.take j)).length + 1) * 16 ≤ 140737488355328 := by omega
            have how := Kd.R_mono HOW.out (ok' := fun k => (Z2 k ∧ lo ≤ k) ∨ wr.heap.size ≤ k) (fun k hk => .inl hk)
            have HOW9 := Lib.hid how
            have HLT2 : Hid (lb < wr.heap.size) := Lib.hid (heap_lt HBK2.out)
            clear hfl hlx how hblk2
            go_wp2_with (first | (rw [HY.out]) | (at_builtin; go_must ((refine Kd.R_append Kd.string (w0 := w) w.heap.size rfl (.tmp 63) (.tmp 65) 31 9 (.string ⟨#[]⟩) 16 rfl Tryd.underlying31 PStrm.info9 rfl (by decide) (by omega) _ (fl (l0.take j)) y [.string y] (fun k => (Z2 k ∧ lo ≤ k) ∨ wr.heap.size ≤ k) (fun _ => False) rfl rfl rfl (fun _ hk => hk.elim) (fun k hk => .inr hk) HOW9.out HBA2.out.below HBA2.out.below.size hln ?_; intro v9 w9 ho9 hb9 hg9 hat9; obtain ⟨A9, n9, hv9, _, _⟩ := Kd.R_reads ho9; obtain ⟨k9, hk9l⟩ : ∃ k, (fl (l0.take j) ++ [y]).length = k := ⟨_, rfl⟩; rw [hk9l] at hv9; subst hv9; have HK9 := Lib.hid hk9l; clear hk9l; have hlbl : lb < wr.heap.size := HLT2.out; have hrow : ∀ k, vx.ownBlock = some k → lo ≤ k := (fun k hk => by rcases HOW.out.1 k hk with ⟨_, h⟩; exact h); have hk9 : w9.heap[lb]? = wr.heap[lb]? := hg9.block lb hlbl (fun e => by have h1 := hrow lb e.symm; have h2 := HLO.out; omega); have hblk9 := hk9.trans HBK2.out; have cz : w9.cell? ⟨lb, 0, none⟩ = some vx := cell_of_block hblk9 0; have hfz : w9.frozen? ⟨lb, 0, none⟩ = false := unfrozen_of_block hblk9 0))))
            have hr9 := Kd.R_mono (Kd.R_bound ho9) (ok' := fun k => more Z2 wr w9 k ∧ lo ≤ k) (fun k hk => by
              rcases hk.1 with h | h
              · exact ⟨.inl h.1, h.2⟩
              · exact ⟨.inr ⟨h, hk.2.2.1⟩, Nat.le_trans HSZ.out h⟩)
            have hs0 := HSZ.out
            have hs1 := HLO.out
            have hs2 := HSL.out
            have hs3 := HQS.out
            have hs4 := HQ.out
            have hbs9 := HBA2.out.step (Fr.of_grown hg9 (S := fun k => Z2 k ∧ lo ≤ k) (fun k hk => HOW.out.1 k hk)) (fun k _ h => h.1) (fun h => by have := h.2; omega) (fun h => by have := h.2; omega) (fun h => by have := h.2; omega) (fun k hk h => by have := h.2; omega)
            have hot9 := Kd.R_grown HOT2.out hg9 (fun k hk e => by have h1 := hrow k e.symm; have h2 := hk.2.1; omega)
            obtain ⟨w10, hw10⟩ : ∃ w10, w9.setCell ⟨lb, 0, none⟩ (.slice A9 k9 n9) = w10 := ⟨_, rfl⟩
            have hfs : Fr (fun k => k = lb) w9 w10 := by rw [← hw10]; exact Fr.setAt (Fr.refl _ _) rfl
            have hsz10 : w10.heap.size = w9.heap.size := by rw [← hw10]; simp [World.setCell]
            have hbs10 := hbs9.step hfs (fun k _ h => h ▸ hbs9.zl) (fun h => by omega) (fun h => by omega) (fun h => by omega) (fun k hk h => by omega)
            have hblk10 : w10.heap[lb]? = some (.cells (if 0 = 0 then #[.slice A9 k9 n9, vy] else #[vy, .slice A9 k9 n9]) 66 (0, 0)) := by
              have := block_setCell hblk9 (i := 0) (.slice A9 k9 n9)
              rw [← hw10, this]
              simp
            have hr10 := Rfr hr9 hfs (fun k hk _ h => by have := hk.2; omega)
            have hot10 := Kd.R_mono (Rfr hot9 hfs (fun k hk _ h => by have := hk.2.2; omega)) (ok' := fun k => more (more Z2 wr w9) w9 w10 k ∧ k < lo ∧ lb + 1 < k) (fun k hk => ⟨.inl (.inl hk.1), hk.2⟩)
            have HBS10 := Lib.hid hbs10
            have HBK10 := Lib.hid hblk10
            have HR10 : Hid (Kd.R Kd.string 9 w10 w.heap.size (fun k => more (more Z2 wr w9) w9 w10 k ∧ lo ≤ k) (.slice A9 k9 n9) (fl (l0.take (j + 1)))) := Lib.hid (by
              rw [HFL.out]
              exact Kd.R_mono hr10 (fun k hk => ⟨.inl hk.1, hk.2⟩))
            have HOT10 := Lib.hid hot10
            have HSZ10 : Hid (lo ≤ w10.heap.size) := Lib.hid (by have := hg9.size; omega)
            rw [hw10]
            clear hr9 hs0 hs1 hs2 hs3 hs4 hbs9 hot9 hfs hsz10 hbs10 hblk10 hr10 hot10 hw10 ho9 hb9 hg9 hat9 hlbl hrow hk9 hblk9 cz hfz
            go_wp2_with fail
            go_roundg (gk - 1)
            case measure => have := HGK.out; omega
            case rel => exact ⟨j + 1, _, .slice A9 k9 n9, vy, ⟨by omega, by go_num, by have := HGK.out; omega, HBS10.out, HBK10.out, HR10.out, HOT10.out, HSZ10.out, fun _ => HN2.out trivial⟩⟩
        · obtain rfl : j = M := by omega
          go_wp2_with fail
          obtain rfl : vy = .slice none 0 0 := HN2.out trivial
          go_roundg (1)
          case measure => omega
          case rel => exact ⟨Z2, vx, .slice none 0 0, ⟨HBA2.out, HBK2.out, .inr (.inl ⟨rfl, rfl, rfl, by rw [← HMT.out]; exact Kd.R_mono HOW.out (fun k hk => ⟨hk.1, by have := HLO.out; have := hk.2; omega⟩)⟩)⟩⟩
    · obtain ⟨M, hM⟩ : ∃ M : Nat, min l1.length 10 = M := ⟨_, rfl⟩
      have hMi : min (l1.length : Int) 10 = (M : Int) := by omega
      have hMc : M ≤ c1 := by omega
      have hMl : M ≤ l1.length := by omega
      have hM10 : M ≤ 10 := by omega
      have hMt : l1.take M = l1.take 10 := by
        rcases Nat.lt_or_ge l1.length 10 with h | h
        · rw [List.take_of_length_le (by omega), List.take_of_length_le (by omega)]
        · rw [show M = 10 by omega]
      have HMT := Lib.hid hMt
      clear hM hMt
      obtain ⟨lo, hlo⟩ : ∃ lo, wr.heap.size = lo := ⟨_, rfl⟩
      have hlb2 : lb + 1 < lo := by rw [← hlo]; exact heap_lt HBA.out.lit
      have HLO := Lib.hid hlb2
      have HOT : Hid (Kd.R Kd.string 9 wr w.heap.size (fun k => Z k ∧ k < lo ∧ lb + 1 < k) v0 (fl (l0.take 10))) := Lib.hid (Kd.R_mono (Kd.R_bound how) (fun k hk => ⟨hk.1.1, by have := hk.2.2.1; omega, hk.1.2⟩))
      clear how
      clear hblk
      go_wp2_with fail
      go_loopg [49] M (fun gk v wr => JRel w b sb q lb #[.slice A0 l0.length c0, .slice A1 l1.length c1] x1 x2 m' N' s' M lo 1 l1 (fl (l0.take 10)) gk v wr)
      case atStart => exact ⟨0, Z, .slice none 0 0, v0, ⟨Nat.zero_le _, rfl, rfl, HBA.out, HBK.out, Kd.R_nil _ _ _ _ _, HOT.out, by omega, fun h => absurd h (by decide)⟩⟩
      case round =>
        obtain ⟨j, Z2, vx, vy, hj, rfl, hg2, hbase2, hblk2, hown2, hoth2, hsz2, hnil2⟩ := hrel
        have HGK := Lib.hid hg2
        have HBA2 := Lib.hid hbase2
        have HBK2 := Lib.hid hblk2
        have HOW := Lib.hid hown2
        have HOT2 := Lib.hid hoth2
        have HSZ := Lib.hid hsz2
        have HN2 := Lib.hid hnil2
        clear hg2 hbase2 hown2 hoth2 hsz2 hnil2
        by_cases hlt : j < M
        · obtain ⟨_, _, hcl⟩ := Kd.reads_of_C (d := ByteArray.empty) HC1.out
          obtain ⟨ad, hA, hcl2⟩ := hcl (by omega)
          subst hA
          have hx := hcl2 j (by omega)
          obtain ⟨x, hxe⟩ : ∃ x, l1.getD j ByteArray.empty = x := ⟨_, rfl⟩
          rw [show l1.getD j _ = x from hxe] at hx
          have hx := pw_cell_below HBA2.out.below hx
          have htk : l1.take (j + 1) = l1.take j ++ [x] := by
            rw [List.take_succ_eq_append_getElem (by omega), ← hxe, List.getD_eq_getElem?_getD, List.getElem?_eq_getElem (by omega)]
            rfl
          have hfl := fl_snoc (l1.take j) x
          rw [← htk] at hfl
          obtain ⟨y6, hy6⟩ : ∃ y6 : Nat, min x.size 100 = y6 := ⟨_, rfl⟩
          have u1 : min (x.size : Int) 100 = (y6 : Int) := by omega
          have u2 : y6 ≤ x.size := by omega
          have hcb : cutB x = x.extract 0 y6 := by unfold cutB; rw [hy6]
          clear hcl hcl2 hxe hy6 htk
          obtain ⟨y, hy⟩ : ∃ y, x.extract 0 y6 = y := ⟨_, rfl⟩
          rw [hcb, hy] at hfl
          have HY := Lib.hid hy
          clear hy hcb
          have hlx : (fl (l1.take j)).length ≤ 10 := Nat.le_trans (fl_len _) (by rw [List.length_take]; omega)
          by_cases h0 : y.size = 0
          · rw [if_pos h0, List.append_nil] at hfl
            have HFL := Lib.hid hfl
            have hne : y.toList = [] := (Hd.nil_size y).2 h0
            clear hfl hlx
            go_wp2_with (rw [HY.out])
            go_roundg (gk - 1)
            case measure => have := HGK.out; omega
            case rel => exact ⟨j + 1, Z2, vx, vy, ⟨by omega, by go_num, by have := HGK.out; omega, HBA2.out, HBK2.out, by rw [HFL.out]; exact HOW.out, HOT2.out, HSZ.out, fun h => absurd h (by decide)⟩⟩
          · rw [if_neg h0] at hfl
            have HFL := Lib.hid hfl
            have hne : ¬ y.toList = [] := fun h => h0 ((Hd.nil_size y).1 h)
            have hne2 : y.toList.isEmpty = false := by simpa using hne
            have c11 : wr.cell? ⟨lb, 1, none⟩ = some vx := cell_of_block HBK2.out 1
            have hln : ((fl (l1.take j)).length + 1) * 16 ≤ 140737488355328 := by omega
            have how := Kd.R_mono HOW.out (ok' := fun k => (Z2 k ∧ lo ≤ k) ∨ wr.heap.size ≤ k) (fun k hk => .inl hk)
            have HOW9 := Lib.hid how
            have HLT2 : Hid (lb < wr.heap.size) := Lib.hid (heap_lt HBK2.out)
            clear hfl hlx how hblk2
            go_wp2_with (first | (rw [HY.out]) | (at_builtin; go_must ((refine Kd.R_append Kd.string (w0 := w) w.heap.size rfl (.tmp 63) (.tmp 65) 31 9 (.string ⟨#[]⟩) 16 rfl Tryd.underlying31 PStrm.info9 rfl (by decide) (by omega) _ (fl (l1.take j)) y [.string y] (fun k => (Z2 k ∧ lo ≤ k) ∨ wr.heap.size ≤ k) (fun _ => False) rfl rfl rfl (fun _ hk => hk.elim) (fun k hk => .inr hk) HOW9.out HBA2.out.below HBA2.out.below.size hln ?_; intro v9 w9 ho9 hb9 hg9 hat9; obtain ⟨A9, n9, hv9, _, _⟩ := Kd.R_reads ho9; obtain ⟨k9, hk9l⟩ : ∃ k, (fl (l1.take j) ++ [y]).length = k := ⟨_, rfl⟩; rw [hk9l] at hv9; subst hv9; have HK9 := Lib.hid hk9l; clear hk9l; have hlbl : lb < wr.heap.size := HLT2.out; have hrow : ∀ k, vx.ownBlock = some k → lo ≤ k := (fun k hk => by rcases HOW.out.1 k hk with ⟨_, h⟩; exact h); have hk9 : w9.heap[lb]? = wr.heap[lb]? := hg9.block lb hlbl (fun e => by have h1 := hrow lb e.symm; have h2 := HLO.out; omega); have hblk9 := hk9.trans HBK2.out; have cz : w9.cell? ⟨lb, 1, none⟩ = some vx := cell_of_block hblk9 1; have hfz : w9.frozen? ⟨lb, 1, none⟩ = false := unfrozen_of_block hblk9 1))))
            have hr9 := Kd.R_mono (Kd.R_bound ho9) (ok' := fun k => more Z2 wr w9 k ∧ lo ≤ k) (fun k hk => by
              rcases hk.1 with h | h
              · exact ⟨.inl h.1, h.2⟩
              · exact ⟨.inr ⟨h, hk.2.2.1⟩, Nat.le_trans HSZ.out h⟩)
            have hs0 := HSZ.out
            have hs1 := HLO.out
            have hs2 := HSL.out
            have hs3 := HQS.out
            have hs4 := HQ.out
            have hbs9 := HBA2.out.step (Fr.of_grown hg9 (S := fun k => Z2 k ∧ lo ≤ k) (fun k hk => HOW.out.1 k hk)) (fun k _ h => h.1) (fun h => by have := h.2; omega) (fun h => by have := h.2; omega) (fun h => by have := h.2; omega) (fun k hk h => by have := h.2; omega)
            have hot9 := Kd.R_grown HOT2.out hg9 (fun k hk e => by have h1 := hrow k e.symm; have h2 := hk.2.1; omega)
            obtain ⟨w10, hw10⟩ : ∃ w10, w9.setCell ⟨lb, 1, none⟩ (.slice A9 k9 n9) = w10 := ⟨_, rfl⟩
            have hfs : Fr (fun k => k = lb) w9 w10 := by rw [← hw10]; exact Fr.setAt (Fr.refl _ _) rfl
            have hsz10 : w10.heap.size = w9.heap.size := by rw [← hw10]; simp [World.setCell]
            have hbs10 := hbs9.step hfs (fun k _ h => h ▸ hbs9.zl) (fun h => by omega) (fun h => by omega) (fun h => by omega) (fun k hk h => by omega)
            have hblk10 : w10.heap[lb]? = some (.cells (if 1 = 0 then #[.slice A9 k9 n9, vy] else #[vy, .slice A9 k9 n9]) 66 (0, 0)) := by
              have := block_setCell hblk9 (i := 1) (.slice A9 k9 n9)
              rw [← hw10, this]
              simp
            have hr10 := Rfr hr9 hfs (fun k hk _ h => by have := hk.2; omega)
            have hot10 := Kd.R_mono (Rfr hot9 hfs (fun k hk _ h => by have := hk.2.2; omega)) (ok' := fun k => more (more Z2 wr w9) w9 w10 k ∧ k < lo ∧ lb + 1 < k) (fun k hk => ⟨.inl (.inl hk.1), hk.2⟩)
            have HBS10 := Lib.hid hbs10
            have HBK10 := Lib.hid hblk10
            have HR10 : Hid (Kd.R Kd.string 9 w10 w.heap.size (fun k => more (more Z2 wr w9) w9 w10 k ∧ lo ≤ k) (.slice A9 k9 n9) (fl (l1.take (j + 1)))) := Lib.hid (by
              rw [HFL.out]
              exact Kd.R_mono hr10 (fun k hk => ⟨.inl hk.1, hk.2⟩))
            have HOT10 := Lib.hid hot10
            have HSZ10 : Hid (lo ≤ w10.heap.size) := Lib.hid (by have := hg9.size; omega)
            rw [hw10]
            clear hr9 hs0 hs1 hs2 hs3 hs4 hbs9 hot9 hfs hsz10 hbs10 hblk10 hr10 hot10 hw10 ho9 hb9 hg9 hat9 hlbl hrow hk9 hblk9 cz hfz
            go_wp2_with fail
            go_roundg (gk - 1)
            case measure => have := HGK.out; omega
            case rel => exact ⟨j + 1, _, .slice A9 k9 n9, vy, ⟨by omega, by go_num, by have := HGK.out; omega, HBS10.out, HBK10.out, HR10.out, HOT10.out, HSZ10.out, fun h => absurd h (by decide)⟩⟩
        · obtain rfl : j = M := by omega
          go_wp2_with fail
          go_roundg (0)
          case measure => omega
          case rel => exact ⟨Z2, vy, vx, ⟨HBA2.out, HBK2.out, .inr (.inr ⟨rfl, rfl, Kd.R_mono HOT2.out (fun k hk => ⟨hk.1, hk.2.2⟩), by rw [← HMT.out]; exact Kd.R_mono HOW.out (fun k hk => ⟨hk.1, by have := HLO.out; have := hk.2; omega⟩)⟩)⟩⟩
    · obtain ⟨F0, hF0⟩ : ∃ F0, fl (l0.take 10) = F0 := ⟨_, rfl⟩
      obtain ⟨F1, hF1⟩ : ∃ F1, fl (l1.take 10) = F1 := ⟨_, rfl⟩
      have f0ok : (∀ b ∈ F0, 1 ≤ b.size ∧ b.size ≤ 100) ∧ F0.length ≤ 10 := by rw [← hF0]; exact ⟨fl_ok, Nat.le_trans (fl_len _) (by rw [List.length_take]; omega)⟩
      have f1ok : (∀ b ∈ F1, 1 ≤ b.size ∧ b.size ≤ 100) ∧ F1.length ≤ 10 := by rw [← hF1]; exact ⟨fl_ok, Nat.le_trans (fl_len _) (by rw [List.length_take]; omega)⟩
      rw [hF0] at how
      rw [hF1] at how2
      have HF0 := Lib.hid f0ok
      have HF1 := Lib.hid f1ok
      obtain ⟨A5, n5, hv5, hc5, _⟩ := Kd.R_reads how
      subst hv5
      obtain ⟨A6, n6, hv6, hc6, _⟩ := Kd.R_reads how2
      subst hv6
      have HR0 := Lib.hid how
      have HR1 := Lib.hid how2
      have d0 : wr.cell? ⟨lb, 0, none⟩ = some (.slice A5 F0.length n5) := cell_of_block HBK.out 0
      have d1 : wr.cell? ⟨lb, 1, none⟩ = some (.slice A6 F1.length n6) := cell_of_block HBK.out 1
      have hres := res_all HBA.out.dks 0 (d := ⟨b, m', N'⟩) rfl HBA.out.at_ HBA.out.zs HES.out (by rw [HEH.out]; omega) HG.out.holds.hlf (by show N' < 900000; have := HN.out; omega) A5 n5 F0 (Kd.R_reads' how).2.2 hc5 (by have := f0ok.2; omega)
      have hcal := res_calm (l := F0) HG.out.live HG.out.calm HG.out.rg HG.out.h (by rw [HEH.out, HL3.out]; omega) (by rw [HEH.out]; omega) HG.out.holds.genOf HG.out.holds.halfOf HG.out.sound (fun b hb => ⟨(f0ok.1 b hb).1, by have := (f0ok.1 b hb).2; omega⟩) (by rw [HEH.out]; have h1 := data_small F0 (fun b hb => (f0ok.1 b hb).2); have h2 := f0ok.2; omega) (by rw [HEG.out]; omega)
      have HRES := Lib.hid hres
      have HCAL := Lib.hid hcal
      clear hF0 hF1 f0ok f1ok how how2 hblk q0 q1 hres hcal
      go_wp2_with fail
      refine HRES.out.mono ?_
      rintro e w6 ⟨rfl, hS6, ⟨N6, hN6, hD6⟩, hF6⟩
      obtain ⟨he6, hg6, hb6, hh6, L6, hl6, hG6⟩ := HCAL.out
      obtain ⟨⟨E6, s6, m6⟩, hr6⟩ : ∃ r, resR m' s' F0 = r := ⟨_, rfl⟩
      rw [hr6] at hS6 hD6 he6 hg6 hb6 hh6 hG6 ⊢
      simp only at hS6 hD6 he6 hg6 hb6 hh6 hG6 ⊢
      subst he6
      have HS6 := Lib.hid hS6
      have HD6 := Lib.hid hD6
      have HG6 := Lib.hid hG6
      have HL6 := Lib.hid (hl6.trans HL3.out)
      have HES6 : Hid (s6.b = b) := Lib.hid (hb6.trans HES.out)
      have HEH6 : Hid (s6.h = 31) := Lib.hid (hh6.trans HEH.out)
      have HEG6 : Hid (s6.g = 2) := Lib.hid (by rw [hg6, HEG.out])
      have hz6 : ∀ k, ¬ (¬ Z k ∨ k = sb) → Z k := fun k h => Classical.byContradiction fun c => h (.inl c)
      have hnz : ∀ k, (Z k ∧ k ≠ sb) → ¬ (¬ Z k ∨ k = sb) := fun k h c => by
        rcases c with c | c
        · exact c h.1
        · exact h.2 c
      have HB6 : Hid (Below w.heap.size w w6) := Lib.hid (HBA.out.below.trans (hF6.below HBA.out.below.size (fun k hk => hnz k ⟨HBA.out.z1 k (by have := HQ.out; omega), by have := HQ.out; have := HQS.out; omega⟩)))
      have HBX6 : Hid (w6.heap[q]? = some (.cells #[.int .i64 x1, .int .u64 x2] 64 (0, 0))) := Lib.hid (hF6.at_ HBA.out.box (hnz q ⟨HBA.out.z1 q (Nat.le_refl _), by have := HQS.out; omega⟩))
      have HBK6 := Lib.hid (hF6.at_ HBK.out (hnz lb ⟨HBA.out.zl, by have := HSL.out; omega⟩))
      have HR06 := Lib.hid (Rfr HR0.out hF6 (fun k hk _ => hnz k ⟨hk.1, by have := HSL.out; have := hk.2; omega⟩))
      have HR16 := Lib.hid (Rfr HR1.out hF6 (fun k hk _ => hnz k ⟨hk.1, by have := HSL.out; have := hk.2; omega⟩))
      have HN6 : Hid (N6 ≤ 2000) := Lib.hid (by have : N6 ≤ N' + 1000 := hN6; have := HN.out; omega)
      have HZ : Hid ((∀ k, k ≤ q → Z k) ∧ Z sb ∧ Z lb) := Lib.hid ⟨HBA.out.z1, HBA.out.zs, HBA.out.zl⟩
      clear hS6 hD6 hN6 hF6 hg6 hb6 hh6 hl6 hG6 hr6 hz6 hnz HRES HCAL d0 d1 HR0 HR1 HBA HBK HG
      have d0 : w6.cell? ⟨q, 0, none⟩ = some (.int .i64 x1) := cell_of_block HBX6.out 0
      have d1 : w6.cell? ⟨q, 1, none⟩ = some (.int .u64 x2) := cell_of_block HBX6.out 1
      go_wp2_with fail
      refine (cut_lit_z HD6.out 0 (d := ⟨b, m6, N6⟩) rfl 0 x1 hx1 62 1 [x2] (fun x hx => by rw [List.mem_singleton.1 hx]; exact hx2) (by simp)).mono ?_
      rintro e w7 ⟨rfl, hD7, hF7⟩
      have hlv7 := cut_live HG6.out.live 0 x1 [x2]
      obtain ⟨m7, hm7⟩ : ∃ m7, cutM m6 0 x1 [x2] = m7 := ⟨_, rfl⟩
      simp only [hm7] at hD7 hlv7
      have HD7 := Lib.hid hD7
      have HLV7 := Lib.hid hlv7
      have HB7 : Hid (Below w.heap.size w w7) := Lib.hid (HB6.out.trans (hF7.below HB6.out.size (fun k hk h => h (HZ.out.1 k (by have := HQ.out; omega)))))
      have HBX7 := Lib.hid (hF7.at_ HBX6.out (fun h => h (HZ.out.1 q (Nat.le_refl _))))
      have HBK7 := Lib.hid (hF7.at_ HBK6.out (fun h => h HZ.out.2.2))
      have HS7 := Lib.hid (HS6.out.fr hF7 (fun h => h HZ.out.2.1))
      have HR07 := Lib.hid (Rfr HR06.out hF7 (fun k hk _ h => h hk.1))
      have HR17 := Lib.hid (Rfr HR16.out hF7 (fun k hk _ h => h hk.1))
      have hfi1 : (dataOf sumN F1).length < 55 * 31 := by have h1 := data_small F1 (fun b hb => (HF1.out.1 b hb).2); have h2 := HF1.out.2; omega
      have hfi0 : (dataOf sumN F0).length < 55 * 31 := by have h1 := data_small F0 (fun b hb => (HF0.out.1 b hb).2); have h2 := HF0.out.2; omega
      have hres := res_all HD7.out 0 (d := ⟨b, m7, N6⟩) rfl HS7.out HZ.out.2.1 HES6.out (by rw [HEH6.out]; omega) HG6.out.holds.hlf (by show N6 < 900000; have := HN6.out; omega) A6 n6 F1 (Kd.R_reads' HR17.out).2.2 hc6 (by have := HF1.out.2; omega)
      have hcal := res_any_out (l := F1) HLV7.out HG6.out.rg HG6.out.h (by rw [HEH6.out, HL6.out]; omega) (by rw [HEH6.out]; omega) HG6.out.holds.genOf HG6.out.holds.halfOf HG6.out.sound (fun b hb => ⟨(HF1.out.1 b hb).1, by have := (HF1.out.1 b hb).2; omega⟩) (by rw [HEH6.out]; exact hfi1) (by rw [HEG6.out]; omega)
      have hrec6 : recOf sumN L6 s6.h = F0 := by rw [HEH6.out, show (31 : Nat) = sizeH L6.length by rw [HL6.out]; decide]; exact (good_rec HG6.out).1
      rw [hrec6, HEH6.out, HEG6.out] at hcal
      have HRES := Lib.hid hres
      have HCAL := Lib.hid hcal
      have HFI1 := Lib.hid hfi1
      have HFI0 := Lib.hid hfi0
      have d2 : w7.cell? ⟨lb, 1, none⟩ = some (.slice A6 F1.length n6) := cell_of_block HBK7.out 1
      clear hD7 hF7 hlv7 hm7 hfi1 hfi0 hres hcal hrec6 d0 d1 HD6 HS6 HB6 HBX6 HBK6 HR06 HR16
      go_wp2_with fail
      refine HRES.out.mono ?_
      rintro e w8 ⟨rfl, hS8, ⟨N8, hN8, hD8⟩, hF8⟩
      have hnz : ∀ k, (Z k ∧ k ≠ sb) → ¬ (¬ Z k ∨ k = sb) := fun k h c => by
        rcases c with c | c
        · exact c h.1
        · exact h.2 c
      have hkz : ∀ k, k ≤ q → (Z k ∧ k ≠ sb) := fun k hk => ⟨HZ.out.1 k hk, by have := HQS.out; omega⟩
      have HB8 : Hid (Below w.heap.size w w8) := Lib.hid (HB7.out.trans (hF8.below HB7.out.size (fun k hk => hnz k (hkz k (by have := HQ.out; omega)))))
      have HBX8 := Lib.hid (hF8.at_ HBX7.out (hnz q (hkz q (Nat.le_refl _))))
      have HBK8 := Lib.hid (hF8.at_ HBK7.out (hnz lb ⟨HZ.out.2.2, by have := HSL.out; omega⟩))
      have HR08 := Lib.hid (Rfr HR07.out hF8 (fun k hk _ => hnz k ⟨hk.1, by have := HSL.out; have := hk.2; omega⟩))
      have HR18 := Lib.hid (Rfr HR17.out hF8 (fun k hk _ => hnz k ⟨hk.1, by have := HSL.out; have := hk.2; omega⟩))
      have HN8 : Hid (N8 ≤ 3000) := Lib.hid (by have : N8 ≤ N6 + 1000 := hN8; have := HN6.out; omega)
      have hcs : ∃ (E : Int) (L8 lst : List ByteArray), (resR m7 s6 F1).1 = E ∧ L8.length = 63 ∧ (crashM [x2] (resR m7 s6 F1).2.2).tleft = 0 ∧ Live (crashM [x2] (resR m7 s6 F1).2.2) 0 L8 [] ∧ recOf sumN L8 31 = lst ∧ genOf L8 31 ≤ 3 ∧ ((E = 0 ∧ (resR m7 s6 F1).2.2.off = false ∧ lst = F1) ∨ (E = 11 ∧ (resR m7 s6 F1).2.2.off = true ∧ lst = F1) ∨ (E = 11 ∧ (resR m7 s6 F1).2.2.off = true ∧ lst = F0)) := by
        rcases HCAL.out with ⟨h1, h2, _, h4, L8, hl8, hs8⟩ | ⟨h1, L8, hd8, hl8, hg8, hr8⟩
        · have hl63 : L8.length = 63 := hl8.trans HL6.out
          have hcl := crash_live hs8.live [x2]
          have hli := hs8.lie
          have e31 : sizeH L8.length = 31 := by rw [hl63]; decide
          refine ⟨0, L8, F1, h1, hl63, hcl.2, hcl.1, by rw [← e31]; exact hli.recs, ?_, .inl ⟨rfl, hs8.live.on, rfl⟩⟩
          have := hli.gen
          rw [e31, h2] at this
          omega
        · have hl63 : L8.length = 63 := hl8.trans HL6.out
          have hcl := crash_dead hd8 [x2]
          rcases hr8 with hr8 | hr8
          · exact ⟨11, L8, F0, h1, hl63, hcl.2, hcl.1, hr8, by omega, .inr (.inr ⟨rfl, hd8.off, rfl⟩)⟩
          · exact ⟨11, L8, F1, h1, hl63, hcl.2, hcl.1, hr8, by omega, .inr (.inl ⟨rfl, hd8.off, rfl⟩)⟩
      obtain ⟨E8, L8, lst, hE8, hl8, ht8, hlv8, hrc8, hgn8, hcs8⟩ := hcs
      obtain ⟨⟨E9, s8, m8⟩, hr8⟩ : ∃ r, resR m7 s6 F1 = r := ⟨_, rfl⟩
      rw [hr8] at hS8 hD8 hE8 ht8 hlv8 hcs8 ⊢
      simp only at hS8 hD8 hE8 ht8 hlv8 hcs8 ⊢
      subst hE8
      have HD8 := Lib.hid hD8
      have HL8 := Lib.hid hl8
      have HT8 := Lib.hid ht8
      have HLV8 := Lib.hid hlv8
      have HRC8 := Lib.hid hrc8
      have HGN8 := Lib.hid hgn8
      have d0 : w8.cell? ⟨q, 1, none⟩ = some (.int .u64 x2) := cell_of_block HBX8.out 1
      clear hS8 hN8 hD8 hF8 hl8 ht8 hlv8 hrc8 hgn8 hr8 hnz hkz HRES HCAL d2 HD7 HLV7 HB7 HBX7 HBK7 HS7 HR07 HR17 HG6
      rcases hcs8 with ⟨rfl, ho8, hl⟩ | ⟨rfl, ho8, hl⟩ | ⟨rfl, ho8, hl⟩
      all_goals
        go_wp2_with fail
        refine (off_z HD8.out 0 (d := ⟨b, m8, N8⟩) rfl).mono ?_
        rintro e w9 ⟨rfl, hb9⟩
        simp only [ho8]
        have HB9 := Lib.hid (HB8.out.trans (hb9.mono HB8.out.size))
        have HD9 := Lib.hid (HD8.out.keep hb9)
        have HBK9 := Lib.hid ((hb9.block _ (heap_lt HBK8.out)).trans HBK8.out)
        have HR09 := Lib.hid (Kd.R_below HR08.out hb9)
        have HR19 := Lib.hid (Kd.R_below HR18.out hb9)
        have HLST := Lib.hid hl
        have d1 : w9.cell? ⟨q, 1, none⟩ = some (.int .u64 x2) := cell_of_block ((hb9.block _ (heap_lt HBX8.out)).trans HBX8.out) 1
        have hN8 : N8 ≤ 3000 := HN8.out
        clear hb9 d0 ho8 hl
        go_wp2_with fail
        refine (crash_lit_z HD9.out 0 (d := ⟨b, m8, N8⟩) rfl (by show N8 ≤ 1000000; omega) 62 1 [x2] (fun x hx => by rw [List.mem_singleton.1 hx]; exact hx2) (by simp)).mono ?_
        rintro e w10 ⟨rfl, hD10, hF10⟩
        have HB10 : Hid (Below w.heap.size w w10) := Lib.hid (HB9.out.trans (hF10.below HB9.out.size (fun k hk h => h (HZ.out.1 k (by have := HQ.out; omega)))))
        have HBK10 := Lib.hid (hF10.at_ HBK9.out (fun h => h HZ.out.2.2))
        have HR010 := Lib.hid (Rfr HR09.out hF10 (fun k hk _ h => h hk.1))
        have HR110 := Lib.hid (Rfr HR19.out hF10 (fun k hk _ h => h hk.1))
        have e31 : sizeH L8.length = 31 := by rw [HL8.out]; decide
        have hfl : (dataOf sumN lst).length < 55 * 31 := by
          have h1 := HLST.out
          first
          | (rw [h1]; exact HFI1.out)
          | (rw [h1]; exact HFI0.out)
        have ho := opened hD10 0 (d := ⟨b, crashM [x2] m8, N8⟩) rfl HLV8.out HT8.out (by rw [HL8.out]; omega) (by rw [e31]; omega) (by show N8 < 900000; omega) (by rw [e31, HRC8.out]; exact hfl) (by rw [e31]; have := HGN8.out; omega)
        rw [e31, HRC8.out] at ho
        have HO := Lib.hid ho
        have hlen : lst.length ≤ 10 := by
          have h1 := HLST.out
          have h2 := HF0.out.2
          have h3 := HF1.out.2
          rw [h1]
          assumption
        clear hD10 hF10 e31 hfl ho d1
        go_wp2_with fail
        refine HO.out.mono ?_
        rintro e w11 ⟨sb9, A9, c9, Z9, m9, s9, L9, N9, rfl, _, _, _, _, _, _, _, _, hR9, _, _, hF9, _, _⟩
        have HR9 := Lib.hid hR9
        have HB11 : Hid (Below w.heap.size w w11) := Lib.hid (HB10.out.trans (hF9.below HB10.out.size (fun k hk h => h (HZ.out.1 k (by have := HQ.out; omega)))))
        have HBK11 := Lib.hid (hF9.at_ HBK10.out (fun h => h HZ.out.2.2))
        have HR011 := Lib.hid (Rfr HR010.out hF9 (fun k hk _ h => h hk.1))
        have HR111 := Lib.hid (Rfr HR110.out hF9 (fun k hk _ h => h hk.1))
        clear hR9 hF9 HO
        have d1 : w11.cell? ⟨lb, 1, none⟩ = some (.slice A6 F1.length n6) := cell_of_block HBK11.out 1
        have hqf : precinctlaw08_equal.f (lst.length + 1) lst F1 = some (decide (lst = F1)) := equal_f lst F1 (by omega)
        have heq := precinctlaw08_equal.calls (lst.length + 1) A9 c9 lst A6 n6 F1 _ w11 (Kd.R_reads' HR9.out).2.2 (Kd.R_reads' HR9.out).2.1 (Kd.R_reads' HR111.out).2.2 hc6 hqf
        have HEQ := Lib.hid heq
        clear hqf heq
        go_wp2_with fail
        refine HEQ.out.mono ?_
        rintro e w12 ⟨rfl, hd12⟩
        have hb12 := Drawn0.below hd12
        have HB12 := Lib.hid (HB11.out.trans (hb12.mono HB11.out.size))
        by_cases hll : lst = F1
        · have hdt : decide (lst = F1) = true := by simpa using hll
          rw [hdt]
          clear hdt hb12 hd12
          go_wp2_with fail
          exact bodyPost_ret (v := .bool true) (by simp [results, Tryd.results11, go_sem]) rfl ⟨rfl, HB12.out⟩
        · first
          | exact absurd HLST.out hll
          | (have hdt : decide (lst = F1) = false := by simpa using hll
             rw [hdt]
             have HBK12 := Lib.hid ((hb12.block _ (heap_lt HBK11.out)).trans HBK11.out)
             have HR012 := Lib.hid (Kd.R_below HR011.out hb12)
             have HR92 := Lib.hid (Kd.R_below HR9.out hb12)
             have d2 : w12.cell? ⟨lb, 0, none⟩ = some (.slice A5 F0.length n5) := cell_of_block HBK12.out 0
             have hqf : precinctlaw08_equal.f (lst.length + 1) lst F0 = some true := by rw [equal_f lst F0 (by omega), HLST.out]; simp
             have heq := precinctlaw08_equal.calls (lst.length + 1) A9 c9 lst A5 n5 F0 _ w12 (Kd.R_reads' HR92.out).2.2 (Kd.R_reads' HR92.out).2.1 (Kd.R_reads' HR012.out).2.2 hc5 hqf
             have HEQ2 := Lib.hid heq
             clear hqf heq hdt hb12 hd12 d1
             go_wp2_with fail
             refine HEQ2.out.mono ?_
             rintro e w13 ⟨rfl, hd13⟩
             have HB13 := Lib.hid (HB12.out.trans ((Drawn0.below hd13).mono HB12.out.size))
             clear hd13
             go_wp2_with fail
             exact bodyPost_ret (v := .bool true) (by simp [results, Tryd.results11, go_sem]) rfl ⟨rfl, HB13.out⟩)

end Go.Proofs.YtekpbpcfeopilaaDoor.Rt
