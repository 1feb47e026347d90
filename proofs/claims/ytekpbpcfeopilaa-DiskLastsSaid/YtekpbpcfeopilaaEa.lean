/- DiskLays: the plain law. -/
import Derived.Test.YtekpbpcfeopilaaDw
namespace Go.Proofs.Ytekpbpcfeopilaa.Ea
open Go Go.Proofs.Ytekpbpcfeopilaa.Dm Go.Proofs.Ytekpbpcfeopilaa.Dr Go.Proofs.Ytekpbpcfeopilaa.Da Go.Proofs.Ytekpbpcfeopilaa.Df Go.Proofs.Ytekpbpcfeopilaa.Dg Go.Proofs.Ytekpbpcfeopilaa.Dh Go.Proofs.Ytekpbpcfeopilaa.Di Go.Proofs.Ytekpbpcfeopilaa.Dj Go.Proofs.Ytekpbpcfeopilaa.Dk Go.Proofs.Ytekpbpcfeopilaa.Dl Go.Proofs.Ytekpbpcfeopilaa.Dn Go.Proofs.Ytekpbpcfeopilaa.Dp Go.Proofs.Ytekpbpcfeopilaa.Dq Go.Proofs.Ytekpbpcfeopilaa.Ds Go.Proofs.Ytekpbpcfeopilaa.Dt Go.Proofs.Ytekpbpcfeopilaa.Du Go.Proofs.YtekpbpcfeopilaaW.PrintWords

/-- The power is on, nothing was asked for; how many sectors the regions have. -/
structure Shape (szs : List Nat) (m : MDisk) : Prop where
  on : m.off = false
  left : m.tleft = 0
  sizes : m.regs.map (·.lasts.length) = szs
theorem Shape.len {szs : List Nat} {m : MDisk} (h : Shape szs m) : m.regs.length = szs.length := by rw [← h.sizes]; simp
theorem Shape.at_ {szs : List Nat} {m : MDisk} (h : Shape szs m) {k N : Nat} (hk : szs[k]? = some N) : ∃ r, m.regs[k]? = some r ∧ r.lasts.length = N := by
  rw [← h.sizes] at hk
  simpa using hk
theorem shape_new (l : List Int) (h : l.length ≤ 8) : Shape (l.map clampN) (newM l) := by
  refine ⟨rfl, rfl, ?_⟩
  simp [newM, List.take_of_length_le h, newR]
theorem fails_no {m : MDisk} {n : Int} (h : m.tleft = 0) : failsM m n = false := by simp [failsM, h]
theorem tick_no {m : MDisk} {n : Int} (h : m.tleft = 0) : tickM m n = m := by simp [tickM, h]
theorem enq_sizes (m : MDisk) (k : Nat) (p : Int × ByteArray) : (enqM m k p).regs.map (·.lasts.length) = m.regs.map (·.lasts.length) := by
  apply List.ext_getElem?
  intro i
  simp only [enqM, List.getElem?_map, List.getElem?_modify]
  cases m.regs[i]? with
  | none => rfl
  | some r => simp only [Option.map_some]; split <;> rfl
theorem write_no {m : MDisk} {n s : Int} {d : ByteArray} (h : m.tleft = 0) : writeM m n s d = if findM m n s = 0 ∧ d.size = 64 then enqM m n.toNat (s, d) else m := by
  unfold writeM
  split
  · have h2 : (enqM m n.toNat (s, d)).tleft = 0 := h
    simp only [fails_no h2, tick_no h2]
    rfl
  · rfl
theorem shape_write {szs : List Nat} {m : MDisk} (h : Shape szs m) (n s : Int) (d : ByteArray) : Shape szs (writeM m n s d) := by
  rw [write_no h.left]
  split
  · exact ⟨h.on, h.left, by rw [enq_sizes]; exact h.sizes⟩
  · exact h
theorem shape_find {szs : List Nat} {m : MDisk} (h : Shape szs m) {k N : Nat} (hk : szs[k]? = some N) (s : Int) : findM m (k : Int) s = if 0 ≤ s ∧ s < N then 0 else 10 := by
  obtain ⟨r, hr, hN⟩ := h.at_ hk
  unfold findM
  rw [if_neg (by simp [h.on]), sectorsM_nat, hr]
  have : (0 : Int) ≤ (k : Int) := by omega
  simp [hN]
theorem shape_set {szs : List Nat} {m : MDisk} (h : Shape szs m) {k N : Nat} (hk : szs[k]? = some N) {r : MReg} (hr : r.lasts.length = N) : Shape szs (setM m k r) := by
  refine ⟨h.on, h.left, ?_⟩
  rw [← h.sizes] at hk ⊢
  apply List.ext_getElem?
  intro i
  simp only [setM, List.getElem?_map, List.getElem?_set]
  by_cases hik : k = i
  · subst hik
    rw [if_pos rfl]
    rw [List.getElem?_map] at hk
    cases hm : m.regs[k]? with
    | none => rw [hm] at hk; cases hk
    | some r0 =>
      have hl : k < m.regs.length := (List.getElem?_eq_some_iff.1 hm).1
      rw [hm] at hk
      simp only [Option.map_some, Option.some.injEq] at hk
      rw [if_pos hl]
      simp [hr, hk]
  · rw [if_neg hik]

theorem lay_at {szs : List Nat} {m : MDisk} (h : Shape szs m) {k N : Nat} (hk : szs[k]? = some N) (d : ByteArray) : layM m (k : Int) d = setM m k ⟨layL N d, []⟩ := by
  obtain ⟨r, hr, hN⟩ := h.at_ hk
  have hl : k < m.regs.length := (List.getElem?_eq_some_iff.1 hr).1
  unfold layM
  rw [if_pos ⟨by omega, by omega⟩, Int.toNat_natCast]
  have e : m.regs.getD k ⟨[], []⟩ = r := by simp [hr]
  rw [e, hN]
theorem layL_length (N : Nat) (d : ByteArray) : (layL N d).length = N := by simp [layL]
theorem shape_lay {szs : List Nat} {m : MDisk} (h : Shape szs m) {k N : Nat} (hk : szs[k]? = some N) (d : ByteArray) : Shape szs (layM m (k : Int) d) := by
  rw [lay_at h hk]
  exact shape_set h hk (layL_length N d)

theorem read_set {szs : List Nat} {m : MDisk} (h : Shape szs m) {k N : Nat} (hk : szs[k]? = some N) {l : List ByteArray} (hl : l.length = N) (j : Nat) (hj : j < N) : readM (setM m k ⟨l, []⟩) (k : Int) (j : Int) = l.getD j ByteArray.empty := by
  have hs := shape_set (r := ⟨l, []⟩) h hk hl
  have hf := shape_find hs hk (j : Int)
  rw [if_pos ⟨by omega, by omega⟩] at hf
  unfold readM
  rw [if_pos hf, Int.toNat_natCast, Int.toNat_natCast]
  have hlt : k < m.regs.length := by rw [h.len]; exact (List.getElem?_eq_some_iff.1 hk).1
  have e : (setM m k ⟨l, []⟩).regs[k]? = some ⟨l, []⟩ := by simp [setM, hlt]
  rw [e]
  rfl

theorem image_crash {szs : List Nat} {m : MDisk} (h : Shape szs m) {k N : Nat} (hk : szs[k]? = some N) {l : List ByteArray} (keep : List Int) : imageM (crashM keep (setM m k ⟨l, []⟩)) (k : Int) = catB l := by
  have hlt : k < m.regs.length := by rw [h.len]; exact (List.getElem?_eq_some_iff.1 hk).1
  have e : (crashM keep (setM m k ⟨l, []⟩)).regs[k]? = some ⟨l, []⟩ := by
    unfold crashM
    have ho : (setM m k ⟨l, []⟩).off = false := h.on
    rw [if_neg (by simp [ho])]
    show (loseRs keep (setM m k ⟨l, []⟩).regs)[k]? = _
    simp [loseRs, setM, hlt, lastR, putQ]
  unfold imageM
  rw [if_pos (by omega), Int.toNat_natCast, e]
  rfl

/-! The bytes. -/
theorem secL_eq (l : List UInt8) (N i : Nat) (h : i < N) : secL l i = ((l ++ List.replicate (64 * N) 0).drop (64 * i)).take 64 := by
  unfold secL
  have hN : 64 * i + 64 ≤ 64 * N := by omega
  apply List.ext_getElem?
  intro j
  simp only [List.getElem?_append, List.getElem?_take, List.getElem?_drop, List.getElem?_replicate, List.length_take, List.length_drop]
  by_cases hj : j < 64
  · by_cases h2 : 64 * i + j < l.length
    · have h3 : j < min 64 (l.length - 64 * i) := by omega
      simp [hj, h2, h3]
    · have h3 : ¬ j < min 64 (l.length - 64 * i) := by omega
      simp only [hj, h2, h3, if_false, if_true]
      rw [if_pos (by omega), if_pos (by omega)]
  · have h3 : ¬ j < min 64 (l.length - 64 * i) := by omega
    simp only [hj, h3, if_false]
    rw [if_neg (by omega)]

theorem flat_eq (F : List UInt8) : ∀ (N : Nat), 64 * N ≤ F.length → ((List.range N).map fun i => (F.drop (64 * i)).take 64).flatten = F.take (64 * N) := by
  intro N
  induction N with
  | zero => intro _; rfl
  | succ N ih =>
    intro h
    rw [List.range_succ, List.map_append, List.flatten_append, ih (by omega)]
    simp only [List.map_cons, List.map_nil, List.flatten_cons, List.flatten_nil, List.append_nil]
    rw [show 64 * (N + 1) = 64 * N + 64 by omega, List.take_add]

/-- The data, as many bytes as there is room for, with noughts behind. -/
def wholeB (N : Nat) (d : ByteArray) : ByteArray := ⟨((d.data.toList ++ List.replicate (64 * N) 0).take (64 * N)).toArray⟩
theorem cat_lay (N : Nat) (d : ByteArray) : catB (layL N d) = wholeB N d := by
  unfold catB wholeB
  congr 1
  have h := flat_eq (d.data.toList ++ List.replicate (64 * N) 0) N (by simp)
  rw [← h]
  congr 2
  unfold layL
  rw [List.map_map]
  apply List.map_congr_left
  intro i hi
  show (secB d i).data.toList = _
  show secL d.data.toList i = _
  exact secL_eq _ N i (by simpa using hi)
theorem whole_at (N : Nat) (d : ByteArray) (i : Nat) (hi : i < N) : (wholeB N d).extract (64 * i) (64 * i + 64) = secB d i := by
  apply ByteArray.ext
  apply Array.toList_inj.1
  rw [ByteArray.data_extract, Array.toList_extract]
  show ((wholeB N d).data.toList).extract (64 * i) (64 * i + 64) = secL d.data.toList i
  rw [secL_eq _ N i hi]
  simp only [wholeB, List.extract_eq_take_drop]
  rw [show 64 * i + 64 - 64 * i = 64 by omega, List.drop_take, List.take_take]
  congr 1
  omega
theorem whole_size (N : Nat) (d : ByteArray) : (wholeB N d).size = 64 * N := by
  show ((d.data.toList ++ List.replicate (64 * N) 0).take (64 * N)).toArray.size = _
  simp
end Go.Proofs.Ytekpbpcfeopilaa.Ea
