/- DiskApart: the plain law. -/
import Derived.Test.YtekpbpcfeopilaaEa
namespace Go.Proofs.Ytekpbpcfeopilaa.Ec
open Go Go.Proofs.Ytekpbpcfeopilaa.Dm Go.Proofs.Ytekpbpcfeopilaa.Dr Go.Proofs.Ytekpbpcfeopilaa.Da Go.Proofs.Ytekpbpcfeopilaa.Df Go.Proofs.Ytekpbpcfeopilaa.Dg Go.Proofs.Ytekpbpcfeopilaa.Dh Go.Proofs.Ytekpbpcfeopilaa.Di Go.Proofs.Ytekpbpcfeopilaa.Dj Go.Proofs.Ytekpbpcfeopilaa.Dk Go.Proofs.Ytekpbpcfeopilaa.Dl Go.Proofs.Ytekpbpcfeopilaa.Dn Go.Proofs.Ytekpbpcfeopilaa.Dp Go.Proofs.Ytekpbpcfeopilaa.Dq Go.Proofs.Ytekpbpcfeopilaa.Ds Go.Proofs.Ytekpbpcfeopilaa.Dt Go.Proofs.Ytekpbpcfeopilaa.Du Go.Proofs.Ytekpbpcfeopilaa.Ea Go.Proofs.YtekpbpcfeopilaaW.PrintWords

theorem shape_find_eq {szs : List Nat} {m m' : MDisk} (h : Shape szs m) (h' : Shape szs m') (n s : Int) : findM m n s = findM m' n s := by
  by_cases hn : 0 ≤ n
  · obtain ⟨k, rfl⟩ : ∃ k : Nat, n = (k : Int) := ⟨n.toNat, by omega⟩
    cases hk : szs[k]? with
    | some N => rw [shape_find h hk, shape_find h' hk]
    | none =>
      have hl : szs.length ≤ k := by simpa using hk
      have e : ∀ m : MDisk, Shape szs m → findM m (k : Int) s = 10 := fun m hm => by
        unfold findM
        rw [if_neg (by simp [hm.on]), sectorsM_nat, List.getElem?_eq_none (by rw [hm.len]; exact hl)]
        simp
      rw [e m h, e m' h']
  · have e : ∀ m : MDisk, Shape szs m → findM m n s = 10 := fun m hm => by
      unfold findM
      rw [if_neg (by simp [hm.on]), if_neg (by omega)]
    rw [e m h, e m' h']

/-- Two disks that have the same region. -/
structure Ap (one : Nat) (m m' : MDisk) : Prop where
  l : Shape [5, 5, 5] m
  r : Shape [5, 5, 5] m'
  same : m.regs[one]? = m'.regs[one]?

theorem lose_map (keep : List Int) (m : MDisk) : (loseM keep m).regs.map (·.lasts.length) = m.regs.map (·.lasts.length) := by
  apply List.ext_getElem?
  intro i
  simp only [loseM, loseRs, lastR, List.getElem?_map, List.getElem?_mapIdx]
  cases m.regs[i]? with
  | none => rfl
  | some r => simp [putQ_length]
theorem shape_crash {szs : List Nat} {m : MDisk} (h : Shape szs m) (keep : List Int) : Shape szs (crashM keep m) := by
  unfold crashM
  rw [if_neg (by simp [h.on])]
  exact ⟨rfl, rfl, by show (loseM keep m).regs.map (·.lasts.length) = szs; rw [lose_map, h.sizes]⟩
theorem crash_at {m : MDisk} (h : m.off = false) (keep : List Int) (k : Nat) : (crashM keep m).regs[k]? = (m.regs[k]?).map (lastR (bitK keep k)) := by
  unfold crashM
  rw [if_neg (by simp [h])]
  show (loseRs keep m.regs)[k]? = _
  simp [loseRs]
theorem ap_crash {one : Nat} {m m' : MDisk} (h : Ap one m m') (keep : List Int) : Ap one (crashM keep m) (crashM keep m') :=
  ⟨shape_crash h.l keep, shape_crash h.r keep, by rw [crash_at h.l.on, crash_at h.r.on, h.same]⟩

theorem flush_at {szs : List Nat} {m : MDisk} (h : Shape szs m) (n : Int) : flushM m n = if 0 ≤ n ∧ n < szs.length then setM m n.toNat (lastR (fun _ => true) (m.regs.getD n.toNat ⟨[], []⟩)) else m := by
  unfold flushM
  rw [if_neg (by simp [h.on]), h.len, fails_no h.left, tick_no h.left]
  rfl
theorem flushE_at {szs : List Nat} {m : MDisk} (h : Shape szs m) (n : Int) : flushE m n = if 0 ≤ n ∧ n < szs.length then 0 else 10 := by
  unfold flushE
  rw [if_neg (by simp [h.on]), h.len, fails_no h.left]
  rfl
theorem getD_some {m : MDisk} {k : Nat} {r : MReg} (h : m.regs[k]? = some r) : m.regs.getD k ⟨[], []⟩ = r := by simp [h]
theorem shape_flush {szs : List Nat} {m : MDisk} (h : Shape szs m) (n : Int) : Shape szs (flushM m n) := by
  rw [flush_at h]
  split
  · rename_i hn
    have hl : n.toNat < szs.length := by omega
    obtain ⟨r, hr, hN⟩ := h.at_ (List.getElem?_eq_getElem hl)
    refine shape_set h (List.getElem?_eq_getElem hl) ?_
    rw [getD_some hr]
    simp [lastR, putQ_length, hN]
  · exact h
theorem set_other (m : MDisk) (k j : Nat) (r : MReg) (h : k ≠ j) : (setM m k r).regs[j]? = m.regs[j]? := by simp [setM, h]
theorem set_same (m : MDisk) (k : Nat) (r : MReg) (h : k < m.regs.length) : (setM m k r).regs[k]? = some r := by simp [setM, h]

theorem flush_other {szs : List Nat} {m : MDisk} (h : Shape szs m) (n : Int) (one : Nat) (hn : n ≠ (one : Int)) : (flushM m n).regs[one]? = m.regs[one]? := by
  rw [flush_at h]
  split
  · exact set_other _ _ _ _ (by omega)
  · rfl
theorem flush_same {szs : List Nat} {m m' : MDisk} (h : Shape szs m) (h' : Shape szs m') (one : Nat) (hs : m.regs[one]? = m'.regs[one]?) : (flushM m (one : Int)).regs[one]? = (flushM m' (one : Int)).regs[one]? := by
  rw [flush_at h, flush_at h', Int.toNat_natCast]
  split
  · rename_i hn
    have hl : one < szs.length := by omega
    rw [set_same _ _ _ (by rw [h.len]; exact hl), set_same _ _ _ (by rw [h'.len]; exact hl)]
    simp only [List.getD_eq_getElem?_getD, hs]
  · exact hs
theorem ap_flush_l {one : Nat} {m m' : MDisk} (h : Ap one m m') (n : Int) (hn : n ≠ (one : Int)) : Ap one (flushM m n) m' := ⟨shape_flush h.l n, h.r, by rw [flush_other h.l n one hn]; exact h.same⟩
theorem ap_flush {one : Nat} {m m' : MDisk} (h : Ap one m m') : Ap one (flushM m (one : Int)) (flushM m' (one : Int)) := ⟨shape_flush h.l _, shape_flush h.r _, flush_same h.l h.r one h.same⟩

theorem shape_lay_any {szs : List Nat} {m : MDisk} (h : Shape szs m) (n : Int) (d : ByteArray) : Shape szs (layM m n d) := by
  by_cases hn : 0 ≤ n ∧ n < szs.length
  · obtain ⟨k, rfl⟩ : ∃ k : Nat, n = (k : Int) := ⟨n.toNat, by omega⟩
    exact shape_lay h (List.getElem?_eq_getElem (by omega : k < szs.length)) d
  · unfold layM
    rw [if_neg (by rw [h.len]; exact hn)]
    exact h
theorem lay_other {m : MDisk} (n : Int) (d : ByteArray) (one : Nat) (hn : n ≠ (one : Int)) : (layM m n d).regs[one]? = m.regs[one]? := by
  unfold layM
  split
  · exact set_other _ _ _ _ (by omega)
  · rfl
theorem lay_same {szs : List Nat} {m m' : MDisk} (h : Shape szs m) (h' : Shape szs m') (one : Nat) (hs : m.regs[one]? = m'.regs[one]?) (d : ByteArray) : (layM m (one : Int) d).regs[one]? = (layM m' (one : Int) d).regs[one]? := by
  unfold layM
  rw [h.len, h'.len, Int.toNat_natCast]
  split
  · rename_i hn
    have hl : one < szs.length := by omega
    rw [set_same _ _ _ (by rw [h.len]; exact hl), set_same _ _ _ (by rw [h'.len]; exact hl)]
    simp only [List.getD_eq_getElem?_getD, hs]
  · exact hs
theorem ap_lay_l {one : Nat} {m m' : MDisk} (h : Ap one m m') (n : Int) (d : ByteArray) (hn : n ≠ (one : Int)) : Ap one (layM m n d) m' := ⟨shape_lay_any h.l n d, h.r, by rw [lay_other n d one hn]; exact h.same⟩
theorem ap_lay {one : Nat} {m m' : MDisk} (h : Ap one m m') (d : ByteArray) : Ap one (layM m (one : Int) d) (layM m' (one : Int) d) := ⟨shape_lay_any h.l _ d, shape_lay_any h.r _ d, lay_same h.l h.r one h.same d⟩

theorem enq_other (m : MDisk) (k j : Nat) (p : Int × ByteArray) (h : k ≠ j) : (enqM m k p).regs[j]? = m.regs[j]? := by simp [enqM, h]
theorem enq_same (m : MDisk) (k : Nat) (p : Int × ByteArray) : (enqM m k p).regs[k]? = (m.regs[k]?).map fun r => { r with queue := r.queue ++ [p] } := by simp [enqM]
theorem find_nonneg {m : MDisk} {n s : Int} (h : findM m n s = 0) : 0 ≤ n := by
  unfold findM at h
  split at h
  · omega
  · split at h <;> omega
theorem write_other {m : MDisk} (h : m.tleft = 0) (n s : Int) (d : ByteArray) (one : Nat) (hn : n ≠ (one : Int)) : (writeM m n s d).regs[one]? = m.regs[one]? := by
  rw [write_no h]
  split
  · rename_i hc
    have := find_nonneg hc.1
    exact enq_other _ _ _ _ (by omega)
  · rfl
theorem write_same {szs : List Nat} {m m' : MDisk} (h : Shape szs m) (h' : Shape szs m') (one : Nat) (hs : m.regs[one]? = m'.regs[one]?) (s : Int) (d : ByteArray) : (writeM m (one : Int) s d).regs[one]? = (writeM m' (one : Int) s d).regs[one]? := by
  rw [write_no h.left, write_no h'.left, shape_find_eq h h', Int.toNat_natCast]
  split
  · rw [enq_same, enq_same, hs]
  · exact hs
theorem ap_write_l {one : Nat} {m m' : MDisk} (h : Ap one m m') (n s : Int) (d : ByteArray) (hn : n ≠ (one : Int)) : Ap one (writeM m n s d) m' := ⟨shape_write h.l n s d, h.r, by rw [write_other h.l.left n s d one hn]; exact h.same⟩
theorem ap_write {one : Nat} {m m' : MDisk} (h : Ap one m m') (s : Int) (d : ByteArray) : Ap one (writeM m (one : Int) s d) (writeM m' (one : Int) s d) := ⟨shape_write h.l _ s d, shape_write h.r _ s d, write_same h.l h.r one h.same s d⟩
theorem writeE_same {szs : List Nat} {m m' : MDisk} (h : Shape szs m) (h' : Shape szs m') (n s : Int) (d : ByteArray) : writeE m n s d = writeE m' n s d := by
  unfold writeE
  rw [shape_find_eq h h', fails_no h.left, fails_no h'.left]
theorem flushE_same {szs : List Nat} {m m' : MDisk} (h : Shape szs m) (h' : Shape szs m') (n : Int) : flushE m n = flushE m' n := by rw [flushE_at h, flushE_at h']
theorem read_same {one : Nat} {m m' : MDisk} (h : Ap one m m') (s : Int) : readM m (one : Int) s = readM m' (one : Int) s := by
  unfold readM
  rw [shape_find_eq h.l h.r, Int.toNat_natCast, h.same]
theorem image_same {one : Nat} {m m' : MDisk} (h : Ap one m m') : imageM m (one : Int) = imageM m' (one : Int) := by
  unfold imageM
  rw [Int.toNat_natCast, h.same]
theorem ap_new (one : Nat) : Ap one (newM [5, 5, 5]) (newM [5, 5, 5]) := ⟨shape_new [5, 5, 5] (by simp), shape_new [5, 5, 5] (by simp), rfl⟩
end Go.Proofs.Ytekpbpcfeopilaa.Ec
