/- What was made stays well made; plain. -/
import Derived.Test.YtekpbpcfeopilaaDt
namespace Go.Proofs.Ytekpbpcfeopilaa.Du
open Go Go.Proofs.Ytekpbpcfeopilaa.Dm Go.Proofs.Ytekpbpcfeopilaa.Dr Go.Proofs.Ytekpbpcfeopilaa.Da Go.Proofs.Ytekpbpcfeopilaa.Df Go.Proofs.Ytekpbpcfeopilaa.Dg Go.Proofs.Ytekpbpcfeopilaa.Dh Go.Proofs.Ytekpbpcfeopilaa.Di Go.Proofs.Ytekpbpcfeopilaa.Dj Go.Proofs.Ytekpbpcfeopilaa.Dk Go.Proofs.Ytekpbpcfeopilaa.Dl Go.Proofs.Ytekpbpcfeopilaa.Dn Go.Proofs.Ytekpbpcfeopilaa.Dp Go.Proofs.Ytekpbpcfeopilaa.Dq Go.Proofs.Ytekpbpcfeopilaa.Ds Go.Proofs.Ytekpbpcfeopilaa.Dt

theorem new_wf (l : List Int) : Wf 0 (newM l) := by
  refine ⟨by simp [newM]; omega, ?_, by simp [newM], by simp [newM]⟩
  intro r hr
  simp only [newM, List.mem_map] at hr
  obtain ⟨n, _, rfl⟩ := hr
  refine ⟨by simp [newR, clampN]; omega, by simp [newR], ?_, by simp [newR], by simp [newR]⟩
  intro s hs
  rw [List.eq_of_mem_replicate hs]
  rfl

theorem putQ_64 (kept : Nat → Bool) : ∀ (q : List (Int × ByteArray)) (i : Nat) (l : List ByteArray), (∀ p ∈ q, p.2.size = 64) → (∀ s ∈ l, s.size = 64) → ∀ s ∈ putQ kept i q l, s.size = 64 := by
  intro q
  induction q with
  | nil => intro i l _ h s hs; exact h s hs
  | cons p q ih =>
    intro i l hq hl s hs
    rw [putQ] at hs
    refine ih (i + 1) _ (fun p' hp => hq p' (by simp [hp])) ?_ s hs
    intro x hx
    split at hx
    · rcases List.mem_or_eq_of_mem_set hx with h | h
      · exact hl x h
      · rw [h]; exact hq p (by simp)
    · exact hl x hx

theorem last_wf {N : Nat} {r : MReg} (kept : Nat → Bool) (h : WfR N r) : WfR N (lastR kept r) :=
  ⟨by simp [lastR, putQ_length]; exact h.few, by simp [lastR], putQ_64 kept _ _ _ h.q64 h.l64, by simp [lastR], by simp [lastR]⟩

theorem lose_wf {N : Nat} {m : MDisk} (l : List Int) (h : Wf N m) : Wf N (loseM l m) := by
  refine ⟨by simp [loseM, loseRs, h.few], ?_, by simp [loseM], by simp [loseM]⟩
  intro r hr
  simp only [loseM, loseRs] at hr
  obtain ⟨i, hi, rfl⟩ := List.mem_iff_getElem.1 hr
  rw [List.getElem_mapIdx]
  exact last_wf _ (h.regs _ (List.getElem_mem _))

theorem on_wf {N : Nat} {m : MDisk} (h : Wf N m) : Wf N (onM m) := ⟨h.few, h.regs, by simp [onM], by simp [onM]⟩
theorem crash_wf {N : Nat} {m : MDisk} (l : List Int) (h : Wf N m) : Wf N (crashM l m) := by
  unfold crashM
  split
  · exact on_wf h
  · exact on_wf (lose_wf l h)

theorem set_wf {N k : Nat} {m : MDisk} {r : MReg} (h : Wf N m) (hr : WfR N r) : Wf N (setM m k r) := by
  refine ⟨by simp [setM, h.few], ?_, h.left, h.keep⟩
  intro x hx
  rcases List.mem_or_eq_of_mem_set hx with hx | hx
  · exact h.regs x hx
  · rw [hx]; exact hr

theorem cut_wf {N : Nat} {m : MDisk} {n left : Int} {keep : List Int} (h : Wf N m) (hl : left ≤ 9223372036854775807) (hk : ∀ x ∈ keep, 0 ≤ x ∧ x ≤ 18446744073709551615) : Wf N (cutM m n left keep) := by
  unfold cutM
  split
  · rename_i hc
    exact ⟨h.few, h.regs, ⟨by simp only; omega, by simp only; omega⟩, hk⟩
  · exact ⟨h.few, h.regs, by simp, by simp⟩

theorem wf_mono {N N' : Nat} {m : MDisk} (h : Wf N m) (hN : N ≤ N') : Wf N' m :=
  ⟨h.few, fun r hr => ⟨(h.regs r hr).few, (h.regs r hr).inQ, (h.regs r hr).l64, (h.regs r hr).q64, Nat.le_trans (h.regs r hr).long hN⟩, h.left, h.keep⟩

theorem find_ok_m {m : MDisk} {n s : Int} (h : findM m n s = 0) : ∃ (k j : Nat) (r : MReg), n = (k : Int) ∧ s = (j : Int) ∧ m.regs[k]? = some r ∧ j < r.lasts.length := by
  unfold findM at h
  split at h
  · omega
  · split at h
    · rename_i hh
      obtain ⟨h1, h2, h3⟩ := hh
      obtain ⟨k, rfl⟩ : ∃ k : Nat, n = (k : Int) := ⟨n.toNat, by omega⟩
      obtain ⟨j, rfl⟩ : ∃ j : Nat, s = (j : Int) := ⟨s.toNat, by omega⟩
      rw [sectorsM_nat] at h3
      cases hr : m.regs[k]? with
      | none => rw [hr] at h3; simp at h3; omega
      | some r => rw [hr] at h3; simp at h3; exact ⟨k, j, r, rfl, rfl, hr, by omega⟩
    · omega

theorem write_wf {N : Nat} {m : MDisk} {n s : Int} {d : ByteArray} (h : Wf N m) : Wf (N + 1) (writeM m n s d) := by
  unfold writeM
  split
  · rename_i hc
    obtain ⟨k, j, r, rfl, rfl, hr, hj⟩ := find_ok_m hc.1
    have he : Wf (N + 1) (enqM m k ((j : Int), d)) := enq_wf h hr ⟨by show (0 : Int) ≤ (j : Int); omega, by show (j : Int) < _; omega⟩ hc.2
    simp only [Int.toNat_natCast]
    split
    · exact lose_wf _ he
    · exact tick_wf he
  · exact wf_mono h (by omega)

theorem flush_wf {N : Nat} {m : MDisk} {n : Int} (h : Wf N m) : Wf N (flushM m n) := by
  unfold flushM
  split
  · exact h
  · split
    · split
      · exact lose_wf _ h
      · rename_i hn _
        refine set_wf (tick_wf h) (last_wf _ (h.regs _ ?_))
        obtain ⟨k, rfl⟩ : ∃ k : Nat, n = (k : Int) := ⟨n.toNat, by omega⟩
        have hk : k < m.regs.length := by omega
        rw [Int.toNat_natCast]
        simp only [List.getD_eq_getElem?_getD, List.getElem?_eq_getElem hk, Option.getD_some]
        exact List.getElem_mem hk
    · exact h

theorem secB_size (d : ByteArray) (i : Nat) : (secB d i).size = 64 := by
  show (secL d.data.toList i).toArray.size = 64
  simp [secL]
  omega
theorem lay_wf {N : Nat} {m : MDisk} {n : Int} {d : ByteArray} (h : Wf N m) : Wf N (layM m n d) := by
  unfold layM
  split
  · rename_i hn
    obtain ⟨k, rfl⟩ : ∃ k : Nat, n = (k : Int) := ⟨n.toNat, by omega⟩
    have hk : k < m.regs.length := by omega
    refine set_wf h ⟨?_, by simp, ?_, by simp, by simp⟩
    · simp only [layL, List.length_map, List.length_range, Int.toNat_natCast, List.getD_eq_getElem?_getD, List.getElem?_eq_getElem hk, Option.getD_some]
      exact (h.regs _ (List.getElem_mem hk)).few
    · intro s hs
      simp only [layL, List.mem_map] at hs
      obtain ⟨i, _, rfl⟩ := hs
      exact secB_size d i
  · exact h

end Go.Proofs.Ytekpbpcfeopilaa.Du
