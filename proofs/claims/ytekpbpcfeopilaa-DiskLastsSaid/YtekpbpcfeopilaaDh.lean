/- The program's disk: fails. -/
import Derived.Test.YtekpbpcfeopilaaDg
namespace Go.Proofs.Ytekpbpcfeopilaa.Dh
open Go Go.RowKit Go.Joins Go.Proofs.YtekpbpcfeopilaaCore Go.Proofs.Ytekpbpcfeopilaa.Dm Go.Proofs.Ytekpbpcfeopilaa.Dr Go.Proofs.Ytekpbpcfeopilaa.Da Go.Proofs.Ytekpbpcfeopilaa.Df Go.Proofs.YtekpbpcfeopilaaW.PrintWords Go.Proofs.YtekpbpcfeopilaaW.PrintLast Go.Proofs.YtekpbpcfeopilaaW.PrintMore

/-- Does the power fail at this call? And what is behind it. -/
def failsM (m : MDisk) (n : Int) : Bool := decide (m.tleft ≠ 0) && decide (m.treg = n) && decide (m.tleft = 1)
def tickM (m : MDisk) (n : Int) : MDisk := if m.tleft = 0 ∨ m.treg ≠ n then m else { m with tleft := m.tleft - 1 }

set_option maxHeartbeats 4000000 in
set_option maxRecDepth 100000 in
theorem fails_any {G : Nat → Nat} {c : Nat} {w : World} {b : Nat} {m : MDisk} {rv kv : Value} {gs : List Nat} (h : Lies TP G c w b m rv kv gs) (n : Int) (h1 : 0 ≤ m.tleft) (h2 : m.tleft ≤ 9223372036854775807) :
    Calls Try.prog 47 #[.pointer (some ⟨b, 0, none⟩), .int .i64 n] w fun e w' => e = .returned (.bool (failsM m n)) ∧ Fr (fun k => k = b) w w' ∧ Lies TP G c w' b (tickM m n) rv kv gs := by
  have hx2 : w.cell? ⟨b, 2, none⟩ = some (.int .i64 m.treg) := cell_of_block h.head 2
  have hx3 : w.cell? ⟨b, 3, none⟩ = some (.int .i64 m.tleft) := cell_of_block h.head 3
  have hf3 : w.frozen? ⟨b, 3, none⟩ = false := unfrozen_of_block h.head 3
  have H := Lib.hid h
  clear h
  by_cases h0 : m.tleft = 0
  · have ef : Hid (failsM m n = false) := by show _ = _; simp [failsM, h0]
    have et : Hid (tickM m n = m) := by show _ = _; simp [tickM, h0]
    rw [h0] at hx3
    clear h0 h1 h2
    go_enter Try.func47, Try.ntmps47
    go_wp2_with fail
    exact bodyPost_ret (v := .bool false) (by simp [results, Try.results47, go_sem]) rfl ⟨by rw [ef.out], Fr.refl _ _, by rw [et.out]; exact H.out⟩
  · obtain ⟨tl, htl⟩ : ∃ tl, m.tleft = tl := ⟨_, rfl⟩
    obtain ⟨tr, htr⟩ : ∃ tr, m.treg = tr := ⟨_, rfl⟩
    have HL := Lib.hid htl
    have HR := Lib.hid htr
    rw [htl] at hx3 h0 h1 h2
    rw [htr] at hx2
    clear htl htr
    have hz : (tl == 0) = false := by simpa using h0
    by_cases hn : tr = n
    · subst hn
      have ef : Hid (failsM m tr = decide (tl = 1)) := by show _ = _; unfold failsM; rw [HL.out, HR.out]; simp [h0]
      have et : Hid (tickM m tr = { m with tleft := tl - 1 }) := by show _ = _; unfold tickM; rw [HL.out, HR.out, if_neg (by simp [h0])]
      clear h0
      go_enter Try.func47, Try.ntmps47
      go_wp2_with fail
      have ev : (tl - 1 == 0) = failsM m tr := by rw [ef.out, Bool.eq_iff_iff, beq_iff_eq, decide_eq_true_eq]; omega
      have f : Fr (fun k => k = b) w (w.setCell ⟨b, 3, none⟩ (.int .i64 (tl - 1))) := by
        refine Fr.setAt ?_ rfl
        exact Fr.refl _ _
      have hb := block_setCell H.out.head (i := 3) (.int .i64 (tl - 1))
      have e : (hdr m rv kv).setIfInBounds 3 (.int .i64 (tl - 1)) = hdr (tickM m tr) rv kv := by rw [et.out]; simp [hdr]
      rw [e] at hb
      have er : (tickM m tr).regs = m.regs := by rw [et.out]
      have ek : (tickM m tr).keep = m.keep := by rw [et.out]
      have hl := H.out.turn f hb er (by rw [ek]; exact Rfr H.out.keep f (fun k ho _ e2 => by rw [e2, H.out.colour] at ho; omega))
      refine bodyPost_ret (v := .bool (tl - 1 == 0)) (by simp [results, Try.results47, go_sem]) rfl ?_
      exact ⟨by rw [ev], f, hl⟩
    · have ef : Hid (failsM m n = false) := by show _ = _; unfold failsM; rw [HR.out]; simp [hn]
      have et : Hid (tickM m n = m) := by show _ = _; unfold tickM; rw [HR.out, if_pos (.inr hn)]
      have hz2 : (tr != n) = true := by simpa using hn
      clear h0 hn
      go_enter Try.func47, Try.ntmps47
      go_wp2_with fail
      exact bodyPost_ret (v := .bool false) (by simp [results, Try.results47, go_sem]) rfl ⟨by rw [ef.out], Fr.refl _ _, by rw [et.out]; exact H.out⟩

end Go.Proofs.Ytekpbpcfeopilaa.Dh
