/- The document's disk: Bit, fails, On. -/
import Derived.Test.YtekpbpcfeopilaaRc
namespace Go.Proofs.Ytekpbpcfeopilaa.Rd
open Go Go.RowKit Go.Joins Go.Proofs.YtekpbpcfeopilaaCore Go.Proofs.Ytekpbpcfeopilaa.Dm Go.Proofs.Ytekpbpcfeopilaa.Dr Go.Proofs.Ytekpbpcfeopilaa.Da Go.Proofs.Ytekpbpcfeopilaa.Df Go.Proofs.Ytekpbpcfeopilaa.Dg Go.Proofs.Ytekpbpcfeopilaa.Dh Go.Proofs.Ytekpbpcfeopilaa.Di Go.Proofs.Ytekpbpcfeopilaa.Dj Go.Proofs.Ytekpbpcfeopilaa.Dk Go.Proofs.Ytekpbpcfeopilaa.Dl Go.Proofs.Ytekpbpcfeopilaa.Dn Go.Proofs.Ytekpbpcfeopilaa.Dp Go.Proofs.Ytekpbpcfeopilaa.Dq Go.Proofs.Ytekpbpcfeopilaa.Ds Go.Proofs.Ytekpbpcfeopilaa.Dt Go.Proofs.Ytekpbpcfeopilaa.Du Go.Proofs.Ytekpbpcfeopilaa.Dv Go.Proofs.Ytekpbpcfeopilaa.Dw Go.Proofs.Ytekpbpcfeopilaa.Sys Go.Proofs.Ytekpbpcfeopilaa.Ra Go.Proofs.Ytekpbpcfeopilaa.Rb Go.Proofs.Ytekpbpcfeopilaa.Rc Go.Proofs.YtekpbpcfeopilaaW.PrintWords Go.Proofs.YtekpbpcfeopilaaW.PrintLast Go.Proofs.YtekpbpcfeopilaaW.PrintMore

theorem half_step (x j : Nat) : ((x / 2 ^ j : Nat) : Int) / 2 = ((x / 2 ^ (j + 1) : Nat) : Int) := by
  rw [Nat.pow_succ, ← Nat.div_div_eq_div_mul]
  omega

set_option maxHeartbeats 4000000 in
set_option maxRecDepth 100000 in
theorem bit_any (x a : Nat) (w : World) (hx : x ≤ 18446744073709551615) (ha : a ≤ 63) :
    Calls Try.prog 74 #[.int .u64 (x : Int), .int .i64 (a : Int)] w fun e w' => e = .returned (.int .u64 ((x / 2 ^ a % 2 : Nat) : Int)) ∧ w = w' := by
  have haI : ¬ (63 : Int) < (a : Int) := by omega
  have ha0 : ¬ (a : Int) < 0 := by omega
  go_enter Try.func74, Try.ntmps74
  go_wp2_with fail

  go_loopg [0, 5] a (fun gk nv v wr => ∃ j : Nat, j ≤ a ∧ v = .int .i64 j ∧ gk + j = a ∧ nv = .int .u64 ((x / 2 ^ j : Nat) : Int) ∧ wr = w)
  case atStart => exact ⟨0, Nat.zero_le _, rfl, rfl, by simp, rfl⟩
  case round =>
    obtain ⟨j, hj, rfl, hg, rfl, rfl⟩ := hrel
    have HG := Lib.hid hg
    clear hg
    have hle : x / 2 ^ j ≤ x := Nat.div_le_self _ _
    obtain ⟨y, hy⟩ : ∃ y, x / 2 ^ j = y := ⟨_, rfl⟩
    have hs := half_step x j
    rw [hy] at hs hle
    rw [hy]
    have HY := Lib.hid hy
    have HS := Lib.hid hs
    clear hy hs
    by_cases hlt : j < a
    · have hltI : (j : Int) < (a : Int) := by omega
      go_wp2_with fail
      go_roundg (gk - 1)
      case measure => have := HG.out; omega
      case rel => exact ⟨j + 1, by omega, by go_num, by have := HG.out; omega, by rw [HS.out], rfl⟩
    · obtain rfl : j = a := by omega
      go_wp2_with fail
      have e : ((y : Int) % 2) = ((x / 2 ^ j % 2 : Nat) : Int) := by rw [HY.out]; omega
      refine bodyPost_ret (v := .int .u64 ((y : Int) % 2)) (by simp [results, Try.results74, go_sem]) rfl ?_
      exact ⟨by rw [e], rfl⟩

set_option maxHeartbeats 4000000 in
set_option maxRecDepth 100000 in
theorem rfails_any {G : Nat → Nat} {c : Nat} {w : World} {b : Nat} {m : MDisk} {rv kv : Value} {gs : List Nat} (h : Lies TR G c w b m rv kv gs) (n : Int) (h1 : 0 ≤ m.tleft) (h2 : m.tleft ≤ 9223372036854775807) :
    Calls Try.prog 66 #[.pointer (some ⟨b, 0, none⟩), .int .i64 n] w fun e w' => e = .returned (.bool (failsM m n)) ∧ Fr (fun k => k = b) w w' ∧ Lies TR G c w' b (tickM m n) rv kv gs := by
  have hx2 : w.cell? ⟨b, 2, none⟩ = some (.int .i64 m.treg) := cell_of_block h.head 2
  have hx3 : w.cell? ⟨b, 3, none⟩ = some (.int .i64 m.tleft) := cell_of_block h.head 3
  have hf3 : w.frozen? ⟨b, 3, none⟩ = false := unfrozen_of_block h.head 3
  have H := Lib.hid h
  clear h
  by_cases h0 : m.tleft = 0
  · have ef : Hid (failsM m n = false) := by show _ = _; simp [failsM, h0]
    have et : Hid (tickM m n = m) := by show _ = _; simp [tickM, h0]
    rw [h0] at hx3
    clear h0 h1 h2
    go_enter Try.func66, Try.ntmps66
    go_wp2_with fail
    exact bodyPost_ret (v := .bool false) (by simp [results, Try.results66, go_sem]) rfl ⟨by rw [ef.out], Fr.refl _ _, by rw [et.out]; exact H.out⟩
  · obtain ⟨tl, htl⟩ : ∃ tl, m.tleft = tl := ⟨_, rfl⟩
    obtain ⟨tr, htr⟩ : ∃ tr, m.treg = tr := ⟨_, rfl⟩
    have HL := Lib.hid htl
    have HR := Lib.hid htr
    rw [htl] at hx3 h0 h1 h2
    rw [htr] at hx2
    clear htl htr
    have hz : (tl == 0) = false := by simpa using h0
    by_cases hn : tr = n
    · subst hn
      have ef : Hid (failsM m tr = decide (tl = 1)) := by show _ = _; unfold failsM; rw [HL.out, HR.out]; simp [h0]
      have et : Hid (tickM m tr = { m with tleft := tl - 1 }) := by show _ = _; unfold tickM; rw [HL.out, HR.out, if_neg (by simp [h0])]
      clear h0
      go_enter Try.func66, Try.ntmps66
      go_wp2_with fail
      have ev : (tl - 1 == 0) = failsM m tr := by rw [ef.out, Bool.eq_iff_iff, beq_iff_eq, decide_eq_true_eq]; omega
      have f : Fr (fun k => k = b) w (w.setCell ⟨b, 3, none⟩ (.int .i64 (tl - 1))) := by
        refine Fr.setAt ?_ rfl
        exact Fr.refl _ _
      have hb := block_setCell H.out.head (i := 3) (.int .i64 (tl - 1))
      have e : (hdr m rv kv).setIfInBounds 3 (.int .i64 (tl - 1)) = hdr (tickM m tr) rv kv := by rw [et.out]; simp [hdr]
      rw [e] at hb
      have er : (tickM m tr).regs = m.regs := by rw [et.out]
      have ek : (tickM m tr).keep = m.keep := by rw [et.out]
      have hl := H.out.turn f hb er (by rw [ek]; exact Rfr H.out.keep f (fun k ho _ e2 => by rw [e2, H.out.colour] at ho; omega))
      refine bodyPost_ret (v := .bool (tl - 1 == 0)) (by simp [results, Try.results66, go_sem]) rfl ?_
      exact ⟨by rw [ev], f, hl⟩
    · have ef : Hid (failsM m n = false) := by show _ = _; unfold failsM; rw [HR.out]; simp [hn]
      have et : Hid (tickM m n = m) := by show _ = _; unfold tickM; rw [HR.out, if_pos (.inr hn)]
      have hz2 : (tr != n) = true := by simpa using hn
      clear h0 hn
      go_enter Try.func66, Try.ntmps66
      go_wp2_with fail
      exact bodyPost_ret (v := .bool false) (by simp [results, Try.results66, go_sem]) rfl ⟨by rw [ef.out], Fr.refl _ _, by rw [et.out]; exact H.out⟩

def ronM (m : MDisk) : MDisk := { m with off := false, tleft := 0, keep := [] }
set_option maxHeartbeats 4000000 in
set_option maxRecDepth 100000 in
theorem ron_any {G : Nat → Nat} {c : Nat} {w : World} {b : Nat} {m : MDisk} {rv kv : Value} {gs : List Nat} (h : Lies TR G c w b m rv kv gs) :
    Calls Try.prog 56 #[.pointer (some ⟨b, 0, none⟩)] w fun e w' => e = .returned (.tuple #[]) ∧ Fr (fun k => k = b) w w' ∧ Lies TR G c w' b (ronM m) rv (.slice none 0 0) gs := by
  have hx1 : w.cell? ⟨b, 1, none⟩ = some (.bool m.off) := cell_of_block h.head 1
  have hx3 : w.cell? ⟨b, 3, none⟩ = some (.int .i64 m.tleft) := cell_of_block h.head 3
  have hx4 : w.cell? ⟨b, 4, none⟩ = some kv := cell_of_block h.head 4
  have hf1 : w.frozen? ⟨b, 1, none⟩ = false := unfrozen_of_block h.head 1
  have hf3 : w.frozen? ⟨b, 3, none⟩ = false := unfrozen_of_block h.head 3
  have hf4 : w.frozen? ⟨b, 4, none⟩ = false := unfrozen_of_block h.head 4
  have H := Lib.hid h
  clear h
  go_enter Try.func56, Try.ntmps56
  go_wp2_with fail
  have f : Fr (fun k => k = b) w (((w.setCell ⟨b, 1, none⟩ (.bool false)).setCell ⟨b, 3, none⟩ (.int .i64 0)).setCell ⟨b, 4, none⟩ (.slice none 0 0)) := by
    refine Fr.setAt ?_ rfl
    refine Fr.setAt ?_ rfl
    refine Fr.setAt ?_ rfl
    exact Fr.refl _ _
  have hb := block_setCell (block_setCell (block_setCell H.out.head (i := 1) (.bool false)) (i := 3) (.int .i64 0)) (i := 4) (.slice none 0 0)
  have e : (((hdr m rv kv).setIfInBounds 1 (.bool false)).setIfInBounds 3 (.int .i64 0)).setIfInBounds 4 (.slice none 0 0) = hdr (ronM m) rv (.slice none 0 0) := rfl
  rw [e] at hb
  have hl := H.out.turn f hb rfl (Kd.R_nil _ _ _ _ _)
  refine bodyPost_end (v := .tuple #[]) (by simp [results, Try.results56, go_sem]) rfl ?_
  exact ⟨rfl, f, hl⟩

end Go.Proofs.Ytekpbpcfeopilaa.Rd
