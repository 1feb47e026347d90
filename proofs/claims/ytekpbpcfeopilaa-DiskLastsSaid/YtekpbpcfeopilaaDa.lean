/- The program's disk: the small calls. -/
import Derived.Test.YtekpbpcfeopilaaDr
import Derived.Test.YtekpbpcfeopilaaProg
import Derived.LoopTactic
namespace Go.Proofs.Ytekpbpcfeopilaa.Da
open Go Go.RowKit Go.Joins Go.Proofs.YtekpbpcfeopilaaCore Go.Proofs.Ytekpbpcfeopilaa.Dm Go.Proofs.Ytekpbpcfeopilaa.Dr Go.Proofs.YtekpbpcfeopilaaW.PrintWords Go.Proofs.YtekpbpcfeopilaaW.PrintLast Go.Proofs.YtekpbpcfeopilaaW.PrintMore

def TP : Tys := { disk := 78, reg := 84, preg := 79, wr := 97, str := 9, u64 := 59 }

/-- The region of a number, as a pointer. -/
def regP (gs : List Nat) (n : Int) : Option Addr := if 0 ≤ n then (gs[n.toNat]?).map (fun g => ⟨g, 0, none⟩) else none
theorem regP_neg {gs : List Nat} {n : Int} (h : n < 0) : regP gs n = none := by unfold regP; rw [if_neg (by omega)]
theorem regP_nat (gs : List Nat) (k : Nat) : regP gs (k : Int) = (gs[k]?).map (fun g => ⟨g, 0, none⟩) := by unfold regP; rw [if_pos (by omega), Int.toNat_natCast]

theorem ptr_at {w : World} {A : Option Addr} {n : Nat} {xs : List Nat} (h : ptrK.C w A n xs) (i : Nat) (h1 : i < n) : ∃ ad g, A = some ad ∧ xs[i]? = some g ∧ w.cell? (ad.add i) = some (.pointer (some ⟨g, 0, none⟩)) := by
  have hl : xs.length = n := h.1
  obtain ⟨ad, ha, hc⟩ := ReadsOf.at_ (Kd.reads_of_C (enc := fun g : Nat => Value.pointer (some ⟨g, 0, none⟩)) (d := 0) (h1 := fun _ => rfl) h) (i : Int) (by omega) (by omega)
  refine ⟨ad, xs[i]'(by omega), ha, List.getElem?_eq_getElem (by omega), ?_⟩
  rw [Int.toNat_natCast] at hc
  rw [hc]
  simp [rdOf, show i < xs.length by omega]

set_option maxHeartbeats 4000000 in
set_option maxRecDepth 100000 in
theorem at_nil (n : Int) (w : World) : Calls Try.prog 44 #[.pointer none, .int .i64 n] w fun e w' => e = .returned (.pointer none) ∧ Below w.heap.size w w' := by
  go_enter Try.func44, Try.ntmps44
  go_wp2_with fail
  exact bodyPost_ret (v := .pointer none) (by simp [results, Try.results44, go_sem]) rfl ⟨rfl, Below.refl _ _⟩

set_option maxHeartbeats 4000000 in
set_option maxRecDepth 100000 in
theorem at_any {G : Nat → Nat} {c : Nat} {w : World} {b : Nat} {m : MDisk} {rv kv : Value} {gs : List Nat} (h : Lies TP G c w b m rv kv gs) (n : Int) :
    Calls Try.prog 44 #[.pointer (some ⟨b, 0, none⟩), .int .i64 n] w fun e w' => e = .returned (.pointer (regP gs n)) ∧ Below w.heap.size w w' := by
  obtain ⟨A, cc, rfl, hcap, hC⟩ := Kd.R_reads h.row
  have h0 : w.cell? ⟨b, 0, none⟩ = some (.slice A gs.length cc) := cell_of_block h.head 0
  have HC := Lib.hid hC
  clear hC h
  by_cases h1 : n < 0
  · rw [regP_neg h1]
    go_enter Try.func44, Try.ntmps44
    go_wp2_with fail
    exact bodyPost_ret (v := .pointer none) (by simp [results, Try.results44, go_sem]) rfl ⟨rfl, Below.refl _ _⟩
  · obtain ⟨k, rfl⟩ : ∃ k : Nat, n = (k : Int) := ⟨n.toNat, by omega⟩
    by_cases h2 : (gs.length : Int) ≤ (k : Int)
    · have e : regP gs (k : Int) = none := by rw [regP_nat, List.getElem?_eq_none (by omega)]; rfl
      rw [e]
      go_enter Try.func44, Try.ntmps44
      go_wp2_with fail
      exact bodyPost_ret (v := .pointer none) (by simp [results, Try.results44, go_sem]) rfl ⟨rfl, Below.refl _ _⟩
    · obtain ⟨ad, g, rfl, hg, hx⟩ := ptr_at HC.out k (by omega)
      have e : regP gs (k : Int) = some ⟨g, 0, none⟩ := by rw [regP_nat, hg]; rfl
      rw [e]
      clear hg e
      have h3 : k < gs.length := by omega
      have h4 : (k : Int) < (gs.length : Int) := by omega
      go_enter Try.func44, Try.ntmps44
      go_wp2_with fail
      exact bodyPost_ret (v := .pointer (some ⟨g, 0, none⟩)) (by simp [results, Try.results44, go_sem]) rfl ⟨rfl, Below.refl _ _⟩

/-! Which region, and what it is. -/
def sectorsM (m : MDisk) (n : Int) : Int := if 0 ≤ n then (((m.regs[n.toNat]?).map (·.lasts.length)).getD 0 : Nat) else 0

theorem reg_of {G : Nat → Nat} {c : Nat} {T : Tys} {w : World} {b : Nat} {m : MDisk} {rv kv : Value} {gs : List Nat} (h : Lies T G c w b m rv kv gs) (k : Nat) :
    (∃ g r, regP gs (k : Int) = some ⟨g, 0, none⟩ ∧ gs[k]? = some g ∧ m.regs[k]? = some r ∧ RegAt T (fun i => G i = c + 3 + k) w g r) ∨ (regP gs (k : Int) = none ∧ m.regs[k]? = none) := by
  by_cases hk : k < m.regs.length
  · obtain ⟨g, hg, hr⟩ := h.regs k hk
    exact .inl ⟨g, m.regs[k], by rw [regP_nat, hg]; rfl, hg, List.getElem?_eq_getElem hk, hr⟩
  · refine .inr ⟨?_, List.getElem?_eq_none (by omega)⟩
    rw [regP_nat, List.getElem?_eq_none (by have := h.len; omega)]
    rfl

set_option maxHeartbeats 4000000 in
set_option maxRecDepth 100000 in
theorem sectors_nil (n : Int) (w : World) : Calls Try.prog 21 #[.pointer none, .int .i64 n] w fun e w' => e = .returned (.int .i64 0) ∧ Below w.heap.size w w' := by
  go_enter Try.func21, Try.ntmps21
  go_wp2_with fail
  refine (at_nil _ _).mono ?_
  rintro e w1 ⟨rfl, hb1⟩
  go_wp2_with fail
  exact bodyPost_ret (v := .int .i64 0) (by simp [results, Try.results21, go_sem]) rfl ⟨rfl, hb1⟩

set_option maxHeartbeats 4000000 in
set_option maxRecDepth 100000 in
theorem sectors_any {G : Nat → Nat} {c : Nat} {w : World} {b : Nat} {m : MDisk} {rv kv : Value} {gs : List Nat} (h : Lies TP G c w b m rv kv gs) (n : Int) :
    Calls Try.prog 21 #[.pointer (some ⟨b, 0, none⟩), .int .i64 n] w fun e w' => e = .returned (.int .i64 (sectorsM m n)) ∧ Below w.heap.size w w' := by
  have H := Lib.hid h
  clear h
  go_enter Try.func21, Try.ntmps21
  go_wp2_with fail
  refine (at_any H.out n).mono ?_
  rintro e w1 ⟨rfl, hb1⟩
  have H1 := Lib.hid (H.out.below hb1)
  clear H
  by_cases h1 : n < 0
  · have e : sectorsM m n = 0 := by unfold sectorsM; rw [if_neg (by omega)]
    rw [regP_neg h1]
    go_wp2_with fail
    exact bodyPost_ret (v := .int .i64 0) (by simp [results, Try.results21, go_sem]) rfl ⟨by rw [e], hb1⟩
  · obtain ⟨k, rfl⟩ : ∃ k : Nat, n = (k : Int) := ⟨n.toNat, by omega⟩
    have es : sectorsM m (k : Int) = (((m.regs[k]?).map (·.lasts.length)).getD 0 : Nat) := by unfold sectorsM; rw [if_pos (by omega), Int.toNat_natCast]
    rcases reg_of H1.out k with ⟨g, r, e1, _, e3, hr⟩ | ⟨e1, e2⟩
    · have ev : Hid (sectorsM m (k : Int) = (r.lasts.length : Int)) := by show _ = _; rw [es, e3]; rfl
      rw [e1]
      obtain ⟨_, lv, qv, hb, hl, hq⟩ := hr
      obtain ⟨A, cc, rfl, _, _⟩ := Kd.R_reads hl
      have h0 : w1.cell? ⟨g, 0, none⟩ = some (.slice A r.lasts.length cc) := cell_of_block hb 0
      clear e1 e3 es hb hl hq
      go_wp2_with fail
      exact bodyPost_ret (v := .int .i64 (r.lasts.length : Int)) (by simp [results, Try.results21, go_sem]) rfl ⟨by rw [ev.out], hb1⟩
    · have ev : Hid (sectorsM m (k : Int) = 0) := by show _ = _; rw [es, e2]; rfl
      rw [e1]
      clear e1 e2 es
      go_wp2_with fail
      exact bodyPost_ret (v := .int .i64 0) (by simp [results, Try.results21, go_sem]) rfl ⟨by rw [ev.out], hb1⟩

/-! Off, On -/
set_option maxHeartbeats 4000000 in
set_option maxRecDepth 100000 in
theorem off_nil (w : World) : Calls Try.prog 36 #[.pointer none] w fun e w' => e = .returned (.bool false) ∧ Below w.heap.size w w' := by
  go_enter Try.func36, Try.ntmps36
  go_wp2_with fail
  exact bodyPost_ret (v := .bool false) (by simp [results, Try.results36, go_sem]) rfl ⟨rfl, Below.refl _ _⟩
set_option maxHeartbeats 4000000 in
set_option maxRecDepth 100000 in
theorem off_any {G : Nat → Nat} {c : Nat} {w : World} {b : Nat} {m : MDisk} {rv kv : Value} {gs : List Nat} (h : Lies TP G c w b m rv kv gs) :
    Calls Try.prog 36 #[.pointer (some ⟨b, 0, none⟩)] w fun e w' => e = .returned (.bool m.off) ∧ Below w.heap.size w w' := by
  have h1 : w.cell? ⟨b, 1, none⟩ = some (.bool m.off) := cell_of_block h.head 1
  clear h
  go_enter Try.func36, Try.ntmps36
  go_wp2_with fail
  exact bodyPost_ret (v := .bool m.off) (by simp [results, Try.results36, go_sem]) rfl ⟨rfl, Below.refl _ _⟩
set_option maxHeartbeats 4000000 in
set_option maxRecDepth 100000 in
theorem on_nil (w : World) : Calls Try.prog 35 #[.pointer none] w fun e w' => e = .returned (.tuple #[]) ∧ Below w.heap.size w w' := by
  go_enter Try.func35, Try.ntmps35
  go_wp2_with fail
  exact bodyPost_end (v := .tuple #[]) (by simp [results, Try.results35, go_sem]) rfl ⟨rfl, Below.refl _ _⟩

def onM (m : MDisk) : MDisk := { m with off := false, treg := 0, tleft := 0, keep := [] }
set_option maxHeartbeats 4000000 in
set_option maxRecDepth 100000 in
theorem on_any {G : Nat → Nat} {c : Nat} {w : World} {b : Nat} {m : MDisk} {rv kv : Value} {gs : List Nat} (h : Lies TP G c w b m rv kv gs) :
    Calls Try.prog 35 #[.pointer (some ⟨b, 0, none⟩)] w fun e w' => e = .returned (.tuple #[]) ∧ Fr (fun k => k = b) w w' ∧ Lies TP G c w' b (onM m) rv (.slice none 0 0) gs := by
  have hx1 : w.cell? ⟨b, 1, none⟩ = some (.bool m.off) := cell_of_block h.head 1
  have hx2 : w.cell? ⟨b, 2, none⟩ = some (.int .i64 m.treg) := cell_of_block h.head 2
  have hx3 : w.cell? ⟨b, 3, none⟩ = some (.int .i64 m.tleft) := cell_of_block h.head 3
  have hx4 : w.cell? ⟨b, 4, none⟩ = some kv := cell_of_block h.head 4
  have hf1 : w.frozen? ⟨b, 1, none⟩ = false := unfrozen_of_block h.head 1
  have hf2 : w.frozen? ⟨b, 2, none⟩ = false := unfrozen_of_block h.head 2
  have hf3 : w.frozen? ⟨b, 3, none⟩ = false := unfrozen_of_block h.head 3
  have hf4 : w.frozen? ⟨b, 4, none⟩ = false := unfrozen_of_block h.head 4
  have H := Lib.hid h
  clear h
  go_enter Try.func35, Try.ntmps35
  go_wp2_with fail
  have f : Fr (fun k => k = b) w ((((w.setCell ⟨b, 1, none⟩ (.bool false)).setCell ⟨b, 2, none⟩ (.int .i64 0)).setCell ⟨b, 3, none⟩ (.int .i64 0)).setCell ⟨b, 4, none⟩ (.slice none 0 0)) := by
    refine Fr.setAt ?_ rfl
    refine Fr.setAt ?_ rfl
    refine Fr.setAt ?_ rfl
    refine Fr.setAt ?_ rfl
    exact Fr.refl _ _
  have hb := block_setCell (block_setCell (block_setCell (block_setCell H.out.head (i := 1) (.bool false)) (i := 2) (.int .i64 0)) (i := 3) (.int .i64 0)) (i := 4) (.slice none 0 0)
  have e : ((((hdr m rv kv).setIfInBounds 1 (.bool false)).setIfInBounds 2 (.int .i64 0)).setIfInBounds 3 (.int .i64 0)).setIfInBounds 4 (.slice none 0 0) = hdr (onM m) rv (.slice none 0 0) := rfl
  rw [e] at hb
  have hl := H.out.turn f hb rfl (Kd.R_nil _ _ _ _ _)
  refine bodyPost_end (v := .tuple #[]) (by simp [results, Try.results35, go_sem]) rfl ?_
  exact ⟨rfl, f, hl⟩

end Go.Proofs.Ytekpbpcfeopilaa.Da
