/- The program's disk: find. -/
import Derived.Test.YtekpbpcfeopilaaDa
namespace Go.Proofs.Ytekpbpcfeopilaa.Df
open Go Go.RowKit Go.Joins Go.Proofs.YtekpbpcfeopilaaCore Go.Proofs.Ytekpbpcfeopilaa.Dm Go.Proofs.Ytekpbpcfeopilaa.Dr Go.Proofs.Ytekpbpcfeopilaa.Da Go.Proofs.YtekpbpcfeopilaaW.PrintWords Go.Proofs.YtekpbpcfeopilaaW.PrintLast Go.Proofs.YtekpbpcfeopilaaW.PrintMore

/-! find -/
def findM (m : MDisk) (n s : Int) : Int := if m.off = true then 11 else if 0 ≤ n ∧ 0 ≤ s ∧ s < sectorsM m n then 0 else 10

/-- The region that find answers with. -/
def findP (m : MDisk) (gs : List Nat) (n s : Int) : Option Addr := if findM m n s = 0 then regP gs n else none
theorem findP_no {m : MDisk} {gs : List Nat} {n s e : Int} (h : findM m n s = e) (he : e ≠ 0) : findP m gs n s = none := by unfold findP; rw [if_neg (by rw [h]; exact he)]

set_option maxHeartbeats 4000000 in
set_option maxRecDepth 100000 in
theorem find_nil (n s : Int) (w : World) : Calls Try.prog 46 #[.pointer none, .int .i64 n, .int .i64 s] w fun e w' => e = .returned (.tuple #[.pointer none, .int .i64 1]) ∧ Below w.heap.size w w' := by
  go_enter Try.func46, Try.ntmps46
  go_wp2_with fail
  exact bodyPost_ret (v := .tuple #[.pointer none, .int .i64 1]) (by simp [results, Try.results46, go_sem]) rfl ⟨rfl, Below.refl _ _⟩

theorem sectorsM_nat (m : MDisk) (k : Nat) : sectorsM m (k : Int) = (((m.regs[k]?).map (·.lasts.length)).getD 0 : Nat) := by unfold sectorsM; rw [if_pos (by omega), Int.toNat_natCast]

set_option maxHeartbeats 4000000 in
set_option maxRecDepth 100000 in
theorem find_any {G : Nat → Nat} {c : Nat} {w : World} {b : Nat} {m : MDisk} {rv kv : Value} {gs : List Nat} (h : Lies TP G c w b m rv kv gs) (n s : Int) :
    Calls Try.prog 46 #[.pointer (some ⟨b, 0, none⟩), .int .i64 n, .int .i64 s] w fun e w' => e = .returned (.tuple #[.pointer (findP m gs n s), .int .i64 (findM m n s)]) ∧ Below w.heap.size w w' := by
  have H := Lib.hid h
  clear h
  go_enter Try.func46, Try.ntmps46
  go_wp2_with fail
  refine (at_any H.out n).mono ?_
  rintro e w1 ⟨rfl, hb1⟩
  have H1 := Lib.hid (H.out.below hb1)
  clear H
  have hx1 : w1.cell? ⟨b, 1, none⟩ = some (.bool m.off) := cell_of_block H1.out.head 1
  by_cases ho : m.off = true
  · have ev : Hid (findM m n s = 11) := by show _ = _; unfold findM; rw [if_pos ho]
    rw [ho] at hx1
    clear ho
    go_wp2_with fail
    exact bodyPost_ret (v := .tuple #[.pointer none, .int .i64 11]) (by simp [results, Try.results46, go_sem]) rfl ⟨by rw [ev.out, findP_no ev.out (by omega)], hb1⟩
  · have ho2 : m.off = false := by simpa using ho
    rw [ho2] at hx1
    clear ho
    by_cases h1 : n < 0
    · have ev : Hid (findM m n s = 10) := by show _ = _; unfold findM; rw [if_neg (by simp [ho2]), if_neg (by omega)]
      rw [regP_neg h1]
      go_wp2_with fail
      exact bodyPost_ret (v := .tuple #[.pointer none, .int .i64 10]) (by simp [results, Try.results46, go_sem]) rfl ⟨by rw [ev.out, findP_no ev.out (by omega)], hb1⟩
    · obtain ⟨k, rfl⟩ : ∃ k : Nat, n = (k : Int) := ⟨n.toNat, by omega⟩
      have es := sectorsM_nat m k
      have ef : findM m (k : Int) s = if 0 ≤ s ∧ s < sectorsM m (k : Int) then 0 else 10 := by
        unfold findM
        rw [if_neg (by simp [ho2])]
        have : (0 : Int) ≤ (k : Int) := by omega
        simp only [this, true_and]
      rcases reg_of H1.out k with ⟨g, r, e1, _, e3, hr⟩ | ⟨e1, e2⟩
      · rw [es, e3] at ef
        simp only [Option.map_some, Option.getD_some] at ef
        obtain ⟨_, lv, qv, hb, hl, hq⟩ := hr
        obtain ⟨A, cc, rfl, _, _⟩ := Kd.R_reads hl
        have h0 : w1.cell? ⟨g, 0, none⟩ = some (.slice A r.lasts.length cc) := cell_of_block hb 0
        clear e3 es hb hl hq
        have E1 := Lib.hid e1
        have EF := Lib.hid ef
        by_cases hs : s < 0
        · have ev : Hid (findM m (k : Int) s = 10) := by show _ = _; rw [EF.out, if_neg (by omega)]
          rw [e1]
          clear e1 ef
          go_wp2_with fail
          exact bodyPost_ret (v := .tuple #[.pointer none, .int .i64 10]) (by simp [results, Try.results46, go_sem]) rfl ⟨by rw [ev.out, findP_no ev.out (by omega)], hb1⟩
        · by_cases hs2 : (r.lasts.length : Int) ≤ s
          · have ev : Hid (findM m (k : Int) s = 10) := by show _ = _; rw [EF.out, if_neg (by omega)]
            rw [e1]
            clear e1 ef
            go_wp2_with fail
            exact bodyPost_ret (v := .tuple #[.pointer none, .int .i64 10]) (by simp [results, Try.results46, go_sem]) rfl ⟨by rw [ev.out, findP_no ev.out (by omega)], hb1⟩
          · have ev : Hid (findM m (k : Int) s = 0) := by show _ = _; rw [EF.out, if_pos (by omega)]
            rw [e1]
            clear e1 ef
            go_wp2_with fail
            exact bodyPost_ret (v := .tuple #[.pointer (some ⟨g, 0, none⟩), .int .i64 0]) (by simp [results, Try.results46, go_sem]) rfl ⟨by rw [ev.out]; unfold findP; rw [if_pos ev.out, E1.out], hb1⟩
      · rw [es, e2] at ef
        have ev : Hid (findM m (k : Int) s = 10) := by show _ = _; rw [ef, if_neg (by simp)]
        rw [e1]
        clear e1 e2 ef es
        go_wp2_with fail
        exact bodyPost_ret (v := .tuple #[.pointer none, .int .i64 10]) (by simp [results, Try.results46, go_sem]) rfl ⟨by rw [ev.out, findP_no ev.out (by omega)], hb1⟩

end Go.Proofs.Ytekpbpcfeopilaa.Df
