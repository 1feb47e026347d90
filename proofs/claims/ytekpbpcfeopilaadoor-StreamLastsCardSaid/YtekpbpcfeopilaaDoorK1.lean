/- The program's disk: its methods. -/
import Derived.Test.YtekpbpcfeopilaaDoorDr
import Derived.Test.YtekpbpcfeopilaaDoorProg
import Derived.LoopTactic
import Derived.WalkSmall
import Derived.WalkSpells
import Derived.Lib.SliceRun

set_option linter.unusedSimpArgs false
set_option linter.unusedVariables false

/-! The program's disk: the small calls. -/
namespace Go.Proofs.YtekpbpcfeopilaaDoor.Da
open Go Go.RowKit Go.Joins Go.Proofs.YtekpbpcfeopilaaDoorCore Go.Proofs.YtekpbpcfeopilaaDoor.Dm Go.Proofs.YtekpbpcfeopilaaDoor.Dr Go.Proofs.YtekpbpcfeopilaaDoorW.PrintWords Go.Proofs.YtekpbpcfeopilaaDoorW.PrintLast Go.Proofs.YtekpbpcfeopilaaDoorW.PrintMore

def TP : Tys := { disk := 100, reg := 105, preg := 101, wr := 136, str := 9, u64 := 62 }

/-- The region of a number, as a pointer. -/
def regP (gs : List Nat) (n : Int) : Option Addr := if 0 ≤ n then (gs[n.toNat]?).map (fun g => ⟨g, 0, none⟩) else none
theorem regP_neg {gs : List Nat} {n : Int} (h : n < 0) : regP gs n = none := by unfold regP; rw [if_neg (by omega)]
theorem regP_nat (gs : List Nat) (k : Nat) : regP gs (k : Int) = (gs[k]?).map (fun g => ⟨g, 0, none⟩) := by unfold regP; rw [if_pos (by omega), Int.toNat_natCast]

theorem ptr_at {w : World} {A : Option Addr} {n : Nat} {xs : List Nat} (h : ptrK.C w A n xs) (i : Nat) (h1 : i < n) : ∃ ad g, A = some ad ∧ xs[i]? = some g ∧ w.cell? (ad.add i) = some (.pointer (some ⟨g, 0, none⟩)) := by
  have hl : xs.length = n := h.1
  obtain ⟨ad, ha, hc⟩ := ReadsOf.at_ (Kd.reads_of_C (enc := fun g : Nat => Value.pointer (some ⟨g, 0, none⟩)) (d := 0) (h1 := fun _ => rfl) h) (i : Int) (by omega) (by omega)
  refine ⟨ad, xs[i]'(by omega), ha, List.getElem?_eq_getElem (by omega), ?_⟩
  rw [Int.toNat_natCast] at hc
  rw [hc]
  simp [rdOf, show i < xs.length by omega]

set_option maxHeartbeats 4000000 in
set_option maxRecDepth 100000 in
theorem at_any {G : Nat → Nat} {c : Nat} {w : World} {b : Nat} {m : MDisk} {rv kv : Value} {gs : List Nat} (h : Lies TP G c w b m rv kv gs) (n : Int) :
    Calls Tryd.prog 60 #[.pointer (some ⟨b, 0, none⟩), .int .i64 n] w fun e w' => e = .returned (.pointer (regP gs n)) ∧ Below w.heap.size w w' := by
  obtain ⟨A, cc, rfl, hcap, hC⟩ := Kd.R_reads h.row
  have h0 : w.cell? ⟨b, 0, none⟩ = some (.slice A gs.length cc) := cell_of_block h.head 0
  have HC := Lib.hid hC
  clear hC h
  by_cases h1 : n < 0
  · rw [regP_neg h1]
    go_enter Tryd.func60, Tryd.ntmps60
    go_wp2_with fail
    exact bodyPost_ret (v := .pointer none) (by simp [results, Tryd.results60, go_sem]) rfl ⟨rfl, Below.refl _ _⟩
  · obtain ⟨k, rfl⟩ : ∃ k : Nat, n = (k : Int) := ⟨n.toNat, by omega⟩
    by_cases h2 : (gs.length : Int) ≤ (k : Int)
    · have e : regP gs (k : Int) = none := by rw [regP_nat, List.getElem?_eq_none (by omega)]; rfl
      rw [e]
      go_enter Tryd.func60, Tryd.ntmps60
      go_wp2_with fail
      exact bodyPost_ret (v := .pointer none) (by simp [results, Tryd.results60, go_sem]) rfl ⟨rfl, Below.refl _ _⟩
    · obtain ⟨ad, g, rfl, hg, hx⟩ := ptr_at HC.out k (by omega)
      have e : regP gs (k : Int) = some ⟨g, 0, none⟩ := by rw [regP_nat, hg]; rfl
      rw [e]
      clear hg e
      have h3 : k < gs.length := by omega
      have h4 : (k : Int) < (gs.length : Int) := by omega
      go_enter Tryd.func60, Tryd.ntmps60
      go_wp2_with fail
      exact bodyPost_ret (v := .pointer (some ⟨g, 0, none⟩)) (by simp [results, Tryd.results60, go_sem]) rfl ⟨rfl, Below.refl _ _⟩

/-! Which region, and what it is. -/
def sectorsM (m : MDisk) (n : Int) : Int := if 0 ≤ n then (((m.regs[n.toNat]?).map (·.lasts.length)).getD 0 : Nat) else 0

theorem reg_of {G : Nat → Nat} {c : Nat} {T : Tys} {w : World} {b : Nat} {m : MDisk} {rv kv : Value} {gs : List Nat} (h : Lies T G c w b m rv kv gs) (k : Nat) :
    (∃ g r, regP gs (k : Int) = some ⟨g, 0, none⟩ ∧ gs[k]? = some g ∧ m.regs[k]? = some r ∧ RegAt T (fun i => G i = c + 3 + k) w g r) ∨ (regP gs (k : Int) = none ∧ m.regs[k]? = none) := by
  by_cases hk : k < m.regs.length
  · obtain ⟨g, hg, hr⟩ := h.regs k hk
    exact .inl ⟨g, m.regs[k], by rw [regP_nat, hg]; rfl, hg, List.getElem?_eq_getElem hk, hr⟩
  · refine .inr ⟨?_, List.getElem?_eq_none (by omega)⟩
    rw [regP_nat, List.getElem?_eq_none (by have := h.len; omega)]
    rfl

set_option maxHeartbeats 4000000 in
set_option maxRecDepth 100000 in
theorem sectors_any {G : Nat → Nat} {c : Nat} {w : World} {b : Nat} {m : MDisk} {rv kv : Value} {gs : List Nat} (h : Lies TP G c w b m rv kv gs) (n : Int) :
    Calls Tryd.prog 44 #[.pointer (some ⟨b, 0, none⟩), .int .i64 n] w fun e w' => e = .returned (.int .i64 (sectorsM m n)) ∧ Below w.heap.size w w' := by
  have H := Lib.hid h
  clear h
  go_enter Tryd.func44, Tryd.ntmps44
  go_wp2_with fail
  refine (at_any H.out n).mono ?_
  rintro e w1 ⟨rfl, hb1⟩
  have H1 := Lib.hid (H.out.below hb1)
  clear H
  by_cases h1 : n < 0
  · have e : sectorsM m n = 0 := by unfold sectorsM; rw [if_neg (by omega)]
    rw [regP_neg h1]
    go_wp2_with fail
    exact bodyPost_ret (v := .int .i64 0) (by simp [results, Tryd.results44, go_sem]) rfl ⟨by rw [e], hb1⟩
  · obtain ⟨k, rfl⟩ : ∃ k : Nat, n = (k : Int) := ⟨n.toNat, by omega⟩
    have es : sectorsM m (k : Int) = (((m.regs[k]?).map (·.lasts.length)).getD 0 : Nat) := by unfold sectorsM; rw [if_pos (by omega), Int.toNat_natCast]
    rcases reg_of H1.out k with ⟨g, r, e1, _, e3, hr⟩ | ⟨e1, e2⟩
    · have ev : Hid (sectorsM m (k : Int) = (r.lasts.length : Int)) := by show _ = _; rw [es, e3]; rfl
      rw [e1]
      obtain ⟨_, lv, qv, hb, hl, hq⟩ := hr
      obtain ⟨A, cc, rfl, _, _⟩ := Kd.R_reads hl
      have h0 : w1.cell? ⟨g, 0, none⟩ = some (.slice A r.lasts.length cc) := cell_of_block hb 0
      clear e1 e3 es hb hl hq
      go_wp2_with fail
      exact bodyPost_ret (v := .int .i64 (r.lasts.length : Int)) (by simp [results, Tryd.results44, go_sem]) rfl ⟨by rw [ev.out], hb1⟩
    · have ev : Hid (sectorsM m (k : Int) = 0) := by show _ = _; rw [es, e2]; rfl
      rw [e1]
      clear e1 e2 es
      go_wp2_with fail
      exact bodyPost_ret (v := .int .i64 0) (by simp [results, Tryd.results44, go_sem]) rfl ⟨by rw [ev.out], hb1⟩

/-! Off, On -/
set_option maxHeartbeats 4000000 in
set_option maxRecDepth 100000 in
theorem off_any {G : Nat → Nat} {c : Nat} {w : World} {b : Nat} {m : MDisk} {rv kv : Value} {gs : List Nat} (h : Lies TP G c w b m rv kv gs) :
    Calls Tryd.prog 34 #[.pointer (some ⟨b, 0, none⟩)] w fun e w' => e = .returned (.bool m.off) ∧ Below w.heap.size w w' := by
  have h1 : w.cell? ⟨b, 1, none⟩ = some (.bool m.off) := cell_of_block h.head 1
  clear h
  go_enter Tryd.func34, Tryd.ntmps34
  go_wp2_with fail
  exact bodyPost_ret (v := .bool m.off) (by simp [results, Tryd.results34, go_sem]) rfl ⟨rfl, Below.refl _ _⟩
def onM (m : MDisk) : MDisk := { m with off := false, treg := 0, tleft := 0, keep := [] }
set_option maxHeartbeats 4000000 in
set_option maxRecDepth 100000 in
theorem on_any {G : Nat → Nat} {c : Nat} {w : World} {b : Nat} {m : MDisk} {rv kv : Value} {gs : List Nat} (h : Lies TP G c w b m rv kv gs) :
    Calls Tryd.prog 33 #[.pointer (some ⟨b, 0, none⟩)] w fun e w' => e = .returned (.tuple #[]) ∧ Fr (fun k => k = b) w w' ∧ Lies TP G c w' b (onM m) rv (.slice none 0 0) gs := by
  have hx1 : w.cell? ⟨b, 1, none⟩ = some (.bool m.off) := cell_of_block h.head 1
  have hx2 : w.cell? ⟨b, 2, none⟩ = some (.int .i64 m.treg) := cell_of_block h.head 2
  have hx3 : w.cell? ⟨b, 3, none⟩ = some (.int .i64 m.tleft) := cell_of_block h.head 3
  have hx4 : w.cell? ⟨b, 4, none⟩ = some kv := cell_of_block h.head 4
  have hf1 : w.frozen? ⟨b, 1, none⟩ = false := unfrozen_of_block h.head 1
  have hf2 : w.frozen? ⟨b, 2, none⟩ = false := unfrozen_of_block h.head 2
  have hf3 : w.frozen? ⟨b, 3, none⟩ = false := unfrozen_of_block h.head 3
  have hf4 : w.frozen? ⟨b, 4, none⟩ = false := unfrozen_of_block h.head 4
  have H := Lib.hid h
  clear h
  go_enter Tryd.func33, Tryd.ntmps33
  go_wp2_with fail
  have f : Fr (fun k => k = b) w ((((w.setCell ⟨b, 1, none⟩ (.bool false)).setCell ⟨b, 2, none⟩ (.int .i64 0)).setCell ⟨b, 3, none⟩ (.int .i64 0)).setCell ⟨b, 4, none⟩ (.slice none 0 0)) := by
    refine Fr.setAt ?_ rfl
    refine Fr.setAt ?_ rfl
    refine Fr.setAt ?_ rfl
    refine Fr.setAt ?_ rfl
    exact Fr.refl _ _
  have hb := block_setCell (block_setCell (block_setCell (block_setCell H.out.head (i := 1) (.bool false)) (i := 2) (.int .i64 0)) (i := 3) (.int .i64 0)) (i := 4) (.slice none 0 0)
  have e : ((((hdr m rv kv).setIfInBounds 1 (.bool false)).setIfInBounds 2 (.int .i64 0)).setIfInBounds 3 (.int .i64 0)).setIfInBounds 4 (.slice none 0 0) = hdr (onM m) rv (.slice none 0 0) := rfl
  rw [e] at hb
  have hl := H.out.turn f hb rfl (Kd.R_nil _ _ _ _ _)
  refine bodyPost_end (v := .tuple #[]) (by simp [results, Tryd.results33, go_sem]) rfl ?_
  exact ⟨rfl, f, hl⟩

end Go.Proofs.YtekpbpcfeopilaaDoor.Da

/-! The program's disk: find. -/
namespace Go.Proofs.YtekpbpcfeopilaaDoor.Df
open Go Go.RowKit Go.Joins Go.Proofs.YtekpbpcfeopilaaDoorCore Go.Proofs.YtekpbpcfeopilaaDoor.Dm Go.Proofs.YtekpbpcfeopilaaDoor.Dr Go.Proofs.YtekpbpcfeopilaaDoor.Da Go.Proofs.YtekpbpcfeopilaaDoorW.PrintWords Go.Proofs.YtekpbpcfeopilaaDoorW.PrintLast Go.Proofs.YtekpbpcfeopilaaDoorW.PrintMore

/-! find -/
def findM (m : MDisk) (n s : Int) : Int := if m.off = true then 11 else if 0 ≤ n ∧ 0 ≤ s ∧ s < sectorsM m n then 0 else 10

/-- The region that find answers with. -/
def findP (m : MDisk) (gs : List Nat) (n s : Int) : Option Addr := if findM m n s = 0 then regP gs n else none
theorem findP_no {m : MDisk} {gs : List Nat} {n s e : Int} (h : findM m n s = e) (he : e ≠ 0) : findP m gs n s = none := by unfold findP; rw [if_neg (by rw [h]; exact he)]

theorem sectorsM_nat (m : MDisk) (k : Nat) : sectorsM m (k : Int) = (((m.regs[k]?).map (·.lasts.length)).getD 0 : Nat) := by unfold sectorsM; rw [if_pos (by omega), Int.toNat_natCast]

set_option maxHeartbeats 4000000 in
set_option maxRecDepth 100000 in
theorem find_any {G : Nat → Nat} {c : Nat} {w : World} {b : Nat} {m : MDisk} {rv kv : Value} {gs : List Nat} (h : Lies TP G c w b m rv kv gs) (n s : Int) :
    Calls Tryd.prog 77 #[.pointer (some ⟨b, 0, none⟩), .int .i64 n, .int .i64 s] w fun e w' => e = .returned (.tuple #[.pointer (findP m gs n s), .int .i64 (findM m n s)]) ∧ Below w.heap.size w w' := by
  have H := Lib.hid h
  clear h
  go_enter Tryd.func77, Tryd.ntmps77
  go_wp2_with fail
  refine (at_any H.out n).mono ?_
  rintro e w1 ⟨rfl, hb1⟩
  have H1 := Lib.hid (H.out.below hb1)
  clear H
  have hx1 : w1.cell? ⟨b, 1, none⟩ = some (.bool m.off) := cell_of_block H1.out.head 1
  by_cases ho : m.off = true
  · have ev : Hid (findM m n s = 11) := by show _ = _; unfold findM; rw [if_pos ho]
    rw [ho] at hx1
    clear ho
    go_wp2_with fail
    exact bodyPost_ret (v := .tuple #[.pointer none, .int .i64 11]) (by simp [results, Tryd.results77, go_sem]) rfl ⟨by rw [ev.out, findP_no ev.out (by omega)], hb1⟩
  · have ho2 : m.off = false := by simpa using ho
    rw [ho2] at hx1
    clear ho
    by_cases h1 : n < 0
    · have ev : Hid (findM m n s = 10) := by show _ = _; unfold findM; rw [if_neg (by simp [ho2]), if_neg (by omega)]
      rw [regP_neg h1]
      go_wp2_with fail
      exact bodyPost_ret (v := .tuple #[.pointer none, .int .i64 10]) (by simp [results, Tryd.results77, go_sem]) rfl ⟨by rw [ev.out, findP_no ev.out (by omega)], hb1⟩
    · obtain ⟨k, rfl⟩ : ∃ k : Nat, n = (k : Int) := ⟨n.toNat, by omega⟩
      have es := sectorsM_nat m k
      have ef : findM m (k : Int) s = if 0 ≤ s ∧ s < sectorsM m (k : Int) then 0 else 10 := by
        unfold findM
        rw [if_neg (by simp [ho2])]
        have : (0 : Int) ≤ (k : Int) := by omega
        simp only [this, true_and]
      rcases reg_of H1.out k with ⟨g, r, e1, _, e3, hr⟩ | ⟨e1, e2⟩
      · rw [es, e3] at ef
        simp only [Option.map_some, Option.getD_some] at ef
        obtain ⟨_, lv, qv, hb, hl, hq⟩ := hr
        obtain ⟨A, cc, rfl, _, _⟩ := Kd.R_reads hl
        have h0 : w1.cell? ⟨g, 0, none⟩ = some (.slice A r.lasts.length cc) := cell_of_block hb 0
        clear e3 es hb hl hq
        have E1 := Lib.hid e1
        have EF := Lib.hid ef
        by_cases hs : s < 0
        · have ev : Hid (findM m (k : Int) s = 10) := by show _ = _; rw [EF.out, if_neg (by omega)]
          rw [e1]
          clear e1 ef
          go_wp2_with fail
          exact bodyPost_ret (v := .tuple #[.pointer none, .int .i64 10]) (by simp [results, Tryd.results77, go_sem]) rfl ⟨by rw [ev.out, findP_no ev.out (by omega)], hb1⟩
        · by_cases hs2 : (r.lasts.length : Int) ≤ s
          · have ev : Hid (findM m (k : Int) s = 10) := by show _ = _; rw [EF.out, if_neg (by omega)]
            rw [e1]
            clear e1 ef
            go_wp2_with fail
            exact bodyPost_ret (v := .tuple #[.pointer none, .int .i64 10]) (by simp [results, Tryd.results77, go_sem]) rfl ⟨by rw [ev.out, findP_no ev.out (by omega)], hb1⟩
          · have ev : Hid (findM m (k : Int) s = 0) := by show _ = _; rw [EF.out, if_pos (by omega)]
            rw [e1]
            clear e1 ef
            go_wp2_with fail
            exact bodyPost_ret (v := .tuple #[.pointer (some ⟨g, 0, none⟩), .int .i64 0]) (by simp [results, Tryd.results77, go_sem]) rfl ⟨by rw [ev.out]; unfold findP; rw [if_pos ev.out, E1.out], hb1⟩
      · rw [es, e2] at ef
        have ev : Hid (findM m (k : Int) s = 10) := by show _ = _; rw [ef, if_neg (by simp)]
        rw [e1]
        clear e1 e2 ef es
        go_wp2_with fail
        exact bodyPost_ret (v := .tuple #[.pointer none, .int .i64 10]) (by simp [results, Tryd.results77, go_sem]) rfl ⟨by rw [ev.out, findP_no ev.out (by omega)], hb1⟩

end Go.Proofs.YtekpbpcfeopilaaDoor.Df

/-! The program's disk: Read. -/
namespace Go.Proofs.YtekpbpcfeopilaaDoor.Dg
open Go Go.RowKit Go.Joins Go.Proofs.YtekpbpcfeopilaaDoorCore Go.Proofs.YtekpbpcfeopilaaDoor.Dm Go.Proofs.YtekpbpcfeopilaaDoor.Dr Go.Proofs.YtekpbpcfeopilaaDoor.Da Go.Proofs.YtekpbpcfeopilaaDoor.Df Go.Proofs.YtekpbpcfeopilaaDoorW.PrintWords Go.Proofs.YtekpbpcfeopilaaDoorW.PrintLast Go.Proofs.YtekpbpcfeopilaaDoorW.PrintMore

/-- What Read answers. -/
def readM (m : MDisk) (n s : Int) : ByteArray := if findM m n s = 0 then lookQ ((m.regs[n.toNat]?).map (·.queue) |>.getD []) s ((((m.regs[n.toNat]?).map (·.lasts)).getD []).getD s.toNat ByteArray.empty) else ⟨#[]⟩

theorem lookQ_snoc (q : List (Int × ByteArray)) (p : Int × ByteArray) (s : Int) (d : ByteArray) : lookQ (q ++ [p]) s d = if p.1 = s then p.2 else lookQ q s d := by
  induction q generalizing d with
  | nil => rfl
  | cons a q ih => rw [List.cons_append, lookQ, ih]; rfl
theorem lookQ_take (q : List (Int × ByteArray)) (k : Nat) (h : k < q.length) (s : Int) (d : ByteArray) : lookQ (q.take (k + 1)) s d = if q[k].1 = s then q[k].2 else lookQ (q.take k) s d := by
  rw [List.take_succ_eq_append_getElem h, lookQ_snoc]

/-- A write's two cells. -/
theorem wr_at {w : World} {A : Option Addr} {n : Nat} {xs : List (Int × ByteArray)} (h : wrK.C w A n xs) (i : Nat) (h1 : i < n) (hx : i < xs.length) : ∃ ad, A = some ad ∧ w.cell? (ad.add (i * 2)) = some (.int .i64 xs[i].1) ∧ w.cell? (ad.add (i * 2 + 1)) = some (.string xs[i].2) := by
  obtain ⟨_, _, hc⟩ := h
  obtain ⟨ad, ha, hc⟩ := hc (by omega)
  obtain ⟨c, _, hr, hcell⟩ := hc i xs[i] (List.getElem?_eq_getElem hx)
  obtain ⟨c0, c1, rfl, h0, h1⟩ := hr
  obtain rfl : c0 = [.int .i64 xs[i].1] := h0
  obtain rfl : c1 = [.string xs[i].2] := h1
  exact ⟨ad, ha, hcell 0 _ rfl, hcell 1 _ rfl⟩

/-- What find's 'OK' says. -/
theorem find_ok {G : Nat → Nat} {c : Nat} {T : Tys} {w : World} {b : Nat} {m : MDisk} {rv kv : Value} {gs : List Nat} (h : Lies T G c w b m rv kv gs) {n s : Int} (hf : findM m n s = 0) :
    ∃ (k j : Nat) (g : Nat) (r : MReg), n = (k : Int) ∧ s = (j : Int) ∧ findP m gs n s = some ⟨g, 0, none⟩ ∧ gs[k]? = some g ∧ m.regs[k]? = some r ∧ j < r.lasts.length ∧ RegAt T (fun i => G i = c + 3 + k) w g r := by
  unfold findP
  rw [if_pos hf]
  unfold findM at hf
  split at hf
  · omega
  · split at hf
    · rename_i hh
      obtain ⟨h1, h2, h3⟩ := hh
      obtain ⟨k, rfl⟩ : ∃ k : Nat, n = (k : Int) := ⟨n.toNat, by omega⟩
      obtain ⟨j, rfl⟩ : ∃ j : Nat, s = (j : Int) := ⟨s.toNat, by omega⟩
      rw [sectorsM_nat] at h3
      rcases reg_of h k with ⟨g, r, e1, e2, e3, hr⟩ | ⟨e1, e2⟩
      · rw [e3] at h3
        simp at h3
        exact ⟨k, j, g, r, rfl, rfl, e1, e2, e3, by omega, hr⟩
      · rw [e2] at h3
        simp at h3
        omega
    · omega

structure Inv (q : List (Int × ByteArray)) (s : Int) (d : ByteArray) (w0 : World) (gk : Nat) (v : Value) (wr : World) : Prop where
  le : gk ≤ q.length
  slot : v = .int .i64 ((gk : Int) - 1)
  same : wr = w0
  look : lookQ q s d = lookQ (q.take gk) s d

set_option maxHeartbeats 4000000 in
set_option maxRecDepth 100000 in
theorem read_any {G : Nat → Nat} {c : Nat} {w : World} {b : Nat} {m : MDisk} {rv kv : Value} {gs : List Nat} (h : Lies TP G c w b m rv kv gs) (n s : Int) :
    Calls Tryd.prog 72 #[.pointer (some ⟨b, 0, none⟩), .int .i64 n, .int .i64 s] w fun e w' => e = .returned (.tuple #[.string (readM m n s), .int .i64 (findM m n s)]) ∧ Below w.heap.size w w' := by
  have H := Lib.hid h
  clear h
  by_cases hf : findM m n s = 0
  · obtain ⟨k, j, g, r, rfl, rfl, ep, _, er, hj, _⟩ := find_ok H.out hf
    have ev : Hid (readM m (k : Int) (j : Int) = lookQ r.queue (j : Int) r.lasts[j]) := by
      show _ = _
      unfold readM
      rw [if_pos hf, Int.toNat_natCast, er, Int.toNat_natCast]
      simp [hj]
    have EF := Lib.hid hf
    go_enter Tryd.func72, Tryd.ntmps72
    go_wp2_with fail
    refine (find_any H.out _ _).mono ?_
    rintro e w1 ⟨rfl, hb1⟩
    rw [ep, hf]
    obtain ⟨k', j', g', r', ek, ej, ep', _, er', _, hr⟩ := find_ok (H.out.below hb1) hf
    obtain rfl : k = k' := by omega
    obtain rfl : j = j' := by omega
    rw [ep] at ep'
    rw [er] at er'
    obtain rfl : g = g' := by simpa using ep'
    obtain rfl : r = r' := by simpa using er'
    obtain ⟨_, lv, qv, hb, hl, hq⟩ := hr
    obtain ⟨A, cc, rfl, _, hC⟩ := Kd.R_reads hl
    obtain ⟨Aq, cq, rfl, _, hQ⟩ := Kd.R_reads hq
    have h0 : w1.cell? ⟨g, 0, none⟩ = some (.slice A r.lasts.length cc) := cell_of_block hb 0
    have h1 : w1.cell? ⟨g, 1, none⟩ = some (.slice Aq r.queue.length cq) := cell_of_block hb 1
    have HC := Lib.hid hC
    have HQ := Lib.hid hQ
    have HQR := Lib.hid hq
    have hql : r.queue.length ≤ 9223372036854775807 := hQ.2.1
    clear hb hl hq hC hQ ep er er' ek ej ep' hf H
    go_wp2_with fail
    go_loopg [10] r.queue.length (fun gk v wr => Inv r.queue (j : Int) r.lasts[j] w1 gk v wr)
    case atStart => exact ⟨Nat.le_refl _, rfl, rfl, by rw [List.take_of_length_le (Nat.le_refl _)]⟩
    case round =>
      obtain ⟨hle, rfl, rfl, hlook⟩ := hrel
      have HL := Lib.hid hlook
      clear hlook
      cases gk with
      | zero =>
        obtain ⟨ad, rfl, hx⟩ := Kd.at_string HC.out (j : Int) (by omega) (by omega)
        rw [Int.toNat_natCast] at hx
        have ex : rdOf ByteArray.empty r.lasts (j : Int) = r.lasts[j] := by simp [rdOf, hj]
        rw [ex] at hx
        have hj2 : (j : Int) < (r.lasts.length : Int) := by omega
        clear ex
        have eR : Hid (readM m (k : Int) (j : Int) = r.lasts[j]) := by show _ = _; rw [ev.out, HL.out]; rfl
        clear ev HL
        go_wp2_with fail
        exact bodyPost_ret (v := .tuple #[.string r.lasts[j], .int .i64 0]) (by simp [results, Tryd.results72, go_sem]) rfl ⟨by rw [eR.out, EF.out], hb1⟩
      | succ i =>
        obtain ⟨q, qc, eq0, _, _, _⟩ := Kd.R_form HQR.out (by omega)
        simp only [Value.slice.injEq, true_and] at eq0
        obtain ⟨rfl, rfl⟩ := eq0
        obtain ⟨ad, ead, hx0, hx1⟩ := wr_at HQ.out i (by omega) (by omega)
        obtain rfl : (⟨q, 0, none⟩ : Addr) = ad := by simpa using ead
        clear ead
        rw [Addr.add_plain0] at hx0 hx1
        have ei : ((i + 1 : Nat) : Int) - 1 = (i : Int) := by omega
        have hi2 : (i : Int) < (r.queue.length : Int) := by omega
        have hil : i < r.queue.length := by omega
        rw [ei]
        have HT := Lib.hid (lookQ_take r.queue i hil (j : Int) r.lasts[j])
        obtain ⟨⟨ps, pd⟩, hp⟩ : ∃ p, r.queue[i] = p := ⟨_, rfl⟩
        rw [hp] at hx0 hx1 HT
        simp only at hx0 hx1 HT
        clear hp ei
        by_cases hs : ps = (j : Int)
        · have eR : Hid (readM m (k : Int) (j : Int) = pd) := by show _ = _; rw [ev.out, HL.out, HT.out, if_pos hs]
          subst hs
          clear ev HL HT
          go_wp2_with fail
          exact bodyPost_ret (v := .tuple #[.string pd, .int .i64 0]) (by simp [results, Tryd.results72, go_sem]) rfl ⟨by rw [eR.out, EF.out], hb1⟩
        · have HL2 : Hid (lookQ r.queue (j : Int) r.lasts[j] = lookQ (r.queue.take i) (j : Int) r.lasts[j]) := by show _ = _; rw [HL.out, HT.out, if_neg hs]
          have hs2 : (ps == (j : Int)) = false := by simpa using hs
          clear HL HT hs
          go_wp2_with fail
          go_roundg i
          case measure => omega
          case rel => exact ⟨by omega, by go_num, rfl, HL2.out⟩
  · have ev : Hid (readM m n s = ⟨#[]⟩) := by show _ = _; unfold readM; rw [if_neg hf]
    have ep := findP_no (gs := gs) rfl hf
    obtain ⟨e0, he⟩ : ∃ e0, findM m n s = e0 := ⟨_, rfl⟩
    rw [he] at hf
    have EF := Lib.hid he
    have EP := Lib.hid ep
    clear ep he
    go_enter Tryd.func72, Tryd.ntmps72
    go_wp2_with fail
    refine (find_any H.out _ _).mono ?_
    rintro e w1 ⟨rfl, hb1⟩
    rw [EP.out, EF.out]
    have hne : (e0 != 0) = true := by simpa using hf
    go_wp2_with fail
    exact bodyPost_ret (v := .tuple #[.string ⟨#[]⟩, .int .i64 e0]) (by simp [results, Tryd.results72, go_sem]) rfl ⟨by rw [ev.out, EF.out], hb1⟩

end Go.Proofs.YtekpbpcfeopilaaDoor.Dg

/-! The program's disk: fails. -/
namespace Go.Proofs.YtekpbpcfeopilaaDoor.Dh
open Go Go.RowKit Go.Joins Go.Proofs.YtekpbpcfeopilaaDoorCore Go.Proofs.YtekpbpcfeopilaaDoor.Dm Go.Proofs.YtekpbpcfeopilaaDoor.Dr Go.Proofs.YtekpbpcfeopilaaDoor.Da Go.Proofs.YtekpbpcfeopilaaDoor.Df Go.Proofs.YtekpbpcfeopilaaDoorW.PrintWords Go.Proofs.YtekpbpcfeopilaaDoorW.PrintLast Go.Proofs.YtekpbpcfeopilaaDoorW.PrintMore

/-- Does the power fail at this call? And what is behind it. -/
def failsM (m : MDisk) (n : Int) : Bool := decide (m.tleft ≠ 0) && decide (m.treg = n) && decide (m.tleft = 1)
def tickM (m : MDisk) (n : Int) : MDisk := if m.tleft = 0 ∨ m.treg ≠ n then m else { m with tleft := m.tleft - 1 }

set_option maxHeartbeats 4000000 in
set_option maxRecDepth 100000 in
theorem fails_any {G : Nat → Nat} {c : Nat} {w : World} {b : Nat} {m : MDisk} {rv kv : Value} {gs : List Nat} (h : Lies TP G c w b m rv kv gs) (n : Int) (h1 : 0 ≤ m.tleft) (h2 : m.tleft ≤ 9223372036854775807) :
    Calls Tryd.prog 78 #[.pointer (some ⟨b, 0, none⟩), .int .i64 n] w fun e w' => e = .returned (.bool (failsM m n)) ∧ Fr (fun k => k = b) w w' ∧ Lies TP G c w' b (tickM m n) rv kv gs := by
  have hx2 : w.cell? ⟨b, 2, none⟩ = some (.int .i64 m.treg) := cell_of_block h.head 2
  have hx3 : w.cell? ⟨b, 3, none⟩ = some (.int .i64 m.tleft) := cell_of_block h.head 3
  have hf3 : w.frozen? ⟨b, 3, none⟩ = false := unfrozen_of_block h.head 3
  have H := Lib.hid h
  clear h
  by_cases h0 : m.tleft = 0
  · have ef : Hid (failsM m n = false) := by show _ = _; simp [failsM, h0]
    have et : Hid (tickM m n = m) := by show _ = _; simp [tickM, h0]
    rw [h0] at hx3
    clear h0 h1 h2
    go_enter Tryd.func78, Tryd.ntmps78
    go_wp2_with fail
    exact bodyPost_ret (v := .bool false) (by simp [results, Tryd.results78, go_sem]) rfl ⟨by rw [ef.out], Fr.refl _ _, by rw [et.out]; exact H.out⟩
  · obtain ⟨tl, htl⟩ : ∃ tl, m.tleft = tl := ⟨_, rfl⟩
    obtain ⟨tr, htr⟩ : ∃ tr, m.treg = tr := ⟨_, rfl⟩
    have HL := Lib.hid htl
    have HR := Lib.hid htr
    rw [htl] at hx3 h0 h1 h2
    rw [htr] at hx2
    clear htl htr
    have hz : (tl == 0) = false := by simpa using h0
    by_cases hn : tr = n
    · subst hn
      have ef : Hid (failsM m tr = decide (tl = 1)) := by show _ = _; unfold failsM; rw [HL.out, HR.out]; simp [h0]
      have et : Hid (tickM m tr = { m with tleft := tl - 1 }) := by show _ = _; unfold tickM; rw [HL.out, HR.out, if_neg (by simp [h0])]
      clear h0
      go_enter Tryd.func78, Tryd.ntmps78
      go_wp2_with fail
      have ev : (tl - 1 == 0) = failsM m tr := by rw [ef.out, Bool.eq_iff_iff, beq_iff_eq, decide_eq_true_eq]; omega
      have f : Fr (fun k => k = b) w (w.setCell ⟨b, 3, none⟩ (.int .i64 (tl - 1))) := by
        refine Fr.setAt ?_ rfl
        exact Fr.refl _ _
      have hb := block_setCell H.out.head (i := 3) (.int .i64 (tl - 1))
      have e : (hdr m rv kv).setIfInBounds 3 (.int .i64 (tl - 1)) = hdr (tickM m tr) rv kv := by rw [et.out]; simp [hdr]
      rw [e] at hb
      have er : (tickM m tr).regs = m.regs := by rw [et.out]
      have ek : (tickM m tr).keep = m.keep := by rw [et.out]
      have hl := H.out.turn f hb er (by rw [ek]; exact Rfr H.out.keep f (fun k ho _ e2 => by rw [e2, H.out.colour] at ho; omega))
      refine bodyPost_ret (v := .bool (tl - 1 == 0)) (by simp [results, Tryd.results78, go_sem]) rfl ?_
      exact ⟨by rw [ev], f, hl⟩
    · have ef : Hid (failsM m n = false) := by show _ = _; unfold failsM; rw [HR.out]; simp [hn]
      have et : Hid (tickM m n = m) := by show _ = _; unfold tickM; rw [HR.out, if_pos (.inr hn)]
      have hz2 : (tr != n) = true := by simpa using hn
      clear h0 hn
      go_enter Tryd.func78, Tryd.ntmps78
      go_wp2_with fail
      exact bodyPost_ret (v := .bool false) (by simp [results, Tryd.results78, go_sem]) rfl ⟨by rw [ef.out], Fr.refl _ _, by rw [et.out]; exact H.out⟩

end Go.Proofs.YtekpbpcfeopilaaDoor.Dh

/-! The program's disk: last. -/
namespace Go.Proofs.YtekpbpcfeopilaaDoor.Di
open Go Go.RowKit Go.Joins Go.Proofs.YtekpbpcfeopilaaDoorCore Go.Proofs.YtekpbpcfeopilaaDoor.Dm Go.Proofs.YtekpbpcfeopilaaDoor.Dr Go.Proofs.YtekpbpcfeopilaaDoor.Da Go.Proofs.YtekpbpcfeopilaaDoor.Df Go.Proofs.YtekpbpcfeopilaaDoor.Dg Go.Proofs.YtekpbpcfeopilaaDoorW.PrintWords Go.Proofs.YtekpbpcfeopilaaDoorW.PrintLast Go.Proofs.YtekpbpcfeopilaaDoorW.PrintMore

set_option maxHeartbeats 4000000 in
set_option maxRecDepth 100000 in
theorem true_any (i : Int) (w : World) : Calls Tryd.prog 80 #[.int .i64 i] w fun e w' => e = .returned (.bool true) ∧ Below w.heap.size w w' := by
  go_enter Tryd.func80, Tryd.ntmps80
  go_wp2_with fail
  exact bodyPost_ret (v := .bool true) (by simp [results, Tryd.results80, go_sem]) rfl ⟨rfl, Below.refl _ _⟩

theorem putQ_length (kept : Nat → Bool) : ∀ (q : List (Int × ByteArray)) (i : Nat) (l : List ByteArray), (putQ kept i q l).length = l.length := by
  intro q
  induction q with
  | nil => intro i l; rfl
  | cons p q ih => intro i l; rw [putQ, ih]; split <;> simp
theorem putQ_at (kept : Nat → Bool) (q : List (Int × ByteArray)) (k : Nat) (h : k < q.length) (l : List ByteArray) : putQ kept k (q.drop k) l = putQ kept (k + 1) (q.drop (k + 1)) (if kept k = true then l.set q[k].1.toNat q[k].2 else l) := by
  rw [List.drop_eq_getElem_cons h, putQ]

structure LInv (ok : Nat → Prop) (P : World → Prop) (kept : Nat → Bool) (r : MReg) (w0 : World) (g : Nat) (qv : Value) (gk : Nat) (v : Value) (wr : World) (k : Nat) (l : List ByteArray) (lv : Value) : Prop where
  le : k ≤ r.queue.length
  slot : v = .int .i64 k
  ghost : gk + k = r.queue.length
  keeps : P wr
  fr : Fr ok w0 wr
  head : wr.heap[g]? = some (.cells #[lv, qv] TP.reg (0, 0))
  row : Kd.R Kd.string TP.str wr 0 ok lv l
  que : Kd.R wrK TP.wr wr 0 ok qv r.queue
  len : l.length = r.lasts.length
  put : putQ kept 0 r.queue r.lasts = putQ kept k (r.queue.drop k) l
def LRel (ok : Nat → Prop) (P : World → Prop) (kept : Nat → Bool) (r : MReg) (w0 : World) (g : Nat) (qv : Value) (gk : Nat) (v : Value) (wr : World) : Prop := ∃ k l lv, LInv ok P kept r w0 g qv gk v wr k l lv

set_option maxHeartbeats 4000000 in
set_option maxRecDepth 100000 in
theorem last_any {ok : Nat → Prop} {w : World} {g : Nat} {r : MReg} (h : RegAt TP ok w g r) {N : Nat} (hw : WfR N r) (hN : N ≤ 1000000) (fn : Nat) (hent : ∀ (args : Array Value) (W : World), Sem.run Tryd.prog (callFunc fn args) W = .ok (.enter fn args) W) (cap : Array Value) (kept : Nat → Bool) (P : World → Prop) (hP : ∀ W W', P W → Fr ok W W' → P W') (h0 : P w)
    (hk : ∀ W (i : Nat), P W → i < r.queue.length → Calls Tryd.prog fn (#[.int .i64 (i : Int)] ++ cap) W fun e w' => e = .returned (.bool (kept i)) ∧ Below W.heap.size W w') :
    Calls Tryd.prog 79 #[.pointer (some ⟨g, 0, none⟩), .func (.func fn) #[] cap] w fun e w' => e = .returned (.tuple #[]) ∧ Fr ok w w' ∧ RegAt TP ok w' g (lastR kept r) := by
  have HK := Lib.hid hk
  have HP := Lib.hid hP
  clear hk hP
  obtain ⟨hg, lv, qv, hb, hl, hq⟩ := h
  obtain ⟨Aq, cq, rfl, _, hQ⟩ := Kd.R_reads hq
  have hx1 : w.cell? ⟨g, 1, none⟩ = some (.slice Aq r.queue.length cq) := cell_of_block hb 1
  go_enter Tryd.func79, Tryd.ntmps79
  go_wp2_with fail
  have H0 : Hid (LRel ok P kept r w g (.slice Aq r.queue.length cq) r.queue.length (.int .i64 0) w) := ⟨0, r.lasts, lv, ⟨Nat.zero_le _, rfl, rfl, h0, Fr.refl _ _, hb, hl, hq, rfl, rfl⟩⟩
  clear hb hl hq hQ h0 hx1
  go_loopg [11] r.queue.length (fun gk v wr => LRel ok P kept r w g (.slice Aq r.queue.length cq) gk v wr)
  case atStart => exact H0.out
  case round =>
    obtain ⟨k, l, lw, ⟨hle, rfl, hgh, hp, hf, hb, hl, hq, hlen, hput⟩⟩ := hrel
    have HG := Lib.hid hgh
    have HPW := Lib.hid hp
    have HF := Lib.hid hf
    have HB := Lib.hid hb
    have HL := Lib.hid hl
    have HQ := Lib.hid hq
    have HPUT := Lib.hid hput
    have HLEN := Lib.hid hlen
    clear hgh hp hf hb hl hq hput hlen H0
    by_cases hk : k < r.queue.length
    · obtain ⟨q, qc, eq0, _, hql, _⟩ := Kd.R_form HQ.out (by omega)
      simp only [Value.slice.injEq, true_and] at eq0
      obtain ⟨rfl, rfl⟩ := eq0
      obtain ⟨_, _, eqv, _, hQ⟩ := Kd.R_reads HQ.out
      simp only [Value.slice.injEq, true_and] at eqv
      obtain ⟨rfl, rfl⟩ := eqv
      obtain ⟨ad, ead, hx0, hx1⟩ := wr_at hQ k hk hk
      obtain rfl : (⟨q, 0, none⟩ : Addr) = ad := by simpa using ead
      clear ead hQ
      rw [Addr.add_plain0] at hx0 hx1
      have hin := hw.inQ r.queue[k] (List.getElem_mem hk)
      have HT := Lib.hid (putQ_at kept r.queue k hk l)
      obtain ⟨⟨ps, pd⟩, hpp⟩ : ∃ p, r.queue[k] = p := ⟨_, rfl⟩
      rw [hpp] at hx0 hx1 hin HT
      simp only at hx0 hx1 hin HT
      clear hpp
      have hk2 : (k : Int) < (r.queue.length : Int) := by omega
      have ha : Below wr.heap.size wr (wr.alloc (.cells #[.int .i64 ps, .string pd] 136)) := (Below.refl _ _).alloc (Nat.le_refl _) _
      go_wp2_with fail
      refine (HK.out _ k (HP.out _ _ HPW.out (Fr.of_below ha)) hk).mono ?_
      rintro e w1 ⟨rfl, hb1⟩
      have hc1 := alloc_cells hb1
      have hb2 : Below wr.heap.size wr w1 := alloc_below hb1
      have HPW1 := Lib.hid (HP.out _ _ HPW.out (Fr.of_below hb2))
      have HF1 := Lib.hid (HF.out.thenBelow hb2)
      have HB1 := Lib.hid (below_row hb2 (heap_lt HB.out) HB.out)
      have HL1 := Lib.hid (Kd.R_below HL.out hb2)
      have HQ1 := Lib.hid (Kd.R_below HQ.out hb2)
      have hcw0 : w1.cell? ⟨wr.heap.size, 0, none⟩ = some (.int .i64 ps) := hc1 0
      have hcw1 : w1.cell? ⟨wr.heap.size, 1, none⟩ = some (.string pd) := hc1 1
      clear hb1 hc1 hb2 ha hx0 hx1 HPW HF HB HL HQ
      by_cases hkk : kept k = true
      · have hll := HLEN.out
        obtain ⟨pl, lc, rfl, _, _, ⟨plc, hplc⟩⟩ := Kd.R_form HL1.out (by omega)
        have HPL := Lib.hid hplc
        obtain ⟨j, rfl⟩ : ∃ j : Nat, ps = (j : Int) := ⟨ps.toNat, by omega⟩
        have hj : j < l.length := by omega
        have hj2 : (j : Int) < (l.length : Int) := by omega
        obtain ⟨hcell, hfroz⟩ := Kd.R_cell ByteArray.empty HL1.out (j : Int) (by omega) (by omega)
        rw [Int.toNat_natCast] at hcell hfroz
        obtain ⟨old, hold⟩ : ∃ o, rdOf ByteArray.empty l (j : Int) = o := ⟨_, rfl⟩
        rw [hold] at hcell
        have hl0 : w1.cell? ⟨g, 0, none⟩ = some (.slice (some ⟨pl, 0, none⟩) l.length lc) := cell_of_block HB1.out 0
        rw [hkk]
        clear hold hll hplc
        go_wp2_with fail
        go_region
        have hokp : ok pl := HL1.out.1 pl rfl
        have hgp : g ≠ pl := by
          have := Kd.R_ne HL1.out HB1.out (show TP.str ≠ TP.reg by decide)
          simpa [Value.ownBlock] using this
        have f5 : Fr ok w1 (w1.setCell ⟨pl, j, none⟩ (.string pd)).drew := by
          refine Fr.drew ?_
          refine Fr.setAt ?_ hokp
          exact Fr.refl _ _
        have hp5 := HP.out _ _ HPW1.out f5
        have hf5 := HF1.out.trans f5
        have hb5 : (w1.setCell ⟨pl, j, none⟩ (.string pd)).drew.heap[g]? = some (.cells #[.slice (some ⟨pl, 0, none⟩) l.length lc, .slice (some ⟨q, 0, none⟩) r.queue.length cq] TP.reg (0, 0)) :=
          (Below.heap_setCell w1 ⟨pl, j, none⟩ _ g hgp).trans HB1.out
        have hr5 := Kd.R_drew (Kd.R_put HL1.out (j : Int) pd).1
        rw [Int.toNat_natCast] at hr5
        have hq5 := Kd.R_drew (Kd.R_set HQ1.out HPL.out (by decide) j (.string pd))
        have hput5 : putQ kept 0 r.queue r.lasts = putQ kept (k + 1) (r.queue.drop (k + 1)) (l.set j pd) := by
          rw [HPUT.out, HT.out, if_pos hkk, Int.toNat_natCast]
        have H5 : LInv ok P kept r w g (.slice (some ⟨q, 0, none⟩) r.queue.length cq) (gk - 1) (.int .i64 ((k + 1 : Nat) : Int)) (w1.setCell ⟨pl, j, none⟩ (.string pd)).drew (k + 1) (l.set j pd) (.slice (some ⟨pl, 0, none⟩) l.length lc) :=
          ⟨by omega, rfl, by have := HG.out; omega, hp5, hf5, hb5, hr5, hq5, by rw [List.length_set]; exact HLEN.out, hput5⟩
        have HH5 := Lib.hid H5
        clear H5 hput5 hq5 hr5 hb5 hf5 hp5 f5 hgp hokp hcell hfroz hl0
        have hlong := Nat.le_trans hw.long hN
        go_wp2_with fail
        go_roundg (gk - 1)
        case measure => have := HG.out; omega
        case rel => exact ⟨k + 1, _, _, HH5.out⟩
      · have hkf : kept k = false := by simpa using hkk
        rw [hkf]
        have hlong := Nat.le_trans hw.long hN
        have hput5 : putQ kept 0 r.queue r.lasts = putQ kept (k + 1) (r.queue.drop (k + 1)) l := by
          rw [HPUT.out, HT.out, if_neg hkk]
        have HPUT5 := Lib.hid hput5
        clear hput5
        go_wp2_with fail
        go_roundg (gk - 1)
        case measure => have := HG.out; omega
        case rel => exact ⟨k + 1, l, lw, ⟨by omega, rfl, by have := HG.out; omega, HPW1.out, HF1.out, HB1.out, HL1.out, HQ1.out, HLEN.out, HPUT5.out⟩⟩
    · have hk2 : k = r.queue.length := by omega
      subst hk2
      have e1 := HPUT.out
      rw [List.drop_eq_nil_of_le (Nat.le_refl _)] at e1
      have EP := Lib.hid (show putQ kept 0 r.queue r.lasts = l from e1)
      clear e1
      have hx1 : wr.cell? ⟨g, 1, none⟩ = some (.slice Aq r.queue.length cq) := cell_of_block HB.out 1
      have hf1 : wr.frozen? ⟨g, 1, none⟩ = false := unfrozen_of_block HB.out 1
      go_wp2_with fail
      have f5 : Fr ok wr (wr.setCell ⟨g, 1, none⟩ (.slice none 0 0)) := by
        refine Fr.setAt ?_ hg
        exact Fr.refl _ _
      have hb5 := block_setCell HB.out (i := 1) (.slice none 0 0)
      have e5 : (#[lw, Value.slice Aq r.queue.length cq] : Array Value).setIfInBounds 1 (.slice none 0 0) = #[lw, .slice none 0 0] := by simp
      rw [e5] at hb5
      have hl5 := Kd.R_set HL.out HB.out (by decide) 1 (.slice none 0 0)
      have er : lastR kept r = ⟨l, []⟩ := by unfold lastR; rw [EP.out]
      refine bodyPost_end (v := .tuple #[]) (by simp [results, Tryd.results79, go_sem]) rfl ?_
      exact ⟨rfl, HF.out.trans f5, by rw [er]; exact ⟨hg, lw, .slice none 0 0, hb5, hl5, Kd.R_nil _ _ _ _ _⟩⟩

end Go.Proofs.YtekpbpcfeopilaaDoor.Di

/-! The program's disk: lose. -/
namespace Go.Proofs.YtekpbpcfeopilaaDoor.Dj
open Go Go.RowKit Go.Joins Go.Proofs.YtekpbpcfeopilaaDoorCore Go.Proofs.YtekpbpcfeopilaaDoor.Dm Go.Proofs.YtekpbpcfeopilaaDoor.Dr Go.Proofs.YtekpbpcfeopilaaDoor.Da Go.Proofs.YtekpbpcfeopilaaDoor.Df Go.Proofs.YtekpbpcfeopilaaDoor.Dg Go.Proofs.YtekpbpcfeopilaaDoor.Di Go.Proofs.YtekpbpcfeopilaaDoorW.PrintWords Go.Proofs.YtekpbpcfeopilaaDoorW.PrintLast Go.Proofs.YtekpbpcfeopilaaDoorW.PrintMore

set_option maxHeartbeats 4000000 in
set_option maxRecDepth 100000 in
theorem kept_any (i n : Nat) (a1 a2 : Addr) (A : Option Addr) (cc : Nat) (keep : List Int) (w : World) (hC : Kd.C (Kd.int .u64) w A keep.length keep) (hi : i ≤ 1000000) (hK : ∀ x ∈ keep, 0 ≤ x ∧ x ≤ 18446744073709551615) (h1 : w.cell? a1 = some (.int .i64 (n : Int))) (h2 : w.cell? a2 = some (.slice A keep.length cc)) :
    Calls Tryd.prog 81 #[.int .i64 (i : Int), .pointer (some a1), .pointer (some a2)] w fun e w' => e = .returned (.bool (bitK keep n i)) ∧ Below w.heap.size w w' := by
  by_cases hn : n < keep.length
  · obtain ⟨ad, rfl, hx⟩ := Kd.at_int hC (n : Int) (by omega) (by omega)
    obtain ⟨x, hx0⟩ : ∃ x, rd keep (n : Int) = x := ⟨_, rfl⟩
    rw [hx0, Int.toNat_natCast] at hx
    have hxd : keep.getD n 0 = x := by rw [← hx0]; simp [rd]
    obtain ⟨hx1, hx2⟩ := hK x (by rw [← hxd]; simp [hn])
    have hb : bitK keep n i = decide (x / 2 ^ (i % 64) % 2 = 1) := by unfold bitK; rw [hxd]; simp [hn]
    have HB := Lib.hid hb
    clear hC hx0 hxd hK hb
    have hn2 : (n : Int) < (keep.length : Int) := by omega
    go_enter Tryd.func81, Tryd.ntmps81
    go_wp2_with fail
    have h2p : (0 : Int) < 2 ^ (i % 64) := by
      have := Int.pow_pos (n := 2) (m := i % 64) (by omega)
      exact this
    have hd0 : 0 ≤ x / 2 ^ (i % 64) := Int.ediv_nonneg hx1 (by omega)
    have hd1 : x / 2 ^ (i % 64) ≤ x := Int.ediv_le_self _ hx1
    have ev : (bits BinOp.and IntKind.u64 (x / 2 ^ (i % 64)) 1 == 1) = bitK keep n i := by
      rw [Go.and_one_u64 _ hd0 (by omega), HB.out, Bool.eq_iff_iff, beq_iff_eq, decide_eq_true_eq]
    exact bodyPost_ret (v := .bool (bits BinOp.and IntKind.u64 (x / 2 ^ (i % 64)) 1 == 1)) (by simp [results, Tryd.results81, go_sem]) rfl ⟨by rw [ev], Below.refl _ _⟩
  · have hb : Hid (bitK keep n i = false) := by show _ = _; unfold bitK; simp [hn]
    clear hC hK
    go_enter Tryd.func81, Tryd.ntmps81
    go_wp2_with fail
    exact bodyPost_ret (v := .bool false) (by simp [results, Tryd.results81, go_sem]) rfl ⟨by rw [hb.out], Below.refl _ _⟩

theorem enter_of {P : Program} {f : FuncId} {fn : Func} {c : Code} (hf : P.funcs[f]? = some fn) (hname : (fn.name == "runtime.NumGoroutine") = false) (hb : fn.body = some c) (args : Array Value) (w : World) :
    Sem.run P (callFunc f args) w = .ok (.enter f args) w := by
  have h1 : fn.name ≠ "runtime.NumGoroutine" := by simpa using hname
  simp [callFunc, hf, h1, hb]

/-- The colours of a disk's regions. -/
def regC (G : Nat → Nat) (c : Nat) (k : Nat) : Prop := c + 3 ≤ G k ∧ G k < c + 16

structure LoInv (G : Nat → Nat) (c : Nat) (m : MDisk) (gs : List Nat) (keep : List Int) (w wa : World) (gk : Nat) (v : Value) (wr : World) (k : Nat) : Prop where
  le : k ≤ gs.length
  slot : v = .int .i64 k
  ghost : gk + k = gs.length
  fr : Fr (fun j => regC G c j ∧ j < w.heap.size) wa wr
  regs : ∀ i (h : i < m.regs.length), ∃ g, gs[i]? = some g ∧ RegAt TP (fun j => G j = c + 3 + i ∧ j < w.heap.size) wr g (if i < k then lastR (bitK keep i) m.regs[i] else m.regs[i])
def LoRel (G : Nat → Nat) (c : Nat) (m : MDisk) (gs : List Nat) (keep : List Int) (w wa : World) (gk : Nat) (v : Value) (wr : World) : Prop := ∃ k, LoInv G c m gs keep w wa gk v wr k

def loseM (keep : List Int) (m : MDisk) : MDisk := { regs := loseRs keep m.regs, off := true, treg := 0, tleft := 0, keep := [] }

theorem lose_lies {G : Nat → Nat} {c : Nat} {T : Tys} {w wa wr w' : World} {b : Nat} {m : MDisk} {rv kv : Value} {gs : List Nat} {keep : List Int} (H : Lies T G c wa b m rv kv gs) (hl : gs.length = m.regs.length) (HF : Fr (fun j => regC G c j ∧ j < w.heap.size) wa wr) (f : Fr (fun k => k = b) wr w')
    (hb : w'.heap[b]? = some (.cells (hdr (loseM keep m) rv (.slice none 0 0)) T.disk (0, 0)))
    (hr : ∀ i (_ : i < m.regs.length), ∃ g, gs[i]? = some g ∧ RegAt T (fun j => G j = c + 3 + i ∧ j < w.heap.size) wr g (if i < gs.length then lastR (bitK keep i) m.regs[i] else m.regs[i])) :
    Lies T G c w' b (loseM keep m) rv (.slice none 0 0) gs where
  head := hb
  colour := H.colour
  row := Rfr (Rfr H.row HF (fun j ho _ hs => by have := hs.1.1; omega)) f (fun j ho _ e => by rw [e, H.colour] at ho; omega)
  keep := Kd.R_nil _ _ _ _ _
  len := by simp [loseM, loseRs, hl]
  regs := fun i hi => by
    have hi2 : i < m.regs.length := by simpa [loseM, loseRs] using hi
    obtain ⟨g, hg, ha⟩ := hr i hi2
    rw [if_pos (by omega)] at ha
    refine ⟨g, hg, ?_⟩
    have e : (loseM keep m).regs[i] = lastR (bitK keep i) m.regs[i] := by simp [loseM, loseRs]
    rw [e]
    exact (ha.mono (fun k _ hk => hk.1)).fr f (fun k ho _ e2 => by rw [e2, H.colour] at ho; omega)

set_option maxHeartbeats 4000000 in
set_option maxRecDepth 100000 in
theorem lose_any {G : Nat → Nat} {c : Nat} {w : World} {b : Nat} {m : MDisk} {rv kv : Value} {gs : List Nat} (h : Lies TP G c w b m rv kv gs) {N : Nat} (hm : Wf N m) (hN : N ≤ 1000000) (A : Option Addr) (cc : Nat) (keep : List Int) (hK : ∀ x ∈ keep, 0 ≤ x ∧ x ≤ 18446744073709551615)
    (hC : ∀ W, Fr (regC G c) w W → Kd.C (Kd.int .u64) W A keep.length keep) :
    Calls Tryd.prog 61 #[.pointer (some ⟨b, 0, none⟩), .slice A keep.length cc] w fun e w' => e = .returned (.tuple #[]) ∧ Fr (fun k => k = b ∨ regC G c k) w w' ∧ Lies TP G c w' b (loseM keep m) rv (.slice none 0 0) gs := by
  obtain ⟨wa, hwa⟩ : ∃ wa, w.alloc (.cells #[.slice A keep.length cc] 96) = wa := ⟨_, rfl⟩
  have hba : Below w.heap.size w wa := by rw [← hwa]; exact (Below.refl _ _).alloc (Nat.le_refl _) _
  have hka : wa.cell? ⟨w.heap.size, 0, none⟩ = some (.slice A keep.length cc) := by rw [← hwa]; unfold World.cell?; rw [heap_alloc_new]; rfl
  have HC := Lib.hid hC
  have HBA := Lib.hid hba
  have HKA := Lib.hid hka
  have H := Lib.hid (h.below hba)
  have hrows : ∀ i (hi : i < m.regs.length), ∃ g, gs[i]? = some g ∧ RegAt TP (fun j => G j = c + 3 + i ∧ j < w.heap.size) wa g m.regs[i] := fun i hi => by
    obtain ⟨g, hg, hr⟩ := h.regs i hi
    exact ⟨g, hg, (hr.mono (fun k hk ho => ⟨ho, hk⟩)).fr (S := fun _ => False) (Fr.of_below hba) (fun _ _ _ h => h)⟩
  have HROWS := Lib.hid hrows
  have HLEN := Lib.hid h.len
  have hg8 : gs.length ≤ 8 := by rw [h.len]; exact hm.few
  obtain ⟨Ar, cr, rfl, _, hCr⟩ := Kd.R_reads H.out.row
  have hx0 : wa.cell? ⟨b, 0, none⟩ = some (.slice Ar gs.length cr) := cell_of_block H.out.head 0
  have HCR := Lib.hid hCr
  clear hC h hrows hCr
  go_enter Tryd.func61, Tryd.ntmps61
  go_wp2_with (rw [hwa])
  have hza : w.heap.size < wa.heap.size := by rw [← hwa]; simp
  clear hwa
  go_loopg [11] gs.length (fun gk v wr => LoRel G c m gs keep w wa gk v wr)
  case atStart => exact ⟨0, ⟨Nat.zero_le _, rfl, rfl, Fr.refl _ _, fun i hi => by
    obtain ⟨g, hg, hr⟩ := HROWS.out i hi
    exact ⟨g, hg, by rw [if_neg (by omega)]; exact hr⟩⟩⟩
  case round =>
    obtain ⟨k, ⟨hle, rfl, hgh, hf, hregs⟩⟩ := hrel
    have HG := Lib.hid hgh
    have HF := Lib.hid hf
    have HR := Lib.hid hregs
    clear hgh hf hregs
    by_cases hk : k < gs.length
    · have hrow := Rfr H.out.row HF.out (fun j ho _ hs => by have := hs.1.1; omega)
      obtain ⟨A', c', eA, _, hCA⟩ := Kd.R_reads hrow
      simp only [Value.slice.injEq, true_and] at eA
      obtain ⟨rfl, rfl⟩ := eA
      obtain ⟨ad, g, rfl, hg, hx⟩ := ptr_at hCA k (by omega)
      have hkm : k < m.regs.length := by have := HLEN.out; omega
      obtain ⟨g', hg', hr⟩ := HR.out k hkm
      rw [hg] at hg'
      obtain rfl : g = g' := by simpa using hg'
      rw [if_neg (by omega)] at hr
      have HRG := Lib.hid hr
      have HGS := Lib.hid hg
      have hwr : wa.heap.size ≤ wr.heap.size := HF.out.size
      have hk2 : (k : Int) < (gs.length : Int) := by omega
      obtain ⟨wb, hwb⟩ : ∃ wb, wr.alloc (.cells #[.int .i64 (k : Int)] 3) = wb := ⟨_, rfl⟩
      have hbb : Below wr.heap.size wr wb := by rw [← hwb]; exact (Below.refl _ _).alloc (Nat.le_refl _) _
      have hnb : wb.cell? ⟨wr.heap.size, 0, none⟩ = some (.int .i64 (k : Int)) := by rw [← hwb]; unfold World.cell?; rw [heap_alloc_new]; rfl
      have HBB := Lib.hid hbb
      have HNB := Lib.hid hnb
      have hmf : ∀ (fn : Fn) (first cap : Array Value) (w : World), (Instr.makeFunc fn first cap).run Tryd.prog w = .ok (.func fn first cap) w := fun _ _ _ _ => rfl
      clear hrow hCA hg hg' hr hbb hnb
      go_wp2_with (rw [hwb])
      have hWr : WfR N m.regs[k] := hm.regs _ (List.getElem_mem hkm)
      have hent : ∀ (args : Array Value) (W : World), Sem.run Tryd.prog (callFunc 81 args) W = .ok (.enter 81 args) W := fun args W => enter_of Tryd.func81 (by kernel_rfl) rfl args W
      have hPs : ∀ W W' : World, (Fr (regC G c) w W ∧ W.cell? ⟨wr.heap.size, 0, none⟩ = some (.int .i64 (k : Int)) ∧ W.cell? ⟨w.heap.size, 0, none⟩ = some (.slice A keep.length cc)) → Fr (fun j => G j = c + 3 + k ∧ j < w.heap.size) W W' →
          (Fr (regC G c) w W' ∧ W'.cell? ⟨wr.heap.size, 0, none⟩ = some (.int .i64 (k : Int)) ∧ W'.cell? ⟨w.heap.size, 0, none⟩ = some (.slice A keep.length cc)) := by
        rintro W W' ⟨h1, h2, h3⟩ hfw
        refine ⟨h1.trans (hfw.mono (fun j hj => ⟨by omega, by omega⟩)), hfw.cell h2 (fun hs => ?_), hfw.cell h3 (fun hs => ?_)⟩
        · have := hs.2
          simp only at this
          omega
        · have := hs.2
          simp only at this
          omega
      have hP0 : Fr (regC G c) w wb ∧ wb.cell? ⟨wr.heap.size, 0, none⟩ = some (.int .i64 (k : Int)) ∧ wb.cell? ⟨w.heap.size, 0, none⟩ = some (.slice A keep.length cc) :=
        ⟨(((Fr.of_below HBA.out).trans (HF.out.mono (fun j hj => hj.1))).thenBelow HBB.out), HNB.out, ((HF.out.thenBelow HBB.out).cell HKA.out (fun hs => by have := hs.2; simp only at this; omega))⟩
      have hkc : ∀ W (i : Nat), (Fr (regC G c) w W ∧ W.cell? ⟨wr.heap.size, 0, none⟩ = some (.int .i64 (k : Int)) ∧ W.cell? ⟨w.heap.size, 0, none⟩ = some (.slice A keep.length cc)) → i < m.regs[k].queue.length →
          Calls Tryd.prog 81 (#[.int .i64 (i : Int)] ++ #[.pointer (some ⟨wr.heap.size, 0, none⟩), .pointer (some ⟨w.heap.size, 0, none⟩)]) W fun e w' => e = .returned (.bool (bitK keep k i)) ∧ Below W.heap.size W w' := fun W i ⟨h1, h2, h3⟩ hi => by
        have := Nat.le_trans hWr.long hN
        exact kept_any i k _ _ A cc keep W (HC.out W h1) (by omega) hK h2 h3
      have hlast := last_any ((HRG.out).fr (S := fun _ => False) (Fr.of_below HBB.out) (fun _ _ _ h => h)) hWr hN 81 hent #[.pointer (some ⟨wr.heap.size, 0, none⟩), .pointer (some ⟨w.heap.size, 0, none⟩)] (bitK keep k) _ hPs hP0 hkc
      clear hPs hP0 hkc hent hWr
      refine hlast.mono ?_
      rintro e w1 ⟨rfl, hf1, hr1⟩
      clear hlast
      have HF1 := Lib.hid ((HF.out.thenBelow HBB.out).trans (hf1.mono (fun j hj => (⟨⟨by omega, by omega⟩, hj.2⟩ : regC G c j ∧ j < w.heap.size))))
      have hregs1 : ∀ i (h : i < m.regs.length), ∃ g, gs[i]? = some g ∧ RegAt TP (fun j => G j = c + 3 + i ∧ j < w.heap.size) w1 g (if i < k + 1 then lastR (bitK keep i) m.regs[i] else m.regs[i]) := fun i hi => by
        by_cases hik : i = k
        · subst hik
          exact ⟨g, HGS.out, by rw [if_pos (by omega)]; exact hr1⟩
        · obtain ⟨g2, hg2, hr2⟩ := HR.out i hi
          refine ⟨g2, hg2, ?_⟩
          have e : (if i < k + 1 then lastR (bitK keep i) m.regs[i] else m.regs[i]) = (if i < k then lastR (bitK keep i) m.regs[i] else m.regs[i]) := by
            by_cases h : i < k
            · rw [if_pos h, if_pos (by omega)]
            · rw [if_neg h, if_neg (by omega)]
          rw [e]
          exact (hr2.fr (S := fun _ => False) (Fr.of_below HBB.out) (fun _ _ _ h => h)).fr hf1 (fun j h1 _ h2 => by omega)
      have HR1 := Lib.hid hregs1
      clear hregs1 hf1 hr1 HF HR HRG HBB HNB
      go_wp2_with fail
      go_roundg (gk - 1)
      case measure => have := HG.out; omega
      case rel => exact ⟨k + 1, ⟨by omega, by go_num, by have := HG.out; omega, HF1.out, HR1.out⟩⟩
    · have hk2 : k = gs.length := by omega
      subst hk2
      have HL := Lib.hid (H.out.head)
      have hb1 := HF.out.at_ H.out.head (fun hs => by have h1 := hs.1.1; rw [H.out.colour] at h1; omega)
      have HB1 := Lib.hid hb1
      have hx1 : wr.cell? ⟨b, 1, none⟩ = some (.bool m.off) := cell_of_block hb1 1
      have hx2 : wr.cell? ⟨b, 2, none⟩ = some (.int .i64 m.treg) := cell_of_block hb1 2
      have hx3 : wr.cell? ⟨b, 3, none⟩ = some (.int .i64 m.tleft) := cell_of_block hb1 3
      have hx4 : wr.cell? ⟨b, 4, none⟩ = some kv := cell_of_block hb1 4
      have hf1 : wr.frozen? ⟨b, 1, none⟩ = false := unfrozen_of_block hb1 1
      have hf2 : wr.frozen? ⟨b, 2, none⟩ = false := unfrozen_of_block hb1 2
      have hf3 : wr.frozen? ⟨b, 3, none⟩ = false := unfrozen_of_block hb1 3
      have hf4 : wr.frozen? ⟨b, 4, none⟩ = false := unfrozen_of_block hb1 4
      clear hb1
      go_wp2_with fail
      have f : Fr (fun k => k = b) wr ((((wr.setCell ⟨b, 1, none⟩ (.bool true)).setCell ⟨b, 2, none⟩ (.int .i64 0)).setCell ⟨b, 3, none⟩ (.int .i64 0)).setCell ⟨b, 4, none⟩ (.slice none 0 0)) := by
        refine Fr.setAt ?_ rfl
        refine Fr.setAt ?_ rfl
        refine Fr.setAt ?_ rfl
        refine Fr.setAt ?_ rfl
        exact Fr.refl _ _
      have hb := block_setCell (block_setCell (block_setCell (block_setCell HB1.out (i := 1) (.bool true)) (i := 2) (.int .i64 0)) (i := 3) (.int .i64 0)) (i := 4) (.slice none 0 0)
      have e : ((((hdr m (Value.slice Ar gs.length cr) kv).setIfInBounds 1 (.bool true)).setIfInBounds 2 (.int .i64 0)).setIfInBounds 3 (.int .i64 0)).setIfInBounds 4 (.slice none 0 0) = hdr (loseM keep m) (Value.slice Ar gs.length cr) (.slice none 0 0) := rfl
      rw [e] at hb
      refine bodyPost_end (v := .tuple #[]) (by simp [results, Tryd.results61, go_sem]) rfl ?_
      refine ⟨rfl, ?_, ?_⟩
      · exact ((Fr.of_below HBA.out).trans (HF.out.mono (fun j hj => .inr hj.1))).trans (f.mono (fun j hj => .inl hj))
      · exact lose_lies H.out HLEN.out HF.out f hb HR.out

end Go.Proofs.YtekpbpcfeopilaaDoor.Dj

/-! The program's disk: Write. -/
namespace Go.Proofs.YtekpbpcfeopilaaDoor.Dk
open Go Go.RowKit Go.Joins Go.Proofs.YtekpbpcfeopilaaDoorCore Go.Proofs.YtekpbpcfeopilaaDoor.Dm Go.Proofs.YtekpbpcfeopilaaDoor.Dr Go.Proofs.YtekpbpcfeopilaaDoor.Da Go.Proofs.YtekpbpcfeopilaaDoor.Df Go.Proofs.YtekpbpcfeopilaaDoor.Dg Go.Proofs.YtekpbpcfeopilaaDoor.Dh Go.Proofs.YtekpbpcfeopilaaDoor.Di Go.Proofs.YtekpbpcfeopilaaDoor.Dj Go.Proofs.YtekpbpcfeopilaaDoorW.PrintWords Go.Proofs.YtekpbpcfeopilaaDoorW.PrintLast Go.Proofs.YtekpbpcfeopilaaDoorW.PrintMore

/-- One write more in the queue of a region. -/
def enqM (m : MDisk) (k : Nat) (p : Int × ByteArray) : MDisk := { m with regs := m.regs.modify k fun r => { r with queue := r.queue ++ [p] } }
def writeM (m : MDisk) (n s : Int) (d : ByteArray) : MDisk :=
  if findM m n s = 0 ∧ d.size = 64 then (let m1 := enqM m n.toNat (s, d); if failsM m1 n = true then loseM m1.keep m1 else tickM m1 n) else m
def writeE (m : MDisk) (n s : Int) (d : ByteArray) : Int :=
  if findM m n s = 0 then (if d.size = 64 then (if failsM m n = true then 11 else 0) else 2) else findM m n s

theorem enq_wf {N k : Nat} {m : MDisk} {r : MReg} {p : Int × ByteArray} (h : Wf N m) (hr : m.regs[k]? = some r) (hp : 0 ≤ p.1 ∧ p.1 < r.lasts.length) (h64 : p.2.size = 64) : Wf (N + 1) (enqM m k p) := by
  refine ⟨by simpa [enqM] using h.few, ?_, h.left, h.keep⟩
  intro x hx
  obtain ⟨i, hi, rfl⟩ := List.mem_iff_getElem.1 hx
  have hi2 : i < m.regs.length := by simpa [enqM] using hi
  have hw := h.regs m.regs[i] (List.getElem_mem hi2)
  by_cases hik : k = i
  · subst hik
    have e : m.regs[k] = r := by simpa [List.getElem?_eq_getElem hi2] using hr
    have er : (enqM m k p).regs[k] = { m.regs[k] with queue := m.regs[k].queue ++ [p] } := by simp [enqM]
    rw [er]
    rw [e] at hw ⊢
    refine ⟨hw.few, ?_, hw.l64, ?_, by have := hw.long; simp; omega⟩
    · intro q hq
      rcases List.mem_append.1 hq with hq | hq
      · exact hw.inQ q hq
      · rw [List.mem_singleton.1 hq]; exact hp
    · intro q hq
      rcases List.mem_append.1 hq with hq | hq
      · exact hw.q64 q hq
      · rw [List.mem_singleton.1 hq]; exact h64
  · have er : (enqM m k p).regs[i] = m.regs[i] := by simp [enqM, hik]
    rw [er]
    exact ⟨hw.few, hw.inQ, hw.l64, hw.q64, Nat.le_succ_of_le hw.long⟩
theorem tick_wf {N : Nat} {m : MDisk} {n : Int} (h : Wf N m) : Wf N (tickM m n) := by
  unfold tickM
  split
  · exact h
  · rename_i hc
    have := h.left
    exact ⟨h.few, h.regs, ⟨by simp only; omega, by simp only; omega⟩, h.keep⟩

theorem infoWr : (Tryd.prog.info? 136).map (fun i => (i.zero, i.size, i.bytes)) = some (some (.agg #[.int .i64 0, .string ⟨#[]⟩]), 2, 24) := by kernel_rfl

theorem enq_lies {G : Nat → Nat} {c : Nat} {w1 w2 : World} {b k g : Nat} {m : MDisk} {rv kv v1 lv qv : Value} {gs : List Nat} {r : MReg} {p : Int × ByteArray} (H : Lies TP G c w1 b m rv kv gs) (hg : gs[k]? = some g) (hr : m.regs[k]? = some r)
    (hb : w1.heap[g]? = some (.cells #[lv, qv] TP.reg (0, 0))) (hgk : G g = c + 3 + k) (hl : Kd.R Kd.string TP.str w1 0 (fun i => G i = c + 3 + k) lv r.lasts) (hq : Kd.R wrK TP.wr w1 0 (fun i => G i = c + 3 + k) qv r.queue)
    (hR : Kd.R wrK TP.wr w2 0 (fun i => (G i = c + 3 + k ∧ i < w1.heap.size) ∨ w1.heap.size ≤ i) v1 (r.queue ++ [p])) (hw : w1.grownBy w2 qv.ownBlock) (hk8 : k < 8) :
    Step G (ext G w1.heap.size (c + 3 + k)) c w1 (w2.setCell ⟨g, 1, none⟩ v1) ∧ Lies TP (ext G w1.heap.size (c + 3 + k)) c (w2.setCell ⟨g, 1, none⟩ v1) b (enqM m k p) rv kv gs := by
  have hne : some g ≠ qv.ownBlock := Kd.R_ne hq hb (by decide)
  have hb2 := blk_grown hb hw hne
  have hb3 := block_setCell hb2 (i := 1) v1
  have e : (#[lv, qv] : Array Value).setIfInBounds 1 v1 = #[lv, v1] := by simp
  rw [e] at hb3
  have f1 : Fr (fun i => G i = c + 3 + k) w1 w2 := Fr.of_grown hw (fun i hi => hq.1 i hi)
  have f2 : Fr (fun i => G i = c + 3 + k) w1 (w2.setCell ⟨g, 1, none⟩ v1) := Fr.setAt f1 hgk
  refine ⟨Step.of_ext f2 (fun i _ hi => by omega), ?_⟩
  have H2 := H.recolour (G' := ext G w1.heap.size (c + 3 + k)) (fun i hi => ext_old hi)
  have hrow := Rfr (Kd.R_bound H2.row) f2 (fun i hi hlt hs => by have h1 := hi.1; rw [ext_old hlt] at h1; omega)
  have hkp := Rfr (Kd.R_bound H2.keep) f2 (fun i hi hlt hs => by have h1 := hi.1; rw [ext_old hlt] at h1; omega)
  have hkm : k < m.regs.length := (List.getElem?_eq_some_iff.1 hr).1
  constructor
  · have hh := f2.at_ H.head (fun hs => by rw [H.colour] at hs; omega)
    exact hh
  · exact H2.colour
  · exact Kd.R_mono hrow (fun i hi => hi.1)
  · exact Kd.R_mono hkp (fun i hi => hi.1)
  · simp [enqM, H.len]
  · intro i hi
    have hi2 : i < m.regs.length := by simpa [enqM] using hi
    by_cases hik : i = k
    · subst hik
      refine ⟨g, hg, ?_⟩
      have er : (enqM m i p).regs[i] = { r with queue := r.queue ++ [p] } := by
        have : m.regs[i] = r := by simpa [List.getElem?_eq_getElem hi2] using hr
        simp [enqM, this]
      rw [er]
      refine ⟨by show ext _ _ _ g = _; rw [ext_old (heap_lt hb)]; exact hgk, lv, v1, hb3, ?_, ?_⟩
      · have h1 := Kd.R_over hl hq (by decide) hw
        have h2 := Kd.R_set h1 hb2 (by decide) 1 v1
        exact Kd.R_mono (Kd.R_bound h2) (fun j hj => by
          by_cases hlt : j < w1.heap.size
          · rw [ext_old hlt]; exact hj.1
          · rw [ext_new (by omega)])
      · have h2 := Kd.R_set hR hb2 (by decide) 1 v1
        exact Kd.R_mono h2 (fun j hj => by
          rcases hj with hj | hj
          · rw [ext_old hj.2]; exact hj.1
          · rw [ext_new hj])
    · obtain ⟨g2, hg2, hr2⟩ := H2.regs i hi2
      refine ⟨g2, hg2, ?_⟩
      have er : (enqM m k p).regs[i] = m.regs[i] := by simp [enqM, Ne.symm hik]
      rw [er]
      exact ((hr2.mono (ok' := fun j => ext G w1.heap.size (c + 3 + k) j = c + 3 + i ∧ j < w1.heap.size) (fun j hj ho => ⟨ho, hj⟩)).fr f2 (fun j hj _ hs => by have h1 := hj.1; rw [ext_old hj.2] at h1; omega)).mono (fun j _ hj => hj.1)

set_option maxHeartbeats 4000000 in
set_option maxRecDepth 100000 in
theorem write_any {G : Nat → Nat} {c : Nat} {w : World} {b : Nat} {m : MDisk} {rv kv : Value} {gs : List Nat} (h : Lies TP G c w b m rv kv gs) {N : Nat} (hm : Wf N m) (hN : N < 1000000) (n s : Int) (d : ByteArray) :
    Calls Tryd.prog 57 #[.pointer (some ⟨b, 0, none⟩), .int .i64 n, .int .i64 s, .string d] w fun e w' => e = .returned (.int .i64 (writeE m n s d)) ∧ Did TP G c w b (writeM m n s d) w' := by
  have H := Lib.hid h
  clear h
  by_cases hf : findM m n s = 0
  · by_cases h64 : d.size = 64
    · obtain ⟨k, j, g, r, rfl, rfl, ep, eg, er, hj, hr⟩ := find_ok H.out hf
      have EF := Lib.hid hf
      have EP := Lib.hid ep
      have H64 := Lib.hid h64
      clear hr hf
      have h64i : ((d.size : Int) != 64) = false := by rw [h64]; rfl
      clear h64
      go_enter Tryd.func57, Tryd.ntmps57
      go_wp2_with fail
      refine (find_any H.out _ _).mono ?_
      rintro e w1 ⟨rfl, hb1⟩
      rw [EP.out, EF.out]
      have H1 := Lib.hid (H.out.below hb1)
      obtain ⟨k', j', g', r', ek, ej, ep', eg', er', _, hr⟩ := find_ok H1.out EF.out
      obtain rfl : k = k' := by omega
      obtain rfl : j = j' := by omega
      rw [eg] at eg'
      obtain rfl : g = g' := by simpa using eg'
      rw [er] at er'
      obtain rfl : r = r' := by simpa using er'
      have HRG := Lib.hid hr
      obtain ⟨_, lv, qv, hb, hl, hq⟩ := hr
      obtain ⟨Aq, cq, rfl, _, hQ⟩ := Kd.R_reads hq
      have hx1 : w1.cell? ⟨g, 1, none⟩ = some (.slice Aq r.queue.length cq) := cell_of_block hb 1
      have hgk : G g = c + 3 + k := HRG.out.1
      have HGK := Lib.hid hgk
      have HB := Lib.hid hb
      have HL := Lib.hid hl
      have HQ := Lib.hid (show Kd.R wrK TP.wr w1 0 (fun i => G i = c + 3 + k) (.slice Aq r.queue.length cq) r.queue from hq)
      have ER := Lib.hid er
      have EG := Lib.hid eg
      have hkm : k < m.regs.length := (List.getElem?_eq_some_iff.1 er).1
      have hk8 : k < 8 := by have := hm.few; omega
      have hrN : r.queue.length ≤ N := (hm.regs r (List.mem_of_getElem? er)).long
      have HO : Hid (Kd.R wrK TP.wr w1 0 (fun i => (G i = c + 3 + k ∧ i < w1.heap.size) ∨ w1.heap.size ≤ i) (.slice Aq r.queue.length cq) r.queue) := Kd.R_mono (Kd.R_bound hq) (fun i hi => .inl ⟨hi.1, hi.2.2.1⟩)
      have HM := Lib.hid hm
      clear ep ep' eg' er' ek ej hb hl hq hQ er eg hgk hm
      go_wp2_with (at_builtin; (refine Kd.R_append wrK (w0 := w1) 0 rfl (.tmp 30) (.tmp 34) 103 136 (.agg #[.int .i64 0, .string ⟨#[]⟩]) 24 rfl Tryd.underlying103 infoWr rfl (by decide) (by decide) (.slice Aq r.queue.length cq) r.queue ((j : Int), d) [.int .i64 (j : Int), .string d] (fun i => (G i = c + 3 + k ∧ i < w1.heap.size) ∨ w1.heap.size ≤ i) (fun _ => False) rfl rfl ?aP (fun _ hk => hk.elim) ?aF HO.out (Below.refl _ _) (Nat.zero_le _) ?aL ?_; (case aP => exact ⟨[.int .i64 (j : Int)], [.string d], rfl, rfl, rfl⟩); (case aF => exact fun i hi => .inr hi); (case aL => omega); intro v1 w2 hR2 hB2 hg2 hat2; obtain ⟨A1, c1, rfl, _, _⟩ := Kd.R_reads hR2; have HR2 := Lib.hid hR2; have HG2 := Lib.hid hg2; have HBW := Lib.hid (blk_grown HB.out hg2 (Kd.R_ne HQ.out HB.out (by decide))); have hy1 : w2.cell? ⟨g, 1, none⟩ = some (.slice Aq r.queue.length cq) := cell_of_block HBW.out 1; have hyf : w2.frozen? ⟨g, 1, none⟩ = false := unfrozen_of_block HBW.out 1; clear hR2 hB2 hg2 hat2))
      have hR2 : Kd.R wrK TP.wr w2 0 (fun i => (G i = c + 3 + k ∧ i < w1.heap.size) ∨ w1.heap.size ≤ i) (.slice A1 (r.queue.length + 1) c1) (r.queue ++ [((j : Int), d)]) := by
        have := HR2.out
        rw [List.length_append] at this
        exact this
      obtain ⟨hs3, h3⟩ := enq_lies H1.out EG.out ER.out HB.out HGK.out HL.out HQ.out hR2 HG2.out hk8
      have HS3 := Lib.hid hs3
      have H3 := Lib.hid h3
      clear hs3 h3 hR2 HR2 HG2 HBW hy1 hyf
      have em : Hid (writeM m (k : Int) (j : Int) d = if failsM (enqM m k ((j : Int), d)) (k : Int) = true then loseM m.keep (enqM m k ((j : Int), d)) else tickM (enqM m k ((j : Int), d)) (k : Int)) := by
        show _ = _
        unfold writeM
        rw [if_pos ⟨EF.out, H64.out⟩]
        rfl
      have ee : Hid (writeE m (k : Int) (j : Int) d = if failsM (enqM m k ((j : Int), d)) (k : Int) = true then 11 else 0) := by
        show _ = _
        unfold writeE
        rw [if_pos EF.out, if_pos H64.out]
        rfl
      have hmk : Wf (N + 1) (enqM m k ((j : Int), d)) := enq_wf HM.out ER.out (p := ((j : Int), d)) ⟨by show (0 : Int) ≤ (j : Int); omega, by show (j : Int) < _; omega⟩ H64.out
      have hN1 : N + 1 ≤ 1000000 := by omega
      obtain ⟨m3, hm3⟩ : ∃ m3, enqM m k ((j : Int), d) = m3 := ⟨_, rfl⟩
      have ekeep : Hid (m3.keep = m.keep) := by show _ = _; rw [← hm3]; rfl
      rw [hm3] at hmk em ee H3
      obtain ⟨G3, hG3⟩ : ∃ G3, ext G w1.heap.size (c + 3 + k) = G3 := ⟨_, rfl⟩
      rw [hG3] at HS3 H3
      have HM3 := Lib.hid hmk
      have hl1 := hmk.left.1
      have hl2 := hmk.left.2
      clear hm3 hG3 hmk
      refine (fails_any H3.out (k : Int) hl1 hl2).mono ?_
      rintro e w4 ⟨rfl, hf4, h4⟩
      have HF4 := Lib.hid hf4
      have H4 := Lib.hid h4
      clear hf4 h4 hl1 hl2
      by_cases hfl : failsM m3 (k : Int) = true
      · rw [hfl]
        rw [if_pos hfl] at em ee
        have etk : Hid ((tickM m3 (k : Int)).keep = m3.keep) := by show _ = _; unfold tickM; split <;> rfl
        have etr : Hid ((tickM m3 (k : Int)).regs = m3.regs) := by show _ = _; unfold tickM; split <;> rfl
        obtain ⟨Ak, ck, ekv, _, _⟩ := Kd.R_reads H4.out.keep
        rw [etk.out] at ekv
        subst ekv
        have hx4 : w4.cell? ⟨b, 4, none⟩ = some (.slice Ak m3.keep.length ck) := cell_of_block H4.out.head 4
        clear hfl
        go_wp2_with fail
        have hmt : Wf (N + 1) (tickM m3 (k : Int)) := tick_wf HM3.out
        have hKC : ∀ W, Fr (regC G3 c) w4 W → Kd.C (Kd.int .u64) W Ak m3.keep.length m3.keep := fun W hW => by
          have hr := Rfr H4.out.keep hW (fun j ho _ hs => by have := hs.1; omega)
          rw [etk.out] at hr
          exact (Kd.R_reads' hr).2.2
        refine (lose_any H4.out hmt hN1 Ak ck m3.keep HM3.out.keep hKC).mono ?_
        rintro e w5 ⟨rfl, hf5, h5⟩
        have em5 : loseM m3.keep (tickM m3 (k : Int)) = loseM m.keep m3 := by
          rw [ekeep.out]
          unfold loseM
          rw [etr.out]
        rw [em5] at h5
        have HF5 := Lib.hid hf5
        have H5 := Lib.hid h5
        clear hf5 h5 em5 hmt hKC hx4
        go_wp2_with fail
        refine bodyPost_ret (v := .int .i64 11) (by simp [results, Tryd.results57, go_sem]) rfl ?_
        refine ⟨by rw [ee.out], ?_⟩
        rw [em.out]
        refine Did.of ((Step.of_below hb1).trans (HS3.out.trans ((Step.of_fr HF4.out (fun i _ hi => ?_)).trans (Step.of_fr HF5.out (fun i _ hi => ?_))))) H5.out
        · have := H3.out.colour
          rw [hi]
          omega
        · rcases hi with hi | hi
          · have := H3.out.colour
            rw [hi]
            omega
          · exact ⟨by have := hi.1; omega, hi.2⟩
      · rw [if_neg hfl] at em ee
        have hfl2 : failsM m3 (k : Int) = false := by simpa using hfl
        rw [hfl2]
        clear hfl hfl2
        go_wp2_with fail
        refine bodyPost_ret (v := .int .i64 0) (by simp [results, Tryd.results57, go_sem]) rfl ?_
        refine ⟨by rw [ee.out], ?_⟩
        rw [em.out]
        refine Did.of ((Step.of_below hb1).trans (HS3.out.trans (Step.of_fr HF4.out (fun i _ hi => ?_)))) H4.out
        have := H3.out.colour
        rw [hi]
        omega
    · have EF := Lib.hid hf
      obtain ⟨k, j, g, r, rfl, rfl, ep, _, _, _, _⟩ := find_ok H.out hf
      have EP := Lib.hid ep
      have em : Hid (writeM m (k : Int) (j : Int) d = m) := by show _ = _; unfold writeM; rw [if_neg (fun h => h64 h.2)]
      have ee : Hid (writeE m (k : Int) (j : Int) d = 2) := by show _ = _; unfold writeE; rw [if_pos hf, if_neg h64]
      have h64i : ((d.size : Int) != 64) = true := by
        have : ((d.size : Int) ≠ 64) := by omega
        simpa using this
      clear h64 hf ep
      go_enter Tryd.func57, Tryd.ntmps57
      go_wp2_with fail
      refine (find_any H.out _ _).mono ?_
      rintro e w1 ⟨rfl, hb1⟩
      rw [EP.out, EF.out]
      go_wp2_with fail
      refine bodyPost_ret (v := .int .i64 2) (by simp [results, Tryd.results57, go_sem]) rfl ?_
      exact ⟨by rw [ee.out], by rw [em.out]; exact Did.of (Step.of_below hb1) (H.out.below hb1)⟩
  · have em : Hid (writeM m n s d = m) := by show _ = _; unfold writeM; rw [if_neg (fun h => hf h.1)]
    have ee : Hid (writeE m n s d = findM m n s) := by show _ = _; unfold writeE; rw [if_neg hf]
    have EP := Lib.hid (findP_no (gs := gs) (rfl : findM m n s = findM m n s) hf)
    obtain ⟨fe, hfe⟩ : ∃ fe, findM m n s = fe := ⟨_, rfl⟩
    have EF := Lib.hid hfe
    rw [hfe] at hf ee
    have hne : (fe != 0) = true := by simpa using hf
    clear hfe hf
    go_enter Tryd.func57, Tryd.ntmps57
    go_wp2_with fail
    refine (find_any H.out _ _).mono ?_
    rintro e w1 ⟨rfl, hb1⟩
    rw [EP.out, EF.out]
    go_wp2_with fail
    refine bodyPost_ret (v := .int .i64 fe) (by simp [results, Tryd.results57, go_sem]) rfl ?_
    exact ⟨by rw [ee.out], by rw [em.out]; exact Did.of (Step.of_below hb1) (H.out.below hb1)⟩

end Go.Proofs.YtekpbpcfeopilaaDoor.Dk

/-! The program's disk: Flush, Crash. -/
namespace Go.Proofs.YtekpbpcfeopilaaDoor.Dl
open Go Go.RowKit Go.Joins Go.Proofs.YtekpbpcfeopilaaDoorCore Go.Proofs.YtekpbpcfeopilaaDoor.Dm Go.Proofs.YtekpbpcfeopilaaDoor.Dr Go.Proofs.YtekpbpcfeopilaaDoor.Da Go.Proofs.YtekpbpcfeopilaaDoor.Df Go.Proofs.YtekpbpcfeopilaaDoor.Dg Go.Proofs.YtekpbpcfeopilaaDoor.Dh Go.Proofs.YtekpbpcfeopilaaDoor.Di Go.Proofs.YtekpbpcfeopilaaDoor.Dj Go.Proofs.YtekpbpcfeopilaaDoor.Dk Go.Proofs.YtekpbpcfeopilaaDoorW.PrintWords Go.Proofs.YtekpbpcfeopilaaDoorW.PrintLast Go.Proofs.YtekpbpcfeopilaaDoorW.PrintMore

/-- One region is another one. -/
def setM (m : MDisk) (k : Nat) (r : MReg) : MDisk := { m with regs := m.regs.set k r }

theorem reg_lies {G : Nat → Nat} {c : Nat} {T : Tys} {w w' : World} {b k g : Nat} {m : MDisk} {rv kv : Value} {gs : List Nat} {r : MReg} (H : Lies T G c w b m rv kv gs) (hg : gs[k]? = some g) (f : Fr (fun i => G i = c + 3 + k) w w') (hr : RegAt T (fun i => G i = c + 3 + k) w' g r) :
    Lies T G c w' b (setM m k r) rv kv gs where
  head := f.at_ H.head (fun hs => by rw [H.colour] at hs; omega)
  colour := H.colour
  row := Rfr H.row f (fun j ho _ hs => by omega)
  keep := Rfr H.keep f (fun j ho _ hs => by omega)
  len := by simp [setM, H.len]
  regs := fun i hi => by
    have hi2 : i < m.regs.length := by simpa [setM] using hi
    by_cases hik : k = i
    · subst hik
      refine ⟨g, hg, ?_⟩
      have er : (setM m k r).regs[k] = r := by simp [setM]
      rw [er]
      exact hr
    · obtain ⟨g2, hg2, hr2⟩ := H.regs i hi2
      refine ⟨g2, hg2, ?_⟩
      have er : (setM m k r).regs[i] = m.regs[i] := by simp [setM, hik]
      rw [er]
      exact hr2.fr f (fun j hj _ hs => by omega)

def flushE (m : MDisk) (n : Int) : Int := if m.off = true then 11 else if 0 ≤ n ∧ n < m.regs.length then (if failsM m n = true then 11 else 0) else 10
def flushM (m : MDisk) (n : Int) : MDisk :=
  if m.off = true then m else if 0 ≤ n ∧ n < m.regs.length then (if failsM m n = true then loseM m.keep m else setM (tickM m n) n.toNat (lastR (fun _ => true) (m.regs.getD n.toNat ⟨[], []⟩))) else m

theorem tick_regs (m : MDisk) (n : Int) : (tickM m n).regs = m.regs := by unfold tickM; split <;> rfl
theorem tick_keep (m : MDisk) (n : Int) : (tickM m n).keep = m.keep := by unfold tickM; split <;> rfl
theorem lose_tick (m : MDisk) (n : Int) (l : List Int) : loseM l (tickM m n) = loseM l m := by unfold loseM; rw [tick_regs]

set_option maxHeartbeats 4000000 in
set_option maxRecDepth 100000 in
theorem flush_any {G : Nat → Nat} {c : Nat} {w : World} {b : Nat} {m : MDisk} {rv kv : Value} {gs : List Nat} (h : Lies TP G c w b m rv kv gs) {N : Nat} (hm : Wf N m) (hN : N ≤ 1000000) (n : Int) :
    Calls Tryd.prog 59 #[.pointer (some ⟨b, 0, none⟩), .int .i64 n] w fun e w' => e = .returned (.int .i64 (flushE m n)) ∧ Did TP G c w b (flushM m n) w' := by
  have H := Lib.hid h
  have HM := Lib.hid hm
  clear h hm
  by_cases ho : m.off = true
  · have em : Hid (flushM m n = m) := by show _ = _; unfold flushM; rw [if_pos ho]
    have ee : Hid (flushE m n = 11) := by show _ = _; unfold flushE; rw [if_pos ho]
    have HOF := Lib.hid ho
    clear ho
    go_enter Tryd.func59, Tryd.ntmps59
    go_wp2_with fail
    refine (at_any H.out n).mono ?_
    rintro e w1 ⟨rfl, hb1⟩
    have H1 := Lib.hid (H.out.below hb1)
    have hx1 : w1.cell? ⟨b, 1, none⟩ = some (.bool true) := by rw [← HOF.out]; exact cell_of_block H1.out.head 1
    go_wp2_with fail
    refine bodyPost_ret (v := .int .i64 11) (by simp [results, Tryd.results59, go_sem]) rfl ?_
    exact ⟨by rw [ee.out], by rw [em.out]; exact Did.of (Step.of_below hb1) H1.out⟩
  · have ho2 : m.off = false := by simpa using ho
    have HOF := Lib.hid ho2
    by_cases hn : 0 ≤ n ∧ n < m.regs.length
    · obtain ⟨k, rfl⟩ : ∃ k : Nat, n = (k : Int) := ⟨n.toNat, by omega⟩
      have hk : k < m.regs.length := by omega
      have em : Hid (flushM m (k : Int) = if failsM m (k : Int) = true then loseM m.keep m else setM (tickM m (k : Int)) k (lastR (fun _ => true) m.regs[k])) := by
        show _ = _
        unfold flushM
        rw [if_neg ho, if_pos hn, Int.toNat_natCast]
        simp [hk]
      have ee : Hid (flushE m (k : Int) = if failsM m (k : Int) = true then 11 else 0) := by show _ = _; unfold flushE; rw [if_neg ho, if_pos hn]
      obtain ⟨g, eg, hr⟩ := H.out.regs k hk
      have ep : regP gs (k : Int) = some ⟨g, 0, none⟩ := by rw [regP_nat, eg]; rfl
      have EG := Lib.hid eg
      have EP := Lib.hid ep
      clear ho ho2 hn eg hr ep
      have hl1 := HM.out.left.1
      have hl2 := HM.out.left.2
      go_enter Tryd.func59, Tryd.ntmps59
      go_wp2_with fail
      refine (at_any H.out (k : Int)).mono ?_
      rintro e w1 ⟨rfl, hb1⟩
      rw [EP.out]
      have H1 := Lib.hid (H.out.below hb1)
      have hx1 : w1.cell? ⟨b, 1, none⟩ = some (.bool false) := by rw [← HOF.out]; exact cell_of_block H1.out.head 1
      go_wp2_with fail
      refine (fails_any H1.out (k : Int) hl1 hl2).mono ?_
      rintro e w4 ⟨rfl, hf4, h4⟩
      have HF4 := Lib.hid hf4
      have H4 := Lib.hid h4
      clear hf4 h4 hl1 hl2 hx1
      by_cases hfl : failsM m (k : Int) = true
      · rw [hfl]
        rw [if_pos hfl] at em ee
        obtain ⟨Ak, ck, ekv, _, _⟩ := Kd.R_reads H4.out.keep
        rw [tick_keep] at ekv
        subst ekv
        have hx4 : w4.cell? ⟨b, 4, none⟩ = some (.slice Ak m.keep.length ck) := cell_of_block H4.out.head 4
        clear hfl
        go_wp2_with fail
        have hKC : ∀ W, Fr (regC G c) w4 W → Kd.C (Kd.int .u64) W Ak m.keep.length m.keep := fun W hW => by
          have hr := Rfr H4.out.keep hW (fun j ho _ hs => by have := hs.1; omega)
          rw [tick_keep] at hr
          exact (Kd.R_reads' hr).2.2
        refine (lose_any H4.out (tick_wf HM.out) hN Ak ck m.keep HM.out.keep hKC).mono ?_
        rintro e w5 ⟨rfl, hf5, h5⟩
        rw [lose_tick] at h5
        have HF5 := Lib.hid hf5
        have H5 := Lib.hid h5
        clear hf5 h5 hKC hx4
        go_wp2_with fail
        refine bodyPost_ret (v := .int .i64 11) (by simp [results, Tryd.results59, go_sem]) rfl ?_
        refine ⟨by rw [ee.out], ?_⟩
        rw [em.out]
        refine Did.of ((Step.of_below hb1).trans ((Step.of_fr HF4.out (fun i _ hi => ?_)).trans (Step.of_fr HF5.out (fun i _ hi => ?_)))) H5.out
        · have := H1.out.colour
          rw [hi]
          omega
        · rcases hi with hi | hi
          · have := H1.out.colour
            rw [hi]
            omega
          · exact ⟨by have := hi.1; omega, hi.2⟩
      · rw [if_neg hfl] at em ee
        have hfl2 : failsM m (k : Int) = false := by simpa using hfl
        rw [hfl2]
        clear hfl hfl2
        have hmf : ∀ (fn : Fn) (first cap : Array Value) (w : World), (Instr.makeFunc fn first cap).run Tryd.prog w = .ok (.func fn first cap) w := fun _ _ _ _ => rfl
        go_wp2_with fail
        have hk4 : k < (tickM m (k : Int)).regs.length := by rw [tick_regs]; exact hk
        obtain ⟨g2, hg2, hr⟩ := H4.out.regs k hk4
        rw [EG.out] at hg2
        obtain rfl : g = g2 := by simpa using hg2
        have hrr : (tickM m (k : Int)).regs[k] = m.regs[k] := by simp [tick_regs]
        rw [hrr] at hr
        have hWr : Wf N m := HM.out
        have hent : ∀ (args : Array Value) (W : World), Sem.run Tryd.prog (callFunc 80 args) W = .ok (.enter 80 args) W := fun args W => enter_of Tryd.func80 (by kernel_rfl) rfl args W
        refine (last_any hr (hWr.regs _ (List.getElem_mem hk)) hN 80 hent #[] (fun _ => true) (fun _ => True) (fun _ _ _ _ => trivial) trivial (fun W i _ _ => true_any _ _)).mono ?_
        rintro e w5 ⟨rfl, hf5, hr5⟩
        have HF5 := Lib.hid hf5
        have HR5 := Lib.hid hr5
        clear hf5 hr5 hent hrr hr hg2 hk4
        go_wp2_with fail
        refine bodyPost_ret (v := .int .i64 0) (by simp [results, Tryd.results59, go_sem]) rfl ?_
        refine ⟨by rw [ee.out], ?_⟩
        rw [em.out]
        have hk8 := HM.out.few
        refine Did.of ((Step.of_below hb1).trans ((Step.of_fr HF4.out (fun i _ hi => ?_)).trans (Step.of_fr HF5.out (fun i _ hi => ?_)))) (reg_lies H4.out EG.out HF5.out HR5.out)
        · have := H1.out.colour
          rw [hi]
          omega
        · omega
    · have em : Hid (flushM m n = m) := by show _ = _; unfold flushM; rw [if_neg ho, if_neg hn]
      have ee : Hid (flushE m n = 10) := by show _ = _; unfold flushE; rw [if_neg ho, if_neg hn]
      have ep : regP gs n = none := by
        by_cases h0 : n < 0
        · exact regP_neg h0
        · obtain ⟨k, rfl⟩ : ∃ k : Nat, n = (k : Int) := ⟨n.toNat, by omega⟩
          rw [regP_nat, List.getElem?_eq_none (by have := H.out.len; omega)]
          rfl
      have EP := Lib.hid ep
      clear ho hn ho2 ep
      go_enter Tryd.func59, Tryd.ntmps59
      go_wp2_with fail
      refine (at_any H.out n).mono ?_
      rintro e w1 ⟨rfl, hb1⟩
      rw [EP.out]
      have H1 := Lib.hid (H.out.below hb1)
      have hx1 : w1.cell? ⟨b, 1, none⟩ = some (.bool false) := by rw [← HOF.out]; exact cell_of_block H1.out.head 1
      go_wp2_with fail
      refine bodyPost_ret (v := .int .i64 10) (by simp [results, Tryd.results59, go_sem]) rfl ?_
      exact ⟨by rw [ee.out], by rw [em.out]; exact Did.of (Step.of_below hb1) H1.out⟩

/-! Crash -/
def crashM (l : List Int) (m : MDisk) : MDisk := onM (if m.off = true then m else loseM l m)

set_option maxHeartbeats 4000000 in
set_option maxRecDepth 100000 in
theorem crash_any {G : Nat → Nat} {c : Nat} {w : World} {b : Nat} {m : MDisk} {rv kv : Value} {gs : List Nat} (h : Lies TP G c w b m rv kv gs) {N : Nat} (hm : Wf N m) (hN : N ≤ 1000000) (A : Option Addr) (cc : Nat) (keep : List Int) (hK : ∀ x ∈ keep, 0 ≤ x ∧ x ≤ 18446744073709551615)
    (hC : ∀ W, Fr (regC G c) w W → Kd.C (Kd.int .u64) W A keep.length keep) :
    Calls Tryd.prog 30 #[.pointer (some ⟨b, 0, none⟩), .slice A keep.length cc] w fun e w' => e = .returned (.tuple #[]) ∧ Did TP G c w b (crashM keep m) w' := by
  have H := Lib.hid h
  have HM := Lib.hid hm
  have HC := Lib.hid hC
  have HK := Lib.hid hK
  clear h hm hC hK
  by_cases ho : m.off = true
  · have em : Hid (crashM keep m = onM m) := by show _ = _; unfold crashM; rw [if_pos ho]
    have hx1 : w.cell? ⟨b, 1, none⟩ = some (.bool true) := by rw [← ho]; exact cell_of_block H.out.head 1
    clear ho
    go_enter Tryd.func30, Tryd.ntmps30
    go_wp2_with fail
    refine (on_any H.out).mono ?_
    rintro e w2 ⟨rfl, hf2, h2⟩
    have HF2 := Lib.hid hf2
    have H2 := Lib.hid h2
    clear hf2 h2
    go_wp2_with fail
    refine bodyPost_end (v := .tuple #[]) (by simp [results, Tryd.results30, go_sem]) rfl ?_
    refine ⟨rfl, ?_⟩
    rw [em.out]
    refine Did.of (Step.of_fr HF2.out (fun i _ hi => ?_)) H2.out
    have := H.out.colour
    rw [hi]
    omega
  · have em : Hid (crashM keep m = onM (loseM keep m)) := by show _ = _; unfold crashM; rw [if_neg ho]
    have ho2 : m.off = false := by simpa using ho
    have hx1 : w.cell? ⟨b, 1, none⟩ = some (.bool false) := by rw [← ho2]; exact cell_of_block H.out.head 1
    clear ho ho2
    go_enter Tryd.func30, Tryd.ntmps30
    go_wp2_with fail
    refine (lose_any H.out HM.out hN A cc keep HK.out HC.out).mono ?_
    rintro e w1 ⟨rfl, hf1, h1⟩
    have HF1 := Lib.hid hf1
    have H1 := Lib.hid h1
    clear hf1 h1
    go_wp2_with fail
    refine (on_any H1.out).mono ?_
    rintro e w2 ⟨rfl, hf2, h2⟩
    have HF2 := Lib.hid hf2
    have H2 := Lib.hid h2
    clear hf2 h2
    go_wp2_with fail
    refine bodyPost_end (v := .tuple #[]) (by simp [results, Tryd.results30, go_sem]) rfl ?_
    refine ⟨rfl, ?_⟩
    rw [em.out]
    refine Did.of ((Step.of_fr HF1.out (fun i _ hi => ?_)).trans (Step.of_fr HF2.out (fun i _ hi => ?_))) H2.out
    · rcases hi with hi | hi
      · have := H.out.colour
        rw [hi]
        omega
      · exact ⟨by have := hi.1; omega, hi.2⟩
    · have := H.out.colour
      rw [hi]
      omega

end Go.Proofs.YtekpbpcfeopilaaDoor.Dl

/-! The program's disk: Cut, with slices.Clone. -/
namespace Go.Proofs.YtekpbpcfeopilaaDoor.Dn
open Go Go.RowKit Go.Joins Go.Proofs.YtekpbpcfeopilaaDoorCore Go.Proofs.YtekpbpcfeopilaaDoor.Dm Go.Proofs.YtekpbpcfeopilaaDoor.Dr Go.Proofs.YtekpbpcfeopilaaDoor.Da Go.Proofs.YtekpbpcfeopilaaDoor.Df Go.Proofs.YtekpbpcfeopilaaDoor.Dg Go.Proofs.YtekpbpcfeopilaaDoor.Dh Go.Proofs.YtekpbpcfeopilaaDoor.Di Go.Proofs.YtekpbpcfeopilaaDoor.Dj Go.Proofs.YtekpbpcfeopilaaDoor.Dk Go.Proofs.YtekpbpcfeopilaaDoor.Dl Go.Proofs.YtekpbpcfeopilaaDoorW.PrintWords Go.Proofs.YtekpbpcfeopilaaDoorW.PrintLast Go.Proofs.YtekpbpcfeopilaaDoorW.PrintMore

theorem infoU64 : (Tryd.prog.info? 62).map (fun i => (i.zero, i.size, i.bytes)) = some (some (.int .u64 0), 1, 8) := by kernel_rfl

set_option maxHeartbeats 4000000 in
set_option maxRecDepth 100000 in
theorem clone_any (A : Option Addr) (cc : Nat) (keep : List Int) (w : World) (hC : Kd.C (Kd.int .u64) w A keep.length keep) (hl : keep.length * 8 ≤ 140737488355328) :
    Calls Tryd.prog 62 #[.slice A keep.length cc] w fun e w' => ∃ v, e = .returned v ∧ (Kd.int .u64).R 62 w' w.heap.size (fun _ => True) v keep ∧ Below w.heap.size w w' := by
  have HC := Lib.hid hC
  clear hC
  have hne := fun (w : World) (a : Option Addr) (n c n' c' : Nat) => Lib.run_eql_slice_nil (P := Tryd.prog) w 96 62 a n c n' c' Tryd.underlying96
  cases A with
  | none =>
    have hk : keep.length = 0 := by
      rcases Nat.eq_zero_or_pos keep.length with h | h
      · exact h
      · obtain ⟨ad, he, _⟩ := HC.out.2.2 h
        cases he
    obtain rfl : keep = [] := List.eq_nil_of_length_eq_zero hk
    go_enter Tryd.func62, Tryd.ntmps62
    go_wp2_with fail
    refine bodyPost_ret (v := .slice none 0 0) (by simp [results, Tryd.results62, go_sem]) rfl ?_
    exact ⟨_, rfl, Kd.R_nil _ _ _ _ _, Below.refl _ _⟩
  | some ad =>
    have HO : Hid ((w.alloc (.cells #[] 62)).ownsRow w.heap.size 62 1 (.slice (some ⟨w.heap.size, 0, none⟩) 0 0) ([] : List Int).length (encs (Value.int .u64) [])) := own_lit_of w w.heap.size 62 [] (Nat.le_refl _) (by simp)
    have HR : Hid (ReadsOf (Value.int .u64) (0 : Int) (w.alloc (.cells #[] 62)) (some ad) keep.length keep) := Kd.reads_of_C (h1 := fun _ => rfl) (Kd.C_alloc HC.out _)
    have HB : Hid (Below w.heap.size w (w.alloc (.cells #[] 62))) := (Below.refl _ _).alloc (Nat.le_refl _) _
    go_enter Tryd.func62, Tryd.ntmps62
    go_wp2_with (at_builtin; refine print_append_row_of (w0 := w) (Value.int .u64) (0 : Int) w.heap.size rfl (.tmp 5) (.tmp 6) 96 62 (.int .u64 0) 8 rfl Tryd.underlying96 infoU64 rfl (by decide) (fun _ => rfl) (.slice (some ⟨w.heap.size, 0, none⟩) 0 0) [] keep (some ad) keep.length cc rfl rfl HO.out HR.out HB.out (by simp) ?aL ?_; (case aL => simp; omega); intro v1 w1 ho1 hb1 hg1 hat1; have HO1 := Lib.hid ho1; have HB1 := Lib.hid hb1; clear ho1 hb1 hg1 hat1)
    refine bodyPost_ret (v := v1) (by simp [results, Tryd.results62, go_sem]) rfl ?_
    refine ⟨_, rfl, ?_, HB1.out⟩
    have ho := HO1.out
    rw [List.nil_append] at ho
    exact Kd.R_of_own (h1 := fun _ => rfl) ho (fun _ _ => trivial)

def cutM (m : MDisk) (n left : Int) (keep : List Int) : MDisk :=
  if 0 ≤ n ∧ n < m.regs.length ∧ 0 < left then { m with treg := n, tleft := left, keep := keep } else { m with treg := 0, tleft := 0, keep := [] }

set_option maxHeartbeats 4000000 in
set_option maxRecDepth 100000 in
theorem cut_any {G : Nat → Nat} {c : Nat} {w : World} {b : Nat} {m : MDisk} {rv kv : Value} {gs : List Nat} (h : Lies TP G c w b m rv kv gs) (n left : Int) (A : Option Addr) (cc : Nat) (keep : List Int) (hk : keep.length * 8 ≤ 140737488355328)
    (hC : ∀ W, Fr (fun k => k = b) w W → Kd.C (Kd.int .u64) W A keep.length keep) :
    Calls Tryd.prog 32 #[.pointer (some ⟨b, 0, none⟩), .int .i64 n, .int .i64 left, .slice A keep.length cc] w fun e w' => e = .returned (.tuple #[]) ∧ Did TP G c w b (cutM m n left keep) w' := by
  have hx2 : w.cell? ⟨b, 2, none⟩ = some (.int .i64 m.treg) := cell_of_block h.head 2
  have hx3 : w.cell? ⟨b, 3, none⟩ = some (.int .i64 m.tleft) := cell_of_block h.head 3
  have hx4 : w.cell? ⟨b, 4, none⟩ = some kv := cell_of_block h.head 4
  have hf2 : w.frozen? ⟨b, 2, none⟩ = false := unfrozen_of_block h.head 2
  have hf3 : w.frozen? ⟨b, 3, none⟩ = false := unfrozen_of_block h.head 3
  have hf4 : w.frozen? ⟨b, 4, none⟩ = false := unfrozen_of_block h.head 4
  have H := Lib.hid h
  have HC := Lib.hid hC
  clear h hC
  obtain ⟨w1, hw1⟩ : ∃ w1, ((w.setCell ⟨b, 2, none⟩ (.int .i64 0)).setCell ⟨b, 3, none⟩ (.int .i64 0)).setCell ⟨b, 4, none⟩ (.slice none 0 0) = w1 := ⟨_, rfl⟩
  have f1 : Fr (fun k => k = b) w w1 := by
    rw [← hw1]
    refine Fr.setAt ?_ rfl
    refine Fr.setAt ?_ rfl
    refine Fr.setAt ?_ rfl
    exact Fr.refl _ _
  have hb1 := block_setCell (block_setCell (block_setCell H.out.head (i := 2) (.int .i64 0)) (i := 3) (.int .i64 0)) (i := 4) (.slice none 0 0)
  have e1 : (((hdr m rv kv).setIfInBounds 2 (.int .i64 0)).setIfInBounds 3 (.int .i64 0)).setIfInBounds 4 (.slice none 0 0) = hdr { m with treg := 0, tleft := 0, keep := [] } rv (.slice none 0 0) := rfl
  rw [e1, hw1] at hb1
  have h1 : Lies TP G c w1 b { m with treg := 0, tleft := 0, keep := [] } rv (.slice none 0 0) gs := H.out.turn f1 hb1 rfl (Kd.R_nil _ _ _ _ _)
  have H1 := Lib.hid h1
  have F1 := Lib.hid f1
  clear f1 h1 e1 hb1
  go_enter Tryd.func32, Tryd.ntmps32
  go_wp2_with (rw [hw1])
  refine (at_any H1.out n).mono ?_
  rintro e w2 ⟨rfl, hb2⟩
  have HB2 := Lib.hid hb2
  have H2 := Lib.hid (H1.out.below hb2)
  clear hb2 hw1 hx2 hx3 hx4 hf2 hf3 hf4
  by_cases hn : 0 ≤ n ∧ n < m.regs.length
  · obtain ⟨k, rfl⟩ : ∃ k : Nat, n = (k : Int) := ⟨n.toNat, by omega⟩
    have hk1 : k < m.regs.length := by omega
    obtain ⟨g, eg, _⟩ := H2.out.regs k hk1
    have ep : regP gs (k : Int) = some ⟨g, 0, none⟩ := by rw [regP_nat, eg]; rfl
    rw [ep]
    clear ep eg
    by_cases hl : 0 < left
    · have em : Hid (cutM m (k : Int) left keep = { m with treg := (k : Int), tleft := left, keep := keep }) := by show _ = _; unfold cutM; rw [if_pos ⟨hn.1, hn.2, hl⟩]
      clear hn
      go_wp2_with fail
      have hc2 : Kd.C (Kd.int .u64) w2 A keep.length keep := HC.out w2 (F1.out.trans (Fr.of_below HB2.out))
      refine (clone_any A cc keep w2 hc2 hk).mono ?_
      rintro e w3 ⟨v, rfl, hR3, hb3⟩
      have HR3 := Lib.hid hR3
      have HB3 := Lib.hid hb3
      have H3 := Lib.hid (H2.out.below hb3)
      obtain ⟨A3, c3, rfl, _, _⟩ := Kd.R_reads hR3
      have hx2 : w3.cell? ⟨b, 2, none⟩ = some (.int .i64 0) := cell_of_block H3.out.head 2
      have hx3 : w3.cell? ⟨b, 3, none⟩ = some (.int .i64 0) := cell_of_block H3.out.head 3
      have hx4 : w3.cell? ⟨b, 4, none⟩ = some (.slice none 0 0) := cell_of_block H3.out.head 4
      have hf2 : w3.frozen? ⟨b, 2, none⟩ = false := unfrozen_of_block H3.out.head 2
      have hf3 : w3.frozen? ⟨b, 3, none⟩ = false := unfrozen_of_block H3.out.head 3
      have hf4 : w3.frozen? ⟨b, 4, none⟩ = false := unfrozen_of_block H3.out.head 4
      clear hR3 hb3 hc2
      go_wp2_with fail
      refine bodyPost_end (v := .tuple #[]) (by simp [results, Tryd.results32, go_sem]) rfl ?_
      refine ⟨rfl, ?_⟩
      rw [em.out]
      have f4 : Fr (fun i => i = b) w3 (((w3.setCell ⟨b, 2, none⟩ (.int .i64 (k : Int))).setCell ⟨b, 3, none⟩ (.int .i64 left)).setCell ⟨b, 4, none⟩ (.slice A3 keep.length c3)) := by
        refine Fr.setAt ?_ rfl
        refine Fr.setAt ?_ rfl
        refine Fr.setAt ?_ rfl
        exact Fr.refl _ _
      have hb4 := block_setCell (block_setCell (block_setCell H3.out.head (i := 2) (.int .i64 (k : Int))) (i := 3) (.int .i64 left)) (i := 4) (.slice A3 keep.length c3)
      have e4 : (((hdr { m with treg := 0, tleft := 0, keep := [] } rv (.slice none 0 0)).setIfInBounds 2 (.int .i64 (k : Int))).setIfInBounds 3 (.int .i64 left)).setIfInBounds 4 (.slice A3 keep.length c3) = hdr { m with treg := (k : Int), tleft := left, keep := keep } rv (.slice A3 keep.length c3) := rfl
      rw [e4] at hb4
      have hbl : b < w2.heap.size := heap_lt H2.out.head
      have H3e := ((H2.out.recolour (G' := ext G w2.heap.size (c + 2)) (fun i hi => ext_old hi)).below HB3.out)
      have h4 := H3e.turn (m' := { m with treg := (k : Int), tleft := left, keep := keep }) f4 hb4 rfl (Kd.R_mono (Kd.R_bound (Kd.R_lower (Rfr (Kd.R_mono (Kd.R_bound HR3.out) (ok' := fun i => w2.heap.size ≤ i) (fun i hi => hi.2.1)) f4 (fun i hi _ hs => by omega)) (Nat.zero_le _))) (fun i hi => ext_new hi.1))
      refine Did.of (G' := ext G w2.heap.size (c + 2)) ((Step.of_fr F1.out (fun i _ hi => ?_)).trans ((Step.of_below HB2.out).trans (Step.of_ext ((Fr.of_below HB3.out).trans f4) (fun i _ hi => ?_)))) h4
      · have := H.out.colour
        rw [hi]
        omega
      · have := H.out.colour
        rw [hi]
        omega
    · have em : Hid (cutM m (k : Int) left keep = { m with treg := 0, tleft := 0, keep := [] }) := by show _ = _; unfold cutM; rw [if_neg (fun h => hl h.2.2)]
      clear hn
      go_wp2_with fail
      refine bodyPost_end (v := .tuple #[]) (by simp [results, Tryd.results32, go_sem]) rfl ?_
      refine ⟨rfl, ?_⟩
      rw [em.out]
      refine Did.of ((Step.of_fr F1.out (fun i _ hi => ?_)).trans (Step.of_below HB2.out)) H2.out
      have := H.out.colour
      rw [hi]
      omega
  · have em : Hid (cutM m n left keep = { m with treg := 0, tleft := 0, keep := [] }) := by show _ = _; unfold cutM; rw [if_neg (fun h => hn ⟨h.1, h.2.1⟩)]
    have ep : regP gs n = none := by
      by_cases h0 : n < 0
      · exact regP_neg h0
      · obtain ⟨k, rfl⟩ : ∃ k : Nat, n = (k : Int) := ⟨n.toNat, by omega⟩
        rw [regP_nat, List.getElem?_eq_none (by have := H.out.len; omega)]
        rfl
    rw [ep]
    clear ep hn
    go_wp2_with fail
    refine bodyPost_end (v := .tuple #[]) (by simp [results, Tryd.results32, go_sem]) rfl ?_
    refine ⟨rfl, ?_⟩
    rw [em.out]
    refine Did.of ((Step.of_fr F1.out (fun i _ hi => ?_)).trans (Step.of_below HB2.out)) H2.out
    have := H.out.colour
    rw [hi]
    omega

end Go.Proofs.YtekpbpcfeopilaaDoor.Dn
