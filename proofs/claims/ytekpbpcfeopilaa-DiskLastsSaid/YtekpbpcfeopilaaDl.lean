/- The program's disk: Flush, Crash. -/
import Derived.Test.YtekpbpcfeopilaaDk
namespace Go.Proofs.Ytekpbpcfeopilaa.Dl
open Go Go.RowKit Go.Joins Go.Proofs.YtekpbpcfeopilaaCore Go.Proofs.Ytekpbpcfeopilaa.Dm Go.Proofs.Ytekpbpcfeopilaa.Dr Go.Proofs.Ytekpbpcfeopilaa.Da Go.Proofs.Ytekpbpcfeopilaa.Df Go.Proofs.Ytekpbpcfeopilaa.Dg Go.Proofs.Ytekpbpcfeopilaa.Dh Go.Proofs.Ytekpbpcfeopilaa.Di Go.Proofs.Ytekpbpcfeopilaa.Dj Go.Proofs.Ytekpbpcfeopilaa.Dk Go.Proofs.YtekpbpcfeopilaaW.PrintWords Go.Proofs.YtekpbpcfeopilaaW.PrintLast Go.Proofs.YtekpbpcfeopilaaW.PrintMore

set_option maxHeartbeats 4000000 in
set_option maxRecDepth 100000 in
theorem flush_nil (n : Int) (w : World) : Calls Try.prog 30 #[.pointer none, .int .i64 n] w fun e w' => e = .returned (.int .i64 1) ∧ Below w.heap.size w w' := by
  go_enter Try.func30, Try.ntmps30
  go_wp2_with fail
  exact bodyPost_ret (v := .int .i64 1) (by simp [results, Try.results30, go_sem]) rfl ⟨rfl, Below.refl _ _⟩

/-- One region is another one. -/
def setM (m : MDisk) (k : Nat) (r : MReg) : MDisk := { m with regs := m.regs.set k r }

theorem reg_lies {G : Nat → Nat} {c : Nat} {T : Tys} {w w' : World} {b k g : Nat} {m : MDisk} {rv kv : Value} {gs : List Nat} {r : MReg} (H : Lies T G c w b m rv kv gs) (hg : gs[k]? = some g) (f : Fr (fun i => G i = c + 3 + k) w w') (hr : RegAt T (fun i => G i = c + 3 + k) w' g r) :
    Lies T G c w' b (setM m k r) rv kv gs where
  head := f.at_ H.head (fun hs => by rw [H.colour] at hs; omega)
  colour := H.colour
  row := Rfr H.row f (fun j ho _ hs => by omega)
  keep := Rfr H.keep f (fun j ho _ hs => by omega)
  len := by simp [setM, H.len]
  regs := fun i hi => by
    have hi2 : i < m.regs.length := by simpa [setM] using hi
    by_cases hik : k = i
    · subst hik
      refine ⟨g, hg, ?_⟩
      have er : (setM m k r).regs[k] = r := by simp [setM]
      rw [er]
      exact hr
    · obtain ⟨g2, hg2, hr2⟩ := H.regs i hi2
      refine ⟨g2, hg2, ?_⟩
      have er : (setM m k r).regs[i] = m.regs[i] := by simp [setM, hik]
      rw [er]
      exact hr2.fr f (fun j hj _ hs => by omega)

def flushE (m : MDisk) (n : Int) : Int := if m.off = true then 11 else if 0 ≤ n ∧ n < m.regs.length then (if failsM m n = true then 11 else 0) else 10
def flushM (m : MDisk) (n : Int) : MDisk :=
  if m.off = true then m else if 0 ≤ n ∧ n < m.regs.length then (if failsM m n = true then loseM m.keep m else setM (tickM m n) n.toNat (lastR (fun _ => true) (m.regs.getD n.toNat ⟨[], []⟩))) else m

theorem tick_regs (m : MDisk) (n : Int) : (tickM m n).regs = m.regs := by unfold tickM; split <;> rfl
theorem tick_keep (m : MDisk) (n : Int) : (tickM m n).keep = m.keep := by unfold tickM; split <;> rfl
theorem lose_tick (m : MDisk) (n : Int) (l : List Int) : loseM l (tickM m n) = loseM l m := by unfold loseM; rw [tick_regs]

set_option maxHeartbeats 4000000 in
set_option maxRecDepth 100000 in
theorem flush_any {G : Nat → Nat} {c : Nat} {w : World} {b : Nat} {m : MDisk} {rv kv : Value} {gs : List Nat} (h : Lies TP G c w b m rv kv gs) {N : Nat} (hm : Wf N m) (hN : N ≤ 1000000) (n : Int) :
    Calls Try.prog 30 #[.pointer (some ⟨b, 0, none⟩), .int .i64 n] w fun e w' => e = .returned (.int .i64 (flushE m n)) ∧ Did TP G c w b (flushM m n) w' := by
  have H := Lib.hid h
  have HM := Lib.hid hm
  clear h hm
  by_cases ho : m.off = true
  · have em : Hid (flushM m n = m) := by show _ = _; unfold flushM; rw [if_pos ho]
    have ee : Hid (flushE m n = 11) := by show _ = _; unfold flushE; rw [if_pos ho]
    have HOF := Lib.hid ho
    clear ho
    go_enter Try.func30, Try.ntmps30
    go_wp2_with fail
    refine (at_any H.out n).mono ?_
    rintro e w1 ⟨rfl, hb1⟩
    have H1 := Lib.hid (H.out.below hb1)
    have hx1 : w1.cell? ⟨b, 1, none⟩ = some (.bool true) := by rw [← HOF.out]; exact cell_of_block H1.out.head 1
    go_wp2_with fail
    refine bodyPost_ret (v := .int .i64 11) (by simp [results, Try.results30, go_sem]) rfl ?_
    exact ⟨by rw [ee.out], by rw [em.out]; exact Did.of (Step.of_below hb1) H1.out⟩
  · have ho2 : m.off = false := by simpa using ho
    have HOF := Lib.hid ho2
    by_cases hn : 0 ≤ n ∧ n < m.regs.length
    · obtain ⟨k, rfl⟩ : ∃ k : Nat, n = (k : Int) := ⟨n.toNat, by omega⟩
      have hk : k < m.regs.length := by omega
      have em : Hid (flushM m (k : Int) = if failsM m (k : Int) = true then loseM m.keep m else setM (tickM m (k : Int)) k (lastR (fun _ => true) m.regs[k])) := by
        show _ = _
        unfold flushM
        rw [if_neg ho, if_pos hn, Int.toNat_natCast]
        simp [hk]
      have ee : Hid (flushE m (k : Int) = if failsM m (k : Int) = true then 11 else 0) := by show _ = _; unfold flushE; rw [if_neg ho, if_pos hn]
      obtain ⟨g, eg, hr⟩ := H.out.regs k hk
      have ep : regP gs (k : Int) = some ⟨g, 0, none⟩ := by rw [regP_nat, eg]; rfl
      have EG := Lib.hid eg
      have EP := Lib.hid ep
      clear ho ho2 hn eg hr ep
      have hl1 := HM.out.left.1
      have hl2 := HM.out.left.2
      go_enter Try.func30, Try.ntmps30
      go_wp2_with fail
      refine (at_any H.out (k : Int)).mono ?_
      rintro e w1 ⟨rfl, hb1⟩
      rw [EP.out]
      have H1 := Lib.hid (H.out.below hb1)
      have hx1 : w1.cell? ⟨b, 1, none⟩ = some (.bool false) := by rw [← HOF.out]; exact cell_of_block H1.out.head 1
      go_wp2_with fail
      refine (fails_any H1.out (k : Int) hl1 hl2).mono ?_
      rintro e w4 ⟨rfl, hf4, h4⟩
      have HF4 := Lib.hid hf4
      have H4 := Lib.hid h4
      clear hf4 h4 hl1 hl2 hx1
      by_cases hfl : failsM m (k : Int) = true
      · rw [hfl]
        rw [if_pos hfl] at em ee
        obtain ⟨Ak, ck, ekv, _, _⟩ := Kd.R_reads H4.out.keep
        rw [tick_keep] at ekv
        subst ekv
        have hx4 : w4.cell? ⟨b, 4, none⟩ = some (.slice Ak m.keep.length ck) := cell_of_block H4.out.head 4
        clear hfl
        go_wp2_with fail
        have hKC : ∀ W, Fr (regC G c) w4 W → Kd.C (Kd.int .u64) W Ak m.keep.length m.keep := fun W hW => by
          have hr := Rfr H4.out.keep hW (fun j ho _ hs => by have := hs.1; omega)
          rw [tick_keep] at hr
          exact (Kd.R_reads' hr).2.2
        refine (lose_any H4.out (tick_wf HM.out) hN Ak ck m.keep HM.out.keep hKC).mono ?_
        rintro e w5 ⟨rfl, hf5, h5⟩
        rw [lose_tick] at h5
        have HF5 := Lib.hid hf5
        have H5 := Lib.hid h5
        clear hf5 h5 hKC hx4
        go_wp2_with fail
        refine bodyPost_ret (v := .int .i64 11) (by simp [results, Try.results30, go_sem]) rfl ?_
        refine ⟨by rw [ee.out], ?_⟩
        rw [em.out]
        refine Did.of ((Step.of_below hb1).trans ((Step.of_fr HF4.out (fun i _ hi => ?_)).trans (Step.of_fr HF5.out (fun i _ hi => ?_)))) H5.out
        · have := H1.out.colour
          rw [hi]
          omega
        · rcases hi with hi | hi
          · have := H1.out.colour
            rw [hi]
            omega
          · exact ⟨by have := hi.1; omega, hi.2⟩
      · rw [if_neg hfl] at em ee
        have hfl2 : failsM m (k : Int) = false := by simpa using hfl
        rw [hfl2]
        clear hfl hfl2
        have hmf : ∀ (fn : Fn) (first cap : Array Value) (w : World), (Instr.makeFunc fn first cap).run Try.prog w = .ok (.func fn first cap) w := fun _ _ _ _ => rfl
        go_wp2_with fail
        have hk4 : k < (tickM m (k : Int)).regs.length := by rw [tick_regs]; exact hk
        obtain ⟨g2, hg2, hr⟩ := H4.out.regs k hk4
        rw [EG.out] at hg2
        obtain rfl : g = g2 := by simpa using hg2
        have hrr : (tickM m (k : Int)).regs[k] = m.regs[k] := by simp [tick_regs]
        rw [hrr] at hr
        have hWr : Wf N m := HM.out
        have hent : ∀ (args : Array Value) (W : World), Sem.run Try.prog (callFunc 50 args) W = .ok (.enter 50 args) W := fun args W => enter_of Try.func50 (by kernel_rfl) rfl args W
        refine (last_any hr (hWr.regs _ (List.getElem_mem hk)) hN 50 hent #[] (fun _ => true) (fun _ => True) (fun _ _ _ _ => trivial) trivial (fun W i _ _ => true_any _ _)).mono ?_
        rintro e w5 ⟨rfl, hf5, hr5⟩
        have HF5 := Lib.hid hf5
        have HR5 := Lib.hid hr5
        clear hf5 hr5 hent hrr hr hg2 hk4
        go_wp2_with fail
        refine bodyPost_ret (v := .int .i64 0) (by simp [results, Try.results30, go_sem]) rfl ?_
        refine ⟨by rw [ee.out], ?_⟩
        rw [em.out]
        have hk8 := HM.out.few
        refine Did.of ((Step.of_below hb1).trans ((Step.of_fr HF4.out (fun i _ hi => ?_)).trans (Step.of_fr HF5.out (fun i _ hi => ?_)))) (reg_lies H4.out EG.out HF5.out HR5.out)
        · have := H1.out.colour
          rw [hi]
          omega
        · omega
    · have em : Hid (flushM m n = m) := by show _ = _; unfold flushM; rw [if_neg ho, if_neg hn]
      have ee : Hid (flushE m n = 10) := by show _ = _; unfold flushE; rw [if_neg ho, if_neg hn]
      have ep : regP gs n = none := by
        by_cases h0 : n < 0
        · exact regP_neg h0
        · obtain ⟨k, rfl⟩ : ∃ k : Nat, n = (k : Int) := ⟨n.toNat, by omega⟩
          rw [regP_nat, List.getElem?_eq_none (by have := H.out.len; omega)]
          rfl
      have EP := Lib.hid ep
      clear ho hn ho2 ep
      go_enter Try.func30, Try.ntmps30
      go_wp2_with fail
      refine (at_any H.out n).mono ?_
      rintro e w1 ⟨rfl, hb1⟩
      rw [EP.out]
      have H1 := Lib.hid (H.out.below hb1)
      have hx1 : w1.cell? ⟨b, 1, none⟩ = some (.bool false) := by rw [← HOF.out]; exact cell_of_block H1.out.head 1
      go_wp2_with fail
      refine bodyPost_ret (v := .int .i64 10) (by simp [results, Try.results30, go_sem]) rfl ?_
      exact ⟨by rw [ee.out], by rw [em.out]; exact Did.of (Step.of_below hb1) H1.out⟩

/-! Crash -/
set_option maxHeartbeats 4000000 in
set_option maxRecDepth 100000 in
theorem crash_nil (v : Value) (w : World) : Calls Try.prog 29 #[.pointer none, v] w fun e w' => e = .returned (.tuple #[]) ∧ Below w.heap.size w w' := by
  go_enter Try.func29, Try.ntmps29
  go_wp2_with fail
  exact bodyPost_ret (v := .tuple #[]) (by simp [results, Try.results29, go_sem]) rfl ⟨rfl, Below.refl _ _⟩

def crashM (l : List Int) (m : MDisk) : MDisk := onM (if m.off = true then m else loseM l m)

set_option maxHeartbeats 4000000 in
set_option maxRecDepth 100000 in
theorem crash_any {G : Nat → Nat} {c : Nat} {w : World} {b : Nat} {m : MDisk} {rv kv : Value} {gs : List Nat} (h : Lies TP G c w b m rv kv gs) {N : Nat} (hm : Wf N m) (hN : N ≤ 1000000) (A : Option Addr) (cc : Nat) (keep : List Int) (hK : ∀ x ∈ keep, 0 ≤ x ∧ x ≤ 18446744073709551615)
    (hC : ∀ W, Fr (regC G c) w W → Kd.C (Kd.int .u64) W A keep.length keep) :
    Calls Try.prog 29 #[.pointer (some ⟨b, 0, none⟩), .slice A keep.length cc] w fun e w' => e = .returned (.tuple #[]) ∧ Did TP G c w b (crashM keep m) w' := by
  have H := Lib.hid h
  have HM := Lib.hid hm
  have HC := Lib.hid hC
  have HK := Lib.hid hK
  clear h hm hC hK
  by_cases ho : m.off = true
  · have em : Hid (crashM keep m = onM m) := by show _ = _; unfold crashM; rw [if_pos ho]
    have hx1 : w.cell? ⟨b, 1, none⟩ = some (.bool true) := by rw [← ho]; exact cell_of_block H.out.head 1
    clear ho
    go_enter Try.func29, Try.ntmps29
    go_wp2_with fail
    refine (on_any H.out).mono ?_
    rintro e w2 ⟨rfl, hf2, h2⟩
    have HF2 := Lib.hid hf2
    have H2 := Lib.hid h2
    clear hf2 h2
    go_wp2_with fail
    refine bodyPost_end (v := .tuple #[]) (by simp [results, Try.results29, go_sem]) rfl ?_
    refine ⟨rfl, ?_⟩
    rw [em.out]
    refine Did.of (Step.of_fr HF2.out (fun i _ hi => ?_)) H2.out
    have := H.out.colour
    rw [hi]
    omega
  · have em : Hid (crashM keep m = onM (loseM keep m)) := by show _ = _; unfold crashM; rw [if_neg ho]
    have ho2 : m.off = false := by simpa using ho
    have hx1 : w.cell? ⟨b, 1, none⟩ = some (.bool false) := by rw [← ho2]; exact cell_of_block H.out.head 1
    clear ho ho2
    go_enter Try.func29, Try.ntmps29
    go_wp2_with fail
    refine (lose_any H.out HM.out hN A cc keep HK.out HC.out).mono ?_
    rintro e w1 ⟨rfl, hf1, h1⟩
    have HF1 := Lib.hid hf1
    have H1 := Lib.hid h1
    clear hf1 h1
    go_wp2_with fail
    refine (on_any H1.out).mono ?_
    rintro e w2 ⟨rfl, hf2, h2⟩
    have HF2 := Lib.hid hf2
    have H2 := Lib.hid h2
    clear hf2 h2
    go_wp2_with fail
    refine bodyPost_end (v := .tuple #[]) (by simp [results, Try.results29, go_sem]) rfl ?_
    refine ⟨rfl, ?_⟩
    rw [em.out]
    refine Did.of ((Step.of_fr HF1.out (fun i _ hi => ?_)).trans (Step.of_fr HF2.out (fun i _ hi => ?_))) H2.out
    · rcases hi with hi | hi
      · have := H.out.colour
        rw [hi]
        omega
      · exact ⟨by have := hi.1; omega, hi.2⟩
    · have := H.out.colour
      rw [hi]
      omega

end Go.Proofs.Ytekpbpcfeopilaa.Dl
