/- The document's disk: Flush, Crash. -/
import Derived.Test.YtekpbpcfeopilaaRf
namespace Go.Proofs.Ytekpbpcfeopilaa.Rg
open Go Go.RowKit Go.Joins Go.Proofs.YtekpbpcfeopilaaCore Go.Proofs.Ytekpbpcfeopilaa.Dm Go.Proofs.Ytekpbpcfeopilaa.Dr Go.Proofs.Ytekpbpcfeopilaa.Da Go.Proofs.Ytekpbpcfeopilaa.Df Go.Proofs.Ytekpbpcfeopilaa.Dg Go.Proofs.Ytekpbpcfeopilaa.Dh Go.Proofs.Ytekpbpcfeopilaa.Di Go.Proofs.Ytekpbpcfeopilaa.Dj Go.Proofs.Ytekpbpcfeopilaa.Dk Go.Proofs.Ytekpbpcfeopilaa.Dl Go.Proofs.Ytekpbpcfeopilaa.Dn Go.Proofs.Ytekpbpcfeopilaa.Dp Go.Proofs.Ytekpbpcfeopilaa.Dq Go.Proofs.Ytekpbpcfeopilaa.Ds Go.Proofs.Ytekpbpcfeopilaa.Dt Go.Proofs.Ytekpbpcfeopilaa.Du Go.Proofs.Ytekpbpcfeopilaa.Dv Go.Proofs.Ytekpbpcfeopilaa.Dw Go.Proofs.Ytekpbpcfeopilaa.Sys Go.Proofs.Ytekpbpcfeopilaa.Ra Go.Proofs.Ytekpbpcfeopilaa.Rb Go.Proofs.Ytekpbpcfeopilaa.Rc Go.Proofs.Ytekpbpcfeopilaa.Rd Go.Proofs.Ytekpbpcfeopilaa.Re Go.Proofs.Ytekpbpcfeopilaa.Rf Go.Proofs.YtekpbpcfeopilaaW.PrintWords Go.Proofs.YtekpbpcfeopilaaW.PrintLast Go.Proofs.YtekpbpcfeopilaaW.PrintMore

def rflushM (m : MDisk) (n : Int) : MDisk :=
  if m.off = true then m else if 0 ≤ n ∧ n < m.regs.length then (if failsM m n = true then rloseM m.keep m else setM (tickM m n) n.toNat (lastR (fun _ => true) (m.regs.getD n.toNat ⟨[], []⟩))) else m

set_option maxHeartbeats 4000000 in
set_option maxRecDepth 100000 in
theorem rflush_any {G : Nat → Nat} {c : Nat} {w : World} {b : Nat} {m : MDisk} {rv kv : Value} {gs : List Nat} (h : Lies TR G c w b m rv kv gs) {N : Nat} (hm : Wf N m) (hN : N ≤ 1000000) (n : Int) :
    Calls Try.prog 53 #[.pointer (some ⟨b, 0, none⟩), .int .i64 n] w fun e w' => e = .returned (.int .i64 (flushE m n)) ∧ Did TR G c w b (rflushM m n) w' := by
  have H := Lib.hid h
  have HM := Lib.hid hm
  have hx1 : w.cell? ⟨b, 1, none⟩ = some (.bool m.off) := cell_of_block h.head 1
  have hgl := h.len
  obtain ⟨Ar, cr, rfl, _, hCr⟩ := Kd.R_reads h.row
  have hx0 : w.cell? ⟨b, 0, none⟩ = some (.slice Ar gs.length cr) := cell_of_block h.head 0
  clear h hm
  by_cases ho : m.off = true
  · have em : Hid (rflushM m n = m) := by show _ = _; unfold rflushM; rw [if_pos ho]
    have ee : Hid (flushE m n = 11) := by show _ = _; unfold flushE; rw [if_pos ho]
    rw [ho] at hx1
    clear ho
    go_enter Try.func53, Try.ntmps53
    go_wp2_with fail
    refine bodyPost_ret (v := .int .i64 11) (by simp [results, Try.results53, go_sem]) rfl ?_
    exact ⟨by rw [ee.out], by rw [em.out]; exact Did.of (Step.of_fr (Fr.refl _ _) (fun _ _ h => h)) H.out⟩
  · have ho2 : m.off = false := by simpa using ho
    rw [ho2] at hx1
    by_cases hn0 : n < 0
    · have em : Hid (rflushM m n = m) := by show _ = _; unfold rflushM; rw [if_neg ho, if_neg (by omega)]
      have ee : Hid (flushE m n = 10) := by show _ = _; unfold flushE; rw [if_neg ho, if_neg (by omega)]
      clear ho ho2
      go_enter Try.func53, Try.ntmps53
      go_wp2_with fail
      refine bodyPost_ret (v := .int .i64 10) (by simp [results, Try.results53, go_sem]) rfl ?_
      exact ⟨by rw [ee.out], by rw [em.out]; exact Did.of (Step.of_fr (Fr.refl _ _) (fun _ _ h => h)) H.out⟩
    · obtain ⟨k, rfl⟩ : ∃ k : Nat, n = (k : Int) := ⟨n.toNat, by omega⟩
      by_cases hk : k < m.regs.length
      · have hkI : (k : Int) < (gs.length : Int) := by omega
        have em : Hid (rflushM m (k : Int) = if failsM m (k : Int) = true then rloseM m.keep m else setM (tickM m (k : Int)) k (lastR (fun _ => true) m.regs[k])) := by
          show _ = _
          unfold rflushM
          rw [if_neg ho, if_pos (by omega), Int.toNat_natCast]
          simp [hk]
        have ee : Hid (flushE m (k : Int) = if failsM m (k : Int) = true then 11 else 0) := by show _ = _; unfold flushE; rw [if_neg ho, if_pos (by omega)]
        have hl1 := HM.out.left.1
        have hl2 := HM.out.left.2
        clear ho ho2 hCr
        go_enter Try.func53, Try.ntmps53
        go_wp2_with fail
        refine (rfails_any H.out (k : Int) hl1 hl2).mono ?_
        rintro e w4 ⟨rfl, hf4, h4⟩
        have HF4 := Lib.hid hf4
        have H4 := Lib.hid h4
        clear hf4 h4 hl1 hl2 hx1 hx0
        by_cases hfl : failsM m (k : Int) = true
        · rw [hfl]
          rw [if_pos hfl] at em ee
          obtain ⟨Ak, ck, ekv, _, _⟩ := Kd.R_reads H4.out.keep
          rw [tick_keep] at ekv
          subst ekv
          have hx4 : w4.cell? ⟨b, 4, none⟩ = some (.slice Ak m.keep.length ck) := cell_of_block H4.out.head 4
          clear hfl
          go_wp2_with fail
          have hKC : ∀ W, Fr (regC G c) w4 W → Kd.C (Kd.int .u64) W Ak m.keep.length m.keep := fun W hW => by
            have hr := Rfr H4.out.keep hW (fun j ho _ hs => by have := hs.1; omega)
            rw [tick_keep] at hr
            exact (Kd.R_reads' hr).2.2
          refine (rlose_any H4.out (tick_wf HM.out) hN Ak ck m.keep HM.out.keep hKC).mono ?_
          rintro e w5 ⟨rfl, hf5, h5⟩
          rw [rlose_tick] at h5
          have HF5 := Lib.hid hf5
          have H5 := Lib.hid h5
          clear hf5 h5 hKC hx4
          go_wp2_with fail
          refine bodyPost_ret (v := .int .i64 11) (by simp [results, Try.results53, go_sem]) rfl ?_
          refine ⟨by rw [ee.out], ?_⟩
          rw [em.out]
          refine Did.of ((Step.of_fr HF4.out (fun i _ hi => ?_)).trans (Step.of_fr HF5.out (fun i _ hi => ?_))) H5.out
          · have := H.out.colour
            rw [hi]
            omega
          · rcases hi with hi | hi
            · have := H.out.colour
              rw [hi]
              omega
            · exact ⟨by have := hi.1; omega, hi.2⟩
        · rw [if_neg hfl] at em ee
          have hfl2 : failsM m (k : Int) = false := by simpa using hfl
          rw [hfl2]
          clear hfl hfl2
          obtain ⟨A', c', eA, _, hCA⟩ := Kd.R_reads H4.out.row
          simp only [Value.slice.injEq, true_and] at eA
          obtain ⟨rfl, rfl⟩ := eA
          obtain ⟨ad, g, rfl, hg, hx⟩ := ptr_at hCA k (by omega)
          have hk4 : k < (tickM m (k : Int)).regs.length := by rw [tick_regs]; exact hk
          obtain ⟨g2, hg2, hr⟩ := H4.out.regs k hk4
          rw [hg] at hg2
          obtain rfl : g = g2 := by simpa using hg2
          have hrr : (tickM m (k : Int)).regs[k] = m.regs[k] := by simp [tick_regs]
          rw [hrr] at hr
          obtain ⟨r, hr0⟩ : ∃ r, m.regs[k] = r := ⟨_, rfl⟩
          rw [hr0] at hr em
          have hWr : WfR N r := by rw [← hr0]; exact HM.out.regs _ (List.getElem_mem hk)
          have HGS := Lib.hid hg
          have HW := Lib.hid hWr
          obtain ⟨hgk, lv, qv, hb, hl, hq⟩ := hr
          obtain ⟨Aq, cq, rfl, _, hQ⟩ := Kd.R_reads hq
          have hql : r.queue.length ≤ 1000000 := Nat.le_trans hWr.long hN
          have HGK := Lib.hid hgk
          have hx0 : w4.cell? ⟨b, 0, none⟩ = some (.slice (some ad) gs.length cr) := cell_of_block H4.out.head 0
          have H0 : Hid (RLRel (fun j => G j = c + 3 + k) (fun _ => true) r w4 g lv (.slice Aq r.queue.length cq) r.queue.length (.int .i64 0) w4) := ⟨0, r.lasts, ⟨Nat.zero_le _, rfl, rfl, Fr.refl _ _, hb, hl, hq, rfl, rfl⟩⟩
          clear hCA hg hg2 hr0 hrr hWr hgk hb hl hq hQ
          go_wp2_with fail
          go_loopg [7] r.queue.length (fun gk v wr => RLRel (fun j => G j = c + 3 + k) (fun _ => true) r w4 g lv (.slice Aq r.queue.length cq) gk v wr)
          case atStart => exact H0.out
          case round =>
            obtain ⟨i, l, hi, rfl, hgi, hfi, hbi, hli, hqi, hleni, hputi⟩ := hrel
            have HGI := Lib.hid hgi
            have HFI := Lib.hid hfi
            have HBI := Lib.hid hbi
            have HLI := Lib.hid hli
            have HQI := Lib.hid hqi
            have HLENI := Lib.hid hleni
            have HPI := Lib.hid hputi
            clear hgi hfi hbi hli hqi hleni hputi H0
            have hg1 : wr.cell? ⟨g, 1, none⟩ = some (.slice Aq r.queue.length cq) := cell_of_block HBI.out 1
            by_cases hil : i < r.queue.length
            · obtain ⟨q, qc, eq0, _, _, _⟩ := Kd.R_form HQI.out (by omega)
              simp only [Value.slice.injEq, true_and] at eq0
              obtain ⟨rfl, rfl⟩ := eq0
              obtain ⟨_, _, eqv, _, hQ⟩ := Kd.R_reads HQI.out
              simp only [Value.slice.injEq, true_and] at eqv
              obtain ⟨rfl, rfl⟩ := eqv
              obtain ⟨aq, ead, hx0q, hx1q⟩ := wr_at hQ i hil hil
              obtain rfl : (⟨q, 0, none⟩ : Addr) = aq := by simpa using ead
              clear ead hQ
              rw [Addr.add_plain0] at hx0q hx1q
              have hin := HW.out.inQ r.queue[i] (List.getElem_mem hil)
              have HT := Lib.hid (putQ_at (fun _ => true) r.queue i hil l)
              obtain ⟨⟨ps, pd⟩, hpp⟩ : ∃ p, r.queue[i] = p := ⟨_, rfl⟩
              rw [hpp] at hx0q hx1q hin HT
              simp only at hx0q hx1q hin HT
              clear hpp
              have hil2 : (i : Int) < (r.queue.length : Int) := by omega
              have hll := HLENI.out
              obtain ⟨pl, lc, rfl, _, _, ⟨plc, hplc⟩⟩ := Kd.R_form HLI.out (by omega)
              have HPL := Lib.hid hplc
              obtain ⟨j, rfl⟩ : ∃ j : Nat, ps = (j : Int) := ⟨ps.toNat, by omega⟩
              have hj : j < l.length := by omega
              have hj2 : (j : Int) < (l.length : Int) := by omega
              obtain ⟨hcell, hfroz⟩ := Kd.R_cell ByteArray.empty HLI.out (j : Int) (by omega) (by omega)
              rw [Int.toNat_natCast] at hcell hfroz
              obtain ⟨old, hold⟩ : ∃ o, rdOf ByteArray.empty l (j : Int) = o := ⟨_, rfl⟩
              rw [hold] at hcell
              have hl0 : wr.cell? ⟨g, 0, none⟩ = some (.slice (some ⟨pl, 0, none⟩) l.length lc) := cell_of_block HBI.out 0
              clear hold hll hplc
              go_wp2_with fail
              go_region
              have hokp : G pl = c + 3 + k := HLI.out.1 pl rfl
              have hgp : g ≠ pl := by
                have := Kd.R_ne HLI.out HBI.out (show TR.str ≠ TR.reg by decide)
                simpa [Value.ownBlock] using this
              have f5 : Fr (fun j => G j = c + 3 + k) wr (wr.setCell ⟨pl, j, none⟩ (.string pd)).drew := by
                refine Fr.drew ?_
                refine Fr.setAt ?_ hokp
                exact Fr.refl _ _
              have hf5 := HFI.out.trans f5
              have hb5 : (wr.setCell ⟨pl, j, none⟩ (.string pd)).drew.heap[g]? = some (.cells #[.slice (some ⟨pl, 0, none⟩) l.length lc, .slice (some ⟨q, 0, none⟩) r.queue.length cq] TR.reg (0, 0)) :=
                (Below.heap_setCell wr ⟨pl, j, none⟩ _ g hgp).trans HBI.out
              have hr5 := Kd.R_drew (Kd.R_put HLI.out (j : Int) pd).1
              rw [Int.toNat_natCast] at hr5
              have hq5 := Kd.R_drew (Kd.R_set HQI.out HPL.out (by decide) j (.string pd))
              have hput5 : putQ (fun _ => true) 0 r.queue r.lasts = putQ (fun _ => true) (i + 1) (r.queue.drop (i + 1)) (l.set j pd) := by
                rw [HPI.out, HT.out, Int.toNat_natCast]; simp
              have H5 : RLI (fun j => G j = c + 3 + k) (fun _ => true) r w4 g (.slice (some ⟨pl, 0, none⟩) l.length lc) (.slice (some ⟨q, 0, none⟩) r.queue.length cq) (gk - 1) (.int .i64 ((i + 1 : Nat) : Int)) (wr.setCell ⟨pl, j, none⟩ (.string pd)).drew (i + 1) (l.set j pd) :=
                ⟨by omega, rfl, by have := HGI.out; omega, hf5, hb5, hr5, hq5, by rw [List.length_set]; exact HLENI.out, hput5⟩
              have HH5 := Lib.hid H5
              clear H5 hput5 hq5 hr5 hb5 hf5 f5 hgp hokp hcell hfroz hl0
              go_wp2_with fail
              go_roundg (gk - 1)
              case measure => have := HGI.out; omega
              case rel => exact ⟨i + 1, _, HH5.out⟩
            · obtain rfl : i = r.queue.length := by omega
              have e1 := HPI.out
              rw [List.drop_eq_nil_of_le (Nat.le_refl _)] at e1
              have EP := Lib.hid (show putQ (fun _ => true) 0 r.queue r.lasts = l from e1)
              clear e1
              have hf1 : wr.frozen? ⟨g, 1, none⟩ = false := unfrozen_of_block HBI.out 1
              go_wp2_with fail
              have f5 : Fr (fun j => G j = c + 3 + k) wr (wr.setCell ⟨g, 1, none⟩ (.slice none 0 0)) := by
                refine Fr.setAt ?_ HGK.out
                exact Fr.refl _ _
              have hb5 := block_setCell HBI.out (i := 1) (.slice none 0 0)
              have e5 : (#[lv, Value.slice Aq r.queue.length cq] : Array Value).setIfInBounds 1 (.slice none 0 0) = #[lv, .slice none 0 0] := by simp
              rw [e5] at hb5
              have hl5 := Kd.R_set HLI.out HBI.out (by decide) 1 (.slice none 0 0)
              have er : lastR (fun _ => true) r = ⟨l, []⟩ := by unfold lastR; rw [EP.out]
              have hr1 : RegAt TR (fun j => G j = c + 3 + k) (wr.setCell ⟨g, 1, none⟩ (.slice none 0 0)) g (lastR (fun _ => true) r) := by
                rw [er]; exact ⟨HGK.out, lv, .slice none 0 0, hb5, hl5, Kd.R_nil _ _ _ _ _⟩
              have hfx := HFI.out.trans f5
              refine bodyPost_ret (v := .int .i64 0) (by simp [results, Try.results53, go_sem]) rfl ?_
              refine ⟨by rw [ee.out], ?_⟩
              rw [em.out]
              have hk8 := HM.out.few
              refine Did.of ((Step.of_fr HF4.out (fun i _ hi => ?_)).trans (Step.of_fr hfx (fun i _ hi => ?_))) (reg_lies H4.out HGS.out hfx hr1)
              · have := H.out.colour
                rw [hi]
                omega
              · omega
      · have em : Hid (rflushM m (k : Int) = m) := by show _ = _; unfold rflushM; rw [if_neg ho, if_neg (by omega)]
        have ee : Hid (flushE m (k : Int) = 10) := by show _ = _; unfold flushE; rw [if_neg ho, if_neg (by omega)]
        have hkI : ¬ (k : Int) < (gs.length : Int) := by omega
        clear ho ho2 hCr
        go_enter Try.func53, Try.ntmps53
        go_wp2_with fail
        refine bodyPost_ret (v := .int .i64 10) (by simp [results, Try.results53, go_sem]) rfl ?_
        exact ⟨by rw [ee.out], by rw [em.out]; exact Did.of (Step.of_fr (Fr.refl _ _) (fun _ _ h => h)) H.out⟩

def rcrashM (l : List Int) (m : MDisk) : MDisk := ronM (if m.off = true then m else rloseM l m)

set_option maxHeartbeats 4000000 in
set_option maxRecDepth 100000 in
theorem rcrash_any {G : Nat → Nat} {c : Nat} {w : World} {b : Nat} {m : MDisk} {rv kv : Value} {gs : List Nat} (h : Lies TR G c w b m rv kv gs) {N : Nat} (hm : Wf N m) (hN : N ≤ 1000000) (A : Option Addr) (cc : Nat) (keep : List Int) (hK : ∀ x ∈ keep, 0 ≤ x ∧ x ≤ 18446744073709551615)
    (hC : ∀ W, Fr (regC G c) w W → Kd.C (Kd.int .u64) W A keep.length keep) :
    Calls Try.prog 55 #[.pointer (some ⟨b, 0, none⟩), .slice A keep.length cc] w fun e w' => e = .returned (.tuple #[]) ∧ Did TR G c w b (rcrashM keep m) w' := by
  have H := Lib.hid h
  have HM := Lib.hid hm
  have HC := Lib.hid hC
  have HK := Lib.hid hK
  clear h hm hC hK
  by_cases ho : m.off = true
  · have em : Hid (rcrashM keep m = ronM m) := by show _ = _; unfold rcrashM; rw [if_pos ho]
    have hx1 : w.cell? ⟨b, 1, none⟩ = some (.bool true) := by rw [← ho]; exact cell_of_block H.out.head 1
    clear ho
    go_enter Try.func55, Try.ntmps55
    go_wp2_with fail
    refine (ron_any H.out).mono ?_
    rintro e w2 ⟨rfl, hf2, h2⟩
    have HF2 := Lib.hid hf2
    have H2 := Lib.hid h2
    clear hf2 h2
    go_wp2_with fail
    refine bodyPost_end (v := .tuple #[]) (by simp [results, Try.results55, go_sem]) rfl ?_
    refine ⟨rfl, ?_⟩
    rw [em.out]
    refine Did.of (Step.of_fr HF2.out (fun i _ hi => ?_)) H2.out
    have := H.out.colour
    rw [hi]
    omega
  · have em : Hid (rcrashM keep m = ronM (rloseM keep m)) := by show _ = _; unfold rcrashM; rw [if_neg ho]
    have ho2 : m.off = false := by simpa using ho
    have hx1 : w.cell? ⟨b, 1, none⟩ = some (.bool false) := by rw [← ho2]; exact cell_of_block H.out.head 1
    clear ho ho2
    go_enter Try.func55, Try.ntmps55
    go_wp2_with fail
    refine (rlose_any H.out HM.out hN A cc keep HK.out HC.out).mono ?_
    rintro e w1 ⟨rfl, hf1, h1⟩
    have HF1 := Lib.hid hf1
    have H1 := Lib.hid h1
    clear hf1 h1
    go_wp2_with fail
    refine (ron_any H1.out).mono ?_
    rintro e w2 ⟨rfl, hf2, h2⟩
    have HF2 := Lib.hid hf2
    have H2 := Lib.hid h2
    clear hf2 h2
    go_wp2_with fail
    refine bodyPost_end (v := .tuple #[]) (by simp [results, Try.results55, go_sem]) rfl ?_
    refine ⟨rfl, ?_⟩
    rw [em.out]
    refine Did.of ((Step.of_fr HF1.out (fun i _ hi => ?_)).trans (Step.of_fr HF2.out (fun i _ hi => ?_))) H2.out
    · rcases hi with hi | hi
      · have := H.out.colour
        rw [hi]
        omega
      · exact ⟨by have := hi.1; omega, hi.2⟩
    · have := H.out.colour
      rw [hi]
      omega


end Go.Proofs.Ytekpbpcfeopilaa.Rg
