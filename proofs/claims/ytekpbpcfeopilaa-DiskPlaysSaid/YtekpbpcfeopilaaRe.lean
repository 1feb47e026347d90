/- The document's disk: Lose. -/
import Derived.Test.YtekpbpcfeopilaaRd
namespace Go.Proofs.Ytekpbpcfeopilaa.Re
open Go Go.RowKit Go.Joins Go.Proofs.YtekpbpcfeopilaaCore Go.Proofs.Ytekpbpcfeopilaa.Dm Go.Proofs.Ytekpbpcfeopilaa.Dr Go.Proofs.Ytekpbpcfeopilaa.Da Go.Proofs.Ytekpbpcfeopilaa.Df Go.Proofs.Ytekpbpcfeopilaa.Dg Go.Proofs.Ytekpbpcfeopilaa.Dh Go.Proofs.Ytekpbpcfeopilaa.Di Go.Proofs.Ytekpbpcfeopilaa.Dj Go.Proofs.Ytekpbpcfeopilaa.Dk Go.Proofs.Ytekpbpcfeopilaa.Dl Go.Proofs.Ytekpbpcfeopilaa.Dn Go.Proofs.Ytekpbpcfeopilaa.Dp Go.Proofs.Ytekpbpcfeopilaa.Dq Go.Proofs.Ytekpbpcfeopilaa.Ds Go.Proofs.Ytekpbpcfeopilaa.Dt Go.Proofs.Ytekpbpcfeopilaa.Du Go.Proofs.Ytekpbpcfeopilaa.Dv Go.Proofs.Ytekpbpcfeopilaa.Dw Go.Proofs.Ytekpbpcfeopilaa.Sys Go.Proofs.Ytekpbpcfeopilaa.Ra Go.Proofs.Ytekpbpcfeopilaa.Rb Go.Proofs.Ytekpbpcfeopilaa.Rc Go.Proofs.Ytekpbpcfeopilaa.Rd Go.Proofs.YtekpbpcfeopilaaW.PrintWords Go.Proofs.YtekpbpcfeopilaaW.PrintLast Go.Proofs.YtekpbpcfeopilaaW.PrintMore

def rloseM (keep : List Int) (m : MDisk) : MDisk := { regs := loseRs keep m.regs, off := true, treg := m.treg, tleft := 0, keep := [] }

theorem bit_of {keep : List Int} {k i xn : Nat} (hk : k < keep.length) (hx : keep.getD k 0 = (xn : Int)) : bitK keep k i = decide (xn / 2 ^ (i % 64) % 2 = 1) := by
  unfold bitK
  rw [hx, Bool.eq_iff_iff, Bool.and_eq_true, decide_eq_true_eq, decide_eq_true_eq, decide_eq_true_eq]
  have e : ((xn : Int) / 2 ^ (i % 64) % 2) = ((xn / 2 ^ (i % 64) % 2 : Nat) : Int) := by push_cast; rfl
  rw [e]
  constructor
  · rintro ⟨_, h⟩
    omega
  · intro h
    exact ⟨hk, by omega⟩

structure RLI (ok : Nat → Prop) (kept : Nat → Bool) (r : MReg) (wo : World) (g : Nat) (lv qv : Value) (gk : Nat) (v : Value) (wr : World) (i : Nat) (l : List ByteArray) : Prop where
  le : i ≤ r.queue.length
  slot : v = .int .i64 i
  ghost : gk + i = r.queue.length
  fr : Fr ok wo wr
  head : wr.heap[g]? = some (.cells #[lv, qv] TR.reg (0, 0))
  row : Kd.R Kd.string TR.str wr 0 ok lv l
  que : Kd.R wrK TR.wr wr 0 ok qv r.queue
  len : l.length = r.lasts.length
  put : putQ kept 0 r.queue r.lasts = putQ kept i (r.queue.drop i) l
def RLRel (ok : Nat → Prop) (kept : Nat → Bool) (r : MReg) (wo : World) (g : Nat) (lv qv : Value) (gk : Nat) (v : Value) (wr : World) : Prop := ∃ i l, RLI ok kept r wo g lv qv gk v wr i l

structure RLo (G : Nat → Nat) (c : Nat) (m : MDisk) (gs : List Nat) (keep : List Int) (w : World) (gk : Nat) (v : Value) (wr : World) (k : Nat) : Prop where
  le : k ≤ gs.length
  slot : v = .int .i64 k
  ghost : gk + k = gs.length
  fr : Fr (regC G c) w wr
  regs : ∀ i (h : i < m.regs.length), ∃ g, gs[i]? = some g ∧ RegAt TR (fun j => G j = c + 3 + i) wr g (if i < k then lastR (bitK keep i) m.regs[i] else m.regs[i])
def RLoRel (G : Nat → Nat) (c : Nat) (m : MDisk) (gs : List Nat) (keep : List Int) (w : World) (gk : Nat) (v : Value) (wr : World) : Prop := ∃ k, RLo G c m gs keep w gk v wr k

theorem rlose_lies {G : Nat → Nat} {c : Nat} {w wr w' : World} {b : Nat} {m : MDisk} {rv kv : Value} {gs : List Nat} {keep : List Int} (H : Lies TR G c w b m rv kv gs) (HF : Fr (regC G c) w wr) (f : Fr (fun k => k = b) wr w')
    (hb : w'.heap[b]? = some (.cells (hdr (rloseM keep m) rv (.slice none 0 0)) TR.disk (0, 0)))
    (hr : ∀ i (_ : i < m.regs.length), ∃ g, gs[i]? = some g ∧ RegAt TR (fun j => G j = c + 3 + i) wr g (if i < gs.length then lastR (bitK keep i) m.regs[i] else m.regs[i])) :
    Lies TR G c w' b (rloseM keep m) rv (.slice none 0 0) gs where
  head := hb
  colour := H.colour
  row := Rfr (Rfr H.row HF (fun j ho _ hs => by have := hs.1; omega)) f (fun j ho _ e => by rw [e, H.colour] at ho; omega)
  keep := Kd.R_nil _ _ _ _ _
  len := by simp [rloseM, loseRs, H.len]
  regs := fun i hi => by
    have hi2 : i < m.regs.length := by simpa [rloseM, loseRs] using hi
    obtain ⟨g, hg, ha⟩ := hr i hi2
    rw [if_pos (by have := H.len; omega)] at ha
    refine ⟨g, hg, ?_⟩
    have e : (rloseM keep m).regs[i] = lastR (bitK keep i) m.regs[i] := by simp [rloseM, loseRs]
    rw [e]
    exact ha.fr f (fun k ho _ e2 => by rw [e2, H.colour] at ho; omega)

set_option maxHeartbeats 4000000 in
set_option maxRecDepth 100000 in
theorem rlose_any {G : Nat → Nat} {c : Nat} {w : World} {b : Nat} {m : MDisk} {rv kv : Value} {gs : List Nat} (h : Lies TR G c w b m rv kv gs) {N : Nat} (hm : Wf N m) (hN : N ≤ 1000000) (A : Option Addr) (cc : Nat) (keep : List Int) (hK : ∀ x ∈ keep, 0 ≤ x ∧ x ≤ 18446744073709551615)
    (hC : ∀ W, Fr (regC G c) w W → Kd.C (Kd.int .u64) W A keep.length keep) :
    Calls Try.prog 67 #[.pointer (some ⟨b, 0, none⟩), .slice A keep.length cc] w fun e w' => e = .returned (.tuple #[]) ∧ Fr (fun k => k = b ∨ regC G c k) w w' ∧ Lies TR G c w' b (rloseM keep m) rv (.slice none 0 0) gs := by
  have HC := Lib.hid hC
  have H := Lib.hid h
  have HLEN := Lib.hid h.len
  have HM := Lib.hid hm
  have HKK := Lib.hid hK
  have hg8 : gs.length ≤ 8 := by rw [h.len]; exact hm.few
  have hkl : keep.length ≤ 9223372036854775807 := (hC w (Fr.refl _ _)).2.1
  obtain ⟨Ar, cr, rfl, _, _⟩ := Kd.R_reads h.row
  clear hC h hm hK
  go_enter Try.func67, Try.ntmps67
  go_wp2_with fail
  go_loopg [4] gs.length (fun gk v wr => RLoRel G c m gs keep w gk v wr)
  case atStart => exact ⟨0, ⟨Nat.zero_le _, rfl, rfl, Fr.refl _ _, fun i hi => by
    obtain ⟨g, hg, hr⟩ := H.out.regs i hi
    exact ⟨g, hg, by rw [if_neg (by omega)]; exact hr⟩⟩⟩
  case round =>
    obtain ⟨k, ⟨hle, rfl, hgh, hf, hregs⟩⟩ := hrel
    obtain ⟨wo, rfl⟩ : ∃ wo : World, wo = wr := ⟨_, rfl⟩
    obtain ⟨gO, rfl⟩ : ∃ gO : Nat, gO = gk := ⟨_, rfl⟩
    have HG := Lib.hid hgh
    have HF := Lib.hid hf
    have HR := Lib.hid hregs
    have hbo := HF.out.at_ H.out.head (fun hs => by have h1 := hs.1; rw [H.out.colour] at h1; omega)
    have HBO := Lib.hid hbo
    have hxo : wo.cell? ⟨b, 0, none⟩ = some (.slice Ar gs.length cr) := cell_of_block hbo 0
    clear hgh hf hregs hbo
    by_cases hk : k < gs.length
    · have hrow := Rfr H.out.row HF.out (fun j ho _ hs => by have := hs.1; omega)
      obtain ⟨A', c', eA, _, hCA⟩ := Kd.R_reads hrow
      simp only [Value.slice.injEq, true_and] at eA
      obtain ⟨rfl, rfl⟩ := eA
      obtain ⟨ad, g, rfl, hg, hx⟩ := ptr_at hCA k (by omega)
      have hkm : k < m.regs.length := by have := HLEN.out; omega
      obtain ⟨g', hg', hr⟩ := HR.out k hkm
      rw [hg] at hg'
      obtain rfl : g = g' := by simpa using hg'
      rw [if_neg (by omega)] at hr
      obtain ⟨r, hr0⟩ : ∃ r, m.regs[k] = r := ⟨_, rfl⟩
      rw [hr0] at hr
      have HR0 := Lib.hid hr0
      have hWr : WfR N r := by rw [← hr0]; exact HM.out.regs _ (List.getElem_mem hkm)
      have HGS := Lib.hid hg
      have HW := Lib.hid hWr
      obtain ⟨hgk, lv, qv, hb, hl, hq⟩ := hr
      obtain ⟨Aq, cq, rfl, _, hQ⟩ := Kd.R_reads hq
      have hql : r.queue.length ≤ 1000000 := Nat.le_trans hWr.long hN
      have hk2 : (k : Int) < (gs.length : Int) := by omega
      have HGK := Lib.hid hgk
      have H0 : Hid (RLRel (fun j => G j = c + 3 + k) (bitK keep k) r wo g lv (.slice Aq r.queue.length cq) r.queue.length (.int .i64 0) wo) := ⟨0, r.lasts, ⟨Nat.zero_le _, rfl, rfl, Fr.refl _ _, hb, hl, hq, rfl, rfl⟩⟩
      clear hrow hCA hg hg' hr0 hWr hgk hb hl hq hQ
      go_wp2_with fail
      go_loopg [6] r.queue.length (fun gk v wr => RLRel (fun j => G j = c + 3 + k) (bitK keep k) r wo g lv (.slice Aq r.queue.length cq) gk v wr)
      case atStart => exact H0.out
      case round =>
        obtain ⟨i, l, hi, rfl, hgi, hfi, hbi, hli, hqi, hleni, hputi⟩ := hrel
        have HGI := Lib.hid hgi
        have HFI := Lib.hid hfi
        have HBI := Lib.hid hbi
        have HLI := Lib.hid hli
        have HQI := Lib.hid hqi
        have HLENI := Lib.hid hleni
        have HPI := Lib.hid hputi
        clear hgi hfi hbi hli hqi hleni hputi H0
        have hg1 : wr.cell? ⟨g, 1, none⟩ = some (.slice Aq r.queue.length cq) := cell_of_block HBI.out 1
        by_cases hil : i < r.queue.length
        · obtain ⟨q, qc, eq0, _, _, _⟩ := Kd.R_form HQI.out (by omega)
          simp only [Value.slice.injEq, true_and] at eq0
          obtain ⟨rfl, rfl⟩ := eq0
          obtain ⟨_, _, eqv, _, hQ⟩ := Kd.R_reads HQI.out
          simp only [Value.slice.injEq, true_and] at eqv
          obtain ⟨rfl, rfl⟩ := eqv
          obtain ⟨aq, ead, hx0q, hx1q⟩ := wr_at hQ i hil hil
          obtain rfl : (⟨q, 0, none⟩ : Addr) = aq := by simpa using ead
          clear ead hQ
          rw [Addr.add_plain0] at hx0q hx1q
          have hin := HW.out.inQ r.queue[i] (List.getElem_mem hil)
          have HT := Lib.hid (putQ_at (bitK keep k) r.queue i hil l)
          obtain ⟨⟨ps, pd⟩, hpp⟩ : ∃ p, r.queue[i] = p := ⟨_, rfl⟩
          rw [hpp] at hx0q hx1q hin HT
          simp only at hx0q hx1q hin HT
          clear hpp
          have hil2 : (i : Int) < (r.queue.length : Int) := by omega
          have hKW := HC.out wr (HF.out.trans (HFI.out.mono (fun j hj => ⟨by omega, by omega⟩)))
          by_cases hkk : bitK keep k i = true
          · have hkl2 : k < keep.length := by
              unfold bitK at hkk
              rw [Bool.and_eq_true, decide_eq_true_eq] at hkk
              exact hkk.1
            obtain ⟨ak, rfl, hxk⟩ := Kd.at_int hKW (k : Int) (by omega) (by omega)
            obtain ⟨x, hx0⟩ : ∃ x, rd keep (k : Int) = x := ⟨_, rfl⟩
            rw [hx0, Int.toNat_natCast] at hxk
            have hxd : keep.getD k 0 = x := by rw [← hx0]; simp [rd]
            obtain ⟨hx1, hx2⟩ := HKK.out x (by rw [← hxd]; simp [hkl2])
            obtain ⟨xn, rfl⟩ : ∃ xn : Nat, x = (xn : Int) := ⟨x.toNat, by omega⟩
            have hbit := bit_of (i := i) hkl2 hxd
            have hkl3 : (k : Int) < (keep.length : Int) := by omega
            clear hKW hx0 hxd
            have hx3 : xn ≤ 18446744073709551615 := by omega
            go_wp2_with fail
            rw [show ((i : Int) % 64) = ((i % 64 : Nat) : Int) from by omega]
            refine (bit_any xn (i % 64) wr hx3 (by omega)).mono ?_
            rintro e w1 ⟨rfl, rfl⟩
            have hb1 : xn / 2 ^ (i % 64) % 2 = 1 := by rw [hbit] at hkk; simpa using hkk
            rw [hb1]
            have hll := HLENI.out
            obtain ⟨pl, lc, rfl, _, _, ⟨plc, hplc⟩⟩ := Kd.R_form HLI.out (by omega)
            have HPL := Lib.hid hplc
            obtain ⟨j, rfl⟩ : ∃ j : Nat, ps = (j : Int) := ⟨ps.toNat, by omega⟩
            have hj : j < l.length := by omega
            have hj2 : (j : Int) < (l.length : Int) := by omega
            obtain ⟨hcell, hfroz⟩ := Kd.R_cell ByteArray.empty HLI.out (j : Int) (by omega) (by omega)
            rw [Int.toNat_natCast] at hcell hfroz
            obtain ⟨old, hold⟩ : ∃ o, rdOf ByteArray.empty l (j : Int) = o := ⟨_, rfl⟩
            rw [hold] at hcell
            have hl0 : wr.cell? ⟨g, 0, none⟩ = some (.slice (some ⟨pl, 0, none⟩) l.length lc) := cell_of_block HBI.out 0
            have HKT := Lib.hid hkk
            clear hold hll hplc hkk hbit hb1 hxk hx1 hx2 hx3 hkl2 hkl3
            go_wp2_with fail
            go_region
            have hokp : G pl = c + 3 + k := HLI.out.1 pl rfl
            have hgp : g ≠ pl := by
              have := Kd.R_ne HLI.out HBI.out (show TR.str ≠ TR.reg by decide)
              simpa [Value.ownBlock] using this
            have f5 : Fr (fun j => G j = c + 3 + k) wr (wr.setCell ⟨pl, j, none⟩ (.string pd)).drew := by
              refine Fr.drew ?_
              refine Fr.setAt ?_ hokp
              exact Fr.refl _ _
            have hf5 := HFI.out.trans f5
            have hb5 : (wr.setCell ⟨pl, j, none⟩ (.string pd)).drew.heap[g]? = some (.cells #[.slice (some ⟨pl, 0, none⟩) l.length lc, .slice (some ⟨q, 0, none⟩) r.queue.length cq] TR.reg (0, 0)) :=
              (Below.heap_setCell wr ⟨pl, j, none⟩ _ g hgp).trans HBI.out
            have hr5 := Kd.R_drew (Kd.R_put HLI.out (j : Int) pd).1
            rw [Int.toNat_natCast] at hr5
            have hq5 := Kd.R_drew (Kd.R_set HQI.out HPL.out (by decide) j (.string pd))
            have hput5 : putQ (bitK keep k) 0 r.queue r.lasts = putQ (bitK keep k) (i + 1) (r.queue.drop (i + 1)) (l.set j pd) := by
              rw [HPI.out, HT.out, if_pos HKT.out, Int.toNat_natCast]
            have H5 : RLI (fun j => G j = c + 3 + k) (bitK keep k) r wo g (.slice (some ⟨pl, 0, none⟩) l.length lc) (.slice (some ⟨q, 0, none⟩) r.queue.length cq) (gk - 1) (.int .i64 ((i + 1 : Nat) : Int)) (wr.setCell ⟨pl, j, none⟩ (.string pd)).drew (i + 1) (l.set j pd) :=
              ⟨by omega, rfl, by have := HGI.out; omega, hf5, hb5, hr5, hq5, by rw [List.length_set]; exact HLENI.out, hput5⟩
            have HH5 := Lib.hid H5
            clear H5 hput5 hq5 hr5 hb5 hf5 f5 hgp hokp hcell hfroz hl0
            go_wp2_with fail
            go_roundg (gk - 1)
            case measure => have := HGI.out; omega
            case rel => exact ⟨i + 1, _, HH5.out⟩
          · have hkf : bitK keep k i = false := by simpa using hkk
            have hput5 : putQ (bitK keep k) 0 r.queue r.lasts = putQ (bitK keep k) (i + 1) (r.queue.drop (i + 1)) l := by
              rw [HPI.out, HT.out, if_neg hkk]
            have HPUT5 := Lib.hid hput5
            clear hput5 hkk
            by_cases hkl2 : k < keep.length
            · obtain ⟨ak, rfl, hxk⟩ := Kd.at_int hKW (k : Int) (by omega) (by omega)
              obtain ⟨x, hx0⟩ : ∃ x, rd keep (k : Int) = x := ⟨_, rfl⟩
              rw [hx0, Int.toNat_natCast] at hxk
              have hxd : keep.getD k 0 = x := by rw [← hx0]; simp [rd]
              obtain ⟨hx1, hx2⟩ := HKK.out x (by rw [← hxd]; simp [hkl2])
              obtain ⟨xn, rfl⟩ : ∃ xn : Nat, x = (xn : Int) := ⟨x.toNat, by omega⟩
              have hbit := bit_of (i := i) hkl2 hxd
              have hb1 : xn / 2 ^ (i % 64) % 2 = 0 := by
                rw [hbit] at hkf
                have := of_decide_eq_false hkf
                omega
              have hkl3 : (k : Int) < (keep.length : Int) := by omega
              have hx3 : xn ≤ 18446744073709551615 := by omega
              clear hKW hx0 hxd hbit hkf
              go_wp2_with fail
              rw [show ((i : Int) % 64) = ((i % 64 : Nat) : Int) from by omega]
              refine (bit_any xn (i % 64) wr hx3 (by omega)).mono ?_
              rintro e w1 ⟨rfl, rfl⟩
              rw [hb1]
              clear hb1 hx1 hx2 hx3 hkl2 hkl3 hxk
              go_wp2_with fail
              go_roundg (gk - 1)
              case measure => have := HGI.out; omega
              case rel => exact ⟨i + 1, l, ⟨by omega, by go_num, by have := HGI.out; omega, HFI.out, HBI.out, HLI.out, HQI.out, HLENI.out, HPUT5.out⟩⟩
            · have hkl3 : ¬ (k : Int) < (keep.length : Int) := by omega
              clear hkf hKW
              go_wp2_with fail
              go_roundg (gk - 1)
              case measure => have := HGI.out; omega
              case rel => exact ⟨i + 1, l, ⟨by omega, by go_num, by have := HGI.out; omega, HFI.out, HBI.out, HLI.out, HQI.out, HLENI.out, HPUT5.out⟩⟩
        · obtain rfl : i = r.queue.length := by omega
          have e1 := HPI.out
          rw [List.drop_eq_nil_of_le (Nat.le_refl _)] at e1
          have EP := Lib.hid (show putQ (bitK keep k) 0 r.queue r.lasts = l from e1)
          clear e1
          have hf1 : wr.frozen? ⟨g, 1, none⟩ = false := unfrozen_of_block HBI.out 1
          go_wp2_with fail
          have f5 : Fr (fun j => G j = c + 3 + k) wr (wr.setCell ⟨g, 1, none⟩ (.slice none 0 0)) := by
            refine Fr.setAt ?_ HGK.out
            exact Fr.refl _ _
          have hb5 := block_setCell HBI.out (i := 1) (.slice none 0 0)
          have e5 : (#[lv, Value.slice Aq r.queue.length cq] : Array Value).setIfInBounds 1 (.slice none 0 0) = #[lv, .slice none 0 0] := by simp
          rw [e5] at hb5
          have hl5 := Kd.R_set HLI.out HBI.out (by decide) 1 (.slice none 0 0)
          have er : lastR (bitK keep k) r = ⟨l, []⟩ := by unfold lastR; rw [EP.out]
          have hr1 : RegAt TR (fun j => G j = c + 3 + k) (wr.setCell ⟨g, 1, none⟩ (.slice none 0 0)) g (lastR (bitK keep k) r) := by
            rw [er]; exact ⟨HGK.out, lv, .slice none 0 0, hb5, hl5, Kd.R_nil _ _ _ _ _⟩
          have hfx := HFI.out.trans f5
          have HF1 := Lib.hid (HF.out.trans (hfx.mono (fun j hj => (⟨by omega, by omega⟩ : regC G c j))))
          have hregs1 : ∀ i (h : i < m.regs.length), ∃ g', gs[i]? = some g' ∧ RegAt TR (fun j => G j = c + 3 + i) (wr.setCell ⟨g, 1, none⟩ (.slice none 0 0)) g' (if i < k + 1 then lastR (bitK keep i) m.regs[i] else m.regs[i]) := fun i hi => by
            by_cases hik : i = k
            · subst hik
              exact ⟨g, HGS.out, by rw [if_pos (by omega), HR0.out]; exact hr1⟩
            · obtain ⟨g2, hg2, hr2⟩ := HR.out i hi
              refine ⟨g2, hg2, ?_⟩
              have e : (if i < k + 1 then lastR (bitK keep i) m.regs[i] else m.regs[i]) = (if i < k then lastR (bitK keep i) m.regs[i] else m.regs[i]) := by
                by_cases h : i < k
                · rw [if_pos h, if_pos (by omega)]
                · rw [if_neg h, if_neg (by omega)]
              rw [e]
              exact hr2.fr hfx (fun j h1 _ h2 => by omega)
          have HR1 := Lib.hid hregs1
          clear hregs1 hr1 hfx hl5 hb5 f5 hf1 hg1
          go_wp2_with fail
          go_roundg (gO - 1)
          case measure => have := HG.out; omega
          case rel => exact ⟨k + 1, ⟨by omega, by go_num, by have := HG.out; omega, HF1.out, HR1.out⟩⟩
    · obtain rfl : k = gs.length := by omega
      have hb1 := HF.out.at_ H.out.head (fun hs => by have h1 := hs.1; rw [H.out.colour] at h1; omega)
      have HB1 := Lib.hid hb1
      have hx1 : wo.cell? ⟨b, 1, none⟩ = some (.bool m.off) := cell_of_block hb1 1
      have hx3 : wo.cell? ⟨b, 3, none⟩ = some (.int .i64 m.tleft) := cell_of_block hb1 3
      have hx4 : wo.cell? ⟨b, 4, none⟩ = some kv := cell_of_block hb1 4
      have hf1 : wo.frozen? ⟨b, 1, none⟩ = false := unfrozen_of_block hb1 1
      have hf3 : wo.frozen? ⟨b, 3, none⟩ = false := unfrozen_of_block hb1 3
      have hf4 : wo.frozen? ⟨b, 4, none⟩ = false := unfrozen_of_block hb1 4
      clear hb1
      go_wp2_with fail
      have f : Fr (fun k => k = b) wo (((wo.setCell ⟨b, 1, none⟩ (.bool true)).setCell ⟨b, 3, none⟩ (.int .i64 0)).setCell ⟨b, 4, none⟩ (.slice none 0 0)) := by
        refine Fr.setAt ?_ rfl
        refine Fr.setAt ?_ rfl
        refine Fr.setAt ?_ rfl
        exact Fr.refl _ _
      have hb := block_setCell (block_setCell (block_setCell HB1.out (i := 1) (.bool true)) (i := 3) (.int .i64 0)) (i := 4) (.slice none 0 0)
      have e : (((hdr m (Value.slice Ar gs.length cr) kv).setIfInBounds 1 (.bool true)).setIfInBounds 3 (.int .i64 0)).setIfInBounds 4 (.slice none 0 0) = hdr (rloseM keep m) (Value.slice Ar gs.length cr) (.slice none 0 0) := rfl
      rw [e] at hb
      refine bodyPost_end (v := .tuple #[]) (by simp [results, Try.results67, go_sem]) rfl ?_
      refine ⟨rfl, ?_, ?_⟩
      · exact (HF.out.mono (fun j hj => .inr hj)).trans (f.mono (fun j hj => .inl hj))
      · exact rlose_lies H.out HF.out f hb HR.out

end Go.Proofs.Ytekpbpcfeopilaa.Re
