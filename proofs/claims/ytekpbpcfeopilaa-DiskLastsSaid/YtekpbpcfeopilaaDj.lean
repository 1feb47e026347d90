/- The program's disk: lose. -/
import Derived.Test.YtekpbpcfeopilaaDi
import Derived.WalkSmall
namespace Go.Proofs.Ytekpbpcfeopilaa.Dj
open Go Go.RowKit Go.Joins Go.Proofs.YtekpbpcfeopilaaCore Go.Proofs.Ytekpbpcfeopilaa.Dm Go.Proofs.Ytekpbpcfeopilaa.Dr Go.Proofs.Ytekpbpcfeopilaa.Da Go.Proofs.Ytekpbpcfeopilaa.Df Go.Proofs.Ytekpbpcfeopilaa.Dg Go.Proofs.Ytekpbpcfeopilaa.Di Go.Proofs.YtekpbpcfeopilaaW.PrintWords Go.Proofs.YtekpbpcfeopilaaW.PrintLast Go.Proofs.YtekpbpcfeopilaaW.PrintMore

set_option maxHeartbeats 4000000 in
set_option maxRecDepth 100000 in
theorem kept_any (i n : Nat) (a1 a2 : Addr) (A : Option Addr) (cc : Nat) (keep : List Int) (w : World) (hC : Kd.C (Kd.int .u64) w A keep.length keep) (hi : i ≤ 1000000) (hK : ∀ x ∈ keep, 0 ≤ x ∧ x ≤ 18446744073709551615) (h1 : w.cell? a1 = some (.int .i64 (n : Int))) (h2 : w.cell? a2 = some (.slice A keep.length cc)) :
    Calls Try.prog 65 #[.int .i64 (i : Int), .pointer (some a1), .pointer (some a2)] w fun e w' => e = .returned (.bool (bitK keep n i)) ∧ Below w.heap.size w w' := by
  by_cases hn : n < keep.length
  · obtain ⟨ad, rfl, hx⟩ := Kd.at_int hC (n : Int) (by omega) (by omega)
    obtain ⟨x, hx0⟩ : ∃ x, rd keep (n : Int) = x := ⟨_, rfl⟩
    rw [hx0, Int.toNat_natCast] at hx
    have hxd : keep.getD n 0 = x := by rw [← hx0]; simp [rd]
    obtain ⟨hx1, hx2⟩ := hK x (by rw [← hxd]; simp [hn])
    have hb : bitK keep n i = decide (x / 2 ^ (i % 64) % 2 = 1) := by unfold bitK; rw [hxd]; simp [hn]
    have HB := Lib.hid hb
    clear hC hx0 hxd hK hb
    have hn2 : (n : Int) < (keep.length : Int) := by omega
    go_enter Try.func65, Try.ntmps65
    go_wp2_with fail
    have h2p : (0 : Int) < 2 ^ (i % 64) := by
      have := Int.pow_pos (n := 2) (m := i % 64) (by omega)
      exact this
    have hd0 : 0 ≤ x / 2 ^ (i % 64) := Int.ediv_nonneg hx1 (by omega)
    have hd1 : x / 2 ^ (i % 64) ≤ x := Int.ediv_le_self _ hx1
    have ev : (bits BinOp.and IntKind.u64 (x / 2 ^ (i % 64)) 1 == 1) = bitK keep n i := by
      rw [Go.and_one_u64 _ hd0 (by omega), HB.out, Bool.eq_iff_iff, beq_iff_eq, decide_eq_true_eq]
    exact bodyPost_ret (v := .bool (bits BinOp.and IntKind.u64 (x / 2 ^ (i % 64)) 1 == 1)) (by simp [results, Try.results65, go_sem]) rfl ⟨by rw [ev], Below.refl _ _⟩
  · have hb : Hid (bitK keep n i = false) := by show _ = _; unfold bitK; simp [hn]
    clear hC hK
    go_enter Try.func65, Try.ntmps65
    go_wp2_with fail
    exact bodyPost_ret (v := .bool false) (by simp [results, Try.results65, go_sem]) rfl ⟨by rw [hb.out], Below.refl _ _⟩

theorem enter_of {P : Program} {f : FuncId} {fn : Func} {c : Code} (hf : P.funcs[f]? = some fn) (hname : (fn.name == "runtime.NumGoroutine") = false) (hb : fn.body = some c) (args : Array Value) (w : World) :
    Sem.run P (callFunc f args) w = .ok (.enter f args) w := by
  have h1 : fn.name ≠ "runtime.NumGoroutine" := by simpa using hname
  simp [callFunc, hf, h1, hb]

/-- The colours of a disk's regions. -/
def regC (G : Nat → Nat) (c : Nat) (k : Nat) : Prop := c + 3 ≤ G k ∧ G k < c + 16

structure LoInv (G : Nat → Nat) (c : Nat) (m : MDisk) (gs : List Nat) (keep : List Int) (w wa : World) (gk : Nat) (v : Value) (wr : World) (k : Nat) : Prop where
  le : k ≤ gs.length
  slot : v = .int .i64 k
  ghost : gk + k = gs.length
  fr : Fr (fun j => regC G c j ∧ j < w.heap.size) wa wr
  regs : ∀ i (h : i < m.regs.length), ∃ g, gs[i]? = some g ∧ RegAt TP (fun j => G j = c + 3 + i ∧ j < w.heap.size) wr g (if i < k then lastR (bitK keep i) m.regs[i] else m.regs[i])
def LoRel (G : Nat → Nat) (c : Nat) (m : MDisk) (gs : List Nat) (keep : List Int) (w wa : World) (gk : Nat) (v : Value) (wr : World) : Prop := ∃ k, LoInv G c m gs keep w wa gk v wr k

def loseM (keep : List Int) (m : MDisk) : MDisk := { regs := loseRs keep m.regs, off := true, treg := 0, tleft := 0, keep := [] }

theorem lose_lies {G : Nat → Nat} {c : Nat} {T : Tys} {w wa wr w' : World} {b : Nat} {m : MDisk} {rv kv : Value} {gs : List Nat} {keep : List Int} (H : Lies T G c wa b m rv kv gs) (hl : gs.length = m.regs.length) (HF : Fr (fun j => regC G c j ∧ j < w.heap.size) wa wr) (f : Fr (fun k => k = b) wr w')
    (hb : w'.heap[b]? = some (.cells (hdr (loseM keep m) rv (.slice none 0 0)) T.disk (0, 0)))
    (hr : ∀ i (_ : i < m.regs.length), ∃ g, gs[i]? = some g ∧ RegAt T (fun j => G j = c + 3 + i ∧ j < w.heap.size) wr g (if i < gs.length then lastR (bitK keep i) m.regs[i] else m.regs[i])) :
    Lies T G c w' b (loseM keep m) rv (.slice none 0 0) gs where
  head := hb
  colour := H.colour
  row := Rfr (Rfr H.row HF (fun j ho _ hs => by have := hs.1.1; omega)) f (fun j ho _ e => by rw [e, H.colour] at ho; omega)
  keep := Kd.R_nil _ _ _ _ _
  len := by simp [loseM, loseRs, hl]
  regs := fun i hi => by
    have hi2 : i < m.regs.length := by simpa [loseM, loseRs] using hi
    obtain ⟨g, hg, ha⟩ := hr i hi2
    rw [if_pos (by omega)] at ha
    refine ⟨g, hg, ?_⟩
    have e : (loseM keep m).regs[i] = lastR (bitK keep i) m.regs[i] := by simp [loseM, loseRs]
    rw [e]
    exact (ha.mono (fun k _ hk => hk.1)).fr f (fun k ho _ e2 => by rw [e2, H.colour] at ho; omega)

set_option maxHeartbeats 4000000 in
set_option maxRecDepth 100000 in
theorem lose_any {G : Nat → Nat} {c : Nat} {w : World} {b : Nat} {m : MDisk} {rv kv : Value} {gs : List Nat} (h : Lies TP G c w b m rv kv gs) {N : Nat} (hm : Wf N m) (hN : N ≤ 1000000) (A : Option Addr) (cc : Nat) (keep : List Int) (hK : ∀ x ∈ keep, 0 ≤ x ∧ x ≤ 18446744073709551615)
    (hC : ∀ W, Fr (regC G c) w W → Kd.C (Kd.int .u64) W A keep.length keep) :
    Calls Try.prog 48 #[.pointer (some ⟨b, 0, none⟩), .slice A keep.length cc] w fun e w' => e = .returned (.tuple #[]) ∧ Fr (fun k => k = b ∨ regC G c k) w w' ∧ Lies TP G c w' b (loseM keep m) rv (.slice none 0 0) gs := by
  obtain ⟨wa, hwa⟩ : ∃ wa, w.alloc (.cells #[.slice A keep.length cc] 50) = wa := ⟨_, rfl⟩
  have hba : Below w.heap.size w wa := by rw [← hwa]; exact (Below.refl _ _).alloc (Nat.le_refl _) _
  have hka : wa.cell? ⟨w.heap.size, 0, none⟩ = some (.slice A keep.length cc) := by rw [← hwa]; unfold World.cell?; rw [heap_alloc_new]; rfl
  have HC := Lib.hid hC
  have HBA := Lib.hid hba
  have HKA := Lib.hid hka
  have H := Lib.hid (h.below hba)
  have hrows : ∀ i (hi : i < m.regs.length), ∃ g, gs[i]? = some g ∧ RegAt TP (fun j => G j = c + 3 + i ∧ j < w.heap.size) wa g m.regs[i] := fun i hi => by
    obtain ⟨g, hg, hr⟩ := h.regs i hi
    exact ⟨g, hg, (hr.mono (fun k hk ho => ⟨ho, hk⟩)).fr (S := fun _ => False) (Fr.of_below hba) (fun _ _ _ h => h)⟩
  have HROWS := Lib.hid hrows
  have HLEN := Lib.hid h.len
  have hg8 : gs.length ≤ 8 := by rw [h.len]; exact hm.few
  obtain ⟨Ar, cr, rfl, _, hCr⟩ := Kd.R_reads H.out.row
  have hx0 : wa.cell? ⟨b, 0, none⟩ = some (.slice Ar gs.length cr) := cell_of_block H.out.head 0
  have HCR := Lib.hid hCr
  clear hC h hrows hCr
  go_enter Try.func48, Try.ntmps48
  go_wp2_with (rw [hwa])
  have hza : w.heap.size < wa.heap.size := by rw [← hwa]; simp
  clear hwa
  go_loopg [11] gs.length (fun gk v wr => LoRel G c m gs keep w wa gk v wr)
  case atStart => exact ⟨0, ⟨Nat.zero_le _, rfl, rfl, Fr.refl _ _, fun i hi => by
    obtain ⟨g, hg, hr⟩ := HROWS.out i hi
    exact ⟨g, hg, by rw [if_neg (by omega)]; exact hr⟩⟩⟩
  case round =>
    obtain ⟨k, ⟨hle, rfl, hgh, hf, hregs⟩⟩ := hrel
    have HG := Lib.hid hgh
    have HF := Lib.hid hf
    have HR := Lib.hid hregs
    clear hgh hf hregs
    by_cases hk : k < gs.length
    · have hrow := Rfr H.out.row HF.out (fun j ho _ hs => by have := hs.1.1; omega)
      obtain ⟨A', c', eA, _, hCA⟩ := Kd.R_reads hrow
      simp only [Value.slice.injEq, true_and] at eA
      obtain ⟨rfl, rfl⟩ := eA
      obtain ⟨ad, g, rfl, hg, hx⟩ := ptr_at hCA k (by omega)
      have hkm : k < m.regs.length := by have := HLEN.out; omega
      obtain ⟨g', hg', hr⟩ := HR.out k hkm
      rw [hg] at hg'
      obtain rfl : g = g' := by simpa using hg'
      rw [if_neg (by omega)] at hr
      have HRG := Lib.hid hr
      have HGS := Lib.hid hg
      have hwr : wa.heap.size ≤ wr.heap.size := HF.out.size
      have hk2 : (k : Int) < (gs.length : Int) := by omega
      obtain ⟨wb, hwb⟩ : ∃ wb, wr.alloc (.cells #[.int .i64 (k : Int)] 3) = wb := ⟨_, rfl⟩
      have hbb : Below wr.heap.size wr wb := by rw [← hwb]; exact (Below.refl _ _).alloc (Nat.le_refl _) _
      have hnb : wb.cell? ⟨wr.heap.size, 0, none⟩ = some (.int .i64 (k : Int)) := by rw [← hwb]; unfold World.cell?; rw [heap_alloc_new]; rfl
      have HBB := Lib.hid hbb
      have HNB := Lib.hid hnb
      have hmf : ∀ (fn : Fn) (first cap : Array Value) (w : World), (Instr.makeFunc fn first cap).run Try.prog w = .ok (.func fn first cap) w := fun _ _ _ _ => rfl
      clear hrow hCA hg hg' hr hbb hnb
      go_wp2_with (rw [hwb])
      have hWr : WfR N m.regs[k] := hm.regs _ (List.getElem_mem hkm)
      have hent : ∀ (args : Array Value) (W : World), Sem.run Try.prog (callFunc 65 args) W = .ok (.enter 65 args) W := fun args W => enter_of Try.func65 (by kernel_rfl) rfl args W
      have hPs : ∀ W W' : World, (Fr (regC G c) w W ∧ W.cell? ⟨wr.heap.size, 0, none⟩ = some (.int .i64 (k : Int)) ∧ W.cell? ⟨w.heap.size, 0, none⟩ = some (.slice A keep.length cc)) → Fr (fun j => G j = c + 3 + k ∧ j < w.heap.size) W W' →
          (Fr (regC G c) w W' ∧ W'.cell? ⟨wr.heap.size, 0, none⟩ = some (.int .i64 (k : Int)) ∧ W'.cell? ⟨w.heap.size, 0, none⟩ = some (.slice A keep.length cc)) := by
        rintro W W' ⟨h1, h2, h3⟩ hfw
        refine ⟨h1.trans (hfw.mono (fun j hj => ⟨by omega, by omega⟩)), hfw.cell h2 (fun hs => ?_), hfw.cell h3 (fun hs => ?_)⟩
        · have := hs.2
          simp only at this
          omega
        · have := hs.2
          simp only at this
          omega
      have hP0 : Fr (regC G c) w wb ∧ wb.cell? ⟨wr.heap.size, 0, none⟩ = some (.int .i64 (k : Int)) ∧ wb.cell? ⟨w.heap.size, 0, none⟩ = some (.slice A keep.length cc) :=
        ⟨(((Fr.of_below HBA.out).trans (HF.out.mono (fun j hj => hj.1))).thenBelow HBB.out), HNB.out, ((HF.out.thenBelow HBB.out).cell HKA.out (fun hs => by have := hs.2; simp only at this; omega))⟩
      have hkc : ∀ W (i : Nat), (Fr (regC G c) w W ∧ W.cell? ⟨wr.heap.size, 0, none⟩ = some (.int .i64 (k : Int)) ∧ W.cell? ⟨w.heap.size, 0, none⟩ = some (.slice A keep.length cc)) → i < m.regs[k].queue.length →
          Calls Try.prog 65 (#[.int .i64 (i : Int)] ++ #[.pointer (some ⟨wr.heap.size, 0, none⟩), .pointer (some ⟨w.heap.size, 0, none⟩)]) W fun e w' => e = .returned (.bool (bitK keep k i)) ∧ Below W.heap.size W w' := fun W i ⟨h1, h2, h3⟩ hi => by
        have := Nat.le_trans hWr.long hN
        exact kept_any i k _ _ A cc keep W (HC.out W h1) (by omega) hK h2 h3
      have hlast := last_any ((HRG.out).fr (S := fun _ => False) (Fr.of_below HBB.out) (fun _ _ _ h => h)) hWr hN 65 hent #[.pointer (some ⟨wr.heap.size, 0, none⟩), .pointer (some ⟨w.heap.size, 0, none⟩)] (bitK keep k) _ hPs hP0 hkc
      clear hPs hP0 hkc hent hWr
      refine hlast.mono ?_
      rintro e w1 ⟨rfl, hf1, hr1⟩
      clear hlast
      have HF1 := Lib.hid ((HF.out.thenBelow HBB.out).trans (hf1.mono (fun j hj => (⟨⟨by omega, by omega⟩, hj.2⟩ : regC G c j ∧ j < w.heap.size))))
      have hregs1 : ∀ i (h : i < m.regs.length), ∃ g, gs[i]? = some g ∧ RegAt TP (fun j => G j = c + 3 + i ∧ j < w.heap.size) w1 g (if i < k + 1 then lastR (bitK keep i) m.regs[i] else m.regs[i]) := fun i hi => by
        by_cases hik : i = k
        · subst hik
          exact ⟨g, HGS.out, by rw [if_pos (by omega)]; exact hr1⟩
        · obtain ⟨g2, hg2, hr2⟩ := HR.out i hi
          refine ⟨g2, hg2, ?_⟩
          have e : (if i < k + 1 then lastR (bitK keep i) m.regs[i] else m.regs[i]) = (if i < k then lastR (bitK keep i) m.regs[i] else m.regs[i]) := by
            by_cases h : i < k
            · rw [if_pos h, if_pos (by omega)]
            · rw [if_neg h, if_neg (by omega)]
          rw [e]
          exact (hr2.fr (S := fun _ => False) (Fr.of_below HBB.out) (fun _ _ _ h => h)).fr hf1 (fun j h1 _ h2 => by omega)
      have HR1 := Lib.hid hregs1
      clear hregs1 hf1 hr1 HF HR HRG HBB HNB
      go_wp2_with fail
      go_roundg (gk - 1)
      case measure => have := HG.out; omega
      case rel => exact ⟨k + 1, ⟨by omega, by go_num, by have := HG.out; omega, HF1.out, HR1.out⟩⟩
    · have hk2 : k = gs.length := by omega
      subst hk2
      have HL := Lib.hid (H.out.head)
      have hb1 := HF.out.at_ H.out.head (fun hs => by have h1 := hs.1.1; rw [H.out.colour] at h1; omega)
      have HB1 := Lib.hid hb1
      have hx1 : wr.cell? ⟨b, 1, none⟩ = some (.bool m.off) := cell_of_block hb1 1
      have hx2 : wr.cell? ⟨b, 2, none⟩ = some (.int .i64 m.treg) := cell_of_block hb1 2
      have hx3 : wr.cell? ⟨b, 3, none⟩ = some (.int .i64 m.tleft) := cell_of_block hb1 3
      have hx4 : wr.cell? ⟨b, 4, none⟩ = some kv := cell_of_block hb1 4
      have hf1 : wr.frozen? ⟨b, 1, none⟩ = false := unfrozen_of_block hb1 1
      have hf2 : wr.frozen? ⟨b, 2, none⟩ = false := unfrozen_of_block hb1 2
      have hf3 : wr.frozen? ⟨b, 3, none⟩ = false := unfrozen_of_block hb1 3
      have hf4 : wr.frozen? ⟨b, 4, none⟩ = false := unfrozen_of_block hb1 4
      clear hb1
      go_wp2_with fail
      have f : Fr (fun k => k = b) wr ((((wr.setCell ⟨b, 1, none⟩ (.bool true)).setCell ⟨b, 2, none⟩ (.int .i64 0)).setCell ⟨b, 3, none⟩ (.int .i64 0)).setCell ⟨b, 4, none⟩ (.slice none 0 0)) := by
        refine Fr.setAt ?_ rfl
        refine Fr.setAt ?_ rfl
        refine Fr.setAt ?_ rfl
        refine Fr.setAt ?_ rfl
        exact Fr.refl _ _
      have hb := block_setCell (block_setCell (block_setCell (block_setCell HB1.out (i := 1) (.bool true)) (i := 2) (.int .i64 0)) (i := 3) (.int .i64 0)) (i := 4) (.slice none 0 0)
      have e : ((((hdr m (Value.slice Ar gs.length cr) kv).setIfInBounds 1 (.bool true)).setIfInBounds 2 (.int .i64 0)).setIfInBounds 3 (.int .i64 0)).setIfInBounds 4 (.slice none 0 0) = hdr (loseM keep m) (Value.slice Ar gs.length cr) (.slice none 0 0) := rfl
      rw [e] at hb
      refine bodyPost_end (v := .tuple #[]) (by simp [results, Try.results48, go_sem]) rfl ?_
      refine ⟨rfl, ?_, ?_⟩
      · exact ((Fr.of_below HBA.out).trans (HF.out.mono (fun j hj => .inr hj.1))).trans (f.mono (fun j hj => .inl hj))
      · exact lose_lies H.out HLEN.out HF.out f hb HR.out

end Go.Proofs.Ytekpbpcfeopilaa.Dj
