/- The program's disk: last. -/
import Derived.Test.YtekpbpcfeopilaaDh
namespace Go.Proofs.Ytekpbpcfeopilaa.Di
open Go Go.RowKit Go.Joins Go.Proofs.YtekpbpcfeopilaaCore Go.Proofs.Ytekpbpcfeopilaa.Dm Go.Proofs.Ytekpbpcfeopilaa.Dr Go.Proofs.Ytekpbpcfeopilaa.Da Go.Proofs.Ytekpbpcfeopilaa.Df Go.Proofs.Ytekpbpcfeopilaa.Dg Go.Proofs.YtekpbpcfeopilaaW.PrintWords Go.Proofs.YtekpbpcfeopilaaW.PrintLast Go.Proofs.YtekpbpcfeopilaaW.PrintMore

set_option maxHeartbeats 4000000 in
set_option maxRecDepth 100000 in
theorem true_any (i : Int) (w : World) : Calls Try.prog 50 #[.int .i64 i] w fun e w' => e = .returned (.bool true) ∧ Below w.heap.size w w' := by
  go_enter Try.func50, Try.ntmps50
  go_wp2_with fail
  exact bodyPost_ret (v := .bool true) (by simp [results, Try.results50, go_sem]) rfl ⟨rfl, Below.refl _ _⟩

theorem putQ_length (kept : Nat → Bool) : ∀ (q : List (Int × ByteArray)) (i : Nat) (l : List ByteArray), (putQ kept i q l).length = l.length := by
  intro q
  induction q with
  | nil => intro i l; rfl
  | cons p q ih => intro i l; rw [putQ, ih]; split <;> simp
theorem putQ_at (kept : Nat → Bool) (q : List (Int × ByteArray)) (k : Nat) (h : k < q.length) (l : List ByteArray) : putQ kept k (q.drop k) l = putQ kept (k + 1) (q.drop (k + 1)) (if kept k = true then l.set q[k].1.toNat q[k].2 else l) := by
  rw [List.drop_eq_getElem_cons h, putQ]

structure LInv (ok : Nat → Prop) (P : World → Prop) (kept : Nat → Bool) (r : MReg) (w0 : World) (g : Nat) (qv : Value) (gk : Nat) (v : Value) (wr : World) (k : Nat) (l : List ByteArray) (lv : Value) : Prop where
  le : k ≤ r.queue.length
  slot : v = .int .i64 k
  ghost : gk + k = r.queue.length
  keeps : P wr
  fr : Fr ok w0 wr
  head : wr.heap[g]? = some (.cells #[lv, qv] TP.reg (0, 0))
  row : Kd.R Kd.string TP.str wr 0 ok lv l
  que : Kd.R wrK TP.wr wr 0 ok qv r.queue
  len : l.length = r.lasts.length
  put : putQ kept 0 r.queue r.lasts = putQ kept k (r.queue.drop k) l
def LRel (ok : Nat → Prop) (P : World → Prop) (kept : Nat → Bool) (r : MReg) (w0 : World) (g : Nat) (qv : Value) (gk : Nat) (v : Value) (wr : World) : Prop := ∃ k l lv, LInv ok P kept r w0 g qv gk v wr k l lv

set_option maxHeartbeats 4000000 in
set_option maxRecDepth 100000 in
theorem last_any {ok : Nat → Prop} {w : World} {g : Nat} {r : MReg} (h : RegAt TP ok w g r) {N : Nat} (hw : WfR N r) (hN : N ≤ 1000000) (fn : Nat) (hent : ∀ (args : Array Value) (W : World), Sem.run Try.prog (callFunc fn args) W = .ok (.enter fn args) W) (cap : Array Value) (kept : Nat → Bool) (P : World → Prop) (hP : ∀ W W', P W → Fr ok W W' → P W') (h0 : P w)
    (hk : ∀ W (i : Nat), P W → i < r.queue.length → Calls Try.prog fn (#[.int .i64 (i : Int)] ++ cap) W fun e w' => e = .returned (.bool (kept i)) ∧ Below W.heap.size W w') :
    Calls Try.prog 49 #[.pointer (some ⟨g, 0, none⟩), .func (.func fn) #[] cap] w fun e w' => e = .returned (.tuple #[]) ∧ Fr ok w w' ∧ RegAt TP ok w' g (lastR kept r) := by
  have HK := Lib.hid hk
  have HP := Lib.hid hP
  clear hk hP
  obtain ⟨hg, lv, qv, hb, hl, hq⟩ := h
  obtain ⟨Aq, cq, rfl, _, hQ⟩ := Kd.R_reads hq
  have hx1 : w.cell? ⟨g, 1, none⟩ = some (.slice Aq r.queue.length cq) := cell_of_block hb 1
  go_enter Try.func49, Try.ntmps49
  go_wp2_with fail
  have H0 : Hid (LRel ok P kept r w g (.slice Aq r.queue.length cq) r.queue.length (.int .i64 0) w) := ⟨0, r.lasts, lv, ⟨Nat.zero_le _, rfl, rfl, h0, Fr.refl _ _, hb, hl, hq, rfl, rfl⟩⟩
  clear hb hl hq hQ h0 hx1
  go_loopg [11] r.queue.length (fun gk v wr => LRel ok P kept r w g (.slice Aq r.queue.length cq) gk v wr)
  case atStart => exact H0.out
  case round =>
    obtain ⟨k, l, lw, ⟨hle, rfl, hgh, hp, hf, hb, hl, hq, hlen, hput⟩⟩ := hrel
    have HG := Lib.hid hgh
    have HPW := Lib.hid hp
    have HF := Lib.hid hf
    have HB := Lib.hid hb
    have HL := Lib.hid hl
    have HQ := Lib.hid hq
    have HPUT := Lib.hid hput
    have HLEN := Lib.hid hlen
    clear hgh hp hf hb hl hq hput hlen H0
    by_cases hk : k < r.queue.length
    · obtain ⟨q, qc, eq0, _, hql, _⟩ := Kd.R_form HQ.out (by omega)
      simp only [Value.slice.injEq, true_and] at eq0
      obtain ⟨rfl, rfl⟩ := eq0
      obtain ⟨_, _, eqv, _, hQ⟩ := Kd.R_reads HQ.out
      simp only [Value.slice.injEq, true_and] at eqv
      obtain ⟨rfl, rfl⟩ := eqv
      obtain ⟨ad, ead, hx0, hx1⟩ := wr_at hQ k hk hk
      obtain rfl : (⟨q, 0, none⟩ : Addr) = ad := by simpa using ead
      clear ead hQ
      rw [Addr.add_plain0] at hx0 hx1
      have hin := hw.inQ r.queue[k] (List.getElem_mem hk)
      have HT := Lib.hid (putQ_at kept r.queue k hk l)
      obtain ⟨⟨ps, pd⟩, hpp⟩ : ∃ p, r.queue[k] = p := ⟨_, rfl⟩
      rw [hpp] at hx0 hx1 hin HT
      simp only at hx0 hx1 hin HT
      clear hpp
      have hk2 : (k : Int) < (r.queue.length : Int) := by omega
      have ha : Below wr.heap.size wr (wr.alloc (.cells #[.int .i64 ps, .string pd] 97)) := (Below.refl _ _).alloc (Nat.le_refl _) _
      go_wp2_with fail
      refine (HK.out _ k (HP.out _ _ HPW.out (Fr.of_below ha)) hk).mono ?_
      rintro e w1 ⟨rfl, hb1⟩
      have hc1 := alloc_cells hb1
      have hb2 : Below wr.heap.size wr w1 := alloc_below hb1
      have HPW1 := Lib.hid (HP.out _ _ HPW.out (Fr.of_below hb2))
      have HF1 := Lib.hid (HF.out.thenBelow hb2)
      have HB1 := Lib.hid (below_row hb2 (heap_lt HB.out) HB.out)
      have HL1 := Lib.hid (Kd.R_below HL.out hb2)
      have HQ1 := Lib.hid (Kd.R_below HQ.out hb2)
      have hcw0 : w1.cell? ⟨wr.heap.size, 0, none⟩ = some (.int .i64 ps) := hc1 0
      have hcw1 : w1.cell? ⟨wr.heap.size, 1, none⟩ = some (.string pd) := hc1 1
      clear hb1 hc1 hb2 ha hx0 hx1 HPW HF HB HL HQ
      by_cases hkk : kept k = true
      · have hll := HLEN.out
        obtain ⟨pl, lc, rfl, _, _, ⟨plc, hplc⟩⟩ := Kd.R_form HL1.out (by omega)
        have HPL := Lib.hid hplc
        obtain ⟨j, rfl⟩ : ∃ j : Nat, ps = (j : Int) := ⟨ps.toNat, by omega⟩
        have hj : j < l.length := by omega
        have hj2 : (j : Int) < (l.length : Int) := by omega
        obtain ⟨hcell, hfroz⟩ := Kd.R_cell ByteArray.empty HL1.out (j : Int) (by omega) (by omega)
        rw [Int.toNat_natCast] at hcell hfroz
        obtain ⟨old, hold⟩ : ∃ o, rdOf ByteArray.empty l (j : Int) = o := ⟨_, rfl⟩
        rw [hold] at hcell
        have hl0 : w1.cell? ⟨g, 0, none⟩ = some (.slice (some ⟨pl, 0, none⟩) l.length lc) := cell_of_block HB1.out 0
        rw [hkk]
        clear hold hll hplc
        go_wp2_with fail
        go_region
        have hokp : ok pl := HL1.out.1 pl rfl
        have hgp : g ≠ pl := by
          have := Kd.R_ne HL1.out HB1.out (show TP.str ≠ TP.reg by decide)
          simpa [Value.ownBlock] using this
        have f5 : Fr ok w1 (w1.setCell ⟨pl, j, none⟩ (.string pd)).drew := by
          refine Fr.drew ?_
          refine Fr.setAt ?_ hokp
          exact Fr.refl _ _
        have hp5 := HP.out _ _ HPW1.out f5
        have hf5 := HF1.out.trans f5
        have hb5 : (w1.setCell ⟨pl, j, none⟩ (.string pd)).drew.heap[g]? = some (.cells #[.slice (some ⟨pl, 0, none⟩) l.length lc, .slice (some ⟨q, 0, none⟩) r.queue.length cq] TP.reg (0, 0)) :=
          (Below.heap_setCell w1 ⟨pl, j, none⟩ _ g hgp).trans HB1.out
        have hr5 := Kd.R_drew (Kd.R_put HL1.out (j : Int) pd).1
        rw [Int.toNat_natCast] at hr5
        have hq5 := Kd.R_drew (Kd.R_set HQ1.out HPL.out (by decide) j (.string pd))
        have hput5 : putQ kept 0 r.queue r.lasts = putQ kept (k + 1) (r.queue.drop (k + 1)) (l.set j pd) := by
          rw [HPUT.out, HT.out, if_pos hkk, Int.toNat_natCast]
        have H5 : LInv ok P kept r w g (.slice (some ⟨q, 0, none⟩) r.queue.length cq) (gk - 1) (.int .i64 ((k + 1 : Nat) : Int)) (w1.setCell ⟨pl, j, none⟩ (.string pd)).drew (k + 1) (l.set j pd) (.slice (some ⟨pl, 0, none⟩) l.length lc) :=
          ⟨by omega, rfl, by have := HG.out; omega, hp5, hf5, hb5, hr5, hq5, by rw [List.length_set]; exact HLEN.out, hput5⟩
        have HH5 := Lib.hid H5
        clear H5 hput5 hq5 hr5 hb5 hf5 hp5 f5 hgp hokp hcell hfroz hl0
        have hlong := Nat.le_trans hw.long hN
        go_wp2_with fail
        go_roundg (gk - 1)
        case measure => have := HG.out; omega
        case rel => exact ⟨k + 1, _, _, HH5.out⟩
      · have hkf : kept k = false := by simpa using hkk
        rw [hkf]
        have hlong := Nat.le_trans hw.long hN
        have hput5 : putQ kept 0 r.queue r.lasts = putQ kept (k + 1) (r.queue.drop (k + 1)) l := by
          rw [HPUT.out, HT.out, if_neg hkk]
        have HPUT5 := Lib.hid hput5
        clear hput5
        go_wp2_with fail
        go_roundg (gk - 1)
        case measure => have := HG.out; omega
        case rel => exact ⟨k + 1, l, lw, ⟨by omega, rfl, by have := HG.out; omega, HPW1.out, HF1.out, HB1.out, HL1.out, HQ1.out, HLEN.out, HPUT5.out⟩⟩
    · have hk2 : k = r.queue.length := by omega
      subst hk2
      have e1 := HPUT.out
      rw [List.drop_eq_nil_of_le (Nat.le_refl _)] at e1
      have EP := Lib.hid (show putQ kept 0 r.queue r.lasts = l from e1)
      clear e1
      have hx1 : wr.cell? ⟨g, 1, none⟩ = some (.slice Aq r.queue.length cq) := cell_of_block HB.out 1
      have hf1 : wr.frozen? ⟨g, 1, none⟩ = false := unfrozen_of_block HB.out 1
      go_wp2_with fail
      have f5 : Fr ok wr (wr.setCell ⟨g, 1, none⟩ (.slice none 0 0)) := by
        refine Fr.setAt ?_ hg
        exact Fr.refl _ _
      have hb5 := block_setCell HB.out (i := 1) (.slice none 0 0)
      have e5 : (#[lw, Value.slice Aq r.queue.length cq] : Array Value).setIfInBounds 1 (.slice none 0 0) = #[lw, .slice none 0 0] := by simp
      rw [e5] at hb5
      have hl5 := Kd.R_set HL.out HB.out (by decide) 1 (.slice none 0 0)
      have er : lastR kept r = ⟨l, []⟩ := by unfold lastR; rw [EP.out]
      refine bodyPost_end (v := .tuple #[]) (by simp [results, Try.results49, go_sem]) rfl ?_
      exact ⟨rfl, HF.out.trans f5, by rw [er]; exact ⟨hg, lw, .slice none 0 0, hb5, hl5, Kd.R_nil _ _ _ _ _⟩⟩

end Go.Proofs.Ytekpbpcfeopilaa.Di
