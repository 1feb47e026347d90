/- The program's disk: Write. -/
import Derived.Test.YtekpbpcfeopilaaDj
namespace Go.Proofs.Ytekpbpcfeopilaa.Dk
open Go Go.RowKit Go.Joins Go.Proofs.YtekpbpcfeopilaaCore Go.Proofs.Ytekpbpcfeopilaa.Dm Go.Proofs.Ytekpbpcfeopilaa.Dr Go.Proofs.Ytekpbpcfeopilaa.Da Go.Proofs.Ytekpbpcfeopilaa.Df Go.Proofs.Ytekpbpcfeopilaa.Dg Go.Proofs.Ytekpbpcfeopilaa.Dh Go.Proofs.Ytekpbpcfeopilaa.Di Go.Proofs.Ytekpbpcfeopilaa.Dj Go.Proofs.YtekpbpcfeopilaaW.PrintWords Go.Proofs.YtekpbpcfeopilaaW.PrintLast Go.Proofs.YtekpbpcfeopilaaW.PrintMore

set_option maxHeartbeats 4000000 in
set_option maxRecDepth 100000 in
theorem write_nil (n s : Int) (d : ByteArray) (w : World) : Calls Try.prog 25 #[.pointer none, .int .i64 n, .int .i64 s, .string d] w fun e w' => e = .returned (.int .i64 1) ∧ Below w.heap.size w w' := by
  go_enter Try.func25, Try.ntmps25
  go_wp2_with fail
  refine (find_nil _ _ _).mono ?_
  rintro e w1 ⟨rfl, hb1⟩
  go_wp2_with fail
  exact bodyPost_ret (v := .int .i64 1) (by simp [results, Try.results25, go_sem]) rfl ⟨rfl, hb1⟩

/-- One write more in the queue of a region. -/
def enqM (m : MDisk) (k : Nat) (p : Int × ByteArray) : MDisk := { m with regs := m.regs.modify k fun r => { r with queue := r.queue ++ [p] } }
def writeM (m : MDisk) (n s : Int) (d : ByteArray) : MDisk :=
  if findM m n s = 0 ∧ d.size = 64 then (let m1 := enqM m n.toNat (s, d); if failsM m1 n = true then loseM m1.keep m1 else tickM m1 n) else m
def writeE (m : MDisk) (n s : Int) (d : ByteArray) : Int :=
  if findM m n s = 0 then (if d.size = 64 then (if failsM m n = true then 11 else 0) else 2) else findM m n s

theorem enq_wf {N k : Nat} {m : MDisk} {r : MReg} {p : Int × ByteArray} (h : Wf N m) (hr : m.regs[k]? = some r) (hp : 0 ≤ p.1 ∧ p.1 < r.lasts.length) (h64 : p.2.size = 64) : Wf (N + 1) (enqM m k p) := by
  refine ⟨by simpa [enqM] using h.few, ?_, h.left, h.keep⟩
  intro x hx
  obtain ⟨i, hi, rfl⟩ := List.mem_iff_getElem.1 hx
  have hi2 : i < m.regs.length := by simpa [enqM] using hi
  have hw := h.regs m.regs[i] (List.getElem_mem hi2)
  by_cases hik : k = i
  · subst hik
    have e : m.regs[k] = r := by simpa [List.getElem?_eq_getElem hi2] using hr
    have er : (enqM m k p).regs[k] = { m.regs[k] with queue := m.regs[k].queue ++ [p] } := by simp [enqM]
    rw [er]
    rw [e] at hw ⊢
    refine ⟨hw.few, ?_, hw.l64, ?_, by have := hw.long; simp; omega⟩
    · intro q hq
      rcases List.mem_append.1 hq with hq | hq
      · exact hw.inQ q hq
      · rw [List.mem_singleton.1 hq]; exact hp
    · intro q hq
      rcases List.mem_append.1 hq with hq | hq
      · exact hw.q64 q hq
      · rw [List.mem_singleton.1 hq]; exact h64
  · have er : (enqM m k p).regs[i] = m.regs[i] := by simp [enqM, hik]
    rw [er]
    exact ⟨hw.few, hw.inQ, hw.l64, hw.q64, Nat.le_succ_of_le hw.long⟩
theorem tick_wf {N : Nat} {m : MDisk} {n : Int} (h : Wf N m) : Wf N (tickM m n) := by
  unfold tickM
  split
  · exact h
  · rename_i hc
    have := h.left
    exact ⟨h.few, h.regs, ⟨by simp only; omega, by simp only; omega⟩, h.keep⟩

theorem infoWr : (Try.prog.info? 97).map (fun i => (i.zero, i.size, i.bytes)) = some (some (.agg #[.int .i64 0, .string ⟨#[]⟩]), 2, 24) := by kernel_rfl

theorem enq_lies {G : Nat → Nat} {c : Nat} {w1 w2 : World} {b k g : Nat} {m : MDisk} {rv kv v1 lv qv : Value} {gs : List Nat} {r : MReg} {p : Int × ByteArray} (H : Lies TP G c w1 b m rv kv gs) (hg : gs[k]? = some g) (hr : m.regs[k]? = some r)
    (hb : w1.heap[g]? = some (.cells #[lv, qv] TP.reg (0, 0))) (hgk : G g = c + 3 + k) (hl : Kd.R Kd.string TP.str w1 0 (fun i => G i = c + 3 + k) lv r.lasts) (hq : Kd.R wrK TP.wr w1 0 (fun i => G i = c + 3 + k) qv r.queue)
    (hR : Kd.R wrK TP.wr w2 0 (fun i => (G i = c + 3 + k ∧ i < w1.heap.size) ∨ w1.heap.size ≤ i) v1 (r.queue ++ [p])) (hw : w1.grownBy w2 qv.ownBlock) (hk8 : k < 8) :
    Step G (ext G w1.heap.size (c + 3 + k)) c w1 (w2.setCell ⟨g, 1, none⟩ v1) ∧ Lies TP (ext G w1.heap.size (c + 3 + k)) c (w2.setCell ⟨g, 1, none⟩ v1) b (enqM m k p) rv kv gs := by
  have hne : some g ≠ qv.ownBlock := Kd.R_ne hq hb (by decide)
  have hb2 := blk_grown hb hw hne
  have hb3 := block_setCell hb2 (i := 1) v1
  have e : (#[lv, qv] : Array Value).setIfInBounds 1 v1 = #[lv, v1] := by simp
  rw [e] at hb3
  have f1 : Fr (fun i => G i = c + 3 + k) w1 w2 := Fr.of_grown hw (fun i hi => hq.1 i hi)
  have f2 : Fr (fun i => G i = c + 3 + k) w1 (w2.setCell ⟨g, 1, none⟩ v1) := Fr.setAt f1 hgk
  refine ⟨Step.of_ext f2 (fun i _ hi => by omega), ?_⟩
  have H2 := H.recolour (G' := ext G w1.heap.size (c + 3 + k)) (fun i hi => ext_old hi)
  have hrow := Rfr (Kd.R_bound H2.row) f2 (fun i hi hlt hs => by have h1 := hi.1; rw [ext_old hlt] at h1; omega)
  have hkp := Rfr (Kd.R_bound H2.keep) f2 (fun i hi hlt hs => by have h1 := hi.1; rw [ext_old hlt] at h1; omega)
  have hkm : k < m.regs.length := (List.getElem?_eq_some_iff.1 hr).1
  constructor
  · have hh := f2.at_ H.head (fun hs => by rw [H.colour] at hs; omega)
    exact hh
  · exact H2.colour
  · exact Kd.R_mono hrow (fun i hi => hi.1)
  · exact Kd.R_mono hkp (fun i hi => hi.1)
  · simp [enqM, H.len]
  · intro i hi
    have hi2 : i < m.regs.length := by simpa [enqM] using hi
    by_cases hik : i = k
    · subst hik
      refine ⟨g, hg, ?_⟩
      have er : (enqM m i p).regs[i] = { r with queue := r.queue ++ [p] } := by
        have : m.regs[i] = r := by simpa [List.getElem?_eq_getElem hi2] using hr
        simp [enqM, this]
      rw [er]
      refine ⟨by show ext _ _ _ g = _; rw [ext_old (heap_lt hb)]; exact hgk, lv, v1, hb3, ?_, ?_⟩
      · have h1 := Kd.R_over hl hq (by decide) hw
        have h2 := Kd.R_set h1 hb2 (by decide) 1 v1
        exact Kd.R_mono (Kd.R_bound h2) (fun j hj => by
          by_cases hlt : j < w1.heap.size
          · rw [ext_old hlt]; exact hj.1
          · rw [ext_new (by omega)])
      · have h2 := Kd.R_set hR hb2 (by decide) 1 v1
        exact Kd.R_mono h2 (fun j hj => by
          rcases hj with hj | hj
          · rw [ext_old hj.2]; exact hj.1
          · rw [ext_new hj])
    · obtain ⟨g2, hg2, hr2⟩ := H2.regs i hi2
      refine ⟨g2, hg2, ?_⟩
      have er : (enqM m k p).regs[i] = m.regs[i] := by simp [enqM, Ne.symm hik]
      rw [er]
      exact ((hr2.mono (ok' := fun j => ext G w1.heap.size (c + 3 + k) j = c + 3 + i ∧ j < w1.heap.size) (fun j hj ho => ⟨ho, hj⟩)).fr f2 (fun j hj _ hs => by have h1 := hj.1; rw [ext_old hj.2] at h1; omega)).mono (fun j _ hj => hj.1)

set_option maxHeartbeats 4000000 in
set_option maxRecDepth 100000 in
theorem write_any {G : Nat → Nat} {c : Nat} {w : World} {b : Nat} {m : MDisk} {rv kv : Value} {gs : List Nat} (h : Lies TP G c w b m rv kv gs) {N : Nat} (hm : Wf N m) (hN : N < 1000000) (n s : Int) (d : ByteArray) :
    Calls Try.prog 25 #[.pointer (some ⟨b, 0, none⟩), .int .i64 n, .int .i64 s, .string d] w fun e w' => e = .returned (.int .i64 (writeE m n s d)) ∧ Did TP G c w b (writeM m n s d) w' := by
  have H := Lib.hid h
  clear h
  by_cases hf : findM m n s = 0
  · by_cases h64 : d.size = 64
    · obtain ⟨k, j, g, r, rfl, rfl, ep, eg, er, hj, hr⟩ := find_ok H.out hf
      have EF := Lib.hid hf
      have EP := Lib.hid ep
      have H64 := Lib.hid h64
      clear hr hf
      have h64i : ((d.size : Int) != 64) = false := by rw [h64]; rfl
      clear h64
      go_enter Try.func25, Try.ntmps25
      go_wp2_with fail
      refine (find_any H.out _ _).mono ?_
      rintro e w1 ⟨rfl, hb1⟩
      rw [EP.out, EF.out]
      have H1 := Lib.hid (H.out.below hb1)
      obtain ⟨k', j', g', r', ek, ej, ep', eg', er', _, hr⟩ := find_ok H1.out EF.out
      obtain rfl : k = k' := by omega
      obtain rfl : j = j' := by omega
      rw [eg] at eg'
      obtain rfl : g = g' := by simpa using eg'
      rw [er] at er'
      obtain rfl : r = r' := by simpa using er'
      have HRG := Lib.hid hr
      obtain ⟨_, lv, qv, hb, hl, hq⟩ := hr
      obtain ⟨Aq, cq, rfl, _, hQ⟩ := Kd.R_reads hq
      have hx1 : w1.cell? ⟨g, 1, none⟩ = some (.slice Aq r.queue.length cq) := cell_of_block hb 1
      have hgk : G g = c + 3 + k := HRG.out.1
      have HGK := Lib.hid hgk
      have HB := Lib.hid hb
      have HL := Lib.hid hl
      have HQ := Lib.hid (show Kd.R wrK TP.wr w1 0 (fun i => G i = c + 3 + k) (.slice Aq r.queue.length cq) r.queue from hq)
      have ER := Lib.hid er
      have EG := Lib.hid eg
      have hkm : k < m.regs.length := (List.getElem?_eq_some_iff.1 er).1
      have hk8 : k < 8 := by have := hm.few; omega
      have hrN : r.queue.length ≤ N := (hm.regs r (List.mem_of_getElem? er)).long
      have HO : Hid (Kd.R wrK TP.wr w1 0 (fun i => (G i = c + 3 + k ∧ i < w1.heap.size) ∨ w1.heap.size ≤ i) (.slice Aq r.queue.length cq) r.queue) := Kd.R_mono (Kd.R_bound hq) (fun i hi => .inl ⟨hi.1, hi.2.2.1⟩)
      have HM := Lib.hid hm
      clear ep ep' eg' er' ek ej hb hl hq hQ er eg hgk hm
      go_wp2_with (at_builtin; (refine Kd.R_append wrK (w0 := w1) 0 rfl (.tmp 30) (.tmp 34) 82 97 (.agg #[.int .i64 0, .string ⟨#[]⟩]) 24 rfl Try.underlying82 infoWr rfl (by decide) (by decide) (.slice Aq r.queue.length cq) r.queue ((j : Int), d) [.int .i64 (j : Int), .string d] (fun i => (G i = c + 3 + k ∧ i < w1.heap.size) ∨ w1.heap.size ≤ i) (fun _ => False) rfl rfl ?aP (fun _ hk => hk.elim) ?aF HO.out (Below.refl _ _) (Nat.zero_le _) ?aL ?_; (case aP => exact ⟨[.int .i64 (j : Int)], [.string d], rfl, rfl, rfl⟩); (case aF => exact fun i hi => .inr hi); (case aL => omega); intro v1 w2 hR2 hB2 hg2 hat2; obtain ⟨A1, c1, rfl, _, _⟩ := Kd.R_reads hR2; have HR2 := Lib.hid hR2; have HG2 := Lib.hid hg2; have HBW := Lib.hid (blk_grown HB.out hg2 (Kd.R_ne HQ.out HB.out (by decide))); have hy1 : w2.cell? ⟨g, 1, none⟩ = some (.slice Aq r.queue.length cq) := cell_of_block HBW.out 1; have hyf : w2.frozen? ⟨g, 1, none⟩ = false := unfrozen_of_block HBW.out 1; clear hR2 hB2 hg2 hat2))
      have hR2 : Kd.R wrK TP.wr w2 0 (fun i => (G i = c + 3 + k ∧ i < w1.heap.size) ∨ w1.heap.size ≤ i) (.slice A1 (r.queue.length + 1) c1) (r.queue ++ [((j : Int), d)]) := by
        have := HR2.out
        rw [List.length_append] at this
        exact this
      obtain ⟨hs3, h3⟩ := enq_lies H1.out EG.out ER.out HB.out HGK.out HL.out HQ.out hR2 HG2.out hk8
      have HS3 := Lib.hid hs3
      have H3 := Lib.hid h3
      clear hs3 h3 hR2 HR2 HG2 HBW hy1 hyf
      have em : Hid (writeM m (k : Int) (j : Int) d = if failsM (enqM m k ((j : Int), d)) (k : Int) = true then loseM m.keep (enqM m k ((j : Int), d)) else tickM (enqM m k ((j : Int), d)) (k : Int)) := by
        show _ = _
        unfold writeM
        rw [if_pos ⟨EF.out, H64.out⟩]
        rfl
      have ee : Hid (writeE m (k : Int) (j : Int) d = if failsM (enqM m k ((j : Int), d)) (k : Int) = true then 11 else 0) := by
        show _ = _
        unfold writeE
        rw [if_pos EF.out, if_pos H64.out]
        rfl
      have hmk : Wf (N + 1) (enqM m k ((j : Int), d)) := enq_wf HM.out ER.out (p := ((j : Int), d)) ⟨by show (0 : Int) ≤ (j : Int); omega, by show (j : Int) < _; omega⟩ H64.out
      have hN1 : N + 1 ≤ 1000000 := by omega
      obtain ⟨m3, hm3⟩ : ∃ m3, enqM m k ((j : Int), d) = m3 := ⟨_, rfl⟩
      have ekeep : Hid (m3.keep = m.keep) := by show _ = _; rw [← hm3]; rfl
      rw [hm3] at hmk em ee H3
      obtain ⟨G3, hG3⟩ : ∃ G3, ext G w1.heap.size (c + 3 + k) = G3 := ⟨_, rfl⟩
      rw [hG3] at HS3 H3
      have HM3 := Lib.hid hmk
      have hl1 := hmk.left.1
      have hl2 := hmk.left.2
      clear hm3 hG3 hmk
      refine (fails_any H3.out (k : Int) hl1 hl2).mono ?_
      rintro e w4 ⟨rfl, hf4, h4⟩
      have HF4 := Lib.hid hf4
      have H4 := Lib.hid h4
      clear hf4 h4 hl1 hl2
      by_cases hfl : failsM m3 (k : Int) = true
      · rw [hfl]
        rw [if_pos hfl] at em ee
        have etk : Hid ((tickM m3 (k : Int)).keep = m3.keep) := by show _ = _; unfold tickM; split <;> rfl
        have etr : Hid ((tickM m3 (k : Int)).regs = m3.regs) := by show _ = _; unfold tickM; split <;> rfl
        obtain ⟨Ak, ck, ekv, _, _⟩ := Kd.R_reads H4.out.keep
        rw [etk.out] at ekv
        subst ekv
        have hx4 : w4.cell? ⟨b, 4, none⟩ = some (.slice Ak m3.keep.length ck) := cell_of_block H4.out.head 4
        clear hfl
        go_wp2_with fail
        have hmt : Wf (N + 1) (tickM m3 (k : Int)) := tick_wf HM3.out
        have hKC : ∀ W, Fr (regC G3 c) w4 W → Kd.C (Kd.int .u64) W Ak m3.keep.length m3.keep := fun W hW => by
          have hr := Rfr H4.out.keep hW (fun j ho _ hs => by have := hs.1; omega)
          rw [etk.out] at hr
          exact (Kd.R_reads' hr).2.2
        refine (lose_any H4.out hmt hN1 Ak ck m3.keep HM3.out.keep hKC).mono ?_
        rintro e w5 ⟨rfl, hf5, h5⟩
        have em5 : loseM m3.keep (tickM m3 (k : Int)) = loseM m.keep m3 := by
          rw [ekeep.out]
          unfold loseM
          rw [etr.out]
        rw [em5] at h5
        have HF5 := Lib.hid hf5
        have H5 := Lib.hid h5
        clear hf5 h5 em5 hmt hKC hx4
        go_wp2_with fail
        refine bodyPost_ret (v := .int .i64 11) (by simp [results, Try.results25, go_sem]) rfl ?_
        refine ⟨by rw [ee.out], ?_⟩
        rw [em.out]
        refine Did.of ((Step.of_below hb1).trans (HS3.out.trans ((Step.of_fr HF4.out (fun i _ hi => ?_)).trans (Step.of_fr HF5.out (fun i _ hi => ?_))))) H5.out
        · have := H3.out.colour
          rw [hi]
          omega
        · rcases hi with hi | hi
          · have := H3.out.colour
            rw [hi]
            omega
          · exact ⟨by have := hi.1; omega, hi.2⟩
      · rw [if_neg hfl] at em ee
        have hfl2 : failsM m3 (k : Int) = false := by simpa using hfl
        rw [hfl2]
        clear hfl hfl2
        go_wp2_with fail
        refine bodyPost_ret (v := .int .i64 0) (by simp [results, Try.results25, go_sem]) rfl ?_
        refine ⟨by rw [ee.out], ?_⟩
        rw [em.out]
        refine Did.of ((Step.of_below hb1).trans (HS3.out.trans (Step.of_fr HF4.out (fun i _ hi => ?_)))) H4.out
        have := H3.out.colour
        rw [hi]
        omega
    · have EF := Lib.hid hf
      obtain ⟨k, j, g, r, rfl, rfl, ep, _, _, _, _⟩ := find_ok H.out hf
      have EP := Lib.hid ep
      have em : Hid (writeM m (k : Int) (j : Int) d = m) := by show _ = _; unfold writeM; rw [if_neg (fun h => h64 h.2)]
      have ee : Hid (writeE m (k : Int) (j : Int) d = 2) := by show _ = _; unfold writeE; rw [if_pos hf, if_neg h64]
      have h64i : ((d.size : Int) != 64) = true := by
        have : ((d.size : Int) ≠ 64) := by omega
        simpa using this
      clear h64 hf ep
      go_enter Try.func25, Try.ntmps25
      go_wp2_with fail
      refine (find_any H.out _ _).mono ?_
      rintro e w1 ⟨rfl, hb1⟩
      rw [EP.out, EF.out]
      go_wp2_with fail
      refine bodyPost_ret (v := .int .i64 2) (by simp [results, Try.results25, go_sem]) rfl ?_
      exact ⟨by rw [ee.out], by rw [em.out]; exact Did.of (Step.of_below hb1) (H.out.below hb1)⟩
  · have em : Hid (writeM m n s d = m) := by show _ = _; unfold writeM; rw [if_neg (fun h => hf h.1)]
    have ee : Hid (writeE m n s d = findM m n s) := by show _ = _; unfold writeE; rw [if_neg hf]
    have EP := Lib.hid (findP_no (gs := gs) (rfl : findM m n s = findM m n s) hf)
    obtain ⟨fe, hfe⟩ : ∃ fe, findM m n s = fe := ⟨_, rfl⟩
    have EF := Lib.hid hfe
    rw [hfe] at hf ee
    have hne : (fe != 0) = true := by simpa using hf
    clear hfe hf
    go_enter Try.func25, Try.ntmps25
    go_wp2_with fail
    refine (find_any H.out _ _).mono ?_
    rintro e w1 ⟨rfl, hb1⟩
    rw [EP.out, EF.out]
    go_wp2_with fail
    refine bodyPost_ret (v := .int .i64 fe) (by simp [results, Try.results25, go_sem]) rfl ?_
    exact ⟨by rw [ee.out], by rw [em.out]; exact Did.of (Step.of_below hb1) (H.out.below hb1)⟩

end Go.Proofs.Ytekpbpcfeopilaa.Dk
