/- The program's disk: Cut, with slices.Clone. -/
import Derived.Test.YtekpbpcfeopilaaDl
import Derived.WalkSpells
import Derived.Lib.SliceRun
namespace Go.Proofs.Ytekpbpcfeopilaa.Dn
open Go Go.RowKit Go.Joins Go.Proofs.YtekpbpcfeopilaaCore Go.Proofs.Ytekpbpcfeopilaa.Dm Go.Proofs.Ytekpbpcfeopilaa.Dr Go.Proofs.Ytekpbpcfeopilaa.Da Go.Proofs.Ytekpbpcfeopilaa.Df Go.Proofs.Ytekpbpcfeopilaa.Dg Go.Proofs.Ytekpbpcfeopilaa.Dh Go.Proofs.Ytekpbpcfeopilaa.Di Go.Proofs.Ytekpbpcfeopilaa.Dj Go.Proofs.Ytekpbpcfeopilaa.Dk Go.Proofs.Ytekpbpcfeopilaa.Dl Go.Proofs.YtekpbpcfeopilaaW.PrintWords Go.Proofs.YtekpbpcfeopilaaW.PrintLast Go.Proofs.YtekpbpcfeopilaaW.PrintMore

theorem infoU64 : (Try.prog.info? 59).map (fun i => (i.zero, i.size, i.bytes)) = some (some (.int .u64 0), 1, 8) := by kernel_rfl

set_option maxHeartbeats 4000000 in
set_option maxRecDepth 100000 in
theorem clone_any (A : Option Addr) (cc : Nat) (keep : List Int) (w : World) (hC : Kd.C (Kd.int .u64) w A keep.length keep) (hl : keep.length * 8 ≤ 140737488355328) :
    Calls Try.prog 59 #[.slice A keep.length cc] w fun e w' => ∃ v, e = .returned v ∧ (Kd.int .u64).R 59 w' w.heap.size (fun _ => True) v keep ∧ Below w.heap.size w w' := by
  have HC := Lib.hid hC
  clear hC
  have hne := fun (w : World) (a : Option Addr) (n c n' c' : Nat) => Lib.run_eql_slice_nil (P := Try.prog) w 50 59 a n c n' c' Try.underlying50
  cases A with
  | none =>
    have hk : keep.length = 0 := by
      rcases Nat.eq_zero_or_pos keep.length with h | h
      · exact h
      · obtain ⟨ad, he, _⟩ := HC.out.2.2 h
        cases he
    obtain rfl : keep = [] := List.eq_nil_of_length_eq_zero hk
    go_enter Try.func59, Try.ntmps59
    go_wp2_with fail
    refine bodyPost_ret (v := .slice none 0 0) (by simp [results, Try.results59, go_sem]) rfl ?_
    exact ⟨_, rfl, Kd.R_nil _ _ _ _ _, Below.refl _ _⟩
  | some ad =>
    have HO : Hid ((w.alloc (.cells #[] 59)).ownsRow w.heap.size 59 1 (.slice (some ⟨w.heap.size, 0, none⟩) 0 0) ([] : List Int).length (encs (Value.int .u64) [])) := own_lit_of w w.heap.size 59 [] (Nat.le_refl _) (by simp)
    have HR : Hid (ReadsOf (Value.int .u64) (0 : Int) (w.alloc (.cells #[] 59)) (some ad) keep.length keep) := Kd.reads_of_C (h1 := fun _ => rfl) (Kd.C_alloc HC.out _)
    have HB : Hid (Below w.heap.size w (w.alloc (.cells #[] 59))) := (Below.refl _ _).alloc (Nat.le_refl _) _
    go_enter Try.func59, Try.ntmps59
    go_wp2_with (at_builtin; refine print_append_row_of (w0 := w) (Value.int .u64) (0 : Int) w.heap.size rfl (.tmp 5) (.tmp 6) 50 59 (.int .u64 0) 8 rfl Try.underlying50 infoU64 rfl (by decide) (fun _ => rfl) (.slice (some ⟨w.heap.size, 0, none⟩) 0 0) [] keep (some ad) keep.length cc rfl rfl HO.out HR.out HB.out (by simp) ?aL ?_; (case aL => simp; omega); intro v1 w1 ho1 hb1 hg1 hat1; have HO1 := Lib.hid ho1; have HB1 := Lib.hid hb1; clear ho1 hb1 hg1 hat1)
    refine bodyPost_ret (v := v1) (by simp [results, Try.results59, go_sem]) rfl ?_
    refine ⟨_, rfl, ?_, HB1.out⟩
    have ho := HO1.out
    rw [List.nil_append] at ho
    exact Kd.R_of_own (h1 := fun _ => rfl) ho (fun _ _ => trivial)

set_option maxHeartbeats 4000000 in
set_option maxRecDepth 100000 in
theorem cut_nil (n left : Int) (v : Value) (w : World) : Calls Try.prog 34 #[.pointer none, .int .i64 n, .int .i64 left, v] w fun e w' => e = .returned (.tuple #[]) ∧ Below w.heap.size w w' := by
  go_enter Try.func34, Try.ntmps34
  go_wp2_with fail
  exact bodyPost_ret (v := .tuple #[]) (by simp [results, Try.results34, go_sem]) rfl ⟨rfl, Below.refl _ _⟩

def cutM (m : MDisk) (n left : Int) (keep : List Int) : MDisk :=
  if 0 ≤ n ∧ n < m.regs.length ∧ 0 < left then { m with treg := n, tleft := left, keep := keep } else { m with treg := 0, tleft := 0, keep := [] }

set_option maxHeartbeats 4000000 in
set_option maxRecDepth 100000 in
theorem cut_any {G : Nat → Nat} {c : Nat} {w : World} {b : Nat} {m : MDisk} {rv kv : Value} {gs : List Nat} (h : Lies TP G c w b m rv kv gs) (n left : Int) (A : Option Addr) (cc : Nat) (keep : List Int) (hk : keep.length * 8 ≤ 140737488355328)
    (hC : ∀ W, Fr (fun k => k = b) w W → Kd.C (Kd.int .u64) W A keep.length keep) :
    Calls Try.prog 34 #[.pointer (some ⟨b, 0, none⟩), .int .i64 n, .int .i64 left, .slice A keep.length cc] w fun e w' => e = .returned (.tuple #[]) ∧ Did TP G c w b (cutM m n left keep) w' := by
  have hx2 : w.cell? ⟨b, 2, none⟩ = some (.int .i64 m.treg) := cell_of_block h.head 2
  have hx3 : w.cell? ⟨b, 3, none⟩ = some (.int .i64 m.tleft) := cell_of_block h.head 3
  have hx4 : w.cell? ⟨b, 4, none⟩ = some kv := cell_of_block h.head 4
  have hf2 : w.frozen? ⟨b, 2, none⟩ = false := unfrozen_of_block h.head 2
  have hf3 : w.frozen? ⟨b, 3, none⟩ = false := unfrozen_of_block h.head 3
  have hf4 : w.frozen? ⟨b, 4, none⟩ = false := unfrozen_of_block h.head 4
  have H := Lib.hid h
  have HC := Lib.hid hC
  clear h hC
  obtain ⟨w1, hw1⟩ : ∃ w1, ((w.setCell ⟨b, 2, none⟩ (.int .i64 0)).setCell ⟨b, 3, none⟩ (.int .i64 0)).setCell ⟨b, 4, none⟩ (.slice none 0 0) = w1 := ⟨_, rfl⟩
  have f1 : Fr (fun k => k = b) w w1 := by
    rw [← hw1]
    refine Fr.setAt ?_ rfl
    refine Fr.setAt ?_ rfl
    refine Fr.setAt ?_ rfl
    exact Fr.refl _ _
  have hb1 := block_setCell (block_setCell (block_setCell H.out.head (i := 2) (.int .i64 0)) (i := 3) (.int .i64 0)) (i := 4) (.slice none 0 0)
  have e1 : (((hdr m rv kv).setIfInBounds 2 (.int .i64 0)).setIfInBounds 3 (.int .i64 0)).setIfInBounds 4 (.slice none 0 0) = hdr { m with treg := 0, tleft := 0, keep := [] } rv (.slice none 0 0) := rfl
  rw [e1, hw1] at hb1
  have h1 : Lies TP G c w1 b { m with treg := 0, tleft := 0, keep := [] } rv (.slice none 0 0) gs := H.out.turn f1 hb1 rfl (Kd.R_nil _ _ _ _ _)
  have H1 := Lib.hid h1
  have F1 := Lib.hid f1
  clear f1 h1 e1 hb1
  go_enter Try.func34, Try.ntmps34
  go_wp2_with (rw [hw1])
  refine (at_any H1.out n).mono ?_
  rintro e w2 ⟨rfl, hb2⟩
  have HB2 := Lib.hid hb2
  have H2 := Lib.hid (H1.out.below hb2)
  clear hb2 hw1 hx2 hx3 hx4 hf2 hf3 hf4
  by_cases hn : 0 ≤ n ∧ n < m.regs.length
  · obtain ⟨k, rfl⟩ : ∃ k : Nat, n = (k : Int) := ⟨n.toNat, by omega⟩
    have hk1 : k < m.regs.length := by omega
    obtain ⟨g, eg, _⟩ := H2.out.regs k hk1
    have ep : regP gs (k : Int) = some ⟨g, 0, none⟩ := by rw [regP_nat, eg]; rfl
    rw [ep]
    clear ep eg
    by_cases hl : 0 < left
    · have em : Hid (cutM m (k : Int) left keep = { m with treg := (k : Int), tleft := left, keep := keep }) := by show _ = _; unfold cutM; rw [if_pos ⟨hn.1, hn.2, hl⟩]
      clear hn
      go_wp2_with fail
      have hc2 : Kd.C (Kd.int .u64) w2 A keep.length keep := HC.out w2 (F1.out.trans (Fr.of_below HB2.out))
      refine (clone_any A cc keep w2 hc2 hk).mono ?_
      rintro e w3 ⟨v, rfl, hR3, hb3⟩
      have HR3 := Lib.hid hR3
      have HB3 := Lib.hid hb3
      have H3 := Lib.hid (H2.out.below hb3)
      obtain ⟨A3, c3, rfl, _, _⟩ := Kd.R_reads hR3
      have hx2 : w3.cell? ⟨b, 2, none⟩ = some (.int .i64 0) := cell_of_block H3.out.head 2
      have hx3 : w3.cell? ⟨b, 3, none⟩ = some (.int .i64 0) := cell_of_block H3.out.head 3
      have hx4 : w3.cell? ⟨b, 4, none⟩ = some (.slice none 0 0) := cell_of_block H3.out.head 4
      have hf2 : w3.frozen? ⟨b, 2, none⟩ = false := unfrozen_of_block H3.out.head 2
      have hf3 : w3.frozen? ⟨b, 3, none⟩ = false := unfrozen_of_block H3.out.head 3
      have hf4 : w3.frozen? ⟨b, 4, none⟩ = false := unfrozen_of_block H3.out.head 4
      clear hR3 hb3 hc2
      go_wp2_with fail
      refine bodyPost_end (v := .tuple #[]) (by simp [results, Try.results34, go_sem]) rfl ?_
      refine ⟨rfl, ?_⟩
      rw [em.out]
      have f4 : Fr (fun i => i = b) w3 (((w3.setCell ⟨b, 2, none⟩ (.int .i64 (k : Int))).setCell ⟨b, 3, none⟩ (.int .i64 left)).setCell ⟨b, 4, none⟩ (.slice A3 keep.length c3)) := by
        refine Fr.setAt ?_ rfl
        refine Fr.setAt ?_ rfl
        refine Fr.setAt ?_ rfl
        exact Fr.refl _ _
      have hb4 := block_setCell (block_setCell (block_setCell H3.out.head (i := 2) (.int .i64 (k : Int))) (i := 3) (.int .i64 left)) (i := 4) (.slice A3 keep.length c3)
      have e4 : (((hdr { m with treg := 0, tleft := 0, keep := [] } rv (.slice none 0 0)).setIfInBounds 2 (.int .i64 (k : Int))).setIfInBounds 3 (.int .i64 left)).setIfInBounds 4 (.slice A3 keep.length c3) = hdr { m with treg := (k : Int), tleft := left, keep := keep } rv (.slice A3 keep.length c3) := rfl
      rw [e4] at hb4
      have hbl : b < w2.heap.size := heap_lt H2.out.head
      have H3e := ((H2.out.recolour (G' := ext G w2.heap.size (c + 2)) (fun i hi => ext_old hi)).below HB3.out)
      have h4 := H3e.turn (m' := { m with treg := (k : Int), tleft := left, keep := keep }) f4 hb4 rfl (Kd.R_mono (Kd.R_bound (Kd.R_lower (Rfr (Kd.R_mono (Kd.R_bound HR3.out) (ok' := fun i => w2.heap.size ≤ i) (fun i hi => hi.2.1)) f4 (fun i hi _ hs => by omega)) (Nat.zero_le _))) (fun i hi => ext_new hi.1))
      refine Did.of (G' := ext G w2.heap.size (c + 2)) ((Step.of_fr F1.out (fun i _ hi => ?_)).trans ((Step.of_below HB2.out).trans (Step.of_ext ((Fr.of_below HB3.out).trans f4) (fun i _ hi => ?_)))) h4
      · have := H.out.colour
        rw [hi]
        omega
      · have := H.out.colour
        rw [hi]
        omega
    · have em : Hid (cutM m (k : Int) left keep = { m with treg := 0, tleft := 0, keep := [] }) := by show _ = _; unfold cutM; rw [if_neg (fun h => hl h.2.2)]
      clear hn
      go_wp2_with fail
      refine bodyPost_end (v := .tuple #[]) (by simp [results, Try.results34, go_sem]) rfl ?_
      refine ⟨rfl, ?_⟩
      rw [em.out]
      refine Did.of ((Step.of_fr F1.out (fun i _ hi => ?_)).trans (Step.of_below HB2.out)) H2.out
      have := H.out.colour
      rw [hi]
      omega
  · have em : Hid (cutM m n left keep = { m with treg := 0, tleft := 0, keep := [] }) := by show _ = _; unfold cutM; rw [if_neg (fun h => hn ⟨h.1, h.2.1⟩)]
    have ep : regP gs n = none := by
      by_cases h0 : n < 0
      · exact regP_neg h0
      · obtain ⟨k, rfl⟩ : ∃ k : Nat, n = (k : Int) := ⟨n.toNat, by omega⟩
        rw [regP_nat, List.getElem?_eq_none (by have := H.out.len; omega)]
        rfl
    rw [ep]
    clear ep hn
    go_wp2_with fail
    refine bodyPost_end (v := .tuple #[]) (by simp [results, Try.results34, go_sem]) rfl ?_
    refine ⟨rfl, ?_⟩
    rw [em.out]
    refine Did.of ((Step.of_fr F1.out (fun i _ hi => ?_)).trans (Step.of_below HB2.out)) H2.out
    have := H.out.colour
    rw [hi]
    omega

end Go.Proofs.Ytekpbpcfeopilaa.Dn
