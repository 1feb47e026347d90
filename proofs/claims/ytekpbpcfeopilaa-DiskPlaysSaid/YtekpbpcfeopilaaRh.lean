/- The document's disk: Cut. -/
import Derived.Test.YtekpbpcfeopilaaRg
namespace Go.Proofs.Ytekpbpcfeopilaa.Rh
open Go Go.RowKit Go.Proofs.Ytekpbpcfeopilaa.Reg Go.Joins Go.Proofs.YtekpbpcfeopilaaCore Go.Proofs.Ytekpbpcfeopilaa.Dm Go.Proofs.Ytekpbpcfeopilaa.Dr Go.Proofs.Ytekpbpcfeopilaa.Da Go.Proofs.Ytekpbpcfeopilaa.Df Go.Proofs.Ytekpbpcfeopilaa.Dg Go.Proofs.Ytekpbpcfeopilaa.Dh Go.Proofs.Ytekpbpcfeopilaa.Di Go.Proofs.Ytekpbpcfeopilaa.Dj Go.Proofs.Ytekpbpcfeopilaa.Dk Go.Proofs.Ytekpbpcfeopilaa.Dl Go.Proofs.Ytekpbpcfeopilaa.Dn Go.Proofs.Ytekpbpcfeopilaa.Dp Go.Proofs.Ytekpbpcfeopilaa.Dq Go.Proofs.Ytekpbpcfeopilaa.Ds Go.Proofs.Ytekpbpcfeopilaa.Dt Go.Proofs.Ytekpbpcfeopilaa.Du Go.Proofs.Ytekpbpcfeopilaa.Dv Go.Proofs.Ytekpbpcfeopilaa.Dw Go.Proofs.Ytekpbpcfeopilaa.Sys Go.Proofs.Ytekpbpcfeopilaa.Ra Go.Proofs.Ytekpbpcfeopilaa.Rb Go.Proofs.Ytekpbpcfeopilaa.Rc Go.Proofs.Ytekpbpcfeopilaa.Rd Go.Proofs.Ytekpbpcfeopilaa.Re Go.Proofs.Ytekpbpcfeopilaa.Rf Go.Proofs.Ytekpbpcfeopilaa.Rg Go.Proofs.YtekpbpcfeopilaaW.PrintWords Go.Proofs.YtekpbpcfeopilaaW.PrintLast Go.Proofs.YtekpbpcfeopilaaW.PrintMore

def rcutM (m : MDisk) (n left : Int) (keep : List Int) : MDisk :=
  if 0 ≤ n ∧ n < m.regs.length ∧ 0 < left then { m with treg := n, tleft := left, keep := keep } else { m with tleft := 0, keep := [] }

theorem Fr.old {b : Nat} {w w' : World} (h : Fr (fun i => i = b ∨ w.heap.size ≤ i) w w') : Fr (fun i => i = b) w w' :=
  ⟨h.os, h.tape, h.output, h.size, fun i hi hn => h.block i hi (fun hs => by rcases hs with hs | hs; exact hn hs; omega)⟩
theorem alloc_cell_keep {w : World} {a : Addr} {v : Value} (h : w.cell? a = some v) (o : Obj) : (w.drew.alloc o).cell? a = some v := by
  exact pw_cell_below (((Below.refl w.drew.heap.size w.drew)).alloc (Nat.le_refl _) o) h

structure RCInv (m : MDisk) (b : Nat) (rv : Value) (keep : List Int) (w2 : World) (gk : Nat) (v : Value) (wr : World) (j : Nat) (Aj : Option Addr) (cj : Nat) : Prop where
  le : j ≤ keep.length
  slot : v = .int .i64 j
  ghost : gk + j = keep.length
  fr : Fr (fun i => i = b ∨ w2.heap.size ≤ i) w2 wr
  head : wr.heap[b]? = some (.cells (hdr { m with keep := keep.take j } rv (.slice Aj j cj)) TR.disk (0, 0))
  row : Kd.R (Kd.int .u64) TR.u64 wr 0 (fun i => w2.heap.size ≤ i) (.slice Aj j cj) (keep.take j)
def RCRel (m : MDisk) (b : Nat) (rv : Value) (keep : List Int) (w2 : World) (gk : Nat) (v : Value) (wr : World) : Prop := ∃ j Aj cj, RCInv m b rv keep w2 gk v wr j Aj cj

/-- What a turn of the loop reads. -/
structure HeldK (b : Nat) (v : Value) (ad : Addr) (x : Value) (w : World) : Prop where
  head : w.cell? ⟨b, 4, none⟩ = some v
  elem : w.cell? ad = some x

set_option maxHeartbeats 4000000 in
set_option maxRecDepth 100000 in
theorem rcut_any {G : Nat → Nat} {c : Nat} {w : World} {b : Nat} {m : MDisk} {rv kv : Value} {gs : List Nat} (h : Lies TR G c w b m rv kv gs) (n left : Int) (A : Option Addr) (cc : Nat) (keep : List Int) (hk : keep.length * 8 ≤ 140737488355328)
    (hC : ∀ W, Fr (fun k => k = b) w W → Kd.C (Kd.int .u64) W A keep.length keep) :
    Calls Try.prog 54 #[.pointer (some ⟨b, 0, none⟩), .int .i64 n, .int .i64 left, .slice A keep.length cc] w fun e w' => e = .returned (.tuple #[]) ∧ Did TR G c w b (rcutM m n left keep) w' := by
  have hx3 : w.cell? ⟨b, 3, none⟩ = some (.int .i64 m.tleft) := cell_of_block h.head 3
  have hx4 : w.cell? ⟨b, 4, none⟩ = some kv := cell_of_block h.head 4
  have hf3 : w.frozen? ⟨b, 3, none⟩ = false := unfrozen_of_block h.head 3
  have hf4 : w.frozen? ⟨b, 4, none⟩ = false := unfrozen_of_block h.head 4
  have H := Lib.hid h
  have HC := Lib.hid hC
  have HLEN := Lib.hid h.len
  clear h hC
  obtain ⟨Ar, cr, rfl, _, _⟩ := Kd.R_reads H.out.row
  obtain ⟨w1, hw1⟩ : ∃ w1, (w.setCell ⟨b, 3, none⟩ (.int .i64 0)).setCell ⟨b, 4, none⟩ (.slice none 0 0) = w1 := ⟨_, rfl⟩
  have f1 : Fr (fun k => k = b) w w1 := by
    rw [← hw1]
    refine Fr.setAt ?_ rfl
    refine Fr.setAt ?_ rfl
    exact Fr.refl _ _
  have hb1 := block_setCell (block_setCell H.out.head (i := 3) (.int .i64 0)) (i := 4) (.slice none 0 0)
  have e1 : ((hdr m (Value.slice Ar gs.length cr) kv).setIfInBounds 3 (.int .i64 0)).setIfInBounds 4 (.slice none 0 0) = hdr { m with tleft := 0, keep := [] } (Value.slice Ar gs.length cr) (.slice none 0 0) := rfl
  rw [e1, hw1] at hb1
  have h1 : Lies TR G c w1 b { m with tleft := 0, keep := [] } (Value.slice Ar gs.length cr) (.slice none 0 0) gs := H.out.turn f1 hb1 rfl (Kd.R_nil _ _ _ _ _)
  have H1 := Lib.hid h1
  have F1 := Lib.hid f1
  have hy0 : w1.cell? ⟨b, 0, none⟩ = some (.slice Ar gs.length cr) := cell_of_block hb1 0
  have hy2 : w1.cell? ⟨b, 2, none⟩ = some (.int .i64 m.treg) := cell_of_block hb1 2
  have hy3 : w1.cell? ⟨b, 3, none⟩ = some (.int .i64 0) := cell_of_block hb1 3
  have hg2 : w1.frozen? ⟨b, 2, none⟩ = false := unfrozen_of_block hb1 2
  have hg3 : w1.frozen? ⟨b, 3, none⟩ = false := unfrozen_of_block hb1 3
  clear f1 h1 e1 hb1
  by_cases hn0 : n < 0
  · have em : Hid (rcutM m n left keep = { m with tleft := 0, keep := [] }) := by show _ = _; unfold rcutM; rw [if_neg (by omega)]
    go_enter Try.func54, Try.ntmps54
    go_wp2_with (rw [hw1])
    refine bodyPost_ret (v := .tuple #[]) (by simp [results, Try.results54, go_sem]) rfl ?_
    refine ⟨rfl, ?_⟩
    rw [em.out]
    refine Did.of (Step.of_fr F1.out (fun i _ hi => ?_)) H1.out
    have := H.out.colour
    rw [hi]
    omega
  · by_cases hn1 : (gs.length : Int) ≤ n
    · have em : Hid (rcutM m n left keep = { m with tleft := 0, keep := [] }) := by show _ = _; unfold rcutM; rw [if_neg (by have := HLEN.out; omega)]
      go_enter Try.func54, Try.ntmps54
      go_wp2_with (rw [hw1])
      refine bodyPost_ret (v := .tuple #[]) (by simp [results, Try.results54, go_sem]) rfl ?_
      refine ⟨rfl, ?_⟩
      rw [em.out]
      refine Did.of (Step.of_fr F1.out (fun i _ hi => ?_)) H1.out
      have := H.out.colour
      rw [hi]
      omega
    · by_cases hl : left < 1
      · have em : Hid (rcutM m n left keep = { m with tleft := 0, keep := [] }) := by show _ = _; unfold rcutM; rw [if_neg (by omega)]
        go_enter Try.func54, Try.ntmps54
        go_wp2_with (rw [hw1])
        refine bodyPost_ret (v := .tuple #[]) (by simp [results, Try.results54, go_sem]) rfl ?_
        refine ⟨rfl, ?_⟩
        rw [em.out]
        refine Did.of (Step.of_fr F1.out (fun i _ hi => ?_)) H1.out
        have := H.out.colour
        rw [hi]
        omega
      · have em : Hid (rcutM m n left keep = { m with treg := n, tleft := left, keep := keep }) := by show _ = _; unfold rcutM; rw [if_pos (by have := HLEN.out; omega)]
        obtain ⟨w2, hw2⟩ : ∃ w2, (w1.setCell ⟨b, 2, none⟩ (.int .i64 n)).setCell ⟨b, 3, none⟩ (.int .i64 left) = w2 := ⟨_, rfl⟩
        have f2 : Fr (fun k => k = b) w1 w2 := by
          rw [← hw2]
          refine Fr.setAt ?_ rfl
          refine Fr.setAt ?_ rfl
          exact Fr.refl _ _
        have hb2 := block_setCell (block_setCell H1.out.head (i := 2) (.int .i64 n)) (i := 3) (.int .i64 left)
        have e2 : ((hdr { m with tleft := 0, keep := [] } (Value.slice Ar gs.length cr) (.slice none 0 0)).setIfInBounds 2 (.int .i64 n)).setIfInBounds 3 (.int .i64 left) = hdr { m with treg := n, tleft := left, keep := [] } (Value.slice Ar gs.length cr) (.slice none 0 0) := rfl
        rw [e2, hw2] at hb2
        have h2 : Lies TR G c w2 b { m with treg := n, tleft := left, keep := [] } (Value.slice Ar gs.length cr) (.slice none 0 0) gs := H1.out.turn f2 hb2 rfl (Kd.R_nil _ _ _ _ _)
        have H2 := Lib.hid h2
        have F2 := Lib.hid (F1.out.trans f2)
        have H0 : Hid (RCRel { m with treg := n, tleft := left, keep := [] } b (Value.slice Ar gs.length cr) keep w2 keep.length (.int .i64 0) w2) := ⟨0, none, 0, ⟨Nat.zero_le _, rfl, by simp, Fr.refl _ _, hb2, Kd.R_nil _ _ _ _ _⟩⟩
        clear f2 h2 e2 hb2
        have hkl : keep.length ≤ 9223372036854775807 := by omega
        go_enter Try.func54, Try.ntmps54
        go_wp2_with (first | rw [hw1] | rw [hw2])
        clear hw1 hw2 hx3 hx4 hf3 hf4 hy0 hy2 hy3 hg2 hg3
        go_loopg [8] keep.length (fun gk v wr => RCRel { m with treg := n, tleft := left, keep := [] } b (Value.slice Ar gs.length cr) keep w2 gk v wr)
        case atStart => exact H0.out
        case round =>
          obtain ⟨j, Aj, cj, hj, rfl, hgj, hfj, hbj, hrj⟩ := hrel
          have HGJ := Lib.hid hgj
          have HFJ := Lib.hid hfj
          have HBJ := Lib.hid hbj
          have HRJ := Lib.hid hrj
          clear hgj hfj hbj hrj H0
          by_cases hjl : j < keep.length
          · have hjI : (j : Int) < (keep.length : Int) := by omega
            have hbw : b < w2.heap.size := heap_lt H2.out.head
            have hKC : ∀ W, Fr (fun i => i = b ∨ w2.heap.size ≤ i) w2 W → Kd.C (Kd.int .u64) W A keep.length keep := fun W hf => by
              exact HC.out W ⟨hf.os.trans F2.out.os, hf.tape.trans F2.out.tape, hf.output.trans F2.out.output, Nat.le_trans F2.out.size hf.size, fun i hi hn => (hf.block i (Nat.lt_of_lt_of_le hi F2.out.size) (fun h => by have h1 := F2.out.size; rcases h with h | h; exact hn h; omega)).trans (F2.out.block i hi hn)⟩
            have hk0 := hKC _ HFJ.out
            obtain ⟨ad, rfl, hxk⟩ := Kd.at_int hk0 (j : Int) (by omega) (by omega)
            obtain ⟨x, hx0⟩ : ∃ x, rd keep (j : Int) = x := ⟨_, rfl⟩
            rw [hx0, Int.toNat_natCast] at hxk
            have hxe : keep[j] = x := by simpa [rd, hjl] using hx0
            have HXE := Lib.hid hxe
            have HKC := Lib.hid hKC
            have hb4 : wr.cell? ⟨b, 4, none⟩ = some (.slice Aj j cj) := cell_of_block HBJ.out 4
            clear hKC hk0 hx0 hxe
            go_wp2_with fail
            refine wp_region_T 13 (HeldK b (.slice Aj j cj) (ad.add j) (.int .u64 x)) (by kernel_rfl) ?_
            have hS0 : HeldK b (.slice Aj j cj) (ad.add j) (.int .u64 x) wr.drew := ⟨hb4, hxk⟩
            refine wpAnyT_take (i := 0) (v := ?mv1) rfl (by kernel_rfl) (by kernel_rfl) (by kernel_rfl) rfl rfl (by kernel_rfl) (by rfl) (fun _ _ _ h => h) (Or.inl ⟨by rfl, ?mh1⟩) (by assumption) ?mr1
            case mh1 => intro w hSw; (try have hSw1 := hSw.1); (try have hSw2 := hSw.2); go_simp; try with_reducible rfl
            (try simp only [Act.put]); (try simp only [List.getElem_toArray, List.getElem_cons_zero, List.getElem_cons_succ]); (try simp only [List.setIfInBounds_toArray]); (try simp only [List.set_cons_zero, List.set_cons_succ])
            refine wpAnyT_take (i := 1) (v := ?mv2) rfl (by kernel_rfl) (by kernel_rfl) (by kernel_rfl) rfl rfl (by kernel_rfl) (by rfl) (fun _ _ _ h => h) (Or.inl ⟨by rfl, ?mh2⟩) (by assumption) ?mr2
            case mh2 => intro w hSw; (try have hSw1 := hSw.1); (try have hSw2 := hSw.2); go_simp; try with_reducible rfl
            (try simp only [Act.put]); (try simp only [List.getElem_toArray, List.getElem_cons_zero, List.getElem_cons_succ]); (try simp only [List.setIfInBounds_toArray]); (try simp only [List.set_cons_zero, List.set_cons_succ])
            refine wpAnyT_take (i := 2) (v := ?mv3) rfl (by kernel_rfl) (by kernel_rfl) (by kernel_rfl) rfl rfl (by kernel_rfl) (by rfl) (fun _ _ _ h => h) (Or.inl ⟨by rfl, ?mh3⟩) (by assumption) ?mr3
            case mh3 => intro w hSw; (try have hSw1 := hSw.1); (try have hSw2 := hSw.2); go_simp; try with_reducible rfl
            (try simp only [Act.put]); (try simp only [List.getElem_toArray, List.getElem_cons_zero, List.getElem_cons_succ]); (try simp only [List.setIfInBounds_toArray]); (try simp only [List.set_cons_zero, List.set_cons_succ])
            refine wpAnyT_take (i := 3) (v := ?mv4) rfl (by kernel_rfl) (by kernel_rfl) (by kernel_rfl) rfl rfl (by kernel_rfl) (by rfl) (fun _ _ _ h => h) (Or.inl ⟨by rfl, ?mh4⟩) (by assumption) ?mr4
            case mh4 => intro w hSw; (try have hSw1 := hSw.1); (try have hSw2 := hSw.2); go_simp; try with_reducible rfl
            (try simp only [Act.put]); (try simp only [List.getElem_toArray, List.getElem_cons_zero, List.getElem_cons_succ]); (try simp only [List.setIfInBounds_toArray]); (try simp only [List.set_cons_zero, List.set_cons_succ])
            refine wpAnyT_take (i := 4) (v := ?mv5) rfl (by kernel_rfl) (by kernel_rfl) (by kernel_rfl) rfl rfl (by kernel_rfl) (by rfl) (fun _ _ _ h => h) (Or.inl ⟨by rfl, ?mh5⟩) (by assumption) ?mr5
            case mh5 => intro w hSw; (try have hSw1 := hSw.1); (try have hSw2 := hSw.2); go_simp; try with_reducible rfl
            (try simp only [Act.put]); (try simp only [List.getElem_toArray, List.getElem_cons_zero, List.getElem_cons_succ]); (try simp only [List.setIfInBounds_toArray]); (try simp only [List.set_cons_zero, List.set_cons_succ])
            refine wpAnyT_take (i := 5) (v := ?mv6) rfl (by kernel_rfl) (by kernel_rfl) (by kernel_rfl) rfl rfl (by kernel_rfl) (by rfl) (fun _ _ _ h => h) (Or.inl ⟨by rfl, ?mh6⟩) (by assumption) ?mr6
            case mh6 => intro w hSw; (try have hSw1 := hSw.1); (try have hSw2 := hSw.2); go_simp; try with_reducible rfl
            (try simp only [Act.put]); (try simp only [List.getElem_toArray, List.getElem_cons_zero, List.getElem_cons_succ]); (try simp only [List.setIfInBounds_toArray]); (try simp only [List.set_cons_zero, List.set_cons_succ])
            refine wpAnyT_take (i := 6) (v := ?mv7) rfl (by kernel_rfl) (by kernel_rfl) (by kernel_rfl) rfl rfl (by kernel_rfl) (by rfl) (fun _ _ _ h => h) (Or.inl ⟨by rfl, ?mh7⟩) (by assumption) ?mr7
            case mh7 => intro w hSw; (try have hSw1 := hSw.1); (try have hSw2 := hSw.2); go_simp; try with_reducible rfl
            (try simp only [Act.put]); (try simp only [List.getElem_toArray, List.getElem_cons_zero, List.getElem_cons_succ]); (try simp only [List.setIfInBounds_toArray]); (try simp only [List.set_cons_zero, List.set_cons_succ])
            refine wpAnyT_take (i := 7) (v := ?mv8) rfl (by kernel_rfl) (by kernel_rfl) (by kernel_rfl) rfl rfl (by kernel_rfl) (by rfl) (fun _ _ _ h => h) (Or.inl ⟨by rfl, ?mh8⟩) (by assumption) ?mr8
            case mh8 => intro w hSw; (try have hSw1 := hSw.1); (try have hSw2 := hSw.2); go_simp; try with_reducible rfl
            (try simp only [Act.put]); (try simp only [List.getElem_toArray, List.getElem_cons_zero, List.getElem_cons_succ]); (try simp only [List.setIfInBounds_toArray]); (try simp only [List.set_cons_zero, List.set_cons_succ])
            refine wpAnyT_take (i := 8) (v := ?mv9) rfl (by kernel_rfl) (by kernel_rfl) (by kernel_rfl) rfl rfl (by kernel_rfl) (by rfl) (fun _ _ _ h => h) (Or.inl ⟨by rfl, ?mh9⟩) (by assumption) ?mr9
            case mh9 => intro w hSw; (try have hSw1 := hSw.1); (try have hSw2 := hSw.2); go_simp; try with_reducible rfl
            (try simp only [Act.put]); (try simp only [List.getElem_toArray, List.getElem_cons_zero, List.getElem_cons_succ]); (try simp only [List.setIfInBounds_toArray]); (try simp only [List.set_cons_zero, List.set_cons_succ])
            refine wpAnyT_one (j := 9) rfl (by kernel_rfl) (fun K hK => ?_)
            go_simp
            have hS1 : HeldK b (.slice Aj j cj) (ad.add j) (.int .u64 x) (wr.drew.alloc (.cells #[.int .u64 x] 59)) := ⟨alloc_cell_keep hb4 _, alloc_cell_keep hxk _⟩
            refine hK.out _ _ (fun _ => hS1) ?_
            clear hK K
            (try simp only [Act.put]); (try simp only [List.getElem_toArray, List.getElem_cons_zero, List.getElem_cons_succ]); (try simp only [List.setIfInBounds_toArray]); (try simp only [List.set_cons_zero, List.set_cons_succ])
            refine wpAnyT_one (j := 10) rfl (by kernel_rfl) (fun K hK => ?_)
            have hjt : (keep.take j).length = j := by rw [List.length_take]; omega
            refine Kd.R_append_step (Kd.int .u64) (w0 := wr.drew) (W := wr.drew) 0 rfl (.tmp 48) (.tmp 53) 50 59 (.int .u64 0) 8 rfl Try.underlying50 infoU64 rfl (by decide) (by decide) (.slice Aj j cj) (keep.take j) x [.int .u64 x] (fun i => w2.heap.size ≤ i) (fun _ => False) rfl rfl ?aP (fun _ hk => hk.elim) (fun i hi => Nat.le_trans HFJ.out.size hi) (Kd.R_drew HRJ.out) (Below.refl _ _) (Nat.zero_le _) (by omega) ?_
            case aP => exact rfl
            intro v5 w5 hR5 hB5 hg5 hat5
            obtain ⟨A5, c5, rfl, _, _⟩ := Kd.R_reads hR5
            have hbx := blk_grown (w := wr.drew) HBJ.out hg5 (Kd.R_ne HRJ.out HBJ.out (by decide))
            have hf5 : Fr (fun i => i = b ∨ w2.heap.size ≤ i) wr w5 := (Fr.drew (Fr.refl _ wr)).trans (Fr.of_grown hg5 (fun q hq => .inr (HRJ.out.1 q hq)))
            have hk5 := HKC.out _ (HFJ.out.trans hf5)
            obtain ⟨ad', ea, hx5⟩ := Kd.at_int hk5 (j : Int) (by omega) (by omega)
            obtain rfl : ad = ad' := by simpa using ea
            have hxr : rd keep (j : Int) = x := by simp [rd, hjl, HXE.out]
            rw [hxr, Int.toNat_natCast] at hx5
            have hy4 : w5.cell? ⟨b, 4, none⟩ = some (.slice Aj j cj) := cell_of_block hbx 4
            have hyf : w5.frozen? ⟨b, 4, none⟩ = false := unfrozen_of_block hbx 4
            have hS5 : HeldK b (.slice Aj j cj) (ad.add j) (.int .u64 x) w5 := ⟨hy4, hx5⟩
            have hrl : (keep.take j ++ [x]).length = j + 1 := by simp [hjt]
            have ekt : keep.take j ++ [x] = keep.take (j + 1) := by rw [List.take_succ_eq_append_getElem hjl, HXE.out]
            have hR6 : Kd.R (Kd.int .u64) TR.u64 w5 0 (fun i => w2.heap.size ≤ i) (.slice A5 (j + 1) c5) (keep.take (j + 1)) := by
              rw [hrl, ekt] at hR5
              exact hR5
            rw [hrl] at *
            have hbx6 := block_setCell hbx (i := 4) (.slice A5 (j + 1) c5)
            rw [show (hdr { m with treg := n, tleft := left, keep := keep.take j } (Value.slice Ar gs.length cr) (.slice Aj j cj)).setIfInBounds 4 (.slice A5 (j + 1) c5) = hdr { m with treg := n, tleft := left, keep := keep.take (j + 1) } (Value.slice Ar gs.length cr) (.slice A5 (j + 1) c5) from by simp [hdr]] at hbx6
            have hR7 := Kd.R_set hR6 hbx (by decide) 4 (.slice A5 (j + 1) c5)
            have hf7 : Fr (fun i => i = b ∨ w2.heap.size ≤ i) w2 (w5.setCell ⟨b, 4, none⟩ (.slice A5 (j + 1) c5)) := by
              refine Fr.setAt ?_ (.inl rfl)
              exact HFJ.out.trans hf5
            have H7 := Lib.hid (⟨by omega, rfl, by have := HGJ.out; omega, hf7, hbx6, hR7⟩ : RCInv { m with treg := n, tleft := left, keep := [] } b (Value.slice Ar gs.length cr) keep w2 (gk - 1) (.int .i64 ((j + 1 : Nat) : Int)) (w5.setCell ⟨b, 4, none⟩ (.slice A5 (j + 1) c5)) (j + 1) A5 c5)
            clear hR5 hB5 hg5 hat5 hbx hf5 hk5 ea hx5 hxr hrl ekt hR6 hbx6 hR7 hf7 HKC HXE
            refine hK.out _ _ (fun _ => hS5) ?_
            clear hK K
            (try simp only [Act.put]); (try simp only [List.getElem_toArray, List.getElem_cons_zero, List.getElem_cons_succ]); (try simp only [List.setIfInBounds_toArray]); (try simp only [List.set_cons_zero, List.set_cons_succ])
            refine wpAnyT_one (j := 11) rfl (by kernel_rfl) (fun K hK => ?_)
            go_simp
            refine hK.out _ _ (fun _ => hS5) ?_
            clear hK K
            (try simp only [Act.put]); (try simp only [List.getElem_toArray, List.getElem_cons_zero, List.getElem_cons_succ]); (try simp only [List.setIfInBounds_toArray]); (try simp only [List.set_cons_zero, List.set_cons_succ])
            refine wpAnyT_one (j := 12) rfl (by kernel_rfl) (fun K hK => ?_)
            go_simp
            refine hK.out _ _ (fun _ => hS5) ?_
            clear hK K
            (try simp only [Act.put]); (try simp only [List.getElem_toArray, List.getElem_cons_zero, List.getElem_cons_succ]); (try simp only [List.setIfInBounds_toArray]); (try simp only [List.set_cons_zero, List.set_cons_succ])
            refine wpAnyT_one (j := 13) rfl (by kernel_rfl) (fun K hK => ?_)
            go_simp
            refine hK.out _ _ (fun _ => past_t ‹_›) ?_
            clear hK K
            (try simp only [Act.put]); (try simp only [List.getElem_toArray, List.getElem_cons_zero, List.getElem_cons_succ]); (try simp only [List.setIfInBounds_toArray]); (try simp only [List.set_cons_zero, List.set_cons_succ])
            refine wpAnyT_done (by kernel_rfl) ?_ _
            clear hS0 hS1 hS5 hy4 hyf hb4 hxk
            go_wp2_with fail
            go_roundg (gk - 1)
            case measure => have := HGJ.out; omega
            case rel => exact ⟨j + 1, _, _, H7.out⟩
          · obtain rfl : j = keep.length := by omega
            go_wp2_with fail
            refine bodyPost_end (v := .tuple #[]) (by simp [results, Try.results54, go_sem]) rfl ?_
            refine ⟨rfl, ?_⟩
            rw [em.out]
            have hh := HBJ.out
            have hr := HRJ.out
            rw [List.take_of_length_le (Nat.le_refl _)] at hh hr
            have H2e := H2.out.recolour (G' := ext G w2.heap.size (c + 2)) (fun i hi => ext_old hi)
            have fe : Fr (fun i => i = b) w2 wr := Fr.old HFJ.out
            have h4 := H2e.turn (m' := { m with treg := n, tleft := left, keep := keep }) fe hh rfl (Kd.R_mono hr (fun i hi => ext_new hi))
            refine Did.of (G' := ext G w2.heap.size (c + 2)) ((Step.of_fr F2.out (fun i _ hi => ?_)).trans (Step.of_ext fe (fun i _ hi => ?_))) h4
            · have := H.out.colour
              rw [hi]
              omega
            · have := H.out.colour
              rw [hi]
              omega

end Go.Proofs.Ytekpbpcfeopilaa.Rh
