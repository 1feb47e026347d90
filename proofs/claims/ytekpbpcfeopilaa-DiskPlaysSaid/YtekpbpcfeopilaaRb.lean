/- The document's disk: New. -/
import Derived.Test.YtekpbpcfeopilaaRa
namespace Go.Proofs.Ytekpbpcfeopilaa.Rb
open Go Go.RowKit Go.Joins Go.Proofs.YtekpbpcfeopilaaCore Go.Proofs.Ytekpbpcfeopilaa.Dm Go.Proofs.Ytekpbpcfeopilaa.Dr Go.Proofs.Ytekpbpcfeopilaa.Da Go.Proofs.Ytekpbpcfeopilaa.Df Go.Proofs.Ytekpbpcfeopilaa.Dg Go.Proofs.Ytekpbpcfeopilaa.Dh Go.Proofs.Ytekpbpcfeopilaa.Di Go.Proofs.Ytekpbpcfeopilaa.Dj Go.Proofs.Ytekpbpcfeopilaa.Dk Go.Proofs.Ytekpbpcfeopilaa.Dl Go.Proofs.Ytekpbpcfeopilaa.Dn Go.Proofs.Ytekpbpcfeopilaa.Dp Go.Proofs.Ytekpbpcfeopilaa.Dq Go.Proofs.Ytekpbpcfeopilaa.Ds Go.Proofs.Ytekpbpcfeopilaa.Dt Go.Proofs.Ytekpbpcfeopilaa.Du Go.Proofs.Ytekpbpcfeopilaa.Dv Go.Proofs.Ytekpbpcfeopilaa.Dw Go.Proofs.Ytekpbpcfeopilaa.Sys Go.Proofs.Ytekpbpcfeopilaa.Ra Go.Proofs.YtekpbpcfeopilaaW.PrintWords Go.Proofs.YtekpbpcfeopilaaW.PrintLast Go.Proofs.YtekpbpcfeopilaaW.PrintMore

/-- One region more. -/
theorem add_lies {T : Tys} (hT : T.preg ≠ T.disk) {G' : Nat → Nat} {c : Nat} {wr w8 w10 : World} {B g cr c10 n : Nat} {Ar A10 : Option Addr} {gs : List Nat} {regs : List MReg} {r : MReg} (HL : Lies T G' c wr B ⟨regs, false, 0, 0, []⟩ (.slice Ar gs.length cr) (.slice none 0 0) gs)
    (hb : Below wr.heap.size wr w8) (hreg : RegAt T (fun j => wr.heap.size ≤ j) w8 g r) (hg10 : w8.grownBy w10 (Value.slice Ar gs.length cr).ownBlock) (hR10 : ptrK.R T.preg w10 0 (fun i => (G' i = c + 1 ∧ i < wr.heap.size) ∨ w8.heap.size ≤ i) (.slice A10 n c10) (gs ++ [g])) :
    Fr (fun j => j = B ∨ some j = (Value.slice Ar gs.length cr).ownBlock) wr (w10.setCell ⟨B, 0, none⟩ (.slice A10 n c10)) ∧
    Lies T (fun j => if j < wr.heap.size then G' j else if j < w8.heap.size then c + 3 + regs.length else c + 1) c (w10.setCell ⟨B, 0, none⟩ (.slice A10 n c10)) B ⟨regs ++ [r], false, 0, 0, []⟩ (.slice A10 n c10) (.slice none 0 0) (gs ++ [g]) := by
  obtain ⟨G2, hG2⟩ : ∃ G2 : Nat → Nat, (fun j => if j < wr.heap.size then G' j else if j < w8.heap.size then c + 3 + regs.length else c + 1) = G2 := ⟨_, rfl⟩
  have g1 : ∀ j, j < wr.heap.size → G2 j = G' j := fun j hj => by rw [← hG2]; exact if_pos hj
  have g2 : ∀ j, wr.heap.size ≤ j → j < w8.heap.size → G2 j = c + 3 + regs.length := fun j hj hj2 => by rw [← hG2]; show (if _ then _ else _) = _; rw [if_neg (by omega), if_pos hj2]
  have g3 : ∀ j, w8.heap.size ≤ j → G2 j = c + 1 := fun j hj => by rw [← hG2]; show (if _ then _ else _) = _; rw [if_neg (by have := hb.size; omega), if_neg (by omega)]
  rw [hG2]
  clear hG2
  have hBl : B < wr.heap.size := heap_lt HL.head
  have hown : ∀ q, (Value.slice Ar gs.length cr).ownBlock = some q → G' q = c + 1 ∧ q < wr.heap.size := fun q hq => ⟨HL.row.1 q hq, Kd.R_lt HL.row q hq⟩
  have hBne : some B ≠ (Value.slice Ar gs.length cr).ownBlock := fun e => by have h1 := (hown B e.symm).1; have h2 := HL.colour; omega
  have f1 : Fr (fun j => some j = (Value.slice Ar gs.length cr).ownBlock) wr w10 := (Fr.of_below hb).trans (Fr.of_grown hg10 (fun q hq => hq.symm))
  have f2 : Fr (fun j => j = B ∨ some j = (Value.slice Ar gs.length cr).ownBlock) wr (w10.setCell ⟨B, 0, none⟩ (.slice A10 n c10)) := Fr.setAt (f1.mono (fun j hj => .inr hj)) (.inl rfl)
  have hh10 : w10.heap[B]? = some (.cells (hdr ⟨regs, false, 0, 0, []⟩ (.slice Ar gs.length cr) (.slice none 0 0)) T.disk (0, 0)) := f1.at_ HL.head hBne
  have hh11 := block_setCell hh10 (i := 0) (.slice A10 n c10)
  have e11 : (hdr ⟨regs, false, 0, 0, []⟩ (.slice Ar gs.length cr) (.slice none 0 0)).setIfInBounds 0 (.slice A10 n c10) = hdr ⟨regs ++ [r], false, 0, 0, []⟩ (.slice A10 n c10) (.slice none 0 0) := by simp [hdr]
  rw [e11] at hh11
  have f3 : Fr (fun j => j < wr.heap.size) w8 (w10.setCell ⟨B, 0, none⟩ (.slice A10 n c10)) := Fr.setAt (Fr.of_grown hg10 (fun q hq => (hown q hq).2)) hBl
  refine ⟨f2, ?_⟩
  constructor
  · exact hh11
  · rw [g1 B hBl]; exact HL.colour
  · have h := Kd.R_set hR10 hh10 (by
      intro q hq
      have : q = T.preg := by simpa [ptrK, Kd.scalar] using hq
      rw [this]
      exact hT) 0 (.slice A10 n c10)
    exact Kd.R_mono h (fun i hi => by
      rcases hi with hi | hi
      · rw [g1 i hi.2]; exact hi.1
      · exact g3 i hi)
  · exact Kd.R_nil _ _ _ _ _
  · have := HL.len
    simp at this ⊢
    exact this
  · intro i hi
    have hlen := HL.len
    simp only at hlen
    by_cases hik : i < regs.length
    · obtain ⟨g0, hg, hr⟩ := HL.regs i hik
      refine ⟨g0, by rw [List.getElem?_append_left (by omega)]; exact hg, ?_⟩
      have er : (regs ++ [r])[i] = regs[i] := by simp [hik]
      simp only [er]
      have hr2 := (hr.mono (ok' := fun j => G' j = c + 3 + i ∧ j < wr.heap.size) (fun j hj ho => ⟨ho, hj⟩)).fr f2 (fun j hj _ hs => by
        rcases hs with hs | hs
        · have h1 := hj.1; rw [hs, HL.colour] at h1; omega
        · have h1 := (hown j hs.symm).1; omega)
      exact hr2.mono (fun j _ hj => by rw [g1 j hj.2]; exact hj.1)
    · have hil : i < regs.length + 1 := by simpa using hi
      obtain rfl : i = regs.length := by omega
      refine ⟨g, by rw [← hlen]; simp, ?_⟩
      have er : (regs ++ [r])[regs.length] = r := by simp
      simp only [er]
      have h8 := (hreg.mono (ok' := fun j => wr.heap.size ≤ j ∧ j < w8.heap.size) (fun j hj ho => ⟨ho, hj⟩)).fr f3 (fun j hj _ hs => by omega)
      exact h8.mono (fun j _ hj => g2 j hj.1 hj.2)

theorem RegAt.mk_of {w : World} {B N c : Nat} {A : Option Addr} (hb : w.heap[B]? = some (.cells #[.slice A N c, .slice none 0 0] TR.reg (0, 0))) (hr : Kd.string.R TR.str w B (fun _ => True) (.slice A N c) (List.replicate N noneS)) : RegAt TR (fun j => B ≤ j) w B ⟨List.replicate N noneS, []⟩ :=
  ⟨Nat.le_refl _, _, _, hb, Kd.R_lower (Kd.R_mono (Kd.R_bound hr) (fun _ hj => hj.2.1)) (Nat.zero_le _), Kd.R_nil _ _ _ _ _⟩
theorem infoRPreg : (Try.prog.info? 88).map (fun i => (i.zero, i.size, i.bytes)) = some (some (.pointer none), 1, 8) := by kernel_rfl

structure RiInv (wr : World) (g N : Nat) (gk : Nat) (v : Value) (wi : World) (j : Nat) (A : Option Addr) (c : Nat) : Prop where
  hi : j ≤ N
  slot : v = .int .i64 j
  ghost : gk + j = N
  box : wi.heap[g]? = some (.cells #[.slice A j c, .slice none 0 0] TR.reg (0, 0))
  row : Kd.string.R TR.str wi wr.heap.size (fun _ => True) (.slice A j c) (List.replicate j noneS)
  bel : Below wr.heap.size wr wi
def RiRel (wr : World) (g N : Nat) (gk : Nat) (v : Value) (wi : World) : Prop := ∃ j A c, RiInv wr g N gk v wi j A c

structure RNInv (G : Nat → Nat) (c : Nat) (l : List Int) (w : World) (gk : Nat) (v : Value) (wr : World) (k : Nat) (G' : Nat → Nat) (rv : Value) (gs : List Nat) : Prop where
  hi : k ≤ min l.length 8
  slot : v = .int .i64 k
  ghost : gk + k = min l.length 8
  old : ∀ j, j < w.heap.size → G' j = G j
  lies : Lies TR G' c wr w.heap.size ⟨(l.take k).map newR, false, 0, 0, []⟩ rv (.slice none 0 0) gs
  bel : Below w.heap.size w wr
  fresh : ∀ q, rv.ownBlock = some q → w.heap.size ≤ q
def RNRel (G : Nat → Nat) (c : Nat) (l : List Int) (w : World) (gk : Nat) (v : Value) (wr : World) : Prop := ∃ k G' rv gs, RNInv G c l w gk v wr k G' rv gs

set_option maxHeartbeats 4000000 in
set_option maxRecDepth 100000 in
theorem rnew_any (G : Nat → Nat) (c : Nat) (A : Option Addr) (cc : Nat) (l : List Int) (w : World) (hC : Kd.C (Kd.int .i64) w A l.length l) :
    Calls Try.prog 20 #[.slice A l.length cc] w fun e w' => e = .returned (.pointer (some ⟨w.heap.size, 0, none⟩)) ∧ Below w.heap.size w w' ∧ ∃ G', (∀ j, j < w.heap.size → G' j = G j) ∧ DiskAt TR G' c w' w.heap.size (newM l) := by
  have HC := Lib.hid hC
  clear hC
  have hmx := HC.out.2.1
  obtain ⟨w1, hw1⟩ : ∃ w1, w.alloc (.cells #[.slice none 0 0, .bool false, .int .i64 0, .int .i64 0, .slice none 0 0] 87) = w1 := ⟨_, rfl⟩
  have hb1 : Below w.heap.size w w1 := by rw [← hw1]; exact (Below.refl _ _).alloc (Nat.le_refl _) _
  have hh1 : w1.heap[w.heap.size]? = some (.cells (hdr ⟨[], false, 0, 0, []⟩ (.slice none 0 0) (.slice none 0 0)) TR.disk (0, 0)) := by rw [← hw1, heap_alloc_new]; rfl
  have h1 : Lies TR (ext G w.heap.size c) c w1 w.heap.size ⟨[], false, 0, 0, []⟩ (.slice none 0 0) (.slice none 0 0) [] := ⟨hh1, ext_new (Nat.le_refl _), Kd.R_nil _ _ _ _ _, Kd.R_nil _ _ _ _ _, rfl, fun i hi => by simp at hi⟩
  have H1 := Lib.hid h1
  have HB1 := Lib.hid hb1
  clear h1 hh1 hb1
  obtain ⟨M, hM⟩ : ∃ M, min l.length 8 = M := ⟨_, rfl⟩
  have HM := Lib.hid hM
  have hM8 : M ≤ 8 := by omega
  have hMl : M ≤ l.length := by omega
  clear hM
  go_enter Try.func20, Try.ntmps20
  go_wp2_with (rw [hw1])
  go_loopg [4] M (fun gk v wr => RNRel G c l w gk v wr)
  case atStart => exact ⟨0, _, _, _, ⟨Nat.zero_le _, rfl, by have := HM.out; omega, fun j hj => ext_old hj, H1.out, HB1.out, fun q hq => by cases hq⟩⟩
  case round =>
    obtain ⟨k, G', rv, gs, hk, rfl, hgk, hold, hlies, hbel, hfresh⟩ := hrel
    obtain ⟨wo, rfl⟩ : ∃ wo : World, wo = wr := ⟨_, rfl⟩
    obtain ⟨gO, rfl⟩ : ∃ gO : Nat, gO = gk := ⟨_, rfl⟩
    obtain ⟨Ar, cr, rfl, _, _⟩ := Kd.R_reads hlies.row
    have hkM : k ≤ M := by rw [HM.out] at hk; exact hk
    have HG := Lib.hid hgk
    have HO := Lib.hid hold
    have HL := Lib.hid hlies
    have HB := Lib.hid hbel
    have HFR := Lib.hid hfresh
    clear hk hgk hold hlies hbel hfresh H1 HB1 hw1
    by_cases hlt : k < M
    · have hk1 : (k : Int) < (l.length : Int) := by omega
      have hk8 : (k : Int) < 8 := by omega
      obtain ⟨ad, rfl, hx⟩ := Kd.at_int (Kd.C_below HC.out HB.out) (k : Int) (by omega) (by omega)
      obtain ⟨x, hx0⟩ : ∃ x, rd l (k : Int) = x := ⟨_, rfl⟩
      rw [hx0, Int.toNat_natCast] at hx
      have HX := Lib.hid hx0
      clear hx0
      obtain ⟨w2, hw2⟩ : ∃ w2, wo.alloc (.cells #[.slice none 0 0, .slice none 0 0] 91) = w2 := ⟨_, rfl⟩
      have hb2 : Below wo.heap.size wo w2 := by rw [← hw2]; exact (Below.refl _ _).alloc (Nat.le_refl _) _
      have hg2 : w2.heap[wo.heap.size]? = some (.cells #[.slice none 0 0, .slice none 0 0] TR.reg (0, 0)) := by rw [← hw2]; exact heap_alloc_new _ _
      have HG2 : Hid (w2.heap[wo.heap.size]? = some (.cells #[.slice none 0 0, .slice none 0 0] TR.reg (0, 0))) := hg2
      have HB2 := Lib.hid hb2
      have hgB : w.heap.size < wo.heap.size := heap_lt HL.out.head
      clear hb2 hg2
      by_cases hxb : 4096 < x
      · have hxb2 : decide (4096 < x) = true := by simpa using hxb
        go_wp2_with (rw [hw2])
        refine (rnone_any _).mono ?_
        rintro e w3 ⟨rfl, hb3⟩
        have HB3 := Lib.hid (HB2.out.trans (hb3.mono HB2.out.size))
        have HG3 := Lib.hid (blk_below HG2.out hb3)
        clear hb3
        go_wp2_with fail
        go_loopg [8] (clampN x) (fun gk v wi => RiRel wo wo.heap.size (clampN x) gk v wi)
        case atStart => exact ⟨0, none, 0, ⟨Nat.zero_le _, rfl, rfl, HG3.out, Kd.R_nil _ _ _ _ _, HB3.out⟩⟩
        case round =>
          obtain ⟨j, Aj, cj, hj, rfl, hgj, hbox, hrow, hbelj⟩ := hrel
          have HGJ := Lib.hid hgj
          have HBX := Lib.hid hbox
          have HRW := Lib.hid hrow
          have HBJ := Lib.hid hbelj
          clear hgj hbox hrow hbelj HB3 HG3
          by_cases hjl : j < clampN x
          · have hjI : (j : Int) < 4096 := by unfold clampN at hjl; omega
            have hj4 : j < 4096 := by unfold clampN at hjl; omega
            have hy0 : World.cell? _ ⟨wo.heap.size, 0, none⟩ = some (.slice Aj j cj) := cell_of_block HBX.out 0
            go_wp2_with (at_builtin; refine Kd.R_append Kd.string (w0 := wo) wo.heap.size rfl (.tmp 39) (.tmp 41) 35 9 (.string ⟨#[]⟩) 16 rfl Try.underlying35 infoStr rfl (by decide) (by decide) (.slice Aj j cj) (List.replicate j noneS) noneS [.string noneS] (fun _ => True) (fun _ => False) rfl rfl ?aP (fun _ hk => hk.elim) (fun _ _ => trivial) HRW.out HBJ.out HBJ.out.size ?aL ?_; go_loud ((case aP => exact rfl); (case aL => rw [List.length_replicate]; omega); intro v5 w5 hR5 hB5 hg5 hat5; obtain ⟨A5, c5, rfl, _, _⟩ := Kd.R_reads hR5; have HR5 := Lib.hid hR5; have HB5 := Lib.hid hB5; have HBX5 := Lib.hid (blk_grown HBX.out hg5 (Kd.R_ne HRW.out HBX.out (by decide))); have hy5 : w5.cell? ⟨wo.heap.size, 0, none⟩ = some (.slice Aj j cj) := cell_of_block HBX5.out 0; have hyf : w5.frozen? ⟨wo.heap.size, 0, none⟩ = false := unfrozen_of_block HBX5.out 0; clear hR5 hB5 hg5 hat5))
            have hrl : (List.replicate j noneS ++ [noneS]).length = j + 1 := by simp
            have hR6 : Kd.string.R TR.str w5 wo.heap.size (fun _ => True) (.slice A5 (j + 1) c5) (List.replicate (j + 1) noneS) := by
              have h := HR5.out
              rw [hrl, show List.replicate j noneS ++ [noneS] = List.replicate (j + 1) noneS from by rw [List.replicate_succ']] at h
              exact h
            have hbx6 := block_setCell HBX5.out (i := 0) (.slice A5 (j + 1) c5)
            rw [show (#[Value.slice Aj j cj, Value.slice none 0 0] : Array Value).setIfInBounds 0 (.slice A5 (j + 1) c5) = #[.slice A5 (j + 1) c5, .slice none 0 0] from by simp] at hbx6
            have hR7 := Kd.R_set hR6 HBX5.out (by decide) 0 (.slice A5 (j + 1) c5)
            have hB7 : Below wo.heap.size wo (w5.setCell ⟨wo.heap.size, 0, none⟩ (.slice A5 (j + 1) c5)) := HB5.out.setCell (by show wo.heap.size ≤ wo.heap.size; exact Nat.le_refl _) _
            have HR7 := Lib.hid hR7
            have HBX7 := Lib.hid hbx6
            have HB7 := Lib.hid hB7
            clear hrl hR6 hbx6 hR7 hB7 hy0 hy5 hyf
            go_wp2_with fail
            go_roundg (gk - 1)
            case measure => have := HGJ.out; omega
            case rel => exact ⟨j + 1, _, _, ⟨by omega, by go_num, by have := HGJ.out; omega, HBX7.out, HR7.out, HB7.out⟩⟩
          · obtain rfl : j = clampN x := by omega
            have hjN : ¬ ((clampN x : Nat) : Int) < 4096 := by unfold clampN; omega
            have hB0 : World.cell? _ ⟨w.heap.size, 0, none⟩ = some (.slice Ar gs.length cr) := pw_cell_below HBJ.out (cell_of_block HL.out.head 0)
            have hreg := RegAt.mk_of HBX.out HRW.out
            have HREG := Lib.hid hreg
            have hown : ∀ q, (Value.slice Ar gs.length cr).ownBlock = some q → G' q = c + 1 := fun q hq => HL.out.row.1 q hq
            have HOWN := Lib.hid hown
            have HROW := Lib.hid (Kd.R_below (Kd.R_mono (Kd.R_bound HL.out.row) (ok' := fun i => (G' i = c + 1 ∧ i < wo.heap.size) ∨ wr.heap.size ≤ i) (fun i hi => .inl ⟨hi.1, hi.2.2.1⟩)) HBJ.out)
            have hgl : gs.length < 8 := by have h1 := HL.out.len; simp at h1; omega
            clear hreg hown
            go_wp2_with (at_builtin; refine Kd.R_append ptrK (w0 := wr) 0 rfl (.tmp 49) (.tmp 51) 85 88 (.pointer none) 8 rfl Try.underlying85 infoRPreg rfl (by decide) (by decide) (.slice Ar gs.length cr) gs wo.heap.size [.pointer (some ⟨wo.heap.size, 0, none⟩)] (fun i => (G' i = c + 1 ∧ i < wo.heap.size) ∨ wr.heap.size ≤ i) (fun _ => False) rfl rfl ?cP (fun _ hk => hk.elim) (fun i hi => .inr hi) HROW.out (Below.refl _ _) (Nat.zero_le _) ?cL ?_; (case cP => exact rfl); (case cL => omega); intro v10 w10 hR10 hB10 hg10 hat10; obtain ⟨A10, c10, rfl, _, _⟩ := Kd.R_reads hR10; have HR10 := Lib.hid hR10; have HG10 := Lib.hid hg10; have HAT := Lib.hid hat10; have hh10 : w10.heap[w.heap.size]? = some (.cells (hdr ⟨(l.take k).map newR, false, 0, 0, []⟩ (.slice Ar gs.length cr) (.slice none 0 0)) TR.disk (0, 0)) := ((hg10.block w.heap.size (by have := HBJ.out.size; omega) (fun e => by have h1 := HOWN.out _ e.symm; have h2 := HL.out.colour; omega)).trans ((HBJ.out.block w.heap.size hgB).trans HL.out.head)); have hz0 : w10.cell? ⟨w.heap.size, 0, none⟩ = some (.slice Ar gs.length cr) := cell_of_block hh10 0; have hzf : w10.frozen? ⟨w.heap.size, 0, none⟩ = false := unfrozen_of_block hh10 0; clear hR10 hB10 hg10 hat10 hh10)
            have hnl := add_lies (T := TR) (by decide) HL.out HBJ.out HREG.out HG10.out HR10.out
            rw [List.length_append, List.length_singleton] at hnl
            have HNL := Lib.hid hnl
            have hglk : gs.length = k := by have h1 := HL.out.len; simp at h1; omega
            have HGLK := Lib.hid hglk
            clear hnl hglk hB0 hz0 hzf
            go_wp2_with fail
            go_roundg (gO - 1)
            case measure => have := HG.out; omega
            case rel =>
              have hl := HNL.out.2
              have e : (l.take (k + 1)).map newR = (l.take k).map newR ++ [⟨List.replicate (clampN x) noneS, []⟩] := by
                rw [List.take_succ_eq_append_getElem (by omega), List.map_append]
                have ex : l[k] = x := by have := HX.out; simp [rd, show k < l.length by omega] at this; exact this
                simp only [List.map_cons, List.map_nil, ex]
                rfl
              rw [← e] at hl
              have hbn := HNL.out.1.below (B := w.heap.size) (by omega) (fun j hj hs => by
                rcases hs with hs | hs
                · omega
                · have := HFR.out j hs.symm
                  omega)
              refine ⟨k + 1, _, _, _, ⟨by rw [HM.out]; omega, by go_num, by have := HG.out; omega, fun j hj => (show (if j < wo.heap.size then G' j else _) = _ from by rw [if_pos (by omega)]; exact HO.out j hj), hl, HB.out.trans hbn, fun q hq => ?_⟩⟩
              rcases HAT.out with h | ⟨b2, h, hb2⟩
              · exact HFR.out q (h.symm.trans ((show (Value.slice A10 (gs ++ [wo.heap.size]).length c10).ownBlock = _ from by rw [List.length_append, List.length_singleton]).trans hq))
              · have hq2 := h.symm.trans ((show (Value.slice A10 (gs ++ [wo.heap.size]).length c10).ownBlock = _ from by rw [List.length_append, List.length_singleton]).trans hq)
                injection hq2 with hq2
                have := HBJ.out.size
                omega
      · have hxb2 : decide (4096 < x) = false := by simpa using hxb
        go_wp2_with (rw [hw2])
        refine (rnone_any _).mono ?_
        rintro e w3 ⟨rfl, hb3⟩
        have HB3 := Lib.hid (HB2.out.trans (hb3.mono HB2.out.size))
        have HG3 := Lib.hid (blk_below HG2.out hb3)
        clear hb3
        go_wp2_with fail
        go_loopg [8] (clampN x) (fun gk v wi => RiRel wo wo.heap.size (clampN x) gk v wi)
        case atStart => exact ⟨0, none, 0, ⟨Nat.zero_le _, rfl, rfl, HG3.out, Kd.R_nil _ _ _ _ _, HB3.out⟩⟩
        case round =>
          obtain ⟨j, Aj, cj, hj, rfl, hgj, hbox, hrow, hbelj⟩ := hrel
          have HGJ := Lib.hid hgj
          have HBX := Lib.hid hbox
          have HRW := Lib.hid hrow
          have HBJ := Lib.hid hbelj
          clear hgj hbox hrow hbelj HB3 HG3
          by_cases hjl : j < clampN x
          · have hjI : (j : Int) < x := by unfold clampN at hjl; omega
            have hj4 : j < 4096 := by unfold clampN at hjl; omega
            have hy0 : World.cell? _ ⟨wo.heap.size, 0, none⟩ = some (.slice Aj j cj) := cell_of_block HBX.out 0
            go_wp2_with (at_builtin; refine Kd.R_append Kd.string (w0 := wo) wo.heap.size rfl (.tmp 39) (.tmp 41) 35 9 (.string ⟨#[]⟩) 16 rfl Try.underlying35 infoStr rfl (by decide) (by decide) (.slice Aj j cj) (List.replicate j noneS) noneS [.string noneS] (fun _ => True) (fun _ => False) rfl rfl ?bP (fun _ hk => hk.elim) (fun _ _ => trivial) HRW.out HBJ.out HBJ.out.size ?bL ?_; (case bP => exact rfl); (case bL => rw [List.length_replicate]; omega); intro v5 w5 hR5 hB5 hg5 hat5; obtain ⟨A5, c5, rfl, _, _⟩ := Kd.R_reads hR5; have HR5 := Lib.hid hR5; have HB5 := Lib.hid hB5; have HBX5 := Lib.hid (blk_grown HBX.out hg5 (Kd.R_ne HRW.out HBX.out (by decide))); have hy5 : w5.cell? ⟨wo.heap.size, 0, none⟩ = some (.slice Aj j cj) := cell_of_block HBX5.out 0; have hyf : w5.frozen? ⟨wo.heap.size, 0, none⟩ = false := unfrozen_of_block HBX5.out 0; clear hR5 hB5 hg5 hat5)
            have hrl : (List.replicate j noneS ++ [noneS]).length = j + 1 := by simp
            have hR6 : Kd.string.R TR.str w5 wo.heap.size (fun _ => True) (.slice A5 (j + 1) c5) (List.replicate (j + 1) noneS) := by
              have h := HR5.out
              rw [hrl, show List.replicate j noneS ++ [noneS] = List.replicate (j + 1) noneS from by rw [List.replicate_succ']] at h
              exact h
            have hbx6 := block_setCell HBX5.out (i := 0) (.slice A5 (j + 1) c5)
            rw [show (#[Value.slice Aj j cj, Value.slice none 0 0] : Array Value).setIfInBounds 0 (.slice A5 (j + 1) c5) = #[.slice A5 (j + 1) c5, .slice none 0 0] from by simp] at hbx6
            have hR7 := Kd.R_set hR6 HBX5.out (by decide) 0 (.slice A5 (j + 1) c5)
            have hB7 : Below wo.heap.size wo (w5.setCell ⟨wo.heap.size, 0, none⟩ (.slice A5 (j + 1) c5)) := HB5.out.setCell (by show wo.heap.size ≤ wo.heap.size; exact Nat.le_refl _) _
            have HR7 := Lib.hid hR7
            have HBX7 := Lib.hid hbx6
            have HB7 := Lib.hid hB7
            clear hrl hR6 hbx6 hR7 hB7 hy0 hy5 hyf
            go_wp2_with fail
            go_roundg (gk - 1)
            case measure => have := HGJ.out; omega
            case rel => exact ⟨j + 1, _, _, ⟨by omega, by go_num, by have := HGJ.out; omega, HBX7.out, HR7.out, HB7.out⟩⟩
          · obtain rfl : j = clampN x := by omega
            have hjN : ¬ ((clampN x : Nat) : Int) < x := by unfold clampN; omega
            have hB0 : World.cell? _ ⟨w.heap.size, 0, none⟩ = some (.slice Ar gs.length cr) := pw_cell_below HBJ.out (cell_of_block HL.out.head 0)
            have hreg := RegAt.mk_of HBX.out HRW.out
            have HREG := Lib.hid hreg
            have hown : ∀ q, (Value.slice Ar gs.length cr).ownBlock = some q → G' q = c + 1 := fun q hq => HL.out.row.1 q hq
            have HOWN := Lib.hid hown
            have HROW := Lib.hid (Kd.R_below (Kd.R_mono (Kd.R_bound HL.out.row) (ok' := fun i => (G' i = c + 1 ∧ i < wo.heap.size) ∨ wr.heap.size ≤ i) (fun i hi => .inl ⟨hi.1, hi.2.2.1⟩)) HBJ.out)
            have hgl : gs.length < 8 := by have h1 := HL.out.len; simp at h1; omega
            clear hreg hown
            go_wp2_with (at_builtin; refine Kd.R_append ptrK (w0 := wr) 0 rfl (.tmp 49) (.tmp 51) 85 88 (.pointer none) 8 rfl Try.underlying85 infoRPreg rfl (by decide) (by decide) (.slice Ar gs.length cr) gs wo.heap.size [.pointer (some ⟨wo.heap.size, 0, none⟩)] (fun i => (G' i = c + 1 ∧ i < wo.heap.size) ∨ wr.heap.size ≤ i) (fun _ => False) rfl rfl ?dP (fun _ hk => hk.elim) (fun i hi => .inr hi) HROW.out (Below.refl _ _) (Nat.zero_le _) ?dL ?_; (case dP => exact rfl); (case dL => omega); intro v10 w10 hR10 hB10 hg10 hat10; obtain ⟨A10, c10, rfl, _, _⟩ := Kd.R_reads hR10; have HR10 := Lib.hid hR10; have HG10 := Lib.hid hg10; have HAT := Lib.hid hat10; have hh10 : w10.heap[w.heap.size]? = some (.cells (hdr ⟨(l.take k).map newR, false, 0, 0, []⟩ (.slice Ar gs.length cr) (.slice none 0 0)) TR.disk (0, 0)) := ((hg10.block w.heap.size (by have := HBJ.out.size; omega) (fun e => by have h1 := HOWN.out _ e.symm; have h2 := HL.out.colour; omega)).trans ((HBJ.out.block w.heap.size hgB).trans HL.out.head)); have hz0 : w10.cell? ⟨w.heap.size, 0, none⟩ = some (.slice Ar gs.length cr) := cell_of_block hh10 0; have hzf : w10.frozen? ⟨w.heap.size, 0, none⟩ = false := unfrozen_of_block hh10 0; clear hR10 hB10 hg10 hat10 hh10)
            have hnl := add_lies (T := TR) (by decide) HL.out HBJ.out HREG.out HG10.out HR10.out
            rw [List.length_append, List.length_singleton] at hnl
            have HNL := Lib.hid hnl
            have hglk : gs.length = k := by have h1 := HL.out.len; simp at h1; omega
            have HGLK := Lib.hid hglk
            clear hnl hglk hB0 hz0 hzf
            go_wp2_with fail
            go_roundg (gO - 1)
            case measure => have := HG.out; omega
            case rel =>
              have hl := HNL.out.2
              have e : (l.take (k + 1)).map newR = (l.take k).map newR ++ [⟨List.replicate (clampN x) noneS, []⟩] := by
                rw [List.take_succ_eq_append_getElem (by omega), List.map_append]
                have ex : l[k] = x := by have := HX.out; simp [rd, show k < l.length by omega] at this; exact this
                simp only [List.map_cons, List.map_nil, ex]
                rfl
              rw [← e] at hl
              have hbn := HNL.out.1.below (B := w.heap.size) (by omega) (fun j hj hs => by
                rcases hs with hs | hs
                · omega
                · have := HFR.out j hs.symm
                  omega)
              refine ⟨k + 1, _, _, _, ⟨by rw [HM.out]; omega, by go_num, by have := HG.out; omega, fun j hj => (show (if j < wo.heap.size then G' j else _) = _ from by rw [if_pos (by omega)]; exact HO.out j hj), hl, HB.out.trans hbn, fun q hq => ?_⟩⟩
              rcases HAT.out with h | ⟨b2, h, hb2⟩
              · exact HFR.out q (h.symm.trans ((show (Value.slice A10 (gs ++ [wo.heap.size]).length c10).ownBlock = _ from by rw [List.length_append, List.length_singleton]).trans hq))
              · have hq2 := h.symm.trans ((show (Value.slice A10 (gs ++ [wo.heap.size]).length c10).ownBlock = _ from by rw [List.length_append, List.length_singleton]).trans hq)
                injection hq2 with hq2
                have := HBJ.out.size
                omega
    · obtain rfl : k = M := by omega
      by_cases h8 : (k : Int) < 8
      · have hkl : ¬ (k : Int) < (l.length : Int) := by have := HM.out; omega
        go_wp2_with fail
        refine bodyPost_ret (v := .pointer (some ⟨w.heap.size, 0, none⟩)) (by simp [results, Try.results20, go_sem]) rfl ?_
        refine ⟨rfl, HB.out, G', HO.out, ?_⟩
        have e : newM l = ⟨(l.take k).map newR, false, 0, 0, []⟩ := by
          unfold newM
          by_cases h8 : l.length ≤ 8
          · rw [List.take_of_length_le h8, List.take_of_length_le (by have := HM.out; omega)]
          · have : k = 8 := by have := HM.out; omega
            rw [this]
        rw [e]
        exact ⟨_, _, _, HL.out⟩
      · by_cases hkl : (k : Int) < (l.length : Int)
        · go_wp2_with fail
          refine bodyPost_ret (v := .pointer (some ⟨w.heap.size, 0, none⟩)) (by simp [results, Try.results20, go_sem]) rfl ?_
          refine ⟨rfl, HB.out, G', HO.out, ?_⟩
          have e : newM l = ⟨(l.take k).map newR, false, 0, 0, []⟩ := by
            unfold newM
            by_cases h8 : l.length ≤ 8
            · rw [List.take_of_length_le h8, List.take_of_length_le (by have := HM.out; omega)]
            · have : k = 8 := by have := HM.out; omega
              rw [this]
          rw [e]
          exact ⟨_, _, _, HL.out⟩
        · go_wp2_with fail
          refine bodyPost_ret (v := .pointer (some ⟨w.heap.size, 0, none⟩)) (by simp [results, Try.results20, go_sem]) rfl ?_
          refine ⟨rfl, HB.out, G', HO.out, ?_⟩
          have e : newM l = ⟨(l.take k).map newR, false, 0, 0, []⟩ := by
            unfold newM
            by_cases h8 : l.length ≤ 8
            · rw [List.take_of_length_le h8, List.take_of_length_le (by have := HM.out; omega)]
            · have : k = 8 := by have := HM.out; omega
              rw [this]
          rw [e]
          exact ⟨_, _, _, HL.out⟩

end Go.Proofs.Ytekpbpcfeopilaa.Rb
