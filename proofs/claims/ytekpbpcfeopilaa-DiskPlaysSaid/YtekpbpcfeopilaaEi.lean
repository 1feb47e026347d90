/- DiskPlays: have both the same? -/
import Derived.Test.YtekpbpcfeopilaaEg
namespace Go.Proofs.Ytekpbpcfeopilaa.Ei
open Go Go.RowKit Go.Joins Go.Proofs.YtekpbpcfeopilaaCore Go.Proofs.Ytekpbpcfeopilaa.Dm Go.Proofs.Ytekpbpcfeopilaa.Dr Go.Proofs.Ytekpbpcfeopilaa.Da Go.Proofs.Ytekpbpcfeopilaa.Df Go.Proofs.Ytekpbpcfeopilaa.Dg Go.Proofs.Ytekpbpcfeopilaa.Dh Go.Proofs.Ytekpbpcfeopilaa.Di Go.Proofs.Ytekpbpcfeopilaa.Dj Go.Proofs.Ytekpbpcfeopilaa.Dk Go.Proofs.Ytekpbpcfeopilaa.Dl Go.Proofs.Ytekpbpcfeopilaa.Dn Go.Proofs.Ytekpbpcfeopilaa.Dp Go.Proofs.Ytekpbpcfeopilaa.Dq Go.Proofs.Ytekpbpcfeopilaa.Ds Go.Proofs.Ytekpbpcfeopilaa.Dt Go.Proofs.Ytekpbpcfeopilaa.Du Go.Proofs.Ytekpbpcfeopilaa.Dv Go.Proofs.Ytekpbpcfeopilaa.Dw Go.Proofs.Ytekpbpcfeopilaa.Sys Go.Proofs.Ytekpbpcfeopilaa.Eb Go.Proofs.Ytekpbpcfeopilaa.Ef Go.Proofs.Ytekpbpcfeopilaa.Ra Go.Proofs.Ytekpbpcfeopilaa.Rb Go.Proofs.Ytekpbpcfeopilaa.Rc Go.Proofs.Ytekpbpcfeopilaa.Rd Go.Proofs.Ytekpbpcfeopilaa.Re Go.Proofs.Ytekpbpcfeopilaa.Rf Go.Proofs.Ytekpbpcfeopilaa.Rg Go.Proofs.Ytekpbpcfeopilaa.Rh Go.Proofs.Ytekpbpcfeopilaa.Ri Go.Proofs.Ytekpbpcfeopilaa.Rj Go.Proofs.Ytekpbpcfeopilaa.Eg Go.Proofs.YtekpbpcfeopilaaW.PrintWords Go.Proofs.YtekpbpcfeopilaaW.PrintLast Go.Proofs.YtekpbpcfeopilaaW.PrintMore

set_option maxHeartbeats 8000000 in
set_option maxRecDepth 100000 in
theorem same_any {Z : Nat → Prop} {w : World} {b b' N : Nat} {m m' : MDisk} (h : Two Z w b m b' m') (ht : Twn m m') (hm : Wf N m) :
    Calls Try.prog 32 #[.pointer (some ⟨b, 0, none⟩), .pointer (some ⟨b', 0, none⟩)] w fun e w' => e = .returned (.bool true) ∧ Below w.heap.size w w' := by
  have hrow : ∃ A c, w.cell? ⟨b', 0, none⟩ = some (.slice A m.regs.length c) ∧ w.cell? ⟨b', 1, none⟩ = some (.bool m.off) := by
    obtain ⟨_, _, _, G, _, ⟨rv, kv, gs, h2⟩, _⟩ := h
    obtain ⟨A, c, rfl, _, _⟩ := Kd.R_reads h2.row
    refine ⟨A, c, ?_, ?_⟩
    · have := cell_of_block h2.head 0
      rw [← ht.regs, ← h2.len]
      exact this
    · rw [← ht.off]
      exact cell_of_block h2.head 1
  have H := Lib.hid h
  have HT := Lib.hid ht
  have HM := Lib.hid hm
  have h8 := hm.few
  obtain ⟨A0, c0, hx0, hx1⟩ := hrow
  have HX0 := Lib.hid hx0
  have HX1 := Lib.hid hx1
  clear h ht hm hx1
  go_enter Try.func32, Try.ntmps32
  go_wp2_with fail
  clear hx0
  go_loopg [11] m.regs.length (fun gk v wr => ∃ n : Nat, n ≤ m.regs.length ∧ v = .int .i64 n ∧ gk + n = m.regs.length ∧ Below w.heap.size w wr)
  case atStart => exact ⟨0, Nat.zero_le _, rfl, rfl, Below.refl _ _⟩
  case round =>
    obtain ⟨n, hn, rfl, hg, hb⟩ := hrel
    have HG := Lib.hid hg
    have HB := Lib.hid hb
    clear hg hb
    by_cases hlt : n < m.regs.length
    · have hltI : (n : Int) < (m.regs.length : Int) := by omega
      obtain ⟨sz, hsz⟩ : ∃ sz, sectorsM m (n : Int) = sz := ⟨_, rfl⟩
      obtain ⟨im, hi⟩ : ∃ im, imageM m (n : Int) = im := ⟨_, rfl⟩
      have HSZ := Lib.hid hsz
      have HI := Lib.hid hi
      clear hsz hi
      go_wp2_with fail
      refine (sectors_2 (H.out.below HB.out) (n : Int)).mono ?_
      rintro e w1 ⟨rfl, hb1⟩
      rw [HSZ.out]
      have HB1 := Lib.hid (HB.out.trans (hb1.mono HB.out.size))
      clear hb1 HB
      go_wp2_with fail
      refine (rsectors_2 (H.out.below HB1.out) (n : Int)).mono ?_
      rintro e w2 ⟨rfl, hb2⟩
      rw [HT.out.sectors, HSZ.out]
      have HB2 := Lib.hid (HB1.out.trans (hb2.mono HB1.out.size))
      clear hb2 HB1
      go_wp2_with fail
      refine (image_2 (H.out.below HB2.out) HM.out (n : Int)).mono ?_
      rintro e w3 ⟨rfl, hb3⟩
      rw [HI.out]
      have HB3 := Lib.hid (HB2.out.trans (hb3.mono HB2.out.size))
      clear hb3 HB2
      go_wp2_with fail
      refine (rimage_2 (H.out.below HB3.out) (HT.out.wf HM.out) (n : Int)).mono ?_
      rintro e w4 ⟨rfl, hb4⟩
      rw [HT.out.image, HI.out]
      have HB4 := Lib.hid (HB3.out.trans (hb4.mono HB3.out.size))
      clear hb4 HB3
      go_wp2_with fail
      go_roundg (gk - 1)
      case measure => have := HG.out; omega
      case rel => exact ⟨n + 1, by omega, by go_num, by have := HG.out; omega, HB4.out⟩
    · obtain rfl : n = m.regs.length := by omega
      have h00 : wr.cell? ⟨b', 0, none⟩ = some (.slice A0 m.regs.length c0) := pw_cell_below HB.out HX0.out
      obtain ⟨o, ho⟩ : ∃ o, m.off = o := ⟨_, rfl⟩
      have h01 : wr.cell? ⟨b', 1, none⟩ = some (.bool o) := by rw [← ho]; exact pw_cell_below HB.out HX1.out
      have HOF := Lib.hid ho
      clear ho
      cases o
      · go_wp2_with fail
        refine wp_region_held_drew (S := fun w' => w'.cell? ⟨b', 0, none⟩ = some (.slice A0 m.regs.length c0) ∧ w'.cell? ⟨b', 1, none⟩ = some (.bool false)) (by kernel_rfl) ⟨h00, h01⟩ (fun hHeld => ?_)
        have HBd := Lib.hid (HB.out.trans ((below_drew (Below.refl wr.heap.size wr)).mono HB.out.size))
        clear h00 h01 HB
        refine wpAnyH_take (i := 0) (v := ?mv1) rfl (by kernel_rfl) (by kernel_rfl) (by kernel_rfl) (fun _ _ _ h => h) (Or.inl ⟨by rfl, ?mh1⟩) (by assumption) ?mr1
        case mh1 => intro w hSw; (try dsimp only at hSw); go_simp; try with_reducible rfl
        (try simp only [Act.put]); (try simp only [List.getElem_toArray, List.getElem_cons_zero, List.getElem_cons_succ]); (try simp only [List.setIfInBounds_toArray]); (try simp only [List.set_cons_zero, List.set_cons_succ])
        refine wpAnyH_take (i := 2) (v := ?mv2) rfl (by kernel_rfl) (by kernel_rfl) (by kernel_rfl) (fun _ _ _ h => h) (Or.inl ⟨by rfl, ?mh2⟩) (by assumption) ?mr2
        case mh2 => intro w hSw; (try dsimp only at hSw); go_simp; try with_reducible rfl
        (try simp only [Act.put]); (try simp only [List.getElem_toArray, List.getElem_cons_zero, List.getElem_cons_succ]); (try simp only [List.setIfInBounds_toArray]); (try simp only [List.set_cons_zero, List.set_cons_succ])
        refine wpAnyH_take (i := 3) (v := ?mv3) rfl (by kernel_rfl) (by kernel_rfl) (by kernel_rfl) (fun _ _ _ h => h) (Or.inl ⟨by rfl, ?mh3⟩) (by assumption) ?mr3
        case mh3 => intro w hSw; (try dsimp only at hSw); go_simp; try with_reducible rfl
        (try simp only [Act.put]); (try simp only [List.getElem_toArray, List.getElem_cons_zero, List.getElem_cons_succ]); (try simp only [List.setIfInBounds_toArray]); (try simp only [List.set_cons_zero, List.set_cons_succ])
        refine wpAnyH_take (i := 4) (v := ?mv4) rfl (by kernel_rfl) (by kernel_rfl) (by kernel_rfl) (fun _ _ _ h => h) (Or.inl ⟨by rfl, ?mh4⟩) (by assumption) ?mr4
        case mh4 => intro w hSw; (try dsimp only at hSw); go_simp; try with_reducible rfl
        (try simp only [Act.put]); (try simp only [List.getElem_toArray, List.getElem_cons_zero, List.getElem_cons_succ]); (try simp only [List.setIfInBounds_toArray]); (try simp only [List.set_cons_zero, List.set_cons_succ])
        refine wpAnyH_take (i := 5) (v := ?mv5) rfl (by kernel_rfl) (by kernel_rfl) (by kernel_rfl) (fun _ _ _ h => h) (Or.inl ⟨by rfl, ?mh5⟩) (by assumption) ?mr5
        case mh5 => intro w hSw; (try dsimp only at hSw); go_simp; try with_reducible rfl
        (try simp only [Act.put]); (try simp only [List.getElem_toArray, List.getElem_cons_zero, List.getElem_cons_succ]); (try simp only [List.setIfInBounds_toArray]); (try simp only [List.set_cons_zero, List.set_cons_succ])
        refine wpAnyH_ready (rs := [1]) (by kernel_rfl) (by simp) ?_
        refine AllReadyH.cons rfl (fun K hK => ?_) AllReadyH.nil
        go_simp
        go_at_call 36
        refine (off_2 (H.out.below HBd.out)).mono ?_
        rintro e w1 ⟨rfl, hb1⟩
        rw [HOF.out]
        have HB1 := Lib.hid (HBd.out.trans (hb1.mono HBd.out.size))
        have hS1 : w1.cell? ⟨b', 0, none⟩ = some (.slice A0 m.regs.length c0) ∧ w1.cell? ⟨b', 1, none⟩ = some (.bool false) := ⟨pw_cell_below HB1.out HX0.out, by rw [← HOF.out]; exact pw_cell_below HB1.out HX1.out⟩
        clear hb1 hHeld
        refine hK.out _ _ hS1 (fun hHeld => ?_)
        clear hK K
        (try simp only [Act.put]); (try simp only [List.getElem_toArray, List.getElem_cons_zero, List.getElem_cons_succ]); (try simp only [List.setIfInBounds_toArray]); (try simp only [List.set_cons_zero, List.set_cons_succ])
        refine wpAnyH_take (i := 6) (v := ?mv6) rfl (by kernel_rfl) (by kernel_rfl) (by kernel_rfl) (fun _ _ _ h => h) (Or.inl ⟨by rfl, ?mh6⟩) (by assumption) ?mr6
        case mh6 => intro w hSw; (try dsimp only at hSw); go_simp; try with_reducible rfl
        (try simp only [Act.put]); (try simp only [List.getElem_toArray, List.getElem_cons_zero, List.getElem_cons_succ]); (try simp only [List.setIfInBounds_toArray]); (try simp only [List.set_cons_zero, List.set_cons_succ])
        refine wpAnyH_take (i := 7) (v := ?mv7) rfl (by kernel_rfl) (by kernel_rfl) (by kernel_rfl) (fun _ _ _ h => h) (Or.inl ⟨by rfl, ?mh7⟩) (by assumption) ?mr7
        case mh7 => intro w hSw; (try dsimp only at hSw); go_simp; try with_reducible rfl
        (try simp only [Act.put]); (try simp only [List.getElem_toArray, List.getElem_cons_zero, List.getElem_cons_succ]); (try simp only [List.setIfInBounds_toArray]); (try simp only [List.set_cons_zero, List.set_cons_succ])
        refine wpAnyH_take (i := 8) (v := ?mv8) rfl (by kernel_rfl) (by kernel_rfl) (by kernel_rfl) (fun _ _ _ h => h) (Or.inl ⟨by rfl, ?mh8⟩) (by assumption) ?mr8
        case mh8 => intro w hSw; (try dsimp only at hSw); go_simp; try with_reducible rfl
        (try simp only [Act.put]); (try simp only [List.getElem_toArray, List.getElem_cons_zero, List.getElem_cons_succ]); (try simp only [List.setIfInBounds_toArray]); (try simp only [List.set_cons_zero, List.set_cons_succ])
        refine wpAnyH_ready (rs := [9]) (by kernel_rfl) (by simp) ?_
        refine AllReadyH.cons rfl (fun K hK => ?_) AllReadyH.nil
        go_simp
        go_at_call 23
        refine (image_2 (H.out.below HB1.out) HM.out (-1)).mono ?_
        rintro e w2 ⟨rfl, hb2⟩
        have HB2 := Lib.hid (HB1.out.trans (hb2.mono HB1.out.size))
        have hS2 : w2.cell? ⟨b', 0, none⟩ = some (.slice A0 m.regs.length c0) ∧ w2.cell? ⟨b', 1, none⟩ = some (.bool false) := ⟨pw_cell_below HB2.out HX0.out, by rw [← HOF.out]; exact pw_cell_below HB2.out HX1.out⟩
        clear hb2 hHeld
        rw [show imageM m (-1) = ⟨#[]⟩ from by unfold imageM; rw [if_neg (by omega)]]
        refine hK.out _ _ hS2 (fun hHeld => ?_)
        clear hK K
        (try simp only [Act.put]); (try simp only [List.getElem_toArray, List.getElem_cons_zero, List.getElem_cons_succ]); (try simp only [List.setIfInBounds_toArray]); (try simp only [List.set_cons_zero, List.set_cons_succ])
        refine wpAnyH_take (i := 10) (v := ?mv9) rfl (by kernel_rfl) (by kernel_rfl) (by kernel_rfl) (fun _ _ _ h => h) (Or.inl ⟨by rfl, ?mh9⟩) (by assumption) ?mr9
        case mh9 => intro w hSw; (try dsimp only at hSw); go_simp; try with_reducible rfl
        (try simp only [Act.put]); (try simp only [List.getElem_toArray, List.getElem_cons_zero, List.getElem_cons_succ]); (try simp only [List.setIfInBounds_toArray]); (try simp only [List.set_cons_zero, List.set_cons_succ])
        refine wpAnyH_take (i := 11) (v := ?mv10) rfl (by kernel_rfl) (by kernel_rfl) (by kernel_rfl) (fun _ _ _ h => h) (Or.inl ⟨by rfl, ?mh10⟩) (by assumption) ?mr10
        case mh10 => intro w hSw; (try dsimp only at hSw); go_simp; try with_reducible rfl
        (try simp only [Act.put]); (try simp only [List.getElem_toArray, List.getElem_cons_zero, List.getElem_cons_succ]); (try simp only [List.setIfInBounds_toArray]); (try simp only [List.set_cons_zero, List.set_cons_succ])
        refine wpAnyH_take (i := 12) (v := ?mv11) rfl (by kernel_rfl) (by kernel_rfl) (by kernel_rfl) (fun _ _ _ h => h) (Or.inl ⟨by rfl, ?mh11⟩) (by assumption) ?mr11
        case mh11 => intro w hSw; (try dsimp only at hSw); go_simp; try with_reducible rfl
        (try simp only [Act.put]); (try simp only [List.getElem_toArray, List.getElem_cons_zero, List.getElem_cons_succ]); (try simp only [List.setIfInBounds_toArray]); (try simp only [List.set_cons_zero, List.set_cons_succ])
        refine wpAnyH_take (i := 13) (v := ?mv12) rfl (by kernel_rfl) (by kernel_rfl) (by kernel_rfl) (fun _ _ _ h => h) (Or.inl ⟨by rfl, ?mh12⟩) (by assumption) ?mr12
        case mh12 => intro w hSw; (try dsimp only at hSw); go_simp; try with_reducible rfl
        (try simp only [Act.put]); (try simp only [List.getElem_toArray, List.getElem_cons_zero, List.getElem_cons_succ]); (try simp only [List.setIfInBounds_toArray]); (try simp only [List.set_cons_zero, List.set_cons_succ])
        refine wpAnyH_take (i := 14) (v := ?mv13) rfl (by kernel_rfl) (by kernel_rfl) (by kernel_rfl) (fun _ _ _ h => h) (Or.inl ⟨by rfl, ?mh13⟩) (by assumption) ?mr13
        case mh13 => intro w hSw; (try dsimp only at hSw); go_simp; try with_reducible rfl
        (try simp only [Act.put]); (try simp only [List.getElem_toArray, List.getElem_cons_zero, List.getElem_cons_succ]); (try simp only [List.setIfInBounds_toArray]); (try simp only [List.set_cons_zero, List.set_cons_succ])
        refine wpAnyH_take (i := 15) (v := ?mv14) rfl (by kernel_rfl) (by kernel_rfl) (by kernel_rfl) (fun _ _ _ h => h) (Or.inl ⟨by rfl, ?mh14⟩) (by assumption) ?mr14
        case mh14 => intro w hSw; (try dsimp only at hSw); go_simp; try with_reducible rfl
        (try simp only [Act.put]); (try simp only [List.getElem_toArray, List.getElem_cons_zero, List.getElem_cons_succ]); (try simp only [List.setIfInBounds_toArray]); (try simp only [List.set_cons_zero, List.set_cons_succ])
        refine wpAnyH_take (i := 16) (v := ?mv15) rfl (by kernel_rfl) (by kernel_rfl) (by kernel_rfl) (fun _ _ _ h => h) (Or.inl ⟨by rfl, ?mh15⟩) (by assumption) ?mr15
        case mh15 => intro w hSw; (try dsimp only at hSw); go_simp; try with_reducible rfl
        (try simp only [Act.put]); (try simp only [List.getElem_toArray, List.getElem_cons_zero, List.getElem_cons_succ]); (try simp only [List.setIfInBounds_toArray]); (try simp only [List.set_cons_zero, List.set_cons_succ])
        refine wpAnyH_take (i := 17) (v := ?mv16) rfl (by kernel_rfl) (by kernel_rfl) (by kernel_rfl) (fun _ _ _ h => h) (Or.inl ⟨by rfl, ?mh16⟩) (by assumption) ?mr16
        case mh16 => intro w hSw; (try dsimp only at hSw); go_simp; try with_reducible rfl
        (try simp only [Act.put]); (try simp only [List.getElem_toArray, List.getElem_cons_zero, List.getElem_cons_succ]); (try simp only [List.setIfInBounds_toArray]); (try simp only [List.set_cons_zero, List.set_cons_succ])
        refine wpAnyH_take (i := 18) (v := ?mv17) rfl (by kernel_rfl) (by kernel_rfl) (by kernel_rfl) (fun _ _ _ h => h) (Or.inl ⟨by rfl, ?mh17⟩) (by assumption) ?mr17
        case mh17 => intro w hSw; (try dsimp only at hSw); go_simp; try with_reducible rfl
        (try simp only [Act.put]); (try simp only [List.getElem_toArray, List.getElem_cons_zero, List.getElem_cons_succ]); (try simp only [List.setIfInBounds_toArray]); (try simp only [List.set_cons_zero, List.set_cons_succ])
        refine wpAnyH_ready (rs := [19]) (by kernel_rfl) (by simp) ?_
        refine AllReadyH.cons rfl (fun K hK => ?_) AllReadyH.nil
        go_simp
        go_at_call 21
        refine (sectors_2 (H.out.below HB2.out) (m.regs.length : Int)).mono ?_
        rintro e w3 ⟨rfl, hb3⟩
        have HB3 := Lib.hid (HB2.out.trans (hb3.mono HB2.out.size))
        have hS3 : w3.cell? ⟨b', 0, none⟩ = some (.slice A0 m.regs.length c0) ∧ w3.cell? ⟨b', 1, none⟩ = some (.bool false) := ⟨pw_cell_below HB3.out HX0.out, by rw [← HOF.out]; exact pw_cell_below HB3.out HX1.out⟩
        clear hb3 hHeld
        rw [show sectorsM m (m.regs.length : Int) = 0 from by rw [sectorsM_nat, List.getElem?_eq_none (by omega)]; rfl]
        refine hK.out _ _ hS3 (fun hHeld => ?_)
        clear hK K
        (try simp only [Act.put]); (try simp only [List.getElem_toArray, List.getElem_cons_zero, List.getElem_cons_succ]); (try simp only [List.setIfInBounds_toArray]); (try simp only [List.set_cons_zero, List.set_cons_succ])
        refine wpAnyH_take (i := 20) (v := ?mv18) rfl (by kernel_rfl) (by kernel_rfl) (by kernel_rfl) (fun _ _ _ h => h) (Or.inl ⟨by rfl, ?mh18⟩) (by assumption) ?mr18
        case mh18 => intro w hSw; (try dsimp only at hSw); go_simp; try with_reducible rfl
        (try simp only [Act.put]); (try simp only [List.getElem_toArray, List.getElem_cons_zero, List.getElem_cons_succ]); (try simp only [List.setIfInBounds_toArray]); (try simp only [List.set_cons_zero, List.set_cons_succ])
        refine wpAnyH_take (i := 21) (v := ?mv19) rfl (by kernel_rfl) (by kernel_rfl) (by kernel_rfl) (fun _ _ _ h => h) (Or.inl ⟨by rfl, ?mh19⟩) (by assumption) ?mr19
        case mh19 => intro w hSw; (try dsimp only at hSw); go_simp; try with_reducible rfl
        (try simp only [Act.put]); (try simp only [List.getElem_toArray, List.getElem_cons_zero, List.getElem_cons_succ]); (try simp only [List.setIfInBounds_toArray]); (try simp only [List.set_cons_zero, List.set_cons_succ])
        refine wpAnyH_take (i := 22) (v := ?mv20) rfl (by kernel_rfl) (by kernel_rfl) (by kernel_rfl) (fun _ _ _ h => h) (Or.inl ⟨by rfl, ?mh20⟩) (by assumption) ?mr20
        case mh20 => intro w hSw; (try dsimp only at hSw); go_simp; try with_reducible rfl
        (try simp only [Act.put]); (try simp only [List.getElem_toArray, List.getElem_cons_zero, List.getElem_cons_succ]); (try simp only [List.setIfInBounds_toArray]); (try simp only [List.set_cons_zero, List.set_cons_succ])
        refine wpAnyH_done (by kernel_rfl) ?_ _
        clear hHeld
        go_wp2_with fail
        refine bodyPost_ret (v := .bool true) (by simp [results, Try.results32, go_sem]) rfl ?_
        exact ⟨rfl, HB3.out⟩
      · go_wp2_with fail
        refine wp_region_held_drew (S := fun w' => w'.cell? ⟨b', 0, none⟩ = some (.slice A0 m.regs.length c0) ∧ w'.cell? ⟨b', 1, none⟩ = some (.bool true)) (by kernel_rfl) ⟨h00, h01⟩ (fun hHeld => ?_)
        have HBd := Lib.hid (HB.out.trans ((below_drew (Below.refl wr.heap.size wr)).mono HB.out.size))
        clear h00 h01 HB
        refine wpAnyH_take (i := 0) (v := ?mv21) rfl (by kernel_rfl) (by kernel_rfl) (by kernel_rfl) (fun _ _ _ h => h) (Or.inl ⟨by rfl, ?mh21⟩) (by assumption) ?mr21
        case mh21 => intro w hSw; (try dsimp only at hSw); go_simp; try with_reducible rfl
        (try simp only [Act.put]); (try simp only [List.getElem_toArray, List.getElem_cons_zero, List.getElem_cons_succ]); (try simp only [List.setIfInBounds_toArray]); (try simp only [List.set_cons_zero, List.set_cons_succ])
        refine wpAnyH_take (i := 2) (v := ?mv22) rfl (by kernel_rfl) (by kernel_rfl) (by kernel_rfl) (fun _ _ _ h => h) (Or.inl ⟨by rfl, ?mh22⟩) (by assumption) ?mr22
        case mh22 => intro w hSw; (try dsimp only at hSw); go_simp; try with_reducible rfl
        (try simp only [Act.put]); (try simp only [List.getElem_toArray, List.getElem_cons_zero, List.getElem_cons_succ]); (try simp only [List.setIfInBounds_toArray]); (try simp only [List.set_cons_zero, List.set_cons_succ])
        refine wpAnyH_take (i := 3) (v := ?mv23) rfl (by kernel_rfl) (by kernel_rfl) (by kernel_rfl) (fun _ _ _ h => h) (Or.inl ⟨by rfl, ?mh23⟩) (by assumption) ?mr23
        case mh23 => intro w hSw; (try dsimp only at hSw); go_simp; try with_reducible rfl
        (try simp only [Act.put]); (try simp only [List.getElem_toArray, List.getElem_cons_zero, List.getElem_cons_succ]); (try simp only [List.setIfInBounds_toArray]); (try simp only [List.set_cons_zero, List.set_cons_succ])
        refine wpAnyH_take (i := 4) (v := ?mv24) rfl (by kernel_rfl) (by kernel_rfl) (by kernel_rfl) (fun _ _ _ h => h) (Or.inl ⟨by rfl, ?mh24⟩) (by assumption) ?mr24
        case mh24 => intro w hSw; (try dsimp only at hSw); go_simp; try with_reducible rfl
        (try simp only [Act.put]); (try simp only [List.getElem_toArray, List.getElem_cons_zero, List.getElem_cons_succ]); (try simp only [List.setIfInBounds_toArray]); (try simp only [List.set_cons_zero, List.set_cons_succ])
        refine wpAnyH_take (i := 5) (v := ?mv25) rfl (by kernel_rfl) (by kernel_rfl) (by kernel_rfl) (fun _ _ _ h => h) (Or.inl ⟨by rfl, ?mh25⟩) (by assumption) ?mr25
        case mh25 => intro w hSw; (try dsimp only at hSw); go_simp; try with_reducible rfl
        (try simp only [Act.put]); (try simp only [List.getElem_toArray, List.getElem_cons_zero, List.getElem_cons_succ]); (try simp only [List.setIfInBounds_toArray]); (try simp only [List.set_cons_zero, List.set_cons_succ])
        refine wpAnyH_ready (rs := [1]) (by kernel_rfl) (by simp) ?_
        refine AllReadyH.cons rfl (fun K hK => ?_) AllReadyH.nil
        go_simp
        go_at_call 36
        refine (off_2 (H.out.below HBd.out)).mono ?_
        rintro e w1 ⟨rfl, hb1⟩
        rw [HOF.out]
        have HB1 := Lib.hid (HBd.out.trans (hb1.mono HBd.out.size))
        have hS1 : w1.cell? ⟨b', 0, none⟩ = some (.slice A0 m.regs.length c0) ∧ w1.cell? ⟨b', 1, none⟩ = some (.bool true) := ⟨pw_cell_below HB1.out HX0.out, by rw [← HOF.out]; exact pw_cell_below HB1.out HX1.out⟩
        clear hb1 hHeld
        refine hK.out _ _ hS1 (fun hHeld => ?_)
        clear hK K
        (try simp only [Act.put]); (try simp only [List.getElem_toArray, List.getElem_cons_zero, List.getElem_cons_succ]); (try simp only [List.setIfInBounds_toArray]); (try simp only [List.set_cons_zero, List.set_cons_succ])
        refine wpAnyH_take (i := 6) (v := ?mv26) rfl (by kernel_rfl) (by kernel_rfl) (by kernel_rfl) (fun _ _ _ h => h) (Or.inl ⟨by rfl, ?mh26⟩) (by assumption) ?mr26
        case mh26 => intro w hSw; (try dsimp only at hSw); go_simp; try with_reducible rfl
        (try simp only [Act.put]); (try simp only [List.getElem_toArray, List.getElem_cons_zero, List.getElem_cons_succ]); (try simp only [List.setIfInBounds_toArray]); (try simp only [List.set_cons_zero, List.set_cons_succ])
        refine wpAnyH_take (i := 7) (v := ?mv27) rfl (by kernel_rfl) (by kernel_rfl) (by kernel_rfl) (fun _ _ _ h => h) (Or.inl ⟨by rfl, ?mh27⟩) (by assumption) ?mr27
        case mh27 => intro w hSw; (try dsimp only at hSw); go_simp; try with_reducible rfl
        (try simp only [Act.put]); (try simp only [List.getElem_toArray, List.getElem_cons_zero, List.getElem_cons_succ]); (try simp only [List.setIfInBounds_toArray]); (try simp only [List.set_cons_zero, List.set_cons_succ])
        refine wpAnyH_take (i := 8) (v := ?mv28) rfl (by kernel_rfl) (by kernel_rfl) (by kernel_rfl) (fun _ _ _ h => h) (Or.inl ⟨by rfl, ?mh28⟩) (by assumption) ?mr28
        case mh28 => intro w hSw; (try dsimp only at hSw); go_simp; try with_reducible rfl
        (try simp only [Act.put]); (try simp only [List.getElem_toArray, List.getElem_cons_zero, List.getElem_cons_succ]); (try simp only [List.setIfInBounds_toArray]); (try simp only [List.set_cons_zero, List.set_cons_succ])
        refine wpAnyH_ready (rs := [9]) (by kernel_rfl) (by simp) ?_
        refine AllReadyH.cons rfl (fun K hK => ?_) AllReadyH.nil
        go_simp
        go_at_call 23
        refine (image_2 (H.out.below HB1.out) HM.out (-1)).mono ?_
        rintro e w2 ⟨rfl, hb2⟩
        have HB2 := Lib.hid (HB1.out.trans (hb2.mono HB1.out.size))
        have hS2 : w2.cell? ⟨b', 0, none⟩ = some (.slice A0 m.regs.length c0) ∧ w2.cell? ⟨b', 1, none⟩ = some (.bool true) := ⟨pw_cell_below HB2.out HX0.out, by rw [← HOF.out]; exact pw_cell_below HB2.out HX1.out⟩
        clear hb2 hHeld
        rw [show imageM m (-1) = ⟨#[]⟩ from by unfold imageM; rw [if_neg (by omega)]]
        refine hK.out _ _ hS2 (fun hHeld => ?_)
        clear hK K
        (try simp only [Act.put]); (try simp only [List.getElem_toArray, List.getElem_cons_zero, List.getElem_cons_succ]); (try simp only [List.setIfInBounds_toArray]); (try simp only [List.set_cons_zero, List.set_cons_succ])
        refine wpAnyH_take (i := 10) (v := ?mv29) rfl (by kernel_rfl) (by kernel_rfl) (by kernel_rfl) (fun _ _ _ h => h) (Or.inl ⟨by rfl, ?mh29⟩) (by assumption) ?mr29
        case mh29 => intro w hSw; (try dsimp only at hSw); go_simp; try with_reducible rfl
        (try simp only [Act.put]); (try simp only [List.getElem_toArray, List.getElem_cons_zero, List.getElem_cons_succ]); (try simp only [List.setIfInBounds_toArray]); (try simp only [List.set_cons_zero, List.set_cons_succ])
        refine wpAnyH_take (i := 11) (v := ?mv30) rfl (by kernel_rfl) (by kernel_rfl) (by kernel_rfl) (fun _ _ _ h => h) (Or.inl ⟨by rfl, ?mh30⟩) (by assumption) ?mr30
        case mh30 => intro w hSw; (try dsimp only at hSw); go_simp; try with_reducible rfl
        (try simp only [Act.put]); (try simp only [List.getElem_toArray, List.getElem_cons_zero, List.getElem_cons_succ]); (try simp only [List.setIfInBounds_toArray]); (try simp only [List.set_cons_zero, List.set_cons_succ])
        refine wpAnyH_take (i := 12) (v := ?mv31) rfl (by kernel_rfl) (by kernel_rfl) (by kernel_rfl) (fun _ _ _ h => h) (Or.inl ⟨by rfl, ?mh31⟩) (by assumption) ?mr31
        case mh31 => intro w hSw; (try dsimp only at hSw); go_simp; try with_reducible rfl
        (try simp only [Act.put]); (try simp only [List.getElem_toArray, List.getElem_cons_zero, List.getElem_cons_succ]); (try simp only [List.setIfInBounds_toArray]); (try simp only [List.set_cons_zero, List.set_cons_succ])
        refine wpAnyH_take (i := 13) (v := ?mv32) rfl (by kernel_rfl) (by kernel_rfl) (by kernel_rfl) (fun _ _ _ h => h) (Or.inl ⟨by rfl, ?mh32⟩) (by assumption) ?mr32
        case mh32 => intro w hSw; (try dsimp only at hSw); go_simp; try with_reducible rfl
        (try simp only [Act.put]); (try simp only [List.getElem_toArray, List.getElem_cons_zero, List.getElem_cons_succ]); (try simp only [List.setIfInBounds_toArray]); (try simp only [List.set_cons_zero, List.set_cons_succ])
        refine wpAnyH_take (i := 14) (v := ?mv33) rfl (by kernel_rfl) (by kernel_rfl) (by kernel_rfl) (fun _ _ _ h => h) (Or.inl ⟨by rfl, ?mh33⟩) (by assumption) ?mr33
        case mh33 => intro w hSw; (try dsimp only at hSw); go_simp; try with_reducible rfl
        (try simp only [Act.put]); (try simp only [List.getElem_toArray, List.getElem_cons_zero, List.getElem_cons_succ]); (try simp only [List.setIfInBounds_toArray]); (try simp only [List.set_cons_zero, List.set_cons_succ])
        refine wpAnyH_take (i := 15) (v := ?mv34) rfl (by kernel_rfl) (by kernel_rfl) (by kernel_rfl) (fun _ _ _ h => h) (Or.inl ⟨by rfl, ?mh34⟩) (by assumption) ?mr34
        case mh34 => intro w hSw; (try dsimp only at hSw); go_simp; try with_reducible rfl
        (try simp only [Act.put]); (try simp only [List.getElem_toArray, List.getElem_cons_zero, List.getElem_cons_succ]); (try simp only [List.setIfInBounds_toArray]); (try simp only [List.set_cons_zero, List.set_cons_succ])
        refine wpAnyH_take (i := 16) (v := ?mv35) rfl (by kernel_rfl) (by kernel_rfl) (by kernel_rfl) (fun _ _ _ h => h) (Or.inl ⟨by rfl, ?mh35⟩) (by assumption) ?mr35
        case mh35 => intro w hSw; (try dsimp only at hSw); go_simp; try with_reducible rfl
        (try simp only [Act.put]); (try simp only [List.getElem_toArray, List.getElem_cons_zero, List.getElem_cons_succ]); (try simp only [List.setIfInBounds_toArray]); (try simp only [List.set_cons_zero, List.set_cons_succ])
        refine wpAnyH_take (i := 17) (v := ?mv36) rfl (by kernel_rfl) (by kernel_rfl) (by kernel_rfl) (fun _ _ _ h => h) (Or.inl ⟨by rfl, ?mh36⟩) (by assumption) ?mr36
        case mh36 => intro w hSw; (try dsimp only at hSw); go_simp; try with_reducible rfl
        (try simp only [Act.put]); (try simp only [List.getElem_toArray, List.getElem_cons_zero, List.getElem_cons_succ]); (try simp only [List.setIfInBounds_toArray]); (try simp only [List.set_cons_zero, List.set_cons_succ])
        refine wpAnyH_take (i := 18) (v := ?mv37) rfl (by kernel_rfl) (by kernel_rfl) (by kernel_rfl) (fun _ _ _ h => h) (Or.inl ⟨by rfl, ?mh37⟩) (by assumption) ?mr37
        case mh37 => intro w hSw; (try dsimp only at hSw); go_simp; try with_reducible rfl
        (try simp only [Act.put]); (try simp only [List.getElem_toArray, List.getElem_cons_zero, List.getElem_cons_succ]); (try simp only [List.setIfInBounds_toArray]); (try simp only [List.set_cons_zero, List.set_cons_succ])
        refine wpAnyH_ready (rs := [19]) (by kernel_rfl) (by simp) ?_
        refine AllReadyH.cons rfl (fun K hK => ?_) AllReadyH.nil
        go_simp
        go_at_call 21
        refine (sectors_2 (H.out.below HB2.out) (m.regs.length : Int)).mono ?_
        rintro e w3 ⟨rfl, hb3⟩
        have HB3 := Lib.hid (HB2.out.trans (hb3.mono HB2.out.size))
        have hS3 : w3.cell? ⟨b', 0, none⟩ = some (.slice A0 m.regs.length c0) ∧ w3.cell? ⟨b', 1, none⟩ = some (.bool true) := ⟨pw_cell_below HB3.out HX0.out, by rw [← HOF.out]; exact pw_cell_below HB3.out HX1.out⟩
        clear hb3 hHeld
        rw [show sectorsM m (m.regs.length : Int) = 0 from by rw [sectorsM_nat, List.getElem?_eq_none (by omega)]; rfl]
        refine hK.out _ _ hS3 (fun hHeld => ?_)
        clear hK K
        (try simp only [Act.put]); (try simp only [List.getElem_toArray, List.getElem_cons_zero, List.getElem_cons_succ]); (try simp only [List.setIfInBounds_toArray]); (try simp only [List.set_cons_zero, List.set_cons_succ])
        refine wpAnyH_take (i := 20) (v := ?mv38) rfl (by kernel_rfl) (by kernel_rfl) (by kernel_rfl) (fun _ _ _ h => h) (Or.inl ⟨by rfl, ?mh38⟩) (by assumption) ?mr38
        case mh38 => intro w hSw; (try dsimp only at hSw); go_simp; try with_reducible rfl
        (try simp only [Act.put]); (try simp only [List.getElem_toArray, List.getElem_cons_zero, List.getElem_cons_succ]); (try simp only [List.setIfInBounds_toArray]); (try simp only [List.set_cons_zero, List.set_cons_succ])
        refine wpAnyH_take (i := 21) (v := ?mv39) rfl (by kernel_rfl) (by kernel_rfl) (by kernel_rfl) (fun _ _ _ h => h) (Or.inl ⟨by rfl, ?mh39⟩) (by assumption) ?mr39
        case mh39 => intro w hSw; (try dsimp only at hSw); go_simp; try with_reducible rfl
        (try simp only [Act.put]); (try simp only [List.getElem_toArray, List.getElem_cons_zero, List.getElem_cons_succ]); (try simp only [List.setIfInBounds_toArray]); (try simp only [List.set_cons_zero, List.set_cons_succ])
        refine wpAnyH_take (i := 22) (v := ?mv40) rfl (by kernel_rfl) (by kernel_rfl) (by kernel_rfl) (fun _ _ _ h => h) (Or.inl ⟨by rfl, ?mh40⟩) (by assumption) ?mr40
        case mh40 => intro w hSw; (try dsimp only at hSw); go_simp; try with_reducible rfl
        (try simp only [Act.put]); (try simp only [List.getElem_toArray, List.getElem_cons_zero, List.getElem_cons_succ]); (try simp only [List.setIfInBounds_toArray]); (try simp only [List.set_cons_zero, List.set_cons_succ])
        refine wpAnyH_done (by kernel_rfl) ?_ _
        clear hHeld
        go_wp2_with fail
        refine bodyPost_ret (v := .bool true) (by simp [results, Try.results32, go_sem]) rfl ?_
        exact ⟨rfl, HB3.out⟩

theorem infoI64P : (Try.prog.info? 3).map (fun i => (i.zero, i.size, i.bytes)) = some (some (.int .i64 0), 1, 8) := by kernel_rfl

/-- At most so many sectors in each. -/
def sizesL (l : List Int) : List Int := (l.take 12).map fun n => min n 30

theorem sizesL_len (l : List Int) : (sizesL l).length = min l.length 12 := by simp [sizesL]; omega

set_option maxHeartbeats 8000000 in
set_option maxRecDepth 100000 in
theorem psizes_any (A : Option Addr) (cc : Nat) (l : List Int) (w : World) (hC : Kd.C (Kd.int .i64) w A l.length l) (hcc : l.length ≤ cc) :
    Calls Try.prog 31 #[.slice A l.length cc, .int .i64 30] w fun e w' => ∃ v, e = .returned v ∧ (Kd.int .i64).R 3 w' w.heap.size (fun _ => True) v (sizesL l) ∧ Below w.heap.size w w' := by
  obtain ⟨K, hK⟩ : ∃ K, min l.length 12 = K := ⟨_, rfl⟩
  have hKi : min (l.length : Int) 12 = (K : Int) := by omega
  have hK1 : K ≤ l.length := by omega
  have hK12 : K ≤ 12 := by omega
  have hKc : K ≤ cc := by omega
  have hmx := hC.2.1
  have HC := Lib.hid hC
  have HK := Lib.hid hK
  clear hC hK
  go_enter Try.func31, Try.ntmps31
  go_wp2_with fail
  go_loopg [5, 14] K (fun gk ov v wr => ∃ (j : Nat) (Aj : Option Addr) (cj : Nat), j ≤ K ∧ v = .int .i64 j ∧ gk + j = K ∧ ov = .slice Aj j cj ∧ (Kd.int .i64).R 3 wr w.heap.size (fun _ => True) (.slice Aj j cj) ((l.take j).map fun n => min n 30) ∧ Below w.heap.size w wr)
  case atStart => exact ⟨0, none, 0, Nat.zero_le _, rfl, rfl, rfl, Kd.R_nil _ _ _ _ _, Below.refl _ _⟩
  case round =>
    obtain ⟨j, Aj, cj, hj, rfl, hg, rfl, hr, hb⟩ := hrel
    have HG := Lib.hid hg
    have HRW := Lib.hid hr
    have HB := Lib.hid hb
    clear hg hr hb
    by_cases hlt : j < K
    · have hltI : (j : Int) < (K : Int) := by omega
      obtain ⟨ad, rfl, hx⟩ := Kd.at_int (Kd.C_below HC.out HB.out) (j : Int) (by omega) (by omega)
      obtain ⟨x, hx0⟩ : ∃ x, rd l (j : Int) = x := ⟨_, rfl⟩
      rw [hx0, Int.toNat_natCast] at hx
      have hxe : l[j] = x := by simpa [rd, show j < l.length by omega] using hx0
      have HXE := Lib.hid hxe
      clear hx0 hxe
      have hjt : ((l.take j).map fun n => min n 30).length = j := by rw [List.length_map, List.length_take]; omega
      go_wp2_with (at_builtin; refine Kd.R_append (Kd.int .i64) (w0 := w) w.heap.size rfl (.tmp 18) (.tmp 22) 41 3 (.int .i64 0) 8 rfl Try.underlying41 infoI64P rfl (by decide) (by decide) (.slice Aj j cj) ((l.take j).map fun n => min n 30) (min x 30) [.int .i64 (min x 30)] (fun _ => True) (fun _ => False) rfl rfl ?aP (fun _ hk => hk.elim) (fun _ _ => trivial) HRW.out HB.out HB.out.size ?aL ?_; (case aP => exact rfl); (case aL => rw [hjt]; omega); intro v5 w5 hR5 hB5 hg5 hat5; obtain ⟨A5, c5, rfl, _, _⟩ := Kd.R_reads hR5; have HR5 := Lib.hid hR5; have HB5 := Lib.hid hB5; clear hR5 hB5 hg5 hat5)
      have hrl : (((l.take j).map fun n => min n 30) ++ [min x 30]).length = j + 1 := by rw [List.length_append, hjt]; rfl
      have hmin : min j l.length = j := by omega
      rw [hmin]
      have hR6 : (Kd.int .i64).R 3 w5 w.heap.size (fun _ => True) (.slice A5 (j + 1) c5) ((l.take (j + 1)).map fun n => min n 30) := by
        have h := HR5.out
        rw [hrl, show ((l.take j).map fun n => min n 30) ++ [min x 30] = (l.take (j + 1)).map fun n => min n 30 from by rw [List.take_succ_eq_append_getElem (by omega), List.map_append, HXE.out]; rfl] at h
        exact h
      have HR6 := Lib.hid hR6
      clear hrl hR6 hjt
      go_roundg (gk - 1)
      case measure => have := HG.out; omega
      case rel => exact ⟨j + 1, _, _, by omega, by go_num, by have := HG.out; omega, rfl, HR6.out, HB5.out⟩
    · obtain rfl : j = K := by omega
      go_wp2_with fail
      refine bodyPost_ret (v := .slice Aj j cj) (by simp [results, Try.results31, go_sem]) rfl ?_
      refine ⟨_, rfl, ?_, HB.out⟩
      have e : sizesL l = (l.take j).map fun n => min n 30 := by
        unfold sizesL
        by_cases h12 : l.length ≤ 12
        · rw [List.take_of_length_le h12, List.take_of_length_le (by have := HK.out; omega)]
        · have : j = 12 := by have := HK.out; omega
          rw [this]
      rw [e]
      exact HRW.out

end Go.Proofs.Ytekpbpcfeopilaa.Ei
