/- DiskPlays: one call of both. -/
import Derived.Test.YtekpbpcfeopilaaEg
namespace Go.Proofs.Ytekpbpcfeopilaa.Eh
open Go Go.RowKit Go.Joins Go.Proofs.YtekpbpcfeopilaaCore Go.Proofs.Ytekpbpcfeopilaa.Dm Go.Proofs.Ytekpbpcfeopilaa.Dr Go.Proofs.Ytekpbpcfeopilaa.Da Go.Proofs.Ytekpbpcfeopilaa.Df Go.Proofs.Ytekpbpcfeopilaa.Dg Go.Proofs.Ytekpbpcfeopilaa.Dh Go.Proofs.Ytekpbpcfeopilaa.Di Go.Proofs.Ytekpbpcfeopilaa.Dj Go.Proofs.Ytekpbpcfeopilaa.Dk Go.Proofs.Ytekpbpcfeopilaa.Dl Go.Proofs.Ytekpbpcfeopilaa.Dn Go.Proofs.Ytekpbpcfeopilaa.Dp Go.Proofs.Ytekpbpcfeopilaa.Dq Go.Proofs.Ytekpbpcfeopilaa.Ds Go.Proofs.Ytekpbpcfeopilaa.Dt Go.Proofs.Ytekpbpcfeopilaa.Du Go.Proofs.Ytekpbpcfeopilaa.Dv Go.Proofs.Ytekpbpcfeopilaa.Dw Go.Proofs.Ytekpbpcfeopilaa.Sys Go.Proofs.Ytekpbpcfeopilaa.Eb Go.Proofs.Ytekpbpcfeopilaa.Ef Go.Proofs.Ytekpbpcfeopilaa.Ra Go.Proofs.Ytekpbpcfeopilaa.Rb Go.Proofs.Ytekpbpcfeopilaa.Rc Go.Proofs.Ytekpbpcfeopilaa.Rd Go.Proofs.Ytekpbpcfeopilaa.Re Go.Proofs.Ytekpbpcfeopilaa.Rf Go.Proofs.Ytekpbpcfeopilaa.Rg Go.Proofs.Ytekpbpcfeopilaa.Rh Go.Proofs.Ytekpbpcfeopilaa.Ri Go.Proofs.Ytekpbpcfeopilaa.Rj Go.Proofs.Ytekpbpcfeopilaa.Eg Go.Proofs.YtekpbpcfeopilaaW.PrintWords Go.Proofs.YtekpbpcfeopilaaW.PrintLast Go.Proofs.YtekpbpcfeopilaaW.PrintMore

/-- What one call leaves. -/
def ActDid (Z : Nat → Prop) (w : World) (b b' N : Nat) (w' : World) : Prop :=
  ∃ m1 m1', Twn m1 m1' ∧ Wf (N + 1) m1 ∧ Two Z w' b m1 b' m1' ∧ Fr (fun k => ¬ Z k) w w'

structure TS (Z : Nat → Prop) (w : World) (q : Nat) (cs : Array Value) (b : Nat) (m : MDisk) (b' : Nat) (m' : MDisk) (wx : World) : Prop where
  two : Two (fun k => Z k ∨ k = q) wx b m b' m'
  box : wx.heap[q]? = some (.cells cs 52 (0, 0))
  fr : Fr (fun k => ¬ Z k) w wx
section
variable {Z : Nat → Prop} {w wx wy : World} {b b' q : Nat} {cs : Array Value} {m m' m1 m1' : MDisk}
theorem TS.cell (h : TS Z w q cs b m b' m' wx) (i : Nat) {v : Value} (hv : cs[i]? = some v) : wx.cell? ⟨q, i, none⟩ = some v := by rw [cell_of_row wx q i _ _ _ h.box]; exact hv
theorem TS.below (h : TS Z w q cs b m b' m' wx) (hb : Below wx.heap.size wx wy) : TS Z w q cs b m b' m' wy := ⟨h.two.below hb, blk_below h.box hb, h.fr.trans (fr_of_below hb)⟩
theorem TS.op (h : TS Z w q cs b m b' m' wx) (hs : Two (fun k => Z k ∨ k = q) wy b m1 b' m1') (hf : Fr (fun k => ¬ (Z k ∨ k = q)) wx wy) : TS Z w q cs b m1 b' m1' wy :=
  ⟨hs, hf.at_ h.box (fun hn => hn (.inr rfl)), h.fr.trans (hf.mono (fun k hk hz => hk (.inl hz)))⟩
theorem TS.keep (h : TS Z w q cs b m b' m' wx) {A : Option Addr} {keep : List Int} (hC : ∀ W, Fr (fun k => ¬ Z k) w W → Kd.C (Kd.int .u64) W A keep.length keep) : ∀ W, Fr (fun k => ¬ (Z k ∨ k = q)) wx W → Kd.C (Kd.int .u64) W A keep.length keep :=
  fun W hW => hC W (h.fr.trans (hW.mono (fun k hk hz => hk (.inl hz))))
theorem TS.out {N : Nat} (h : TS Z w q cs b m b' m' wx) (ht : Twn m m') (hm : Wf (N + 1) m) : ActDid Z w b b' N wx := ⟨m, m', ht, hm, h.two.mono (fun _ hk => .inl hk), h.fr⟩
end

set_option maxHeartbeats 8000000 in
set_option maxRecDepth 100000 in
theorem act_any {Z : Nat → Prop} {w : World} {b b' N : Nat} {m m' : MDisk} (h : Two Z w b m b' m') (ht : Twn m m') (hm : Wf N m) (hN : N < 1000000) (x0 x1 x2 x3 : Int) (xd : ByteArray) (A : Option Addr) (cc : Nat) (keep : List Int) (h3 : x3 ≤ 9223372036854775807) (hk : keep.length * 8 ≤ 140737488355328) (hK : ∀ x ∈ keep, 0 ≤ x ∧ x ≤ 18446744073709551615)
    (hC : ∀ W, Fr (fun k => ¬ Z k) w W → Kd.C (Kd.int .u64) W A keep.length keep) :
    Calls Try.prog 33 #[.pointer (some ⟨b, 0, none⟩), .pointer (some ⟨b', 0, none⟩), .agg #[.int .i64 x0, .int .i64 x1, .int .i64 x2, .int .i64 x3, .string xd, .slice A keep.length cc]] w fun e w' => e = .returned (.bool true) ∧ ActDid Z w b b' N w' := by
  obtain ⟨wb, hwb⟩ : ∃ wb, w.alloc (.cells #[.int .i64 x0, .int .i64 x1, .int .i64 x2, .int .i64 x3, .string xd, .slice A keep.length cc] 52) = wb := ⟨_, rfl⟩
  have hbb : Below w.heap.size w wb := by rw [← hwb]; exact (Below.refl _ _).alloc (Nat.le_refl _) _
  have hqb : wb.heap[w.heap.size]? = some (.cells #[.int .i64 x0, .int .i64 x1, .int .i64 x2, .int .i64 x3, .string xd, .slice A keep.length cc] 52 (0, 0)) := by rw [← hwb]; exact heap_alloc_new _ _
  obtain ⟨q, hq⟩ : ∃ q, w.heap.size = q := ⟨_, rfl⟩
  have HS0 : Hid (TS Z w q #[.int .i64 x0, .int .i64 x1, .int .i64 x2, .int .i64 x3, .string xd, .slice A keep.length cc] b m b' m' wb) := by
    refine ⟨(h.own (S := fun _ => False) (Fr.of_below hbb) (fun _ _ h => h.elim)).mono (fun j hj => ?_), by rw [← hq]; exact hqb, fr_of_below hbb⟩
    rcases hj with hj | hj
    · exact .inl hj
    · exact .inr ⟨by omega, by rw [hj, ← hq]; exact heap_lt hqb⟩
  have HT := Lib.hid ht
  have HM := Lib.hid hm
  have HC := Lib.hid hC
  have HK := Lib.hid hK
  have c0 : wb.cell? ⟨q, 0, none⟩ = some (.int .i64 x0) := HS0.out.cell 0 rfl
  have c1 : wb.cell? ⟨q, 1, none⟩ = some (.int .i64 x1) := HS0.out.cell 1 rfl
  have c2 : wb.cell? ⟨q, 2, none⟩ = some (.int .i64 x2) := HS0.out.cell 2 rfl
  have c3 : wb.cell? ⟨q, 3, none⟩ = some (.int .i64 x3) := HS0.out.cell 3 rfl
  have c4 : wb.cell? ⟨q, 4, none⟩ = some (.string xd) := HS0.out.cell 4 rfl
  have c5 : wb.cell? ⟨q, 5, none⟩ = some (.slice A keep.length cc) := HS0.out.cell 5 rfl
  clear h ht hm hC hK hbb hqb
  obtain ⟨r, hr⟩ : ∃ r, x0.tmod 10 = r := ⟨_, rfl⟩
  by_cases r1 : r = 1 ∨ r = -1
  · rcases r1 with rfl | rfl
    all_goals
      go_enter Try.func33, Try.ntmps33
      go_wp2_with (rw [hwb])
      clear hwb hq
      refine (read_2 HS0.out.two x1 x2).mono ?_
      rintro e w1 ⟨rfl, hb⟩
      have HS1 := Lib.hid (HS0.out.below hb)
      clear hb c0 c1 c2 c3 c4 c5
      have c0 : w1.cell? ⟨q, 0, none⟩ = some (.int .i64 x0) := HS1.out.cell 0 rfl
      have c1 : w1.cell? ⟨q, 1, none⟩ = some (.int .i64 x1) := HS1.out.cell 1 rfl
      have c2 : w1.cell? ⟨q, 2, none⟩ = some (.int .i64 x2) := HS1.out.cell 2 rfl
      have c3 : w1.cell? ⟨q, 3, none⟩ = some (.int .i64 x3) := HS1.out.cell 3 rfl
      have c4 : w1.cell? ⟨q, 4, none⟩ = some (.string xd) := HS1.out.cell 4 rfl
      have c5 : w1.cell? ⟨q, 5, none⟩ = some (.slice A keep.length cc) := HS1.out.cell 5 rfl
      go_wp2_with fail
      refine (rread_2 HS1.out.two x1 x2).mono ?_
      rintro e w2 ⟨rfl, hb⟩
      have HS2 := Lib.hid (HS1.out.below hb)
      clear hb c0 c1 c2 c3 c4 c5
      have c0 : w2.cell? ⟨q, 0, none⟩ = some (.int .i64 x0) := HS2.out.cell 0 rfl
      have c1 : w2.cell? ⟨q, 1, none⟩ = some (.int .i64 x1) := HS2.out.cell 1 rfl
      have c2 : w2.cell? ⟨q, 2, none⟩ = some (.int .i64 x2) := HS2.out.cell 2 rfl
      have c3 : w2.cell? ⟨q, 3, none⟩ = some (.int .i64 x3) := HS2.out.cell 3 rfl
      have c4 : w2.cell? ⟨q, 4, none⟩ = some (.string xd) := HS2.out.cell 4 rfl
      have c5 : w2.cell? ⟨q, 5, none⟩ = some (.slice A keep.length cc) := HS2.out.cell 5 rfl
      rw [HT.out.read, HT.out.find]
      obtain ⟨rs, hrs⟩ : ∃ rs, readM m x1 x2 = rs := ⟨_, rfl⟩
      obtain ⟨rf, hrf⟩ : ∃ rf, findM m x1 x2 = rf := ⟨_, rfl⟩
      rw [hrs, hrf]
      clear hrs hrf
      go_wp2_with fail
      refine bodyPost_ret (v := .bool true) (by simp [results, Try.results33, go_sem]) rfl ?_
      exact ⟨rfl, HS2.out.out (HT.out) (wf_mono HM.out (by omega))⟩
  by_cases r2 : r = 2 ∨ r = -2
  · rcases r2 with rfl | rfl
    · go_enter Try.func33, Try.ntmps33
      go_wp2_with (rw [hwb])
      clear hwb hq
      refine wp_region_held_drew (S := fun w' => w'.cell? ⟨q, 1, none⟩ = some (.int .i64 x1) ∧ w'.cell? ⟨q, 2, none⟩ = some (.int .i64 x2) ∧ w'.cell? ⟨q, 4, none⟩ = some (.string xd)) (by kernel_rfl) ⟨c1, c2, c4⟩ (fun hHeld => ?_)
      have HSd := Lib.hid (HS0.out.below (below_drew (Below.refl _ _)))
      clear c0 c1 c2 c3 c4 c5
      refine wpAnyH_take (i := 0) (v := ?mv1) rfl (by kernel_rfl) (by kernel_rfl) (by kernel_rfl) (fun _ _ _ h => h) (Or.inl ⟨by rfl, ?mh1⟩) (by assumption) ?mr1
      case mh1 => intro w hSw; (try dsimp only at hSw); go_simp; try with_reducible rfl
      (try simp only [Act.put]); (try simp only [List.getElem_toArray, List.getElem_cons_zero, List.getElem_cons_succ]); (try simp only [List.setIfInBounds_toArray]); (try simp only [List.set_cons_zero, List.set_cons_succ])
      refine wpAnyH_take (i := 1) (v := ?mv2) rfl (by kernel_rfl) (by kernel_rfl) (by kernel_rfl) (fun _ _ _ h => h) (Or.inl ⟨by rfl, ?mh2⟩) (by assumption) ?mr2
      case mh2 => intro w hSw; (try dsimp only at hSw); go_simp; try with_reducible rfl
      (try simp only [Act.put]); (try simp only [List.getElem_toArray, List.getElem_cons_zero, List.getElem_cons_succ]); (try simp only [List.setIfInBounds_toArray]); (try simp only [List.set_cons_zero, List.set_cons_succ])
      refine wpAnyH_take (i := 2) (v := ?mv3) rfl (by kernel_rfl) (by kernel_rfl) (by kernel_rfl) (fun _ _ _ h => h) (Or.inl ⟨by rfl, ?mh3⟩) (by assumption) ?mr3
      case mh3 => intro w hSw; (try dsimp only at hSw); go_simp; try with_reducible rfl
      (try simp only [Act.put]); (try simp only [List.getElem_toArray, List.getElem_cons_zero, List.getElem_cons_succ]); (try simp only [List.setIfInBounds_toArray]); (try simp only [List.set_cons_zero, List.set_cons_succ])
      refine wpAnyH_take (i := 4) (v := ?mv4) rfl (by kernel_rfl) (by kernel_rfl) (by kernel_rfl) (fun _ _ _ h => h) (Or.inl ⟨by rfl, ?mh4⟩) (by assumption) ?mr4
      case mh4 => intro w hSw; (try dsimp only at hSw); go_simp; try with_reducible rfl
      (try simp only [Act.put]); (try simp only [List.getElem_toArray, List.getElem_cons_zero, List.getElem_cons_succ]); (try simp only [List.setIfInBounds_toArray]); (try simp only [List.set_cons_zero, List.set_cons_succ])
      refine wpAnyH_take (i := 5) (v := ?mv5) rfl (by kernel_rfl) (by kernel_rfl) (by kernel_rfl) (fun _ _ _ h => h) (Or.inl ⟨by rfl, ?mh5⟩) (by assumption) ?mr5
      case mh5 => intro w hSw; (try dsimp only at hSw); go_simp; try with_reducible rfl
      (try simp only [Act.put]); (try simp only [List.getElem_toArray, List.getElem_cons_zero, List.getElem_cons_succ]); (try simp only [List.setIfInBounds_toArray]); (try simp only [List.set_cons_zero, List.set_cons_succ])
      refine wpAnyH_take (i := 6) (v := ?mv6) rfl (by kernel_rfl) (by kernel_rfl) (by kernel_rfl) (fun _ _ _ h => h) (Or.inl ⟨by rfl, ?mh6⟩) (by assumption) ?mr6
      case mh6 => intro w hSw; (try dsimp only at hSw); go_simp; try with_reducible rfl
      (try simp only [Act.put]); (try simp only [List.getElem_toArray, List.getElem_cons_zero, List.getElem_cons_succ]); (try simp only [List.setIfInBounds_toArray]); (try simp only [List.set_cons_zero, List.set_cons_succ])
      refine wpAnyH_ready (rs := [3]) (by kernel_rfl) (by simp) ?_
      refine AllReadyH.cons rfl (fun K hK => ?_) AllReadyH.nil
      go_simp
      go_at_call 30
      refine (flush_2 HSd.out.two HM.out (by omega) x1).mono ?_
      rintro e w1 ⟨rfl, hs, hf⟩
      have HS1 := Lib.hid (HSd.out.op hs hf)
      clear hs hf
      have hSw1 : w1.cell? ⟨q, 1, none⟩ = some (.int .i64 x1) ∧ w1.cell? ⟨q, 2, none⟩ = some (.int .i64 x2) ∧ w1.cell? ⟨q, 4, none⟩ = some (.string xd) := ⟨HS1.out.cell 1 rfl, HS1.out.cell 2 rfl, HS1.out.cell 4 rfl⟩
      clear hHeld
      refine hK.out _ _ hSw1 (fun hHeld => ?_)
      clear hK K
      (try simp only [Act.put]); (try simp only [List.getElem_toArray, List.getElem_cons_zero, List.getElem_cons_succ]); (try simp only [List.setIfInBounds_toArray]); (try simp only [List.set_cons_zero, List.set_cons_succ])
      refine wpAnyH_ready (rs := [7]) (by kernel_rfl) (by simp) ?_
      refine AllReadyH.cons rfl (fun K hK => ?_) AllReadyH.nil
      go_simp
      go_at_call 53
      refine (rflush_2 HS1.out.two (HT.out.wf HM.out) (by omega) x1 ((HT.out.flush x1).wf (flush_wf HM.out))).mono ?_
      rintro e w2 ⟨rfl, hs, hf⟩
      have HS2 := Lib.hid (HS1.out.op hs hf)
      clear hs hf
      have hSw2 : w2.cell? ⟨q, 1, none⟩ = some (.int .i64 x1) ∧ w2.cell? ⟨q, 2, none⟩ = some (.int .i64 x2) ∧ w2.cell? ⟨q, 4, none⟩ = some (.string xd) := ⟨HS2.out.cell 1 rfl, HS2.out.cell 2 rfl, HS2.out.cell 4 rfl⟩
      clear hHeld
      rw [HT.out.flushE]
      obtain ⟨rf, hrf⟩ : ∃ rf, flushE m x1 = rf := ⟨_, rfl⟩
      rw [hrf]
      clear hrf
      refine hK.out _ _ hSw2 (fun hHeld => ?_)
      clear hK K
      (try simp only [Act.put]); (try simp only [List.getElem_toArray, List.getElem_cons_zero, List.getElem_cons_succ]); (try simp only [List.setIfInBounds_toArray]); (try simp only [List.set_cons_zero, List.set_cons_succ])
      refine wpAnyH_take (i := 8) (v := ?mv7) rfl (by kernel_rfl) (by kernel_rfl) (by kernel_rfl) (fun _ _ _ h => h) (Or.inl ⟨by rfl, ?mh7⟩) (by assumption) ?mr7
      case mh7 => intro w hSw; (try dsimp only at hSw); go_simp; try with_reducible rfl
      (try simp only [Act.put]); (try simp only [List.getElem_toArray, List.getElem_cons_zero, List.getElem_cons_succ]); (try simp only [List.setIfInBounds_toArray]); (try simp only [List.set_cons_zero, List.set_cons_succ])
      refine wpAnyH_take (i := 9) (v := ?mv8) rfl (by kernel_rfl) (by kernel_rfl) (by kernel_rfl) (fun _ _ _ h => h) (Or.inl ⟨by rfl, ?mh8⟩) (by assumption) ?mr8
      case mh8 => intro w hSw; (try dsimp only at hSw); go_simp; try with_reducible rfl
      (try simp only [Act.put]); (try simp only [List.getElem_toArray, List.getElem_cons_zero, List.getElem_cons_succ]); (try simp only [List.setIfInBounds_toArray]); (try simp only [List.set_cons_zero, List.set_cons_succ])
      refine wpAnyH_done (by kernel_rfl) ?_ _
      clear hHeld
      go_wp2_with fail
      refine bodyPost_ret (v := .bool true) (by simp [results, Try.results33, go_sem]) rfl ?_
      exact ⟨rfl, HS2.out.out (HT.out.flush x1) (wf_mono (flush_wf HM.out) (by omega))⟩
    · go_enter Try.func33, Try.ntmps33
      go_wp2_with (rw [hwb])
      clear hwb hq
      refine wp_region_held_drew (S := fun w' => w'.cell? ⟨q, 1, none⟩ = some (.int .i64 x1) ∧ w'.cell? ⟨q, 2, none⟩ = some (.int .i64 x2) ∧ w'.cell? ⟨q, 4, none⟩ = some (.string xd)) (by kernel_rfl) ⟨c1, c2, c4⟩ (fun hHeld => ?_)
      have HSd := Lib.hid (HS0.out.below (below_drew (Below.refl _ _)))
      clear c0 c1 c2 c3 c4 c5
      refine wpAnyH_take (i := 0) (v := ?mv9) rfl (by kernel_rfl) (by kernel_rfl) (by kernel_rfl) (fun _ _ _ h => h) (Or.inl ⟨by rfl, ?mh9⟩) (by assumption) ?mr9
      case mh9 => intro w hSw; (try dsimp only at hSw); go_simp; try with_reducible rfl
      (try simp only [Act.put]); (try simp only [List.getElem_toArray, List.getElem_cons_zero, List.getElem_cons_succ]); (try simp only [List.setIfInBounds_toArray]); (try simp only [List.set_cons_zero, List.set_cons_succ])
      refine wpAnyH_take (i := 1) (v := ?mv10) rfl (by kernel_rfl) (by kernel_rfl) (by kernel_rfl) (fun _ _ _ h => h) (Or.inl ⟨by rfl, ?mh10⟩) (by assumption) ?mr10
      case mh10 => intro w hSw; (try dsimp only at hSw); go_simp; try with_reducible rfl
      (try simp only [Act.put]); (try simp only [List.getElem_toArray, List.getElem_cons_zero, List.getElem_cons_succ]); (try simp only [List.setIfInBounds_toArray]); (try simp only [List.set_cons_zero, List.set_cons_succ])
      refine wpAnyH_take (i := 2) (v := ?mv11) rfl (by kernel_rfl) (by kernel_rfl) (by kernel_rfl) (fun _ _ _ h => h) (Or.inl ⟨by rfl, ?mh11⟩) (by assumption) ?mr11
      case mh11 => intro w hSw; (try dsimp only at hSw); go_simp; try with_reducible rfl
      (try simp only [Act.put]); (try simp only [List.getElem_toArray, List.getElem_cons_zero, List.getElem_cons_succ]); (try simp only [List.setIfInBounds_toArray]); (try simp only [List.set_cons_zero, List.set_cons_succ])
      refine wpAnyH_take (i := 4) (v := ?mv12) rfl (by kernel_rfl) (by kernel_rfl) (by kernel_rfl) (fun _ _ _ h => h) (Or.inl ⟨by rfl, ?mh12⟩) (by assumption) ?mr12
      case mh12 => intro w hSw; (try dsimp only at hSw); go_simp; try with_reducible rfl
      (try simp only [Act.put]); (try simp only [List.getElem_toArray, List.getElem_cons_zero, List.getElem_cons_succ]); (try simp only [List.setIfInBounds_toArray]); (try simp only [List.set_cons_zero, List.set_cons_succ])
      refine wpAnyH_take (i := 5) (v := ?mv13) rfl (by kernel_rfl) (by kernel_rfl) (by kernel_rfl) (fun _ _ _ h => h) (Or.inl ⟨by rfl, ?mh13⟩) (by assumption) ?mr13
      case mh13 => intro w hSw; (try dsimp only at hSw); go_simp; try with_reducible rfl
      (try simp only [Act.put]); (try simp only [List.getElem_toArray, List.getElem_cons_zero, List.getElem_cons_succ]); (try simp only [List.setIfInBounds_toArray]); (try simp only [List.set_cons_zero, List.set_cons_succ])
      refine wpAnyH_take (i := 6) (v := ?mv14) rfl (by kernel_rfl) (by kernel_rfl) (by kernel_rfl) (fun _ _ _ h => h) (Or.inl ⟨by rfl, ?mh14⟩) (by assumption) ?mr14
      case mh14 => intro w hSw; (try dsimp only at hSw); go_simp; try with_reducible rfl
      (try simp only [Act.put]); (try simp only [List.getElem_toArray, List.getElem_cons_zero, List.getElem_cons_succ]); (try simp only [List.setIfInBounds_toArray]); (try simp only [List.set_cons_zero, List.set_cons_succ])
      refine wpAnyH_ready (rs := [3]) (by kernel_rfl) (by simp) ?_
      refine AllReadyH.cons rfl (fun K hK => ?_) AllReadyH.nil
      go_simp
      go_at_call 30
      refine (flush_2 HSd.out.two HM.out (by omega) x1).mono ?_
      rintro e w1 ⟨rfl, hs, hf⟩
      have HS1 := Lib.hid (HSd.out.op hs hf)
      clear hs hf
      have hSw1 : w1.cell? ⟨q, 1, none⟩ = some (.int .i64 x1) ∧ w1.cell? ⟨q, 2, none⟩ = some (.int .i64 x2) ∧ w1.cell? ⟨q, 4, none⟩ = some (.string xd) := ⟨HS1.out.cell 1 rfl, HS1.out.cell 2 rfl, HS1.out.cell 4 rfl⟩
      clear hHeld
      refine hK.out _ _ hSw1 (fun hHeld => ?_)
      clear hK K
      (try simp only [Act.put]); (try simp only [List.getElem_toArray, List.getElem_cons_zero, List.getElem_cons_succ]); (try simp only [List.setIfInBounds_toArray]); (try simp only [List.set_cons_zero, List.set_cons_succ])
      refine wpAnyH_ready (rs := [7]) (by kernel_rfl) (by simp) ?_
      refine AllReadyH.cons rfl (fun K hK => ?_) AllReadyH.nil
      go_simp
      go_at_call 53
      refine (rflush_2 HS1.out.two (HT.out.wf HM.out) (by omega) x1 ((HT.out.flush x1).wf (flush_wf HM.out))).mono ?_
      rintro e w2 ⟨rfl, hs, hf⟩
      have HS2 := Lib.hid (HS1.out.op hs hf)
      clear hs hf
      have hSw2 : w2.cell? ⟨q, 1, none⟩ = some (.int .i64 x1) ∧ w2.cell? ⟨q, 2, none⟩ = some (.int .i64 x2) ∧ w2.cell? ⟨q, 4, none⟩ = some (.string xd) := ⟨HS2.out.cell 1 rfl, HS2.out.cell 2 rfl, HS2.out.cell 4 rfl⟩
      clear hHeld
      rw [HT.out.flushE]
      obtain ⟨rf, hrf⟩ : ∃ rf, flushE m x1 = rf := ⟨_, rfl⟩
      rw [hrf]
      clear hrf
      refine hK.out _ _ hSw2 (fun hHeld => ?_)
      clear hK K
      (try simp only [Act.put]); (try simp only [List.getElem_toArray, List.getElem_cons_zero, List.getElem_cons_succ]); (try simp only [List.setIfInBounds_toArray]); (try simp only [List.set_cons_zero, List.set_cons_succ])
      refine wpAnyH_take (i := 8) (v := ?mv15) rfl (by kernel_rfl) (by kernel_rfl) (by kernel_rfl) (fun _ _ _ h => h) (Or.inl ⟨by rfl, ?mh15⟩) (by assumption) ?mr15
      case mh15 => intro w hSw; (try dsimp only at hSw); go_simp; try with_reducible rfl
      (try simp only [Act.put]); (try simp only [List.getElem_toArray, List.getElem_cons_zero, List.getElem_cons_succ]); (try simp only [List.setIfInBounds_toArray]); (try simp only [List.set_cons_zero, List.set_cons_succ])
      refine wpAnyH_take (i := 9) (v := ?mv16) rfl (by kernel_rfl) (by kernel_rfl) (by kernel_rfl) (fun _ _ _ h => h) (Or.inl ⟨by rfl, ?mh16⟩) (by assumption) ?mr16
      case mh16 => intro w hSw; (try dsimp only at hSw); go_simp; try with_reducible rfl
      (try simp only [Act.put]); (try simp only [List.getElem_toArray, List.getElem_cons_zero, List.getElem_cons_succ]); (try simp only [List.setIfInBounds_toArray]); (try simp only [List.set_cons_zero, List.set_cons_succ])
      refine wpAnyH_done (by kernel_rfl) ?_ _
      clear hHeld
      go_wp2_with fail
      refine bodyPost_ret (v := .bool true) (by simp [results, Try.results33, go_sem]) rfl ?_
      exact ⟨rfl, HS2.out.out (HT.out.flush x1) (wf_mono (flush_wf HM.out) (by omega))⟩
  by_cases r3 : r = 3 ∨ r = -3
  · rcases r3 with rfl | rfl
    all_goals
      go_enter Try.func33, Try.ntmps33
      go_wp2_with (rw [hwb])
      clear hwb hq
      refine (cut_2 HS0.out.two HM.out x1 x3 h3 A cc keep hk HK.out (HS0.out.keep HC.out)).mono ?_
      rintro e w1 ⟨rfl, hs, hf⟩
      have HS1 := Lib.hid (HS0.out.op hs hf)
      clear hs hf c0 c1 c2 c3 c4 c5
      have c0 : w1.cell? ⟨q, 0, none⟩ = some (.int .i64 x0) := HS1.out.cell 0 rfl
      have c1 : w1.cell? ⟨q, 1, none⟩ = some (.int .i64 x1) := HS1.out.cell 1 rfl
      have c2 : w1.cell? ⟨q, 2, none⟩ = some (.int .i64 x2) := HS1.out.cell 2 rfl
      have c3 : w1.cell? ⟨q, 3, none⟩ = some (.int .i64 x3) := HS1.out.cell 3 rfl
      have c4 : w1.cell? ⟨q, 4, none⟩ = some (.string xd) := HS1.out.cell 4 rfl
      have c5 : w1.cell? ⟨q, 5, none⟩ = some (.slice A keep.length cc) := HS1.out.cell 5 rfl
      go_wp2_with fail
      refine (rcut_2 HS1.out.two x1 x3 A cc keep hk ((HT.out.cut x1 x3 keep).wf (cut_wf HM.out h3 HK.out)).few (HS1.out.keep HC.out)).mono ?_
      rintro e w2 ⟨rfl, hs, hf⟩
      have HS2 := Lib.hid (HS1.out.op hs hf)
      clear hs hf c0 c1 c2 c3 c4 c5
      have c0 : w2.cell? ⟨q, 0, none⟩ = some (.int .i64 x0) := HS2.out.cell 0 rfl
      have c1 : w2.cell? ⟨q, 1, none⟩ = some (.int .i64 x1) := HS2.out.cell 1 rfl
      have c2 : w2.cell? ⟨q, 2, none⟩ = some (.int .i64 x2) := HS2.out.cell 2 rfl
      have c3 : w2.cell? ⟨q, 3, none⟩ = some (.int .i64 x3) := HS2.out.cell 3 rfl
      have c4 : w2.cell? ⟨q, 4, none⟩ = some (.string xd) := HS2.out.cell 4 rfl
      have c5 : w2.cell? ⟨q, 5, none⟩ = some (.slice A keep.length cc) := HS2.out.cell 5 rfl
      go_wp2_with fail
      refine bodyPost_ret (v := .bool true) (by simp [results, Try.results33, go_sem]) rfl ?_
      exact ⟨rfl, HS2.out.out (HT.out.cut x1 x3 keep) (wf_mono (cut_wf HM.out h3 HK.out) (by omega))⟩
  by_cases r4 : r = 4 ∨ r = -4
  · rcases r4 with rfl | rfl
    all_goals
      go_enter Try.func33, Try.ntmps33
      go_wp2_with (rw [hwb])
      clear hwb hq
      refine (crash_2 HS0.out.two HM.out (by omega) A cc keep HK.out (HS0.out.keep HC.out)).mono ?_
      rintro e w1 ⟨rfl, hs, hf⟩
      have HS1 := Lib.hid (HS0.out.op hs hf)
      clear hs hf c0 c1 c2 c3 c4 c5
      have c0 : w1.cell? ⟨q, 0, none⟩ = some (.int .i64 x0) := HS1.out.cell 0 rfl
      have c1 : w1.cell? ⟨q, 1, none⟩ = some (.int .i64 x1) := HS1.out.cell 1 rfl
      have c2 : w1.cell? ⟨q, 2, none⟩ = some (.int .i64 x2) := HS1.out.cell 2 rfl
      have c3 : w1.cell? ⟨q, 3, none⟩ = some (.int .i64 x3) := HS1.out.cell 3 rfl
      have c4 : w1.cell? ⟨q, 4, none⟩ = some (.string xd) := HS1.out.cell 4 rfl
      have c5 : w1.cell? ⟨q, 5, none⟩ = some (.slice A keep.length cc) := HS1.out.cell 5 rfl
      go_wp2_with fail
      refine (rcrash_2 HS1.out.two (HT.out.wf HM.out) (by omega) A cc keep HK.out ((HT.out.crash keep).wf (crash_wf keep HM.out)) (HS1.out.keep HC.out)).mono ?_
      rintro e w2 ⟨rfl, hs, hf⟩
      have HS2 := Lib.hid (HS1.out.op hs hf)
      clear hs hf c0 c1 c2 c3 c4 c5
      have c0 : w2.cell? ⟨q, 0, none⟩ = some (.int .i64 x0) := HS2.out.cell 0 rfl
      have c1 : w2.cell? ⟨q, 1, none⟩ = some (.int .i64 x1) := HS2.out.cell 1 rfl
      have c2 : w2.cell? ⟨q, 2, none⟩ = some (.int .i64 x2) := HS2.out.cell 2 rfl
      have c3 : w2.cell? ⟨q, 3, none⟩ = some (.int .i64 x3) := HS2.out.cell 3 rfl
      have c4 : w2.cell? ⟨q, 4, none⟩ = some (.string xd) := HS2.out.cell 4 rfl
      have c5 : w2.cell? ⟨q, 5, none⟩ = some (.slice A keep.length cc) := HS2.out.cell 5 rfl
      go_wp2_with fail
      refine bodyPost_ret (v := .bool true) (by simp [results, Try.results33, go_sem]) rfl ?_
      exact ⟨rfl, HS2.out.out (HT.out.crash keep) (wf_mono (crash_wf keep HM.out) (by omega))⟩
  by_cases r5 : r = 5 ∨ r = -5
  · rcases r5 with rfl | rfl
    all_goals
      go_enter Try.func33, Try.ntmps33
      go_wp2_with (rw [hwb])
      clear hwb hq
      refine (on_2 HS0.out.two).mono ?_
      rintro e w1 ⟨rfl, hs, hf⟩
      have HS1 := Lib.hid (HS0.out.op hs hf)
      clear hs hf c0 c1 c2 c3 c4 c5
      have c0 : w1.cell? ⟨q, 0, none⟩ = some (.int .i64 x0) := HS1.out.cell 0 rfl
      have c1 : w1.cell? ⟨q, 1, none⟩ = some (.int .i64 x1) := HS1.out.cell 1 rfl
      have c2 : w1.cell? ⟨q, 2, none⟩ = some (.int .i64 x2) := HS1.out.cell 2 rfl
      have c3 : w1.cell? ⟨q, 3, none⟩ = some (.int .i64 x3) := HS1.out.cell 3 rfl
      have c4 : w1.cell? ⟨q, 4, none⟩ = some (.string xd) := HS1.out.cell 4 rfl
      have c5 : w1.cell? ⟨q, 5, none⟩ = some (.slice A keep.length cc) := HS1.out.cell 5 rfl
      go_wp2_with fail
      refine (ron_2 HS1.out.two).mono ?_
      rintro e w2 ⟨rfl, hs, hf⟩
      have HS2 := Lib.hid (HS1.out.op hs hf)
      clear hs hf c0 c1 c2 c3 c4 c5
      have c0 : w2.cell? ⟨q, 0, none⟩ = some (.int .i64 x0) := HS2.out.cell 0 rfl
      have c1 : w2.cell? ⟨q, 1, none⟩ = some (.int .i64 x1) := HS2.out.cell 1 rfl
      have c2 : w2.cell? ⟨q, 2, none⟩ = some (.int .i64 x2) := HS2.out.cell 2 rfl
      have c3 : w2.cell? ⟨q, 3, none⟩ = some (.int .i64 x3) := HS2.out.cell 3 rfl
      have c4 : w2.cell? ⟨q, 4, none⟩ = some (.string xd) := HS2.out.cell 4 rfl
      have c5 : w2.cell? ⟨q, 5, none⟩ = some (.slice A keep.length cc) := HS2.out.cell 5 rfl
      go_wp2_with fail
      refine bodyPost_ret (v := .bool true) (by simp [results, Try.results33, go_sem]) rfl ?_
      exact ⟨rfl, HS2.out.out (HT.out.on) (wf_mono (on_wf HM.out) (by omega))⟩
  by_cases r6 : r = 6 ∨ r = -6
  · obtain ⟨qd, hqd⟩ : ∃ q : Nat, min xd.size 200 = q := ⟨_, rfl⟩
    have hqi : min (xd.size : Int) 200 = (qd : Int) := by omega
    have hq1 : qd ≤ xd.size := by omega
    obtain ⟨sd, hsd⟩ : ∃ sd, xd.extract 0 qd = sd := ⟨_, rfl⟩
    clear hqd
    rcases r6 with rfl | rfl
    all_goals
      go_enter Try.func33, Try.ntmps33
      go_wp2_with (first | rw [hwb] | rw [hsd])
      clear hwb hq
      refine (lay_2 HS0.out.two HM.out x1 sd).mono ?_
      rintro e w1 ⟨rfl, hs, hf⟩
      have HS1 := Lib.hid (HS0.out.op hs hf)
      clear hs hf c0 c1 c2 c3 c4 c5
      have c0 : w1.cell? ⟨q, 0, none⟩ = some (.int .i64 x0) := HS1.out.cell 0 rfl
      have c1 : w1.cell? ⟨q, 1, none⟩ = some (.int .i64 x1) := HS1.out.cell 1 rfl
      have c2 : w1.cell? ⟨q, 2, none⟩ = some (.int .i64 x2) := HS1.out.cell 2 rfl
      have c3 : w1.cell? ⟨q, 3, none⟩ = some (.int .i64 x3) := HS1.out.cell 3 rfl
      have c4 : w1.cell? ⟨q, 4, none⟩ = some (.string xd) := HS1.out.cell 4 rfl
      have c5 : w1.cell? ⟨q, 5, none⟩ = some (.slice A keep.length cc) := HS1.out.cell 5 rfl
      go_wp2_with fail
      refine (rlay_2 HS1.out.two (HT.out.wf HM.out) x1 sd).mono ?_
      rintro e w2 ⟨rfl, hs, hf⟩
      have HS2 := Lib.hid (HS1.out.op hs hf)
      clear hs hf c0 c1 c2 c3 c4 c5
      have c0 : w2.cell? ⟨q, 0, none⟩ = some (.int .i64 x0) := HS2.out.cell 0 rfl
      have c1 : w2.cell? ⟨q, 1, none⟩ = some (.int .i64 x1) := HS2.out.cell 1 rfl
      have c2 : w2.cell? ⟨q, 2, none⟩ = some (.int .i64 x2) := HS2.out.cell 2 rfl
      have c3 : w2.cell? ⟨q, 3, none⟩ = some (.int .i64 x3) := HS2.out.cell 3 rfl
      have c4 : w2.cell? ⟨q, 4, none⟩ = some (.string xd) := HS2.out.cell 4 rfl
      have c5 : w2.cell? ⟨q, 5, none⟩ = some (.slice A keep.length cc) := HS2.out.cell 5 rfl
      go_wp2_with fail
      refine bodyPost_ret (v := .bool true) (by simp [results, Try.results33, go_sem]) rfl ?_
      exact ⟨rfl, HS2.out.out (HT.out.lay x1 sd) (wf_mono (lay_wf HM.out) (by omega))⟩
  have q1 : (r == 1) = false := by simp; omega
  have q2 : (r == -1) = false := by simp; omega
  have q3 : (r == 2) = false := by simp; omega
  have q4 : (r == -2) = false := by simp; omega
  have q5 : (r == 3) = false := by simp; omega
  have q6 : (r == -3) = false := by simp; omega
  have q7 : (r == 4) = false := by simp; omega
  have q8 : (r == -4) = false := by simp; omega
  have q9 : (r == 5) = false := by simp; omega
  have q10 : (r == -5) = false := by simp; omega
  have q11 : (r == 6) = false := by simp; omega
  have q12 : (r == -6) = false := by simp; omega
  clear r1 r2 r3 r4 r5 r6
  go_enter Try.func33, Try.ntmps33
  go_wp2_with (rw [hwb])
  clear hwb hq
  refine wp_region_held_drew (S := fun w' => w'.cell? ⟨q, 1, none⟩ = some (.int .i64 x1) ∧ w'.cell? ⟨q, 2, none⟩ = some (.int .i64 x2) ∧ w'.cell? ⟨q, 4, none⟩ = some (.string xd)) (by kernel_rfl) ⟨c1, c2, c4⟩ (fun hHeld => ?_)
  have HSd := Lib.hid (HS0.out.below (below_drew (Below.refl _ _)))
  clear c0 c1 c2 c3 c4 c5
  refine wpAnyH_take (i := 0) (v := ?mv17) rfl (by kernel_rfl) (by kernel_rfl) (by kernel_rfl) (fun _ _ _ h => h) (Or.inl ⟨by rfl, ?mh17⟩) (by assumption) ?mr17
  case mh17 => intro w hSw; (try dsimp only at hSw); go_simp; try with_reducible rfl
  (try simp only [Act.put]); (try simp only [List.getElem_toArray, List.getElem_cons_zero, List.getElem_cons_succ]); (try simp only [List.setIfInBounds_toArray]); (try simp only [List.set_cons_zero, List.set_cons_succ])
  refine wpAnyH_take (i := 1) (v := ?mv18) rfl (by kernel_rfl) (by kernel_rfl) (by kernel_rfl) (fun _ _ _ h => h) (Or.inl ⟨by rfl, ?mh18⟩) (by assumption) ?mr18
  case mh18 => intro w hSw; (try dsimp only at hSw); go_simp; try with_reducible rfl
  (try simp only [Act.put]); (try simp only [List.getElem_toArray, List.getElem_cons_zero, List.getElem_cons_succ]); (try simp only [List.setIfInBounds_toArray]); (try simp only [List.set_cons_zero, List.set_cons_succ])
  refine wpAnyH_take (i := 2) (v := ?mv19) rfl (by kernel_rfl) (by kernel_rfl) (by kernel_rfl) (fun _ _ _ h => h) (Or.inl ⟨by rfl, ?mh19⟩) (by assumption) ?mr19
  case mh19 => intro w hSw; (try dsimp only at hSw); go_simp; try with_reducible rfl
  (try simp only [Act.put]); (try simp only [List.getElem_toArray, List.getElem_cons_zero, List.getElem_cons_succ]); (try simp only [List.setIfInBounds_toArray]); (try simp only [List.set_cons_zero, List.set_cons_succ])
  refine wpAnyH_take (i := 3) (v := ?mv20) rfl (by kernel_rfl) (by kernel_rfl) (by kernel_rfl) (fun _ _ _ h => h) (Or.inl ⟨by rfl, ?mh20⟩) (by assumption) ?mr20
  case mh20 => intro w hSw; (try dsimp only at hSw); go_simp; try with_reducible rfl
  (try simp only [Act.put]); (try simp only [List.getElem_toArray, List.getElem_cons_zero, List.getElem_cons_succ]); (try simp only [List.setIfInBounds_toArray]); (try simp only [List.set_cons_zero, List.set_cons_succ])
  refine wpAnyH_take (i := 4) (v := ?mv21) rfl (by kernel_rfl) (by kernel_rfl) (by kernel_rfl) (fun _ _ _ h => h) (Or.inl ⟨by rfl, ?mh21⟩) (by assumption) ?mr21
  case mh21 => intro w hSw; (try dsimp only at hSw); go_simp; try with_reducible rfl
  (try simp only [Act.put]); (try simp only [List.getElem_toArray, List.getElem_cons_zero, List.getElem_cons_succ]); (try simp only [List.setIfInBounds_toArray]); (try simp only [List.set_cons_zero, List.set_cons_succ])
  refine wpAnyH_take (i := 5) (v := ?mv22) rfl (by kernel_rfl) (by kernel_rfl) (by kernel_rfl) (fun _ _ _ h => h) (Or.inl ⟨by rfl, ?mh22⟩) (by assumption) ?mr22
  case mh22 => intro w hSw; (try dsimp only at hSw); go_simp; try with_reducible rfl
  (try simp only [Act.put]); (try simp only [List.getElem_toArray, List.getElem_cons_zero, List.getElem_cons_succ]); (try simp only [List.setIfInBounds_toArray]); (try simp only [List.set_cons_zero, List.set_cons_succ])
  refine wpAnyH_take (i := 6) (v := ?mv23) rfl (by kernel_rfl) (by kernel_rfl) (by kernel_rfl) (fun _ _ _ h => h) (Or.inl ⟨by rfl, ?mh23⟩) (by assumption) ?mr23
  case mh23 => intro w hSw; (try dsimp only at hSw); go_simp; try with_reducible rfl
  (try simp only [Act.put]); (try simp only [List.getElem_toArray, List.getElem_cons_zero, List.getElem_cons_succ]); (try simp only [List.setIfInBounds_toArray]); (try simp only [List.set_cons_zero, List.set_cons_succ])
  refine wpAnyH_take (i := 9) (v := ?mv24) rfl (by kernel_rfl) (by kernel_rfl) (by kernel_rfl) (fun _ _ _ h => h) (Or.inl ⟨by rfl, ?mh24⟩) (by assumption) ?mr24
  case mh24 => intro w hSw; (try dsimp only at hSw); go_simp; try with_reducible rfl
  (try simp only [Act.put]); (try simp only [List.getElem_toArray, List.getElem_cons_zero, List.getElem_cons_succ]); (try simp only [List.setIfInBounds_toArray]); (try simp only [List.set_cons_zero, List.set_cons_succ])
  refine wpAnyH_take (i := 10) (v := ?mv25) rfl (by kernel_rfl) (by kernel_rfl) (by kernel_rfl) (fun _ _ _ h => h) (Or.inl ⟨by rfl, ?mh25⟩) (by assumption) ?mr25
  case mh25 => intro w hSw; (try dsimp only at hSw); go_simp; try with_reducible rfl
  (try simp only [Act.put]); (try simp only [List.getElem_toArray, List.getElem_cons_zero, List.getElem_cons_succ]); (try simp only [List.setIfInBounds_toArray]); (try simp only [List.set_cons_zero, List.set_cons_succ])
  refine wpAnyH_take (i := 11) (v := ?mv26) rfl (by kernel_rfl) (by kernel_rfl) (by kernel_rfl) (fun _ _ _ h => h) (Or.inl ⟨by rfl, ?mh26⟩) (by assumption) ?mr26
  case mh26 => intro w hSw; (try dsimp only at hSw); go_simp; try with_reducible rfl
  (try simp only [Act.put]); (try simp only [List.getElem_toArray, List.getElem_cons_zero, List.getElem_cons_succ]); (try simp only [List.setIfInBounds_toArray]); (try simp only [List.set_cons_zero, List.set_cons_succ])
  refine wpAnyH_take (i := 12) (v := ?mv27) rfl (by kernel_rfl) (by kernel_rfl) (by kernel_rfl) (fun _ _ _ h => h) (Or.inl ⟨by rfl, ?mh27⟩) (by assumption) ?mr27
  case mh27 => intro w hSw; (try dsimp only at hSw); go_simp; try with_reducible rfl
  (try simp only [Act.put]); (try simp only [List.getElem_toArray, List.getElem_cons_zero, List.getElem_cons_succ]); (try simp only [List.setIfInBounds_toArray]); (try simp only [List.set_cons_zero, List.set_cons_succ])
  refine wpAnyH_take (i := 13) (v := ?mv28) rfl (by kernel_rfl) (by kernel_rfl) (by kernel_rfl) (fun _ _ _ h => h) (Or.inl ⟨by rfl, ?mh28⟩) (by assumption) ?mr28
  case mh28 => intro w hSw; (try dsimp only at hSw); go_simp; try with_reducible rfl
  (try simp only [Act.put]); (try simp only [List.getElem_toArray, List.getElem_cons_zero, List.getElem_cons_succ]); (try simp only [List.setIfInBounds_toArray]); (try simp only [List.set_cons_zero, List.set_cons_succ])
  refine wpAnyH_take (i := 14) (v := ?mv29) rfl (by kernel_rfl) (by kernel_rfl) (by kernel_rfl) (fun _ _ _ h => h) (Or.inl ⟨by rfl, ?mh29⟩) (by assumption) ?mr29
  case mh29 => intro w hSw; (try dsimp only at hSw); go_simp; try with_reducible rfl
  (try simp only [Act.put]); (try simp only [List.getElem_toArray, List.getElem_cons_zero, List.getElem_cons_succ]); (try simp only [List.setIfInBounds_toArray]); (try simp only [List.set_cons_zero, List.set_cons_succ])
  refine wpAnyH_take (i := 15) (v := ?mv30) rfl (by kernel_rfl) (by kernel_rfl) (by kernel_rfl) (fun _ _ _ h => h) (Or.inl ⟨by rfl, ?mh30⟩) (by assumption) ?mr30
  case mh30 => intro w hSw; (try dsimp only at hSw); go_simp; try with_reducible rfl
  (try simp only [Act.put]); (try simp only [List.getElem_toArray, List.getElem_cons_zero, List.getElem_cons_succ]); (try simp only [List.setIfInBounds_toArray]); (try simp only [List.set_cons_zero, List.set_cons_succ])
  refine wpAnyH_ready (rs := [7]) (by kernel_rfl) (by simp) ?_
  refine AllReadyH.cons rfl (fun K hK => ?_) AllReadyH.nil
  go_simp
  go_at_call 26
  refine (sector_any xd _).mono ?_
  rintro e w1 ⟨rfl, hb⟩
  have HS1 := Lib.hid (HSd.out.below hb)
  clear hb
  have hSw1 : w1.cell? ⟨q, 1, none⟩ = some (.int .i64 x1) ∧ w1.cell? ⟨q, 2, none⟩ = some (.int .i64 x2) ∧ w1.cell? ⟨q, 4, none⟩ = some (.string xd) := ⟨HS1.out.cell 1 rfl, HS1.out.cell 2 rfl, HS1.out.cell 4 rfl⟩
  clear hHeld
  obtain ⟨sd, hsd⟩ : ∃ sd, sectorB xd = sd := ⟨_, rfl⟩
  have HSD := Lib.hid hsd
  rw [hsd]
  clear hsd
  refine hK.out _ _ hSw1 (fun hHeld => ?_)
  clear hK K
  (try simp only [Act.put]); (try simp only [List.getElem_toArray, List.getElem_cons_zero, List.getElem_cons_succ]); (try simp only [List.setIfInBounds_toArray]); (try simp only [List.set_cons_zero, List.set_cons_succ])
  refine wpAnyH_ready (rs := [8]) (by kernel_rfl) (by simp) ?_
  refine AllReadyH.cons rfl (fun K hK => ?_) AllReadyH.nil
  go_simp
  go_at_call 25
  refine (write_2 HS1.out.two HM.out hN x1 x2 sd).mono ?_
  rintro e w2 ⟨rfl, hs, hf⟩
  have HS2 := Lib.hid (HS1.out.op hs hf)
  clear hs hf
  have hSw2 : w2.cell? ⟨q, 1, none⟩ = some (.int .i64 x1) ∧ w2.cell? ⟨q, 2, none⟩ = some (.int .i64 x2) ∧ w2.cell? ⟨q, 4, none⟩ = some (.string xd) := ⟨HS2.out.cell 1 rfl, HS2.out.cell 2 rfl, HS2.out.cell 4 rfl⟩
  clear hHeld
  refine hK.out _ _ hSw2 (fun hHeld => ?_)
  clear hK K
  (try simp only [Act.put]); (try simp only [List.getElem_toArray, List.getElem_cons_zero, List.getElem_cons_succ]); (try simp only [List.setIfInBounds_toArray]); (try simp only [List.set_cons_zero, List.set_cons_succ])
  refine wpAnyH_ready (rs := [16]) (by kernel_rfl) (by simp) ?_
  refine AllReadyH.cons rfl (fun K hK => ?_) AllReadyH.nil
  go_simp
  go_at_call 26
  refine (sector_any xd _).mono ?_
  rintro e w3 ⟨rfl, hb⟩
  have HS3 := Lib.hid (HS2.out.below hb)
  clear hb
  have hSw3 : w3.cell? ⟨q, 1, none⟩ = some (.int .i64 x1) ∧ w3.cell? ⟨q, 2, none⟩ = some (.int .i64 x2) ∧ w3.cell? ⟨q, 4, none⟩ = some (.string xd) := ⟨HS3.out.cell 1 rfl, HS3.out.cell 2 rfl, HS3.out.cell 4 rfl⟩
  clear hHeld
  rw [HSD.out]
  refine hK.out _ _ hSw3 (fun hHeld => ?_)
  clear hK K
  (try simp only [Act.put]); (try simp only [List.getElem_toArray, List.getElem_cons_zero, List.getElem_cons_succ]); (try simp only [List.setIfInBounds_toArray]); (try simp only [List.set_cons_zero, List.set_cons_succ])
  refine wpAnyH_ready (rs := [17]) (by kernel_rfl) (by simp) ?_
  refine AllReadyH.cons rfl (fun K hK => ?_) AllReadyH.nil
  go_simp
  go_at_call 58
  refine (rwrite_2 HS3.out.two (HT.out.wf HM.out) x1 x2 sd ((HT.out.write x1 x2 sd).wf (write_wf HM.out)) hN).mono ?_
  rintro e w4 ⟨rfl, hs, hf⟩
  have HS4 := Lib.hid (HS3.out.op hs hf)
  clear hs hf
  have hSw4 : w4.cell? ⟨q, 1, none⟩ = some (.int .i64 x1) ∧ w4.cell? ⟨q, 2, none⟩ = some (.int .i64 x2) ∧ w4.cell? ⟨q, 4, none⟩ = some (.string xd) := ⟨HS4.out.cell 1 rfl, HS4.out.cell 2 rfl, HS4.out.cell 4 rfl⟩
  clear hHeld
  rw [HT.out.writeE]
  obtain ⟨rf, hrf⟩ : ∃ rf, writeE m x1 x2 sd = rf := ⟨_, rfl⟩
  rw [hrf]
  clear hrf
  refine hK.out _ _ hSw4 (fun hHeld => ?_)
  clear hK K
  (try simp only [Act.put]); (try simp only [List.getElem_toArray, List.getElem_cons_zero, List.getElem_cons_succ]); (try simp only [List.setIfInBounds_toArray]); (try simp only [List.set_cons_zero, List.set_cons_succ])
  refine wpAnyH_take (i := 18) (v := ?mv31) rfl (by kernel_rfl) (by kernel_rfl) (by kernel_rfl) (fun _ _ _ h => h) (Or.inl ⟨by rfl, ?mh31⟩) (by assumption) ?mr31
  case mh31 => intro w hSw; (try dsimp only at hSw); go_simp; try with_reducible rfl
  (try simp only [Act.put]); (try simp only [List.getElem_toArray, List.getElem_cons_zero, List.getElem_cons_succ]); (try simp only [List.setIfInBounds_toArray]); (try simp only [List.set_cons_zero, List.set_cons_succ])
  refine wpAnyH_take (i := 19) (v := ?mv32) rfl (by kernel_rfl) (by kernel_rfl) (by kernel_rfl) (fun _ _ _ h => h) (Or.inl ⟨by rfl, ?mh32⟩) (by assumption) ?mr32
  case mh32 => intro w hSw; (try dsimp only at hSw); go_simp; try with_reducible rfl
  (try simp only [Act.put]); (try simp only [List.getElem_toArray, List.getElem_cons_zero, List.getElem_cons_succ]); (try simp only [List.setIfInBounds_toArray]); (try simp only [List.set_cons_zero, List.set_cons_succ])
  refine wpAnyH_done (by kernel_rfl) ?_ _
  clear hHeld
  go_wp2_with fail
  refine bodyPost_ret (v := .bool true) (by simp [results, Try.results33, go_sem]) rfl ?_
  exact ⟨rfl, HS4.out.out (HT.out.write x1 x2 sd) (write_wf HM.out)⟩

end Go.Proofs.Ytekpbpcfeopilaa.Eh
