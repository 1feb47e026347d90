/- image.value of a state that has nothing; image's readers of single values: must, list, long, where they go well; image.Put of a new tenant: the bytes of its value; pack.Get of a value's bytes. -/
import Derived.Test.YtieaipclioppkaaGreatN5
import Derived.Test.YtieaipclioppkaaGreatN3
import Derived.Defers
import Derived.Recover
import Derived.Laws.Pointers
set_option linter.unusedSimpArgs false
set_option linter.unusedVariables false

/-! image.value of a state that has nothing. -/
namespace Go.Proofs.YtieaipclioppkaaGreat.Iv
open Go Go.RowKit Go.Joins Go.Proofs.YtieaipclioppkaaGreatCore Go.Proofs.YtieaipclioppkaaGreat.PLeaf Go.Proofs.YtieaipclioppkaaGreat.Fr Go.Proofs.YtieaipclioppkaaGreat.Pk Go.Proofs.YtieaipclioppkaaGreat.Rd Go.Proofs.YtieaipclioppkaaGreat.Vl Go.Proofs.YtieaipclioppkaaGreat.St Go.Proofs.YtieaipclioppkaaGreat.Nw Go.Proofs.YtieaipclioppkaaGreatW.PrintWords Go.Proofs.YtieaipclioppkaaGreatW.PrintLast Go.Proofs.YtieaipclioppkaaGreatW.PrintMore

/-- The value of a state that has nothing. -/
def stV (s : TS) : V := ⟨2, 0, ⟨#[]⟩, [numV s.num, numV s.epoch, numV s.next, numV s.ncall, numV s.tick, numV s.left, ⟨2, 0, ⟨#[]⟩, s.roles.map numV⟩, ⟨2, 0, ⟨#[]⟩, s.seen.map numV⟩, ⟨2, 0, ⟨#[]⟩, []⟩, ⟨2, 0, ⟨#[]⟩, []⟩, ⟨2, 0, ⟨#[]⟩, []⟩, ⟨2, 0, ⟨#[]⟩, []⟩, ⟨2, 0, ⟨#[]⟩, []⟩]⟩
/-- It has no lists. -/
structure Bare (s : TS) : Prop where
  ok : s.Ok
  g : s.g = .slice none 0 0
  f : s.f = .slice none 0 0
  r : s.r = .slice none 0 0
  q : s.q = .slice none 0 0
  c : s.c = .slice none 0 0
theorem own_fresh_ne {W : World} {k n c : Nat} (h : k < W.heap.size) : some k ≠ (Value.slice (some ⟨W.heap.size, 0, none⟩) n c).ownBlock := by
  intro e
  have e2 : k = W.heap.size := by simpa [Value.ownBlock] using e
  omega
theorem SAt.drew {w : World} {q : Nat} {s : TS} (h : SAt w q s) : SAt w.drew q s := h

set_option maxHeartbeats 8000000 in
set_option maxRecDepth 100000 in
theorem value_bare (s : TS) (hb : Bare s) (w : World) : Calls Tryz.prog 29 #[.agg s.cs.toArray] w fun e w' => MadeV (stV s) w.heap.size (fun _ => True) w e w' := by
  obtain ⟨w0, hw0⟩ : ∃ w0, w.alloc (.cells s.cs.toArray 42) = w0 := ⟨_, rfl⟩
  obtain ⟨qs, hqs⟩ : ∃ q, w.heap.size = q := ⟨_, rfl⟩
  obtain ⟨w1, hw1⟩ : ∃ w1, w0.alloc (.cells #[.int .i64 0, .int .i64 0, .string ⟨#[]⟩, .slice none 0 0] 65) = w1 := ⟨_, rfl⟩
  obtain ⟨q, hq⟩ : ∃ q, w0.heap.size = q := ⟨_, rfl⟩
  have hb0 : Below w.heap.size w w0 := by rw [← hw0]; exact (Below.refl _ _).alloc (Nat.le_refl _) _
  have hb1 : Below w0.heap.size w0 w1 := by rw [← hw1]; exact (Below.refl _ _).alloc (Nat.le_refl _) _
  have hs0 : SAt w0 qs s := by rw [← hw0, ← hqs]; exact SAt.new w s
  have hs1 := hs0.below hb1
  have hqlt := Lib.hid (show w.heap.size ≤ q by rw [← hq]; exact hb0.size)
  have hsz0 : w0.heap.size = w.heap.size + 1 := by rw [← hw0]; simp
  have hqq : qs ≠ q := by omega
  clear hsz0
  have hq1 : w1.heap[q]? = some (.cells #[.int .i64 0, .int .i64 0, .string ⟨#[]⟩, .slice none 0 0] 65 (0, 0)) := by rw [← hw1, ← hq]; exact heap_alloc_new _ _
  have HB1 := Lib.hid (hb0.trans (hb1.mono hb0.size))
  have HQ1 := Lib.hid hq1
  have HS1 := Lib.hid hs1
  clear hb0 hb1 hs0 hs1 hq1
  go_enter Tryz.func29, Tryz.ntmps29
  go_wp2_with (first | (rw [hw0]) | (rw [hqs]) | (rw [hw1]) | (rw [hq]))
  refine wp_region_held_drew (S := fun w' => SAt w' qs s) (by kernel_rfl) (SAt.drew HS1.out) (fun hHeld => ?_)
  refine wpAnyH_take (i := 0) (v := ?mv1) rfl (by kernel_rfl) (by kernel_rfl) (by kernel_rfl) (fun _ _ _ h => h) (Or.inl ⟨by rfl, ?mh1⟩) (by assumption) ?mr1
  case mh1 => intro w hSw; clear hSw; go_simp; try with_reducible rfl
  (try simp only [Act.put]); (try simp only [List.getElem_toArray, List.getElem_cons_zero, List.getElem_cons_succ]); (try simp only [List.setIfInBounds_toArray]); (try simp only [List.set_cons_zero, List.set_cons_succ])
  refine wpAnyH_take (i := 1) (v := ?mv2) rfl (by kernel_rfl) (by kernel_rfl) (by kernel_rfl) (fun _ _ _ h => h) (Or.inl ⟨by rfl, ?mh2⟩) (by assumption) ?mr2
  case mh2 => intro w hSw; have hcS := SAt.cell hSw (TS.at0 s); clear hSw; go_simp; try with_reducible rfl
  (try simp only [Act.put]); (try simp only [List.getElem_toArray, List.getElem_cons_zero, List.getElem_cons_succ]); (try simp only [List.setIfInBounds_toArray]); (try simp only [List.set_cons_zero, List.set_cons_succ])
  refine wpAnyH_take (i := 3) (v := ?mv3) rfl (by kernel_rfl) (by kernel_rfl) (by kernel_rfl) (fun _ _ _ h => h) (Or.inl ⟨by rfl, ?mh3⟩) (by assumption) ?mr3
  case mh3 => intro w hSw; clear hSw; go_simp; try with_reducible rfl
  (try simp only [Act.put]); (try simp only [List.getElem_toArray, List.getElem_cons_zero, List.getElem_cons_succ]); (try simp only [List.setIfInBounds_toArray]); (try simp only [List.set_cons_zero, List.set_cons_succ])
  refine wpAnyH_take (i := 4) (v := ?mv4) rfl (by kernel_rfl) (by kernel_rfl) (by kernel_rfl) (fun _ _ _ h => h) (Or.inl ⟨by rfl, ?mh4⟩) (by assumption) ?mr4
  case mh4 => intro w hSw; have hcS := SAt.cell hSw (TS.at1 s); clear hSw; go_simp; try with_reducible rfl
  (try simp only [Act.put]); (try simp only [List.getElem_toArray, List.getElem_cons_zero, List.getElem_cons_succ]); (try simp only [List.setIfInBounds_toArray]); (try simp only [List.set_cons_zero, List.set_cons_succ])
  refine wpAnyH_take (i := 6) (v := ?mv5) rfl (by kernel_rfl) (by kernel_rfl) (by kernel_rfl) (fun _ _ _ h => h) (Or.inl ⟨by rfl, ?mh5⟩) (by assumption) ?mr5
  case mh5 => intro w hSw; clear hSw; go_simp; try with_reducible rfl
  (try simp only [Act.put]); (try simp only [List.getElem_toArray, List.getElem_cons_zero, List.getElem_cons_succ]); (try simp only [List.setIfInBounds_toArray]); (try simp only [List.set_cons_zero, List.set_cons_succ])
  refine wpAnyH_take (i := 7) (v := ?mv6) rfl (by kernel_rfl) (by kernel_rfl) (by kernel_rfl) (fun _ _ _ h => h) (Or.inl ⟨by rfl, ?mh6⟩) (by assumption) ?mr6
  case mh6 => intro w hSw; have hcS := SAt.cell hSw (TS.atM hb.ok 3 (by decide)); clear hSw; go_simp; try with_reducible rfl
  (try simp only [Act.put]); (try simp only [List.getElem_toArray, List.getElem_cons_zero, List.getElem_cons_succ]); (try simp only [List.setIfInBounds_toArray]); (try simp only [List.set_cons_zero, List.set_cons_succ])
  refine wpAnyH_take (i := 9) (v := ?mv7) rfl (by kernel_rfl) (by kernel_rfl) (by kernel_rfl) (fun _ _ _ h => h) (Or.inl ⟨by rfl, ?mh7⟩) (by assumption) ?mr7
  case mh7 => intro w hSw; clear hSw; go_simp; try with_reducible rfl
  (try simp only [Act.put]); (try simp only [List.getElem_toArray, List.getElem_cons_zero, List.getElem_cons_succ]); (try simp only [List.setIfInBounds_toArray]); (try simp only [List.set_cons_zero, List.set_cons_succ])
  refine wpAnyH_take (i := 10) (v := ?mv8) rfl (by kernel_rfl) (by kernel_rfl) (by kernel_rfl) (fun _ _ _ h => h) (Or.inl ⟨by rfl, ?mh8⟩) (by assumption) ?mr8
  case mh8 => intro w hSw; have hcS := SAt.cell hSw (TS.atM hb.ok 8 (by decide)); clear hSw; go_simp; try with_reducible rfl
  (try simp only [Act.put]); (try simp only [List.getElem_toArray, List.getElem_cons_zero, List.getElem_cons_succ]); (try simp only [List.setIfInBounds_toArray]); (try simp only [List.set_cons_zero, List.set_cons_succ])
  refine wpAnyH_take (i := 12) (v := ?mv9) rfl (by kernel_rfl) (by kernel_rfl) (by kernel_rfl) (fun _ _ _ h => h) (Or.inl ⟨by rfl, ?mh9⟩) (by assumption) ?mr9
  case mh9 => intro w hSw; clear hSw; go_simp; try with_reducible rfl
  (try simp only [Act.put]); (try simp only [List.getElem_toArray, List.getElem_cons_zero, List.getElem_cons_succ]); (try simp only [List.setIfInBounds_toArray]); (try simp only [List.set_cons_zero, List.set_cons_succ])
  refine wpAnyH_take (i := 13) (v := ?mv10) rfl (by kernel_rfl) (by kernel_rfl) (by kernel_rfl) (fun _ _ _ h => h) (Or.inl ⟨by rfl, ?mh10⟩) (by assumption) ?mr10
  case mh10 => intro w hSw; clear hSw; go_simp; try with_reducible rfl
  (try simp only [Act.put]); (try simp only [List.getElem_toArray, List.getElem_cons_zero, List.getElem_cons_succ]); (try simp only [List.setIfInBounds_toArray]); (try simp only [List.set_cons_zero, List.set_cons_succ])
  refine wpAnyH_take (i := 14) (v := ?mv11) rfl (by kernel_rfl) (by kernel_rfl) (by kernel_rfl) (fun _ _ _ h => h) (Or.inl ⟨by rfl, ?mh11⟩) (by assumption) ?mr11
  case mh11 => intro w hSw; have hcS := SAt.cell hSw (TS.atM hb.ok 5 (by decide)); clear hSw; go_simp; try with_reducible rfl
  (try simp only [Act.put]); (try simp only [List.getElem_toArray, List.getElem_cons_zero, List.getElem_cons_succ]); (try simp only [List.setIfInBounds_toArray]); (try simp only [List.set_cons_zero, List.set_cons_succ])
  refine wpAnyH_take (i := 16) (v := ?mv12) rfl (by kernel_rfl) (by kernel_rfl) (by kernel_rfl) (fun _ _ _ h => h) (Or.inl ⟨by rfl, ?mh12⟩) (by assumption) ?mr12
  case mh12 => intro w hSw; clear hSw; go_simp; try with_reducible rfl
  (try simp only [Act.put]); (try simp only [List.getElem_toArray, List.getElem_cons_zero, List.getElem_cons_succ]); (try simp only [List.setIfInBounds_toArray]); (try simp only [List.set_cons_zero, List.set_cons_succ])
  refine wpAnyH_take (i := 17) (v := ?mv13) rfl (by kernel_rfl) (by kernel_rfl) (by kernel_rfl) (fun _ _ _ h => h) (Or.inl ⟨by rfl, ?mh13⟩) (by assumption) ?mr13
  case mh13 => intro w hSw; clear hSw; go_simp; try with_reducible rfl
  (try simp only [Act.put]); (try simp only [List.getElem_toArray, List.getElem_cons_zero, List.getElem_cons_succ]); (try simp only [List.setIfInBounds_toArray]); (try simp only [List.set_cons_zero, List.set_cons_succ])
  refine wpAnyH_take (i := 18) (v := ?mv14) rfl (by kernel_rfl) (by kernel_rfl) (by kernel_rfl) (fun _ _ _ h => h) (Or.inl ⟨by rfl, ?mh14⟩) (by assumption) ?mr14
  case mh14 => intro w hSw; have hcS := SAt.cell hSw (TS.atM hb.ok 6 (by decide)); clear hSw; go_simp; try with_reducible rfl
  (try simp only [Act.put]); (try simp only [List.getElem_toArray, List.getElem_cons_zero, List.getElem_cons_succ]); (try simp only [List.setIfInBounds_toArray]); (try simp only [List.set_cons_zero, List.set_cons_succ])
  refine wpAnyH_take (i := 20) (v := ?mv15) rfl (by kernel_rfl) (by kernel_rfl) (by kernel_rfl) (fun _ _ _ h => h) (Or.inl ⟨by rfl, ?mh15⟩) (by assumption) ?mr15
  case mh15 => intro w hSw; clear hSw; go_simp; try with_reducible rfl
  (try simp only [Act.put]); (try simp only [List.getElem_toArray, List.getElem_cons_zero, List.getElem_cons_succ]); (try simp only [List.setIfInBounds_toArray]); (try simp only [List.set_cons_zero, List.set_cons_succ])
  refine wpAnyH_take (i := 21) (v := ?mv16) rfl (by kernel_rfl) (by kernel_rfl) (by kernel_rfl) (fun _ _ _ h => h) (Or.inl ⟨by rfl, ?mh16⟩) (by assumption) ?mr16
  case mh16 => intro w hSw; clear hSw; go_simp; try with_reducible rfl
  (try simp only [Act.put]); (try simp only [List.getElem_toArray, List.getElem_cons_zero, List.getElem_cons_succ]); (try simp only [List.setIfInBounds_toArray]); (try simp only [List.set_cons_zero, List.set_cons_succ])
  refine wpAnyH_take (i := 23) (v := ?mv17) rfl (by kernel_rfl) (by kernel_rfl) (by kernel_rfl) (fun _ _ _ h => h) (Or.inl ⟨by rfl, ?mh17⟩) (by assumption) ?mr17
  case mh17 => intro w hSw; clear hSw; go_simp; try with_reducible rfl
  (try simp only [Act.put]); (try simp only [List.getElem_toArray, List.getElem_cons_zero, List.getElem_cons_succ]); (try simp only [List.setIfInBounds_toArray]); (try simp only [List.set_cons_zero, List.set_cons_succ])
  refine wpAnyH_take (i := 24) (v := ?mv18) rfl (by kernel_rfl) (by kernel_rfl) (by kernel_rfl) (fun _ _ _ h => h) (Or.inl ⟨by rfl, ?mh18⟩) (by assumption) ?mr18
  case mh18 => intro w hSw; clear hSw; go_simp; try with_reducible rfl
  (try simp only [Act.put]); (try simp only [List.getElem_toArray, List.getElem_cons_zero, List.getElem_cons_succ]); (try simp only [List.setIfInBounds_toArray]); (try simp only [List.set_cons_zero, List.set_cons_succ])
  refine wpAnyH_take (i := 26) (v := ?mv19) rfl (by kernel_rfl) (by kernel_rfl) (by kernel_rfl) (fun _ _ _ h => h) (Or.inl ⟨by rfl, ?mh19⟩) (by assumption) ?mr19
  case mh19 => intro w hSw; clear hSw; go_simp; try with_reducible rfl
  (try simp only [Act.put]); (try simp only [List.getElem_toArray, List.getElem_cons_zero, List.getElem_cons_succ]); (try simp only [List.setIfInBounds_toArray]); (try simp only [List.set_cons_zero, List.set_cons_succ])
  refine wpAnyH_take (i := 27) (v := ?mv20) rfl (by kernel_rfl) (by kernel_rfl) (by kernel_rfl) (fun _ _ _ h => h) (Or.inl ⟨by rfl, ?mh20⟩) (by assumption) ?mr20
  case mh20 => intro w hSw; have hcS := SAt.cell hSw (TS.atM hb.ok 0 (by decide)); clear hSw; go_simp; try with_reducible rfl
  (try simp only [Act.put]); (try simp only [List.getElem_toArray, List.getElem_cons_zero, List.getElem_cons_succ]); (try simp only [List.setIfInBounds_toArray]); (try simp only [List.set_cons_zero, List.set_cons_succ])
  refine wpAnyH_take (i := 29) (v := ?mv21) rfl (by kernel_rfl) (by kernel_rfl) (by kernel_rfl) (fun _ _ _ h => h) (Or.inl ⟨by rfl, ?mh21⟩) (by assumption) ?mr21
  case mh21 => intro w hSw; clear hSw; go_simp; try with_reducible rfl
  (try simp only [Act.put]); (try simp only [List.getElem_toArray, List.getElem_cons_zero, List.getElem_cons_succ]); (try simp only [List.setIfInBounds_toArray]); (try simp only [List.set_cons_zero, List.set_cons_succ])
  refine wpAnyH_take (i := 30) (v := ?mv22) rfl (by kernel_rfl) (by kernel_rfl) (by kernel_rfl) (fun _ _ _ h => h) (Or.inl ⟨by rfl, ?mh22⟩) (by assumption) ?mr22
  case mh22 => intro w hSw; have hcS := SAt.cell hSw (TS.atM hb.ok 1 (by decide)); clear hSw; go_simp; try with_reducible rfl
  (try simp only [Act.put]); (try simp only [List.getElem_toArray, List.getElem_cons_zero, List.getElem_cons_succ]); (try simp only [List.setIfInBounds_toArray]); (try simp only [List.set_cons_zero, List.set_cons_succ])
  refine wpAnyH_take (i := 32) (v := ?mv23) rfl (by kernel_rfl) (by kernel_rfl) (by kernel_rfl) (fun _ _ _ h => h) (Or.inl ⟨by rfl, ?mh23⟩) (by assumption) ?mr23
  case mh23 => intro w hSw; clear hSw; go_simp; try with_reducible rfl
  (try simp only [Act.put]); (try simp only [List.getElem_toArray, List.getElem_cons_zero, List.getElem_cons_succ]); (try simp only [List.setIfInBounds_toArray]); (try simp only [List.set_cons_zero, List.set_cons_succ])
  refine wpAnyH_take (i := 33) (v := ?mv24) rfl (by kernel_rfl) (by kernel_rfl) (by kernel_rfl) (fun _ _ _ h => h) (Or.inl ⟨by rfl, ?mh24⟩) (by assumption) ?mr24
  case mh24 => intro w hSw; have hcS := SAt.cell hSw (TS.atM hb.ok 2 (by decide)); clear hSw; go_simp; try with_reducible rfl
  (try simp only [Act.put]); (try simp only [List.getElem_toArray, List.getElem_cons_zero, List.getElem_cons_succ]); (try simp only [List.setIfInBounds_toArray]); (try simp only [List.set_cons_zero, List.set_cons_succ])
  refine wpAnyH_take (i := 35) (v := ?mv25) rfl (by kernel_rfl) (by kernel_rfl) (by kernel_rfl) (fun _ _ _ h => h) (Or.inl ⟨by rfl, ?mh25⟩) (by assumption) ?mr25
  case mh25 => intro w hSw; clear hSw; go_simp; try with_reducible rfl
  (try simp only [Act.put]); (try simp only [List.getElem_toArray, List.getElem_cons_zero, List.getElem_cons_succ]); (try simp only [List.setIfInBounds_toArray]); (try simp only [List.set_cons_zero, List.set_cons_succ])
  refine wpAnyH_take (i := 36) (v := ?mv26) rfl (by kernel_rfl) (by kernel_rfl) (by kernel_rfl) (fun _ _ _ h => h) (Or.inl ⟨by rfl, ?mh26⟩) (by assumption) ?mr26
  case mh26 => intro w hSw; have hcS := SAt.cell hSw (TS.atM hb.ok 4 (by decide)); clear hSw; go_simp; try with_reducible rfl
  (try simp only [Act.put]); (try simp only [List.getElem_toArray, List.getElem_cons_zero, List.getElem_cons_succ]); (try simp only [List.setIfInBounds_toArray]); (try simp only [List.set_cons_zero, List.set_cons_succ])
  refine wpAnyH_take (i := 38) (v := ?mv27) rfl (by kernel_rfl) (by kernel_rfl) (by kernel_rfl) (fun _ _ _ h => h) (Or.inl ⟨by rfl, ?mh27⟩) (by assumption) ?mr27
  case mh27 => intro w hSw; clear hSw; go_simp; try with_reducible rfl
  (try simp only [Act.put]); (try simp only [List.getElem_toArray, List.getElem_cons_zero, List.getElem_cons_succ]); (try simp only [List.setIfInBounds_toArray]); (try simp only [List.set_cons_zero, List.set_cons_succ])
  refine wpAnyH_take (i := 39) (v := ?mv28) rfl (by kernel_rfl) (by kernel_rfl) (by kernel_rfl) (fun _ _ _ h => h) (Or.inl ⟨by rfl, ?mh28⟩) (by assumption) ?mr28
  case mh28 => intro w hSw; have hcS := SAt.cell hSw (TS.atM hb.ok 7 (by decide)); clear hSw; go_simp; try with_reducible rfl
  (try simp only [Act.put]); (try simp only [List.getElem_toArray, List.getElem_cons_zero, List.getElem_cons_succ]); (try simp only [List.setIfInBounds_toArray]); (try simp only [List.set_cons_zero, List.set_cons_succ])
  trace_state
  have HB2 : Hid (Below w.heap.size w w1.drew) := Lib.hid HB1.out.drew
  have HQ2 : Hid (w1.drew.heap[q]? = _) := Lib.hid HQ1.out
  refine wpAnyH_ready (rs := [2]) (by kernel_rfl) (by simp) ?_
  refine AllReadyH.cons rfl (fun K hK => ?_) AllReadyH.nil
  go_simp
  refine (num3_any _ _).mono ?_
  rintro e w3 ⟨rfl, hbw⟩
  have hS3 : SAt w3 qs s := SAt.below hHeld hbw
  have HQ3 := Lib.hid ((hbw.block q (YtieaipclioppkaaGreatCore.heap_lt HQ2.out)).trans HQ2.out)
  have HB3 := Lib.hid (HB2.out.trans (hbw.mono HB2.out.size))
  clear hbw hHeld
  refine hK.out _ _ hS3 (fun hHeld => ?_)
  clear hK K
  (try simp only [Act.put]); (try simp only [List.getElem_toArray, List.getElem_cons_zero, List.getElem_cons_succ]); (try simp only [List.setIfInBounds_toArray]); (try simp only [List.set_cons_zero, List.set_cons_succ])
  clear hS3
  refine wpAnyH_ready (rs := [5]) (by kernel_rfl) (by simp) ?_
  refine AllReadyH.cons rfl (fun K hK => ?_) AllReadyH.nil
  go_simp
  refine (numi_any _ _).mono ?_
  rintro e w4 ⟨rfl, hbw⟩
  have hS4 : SAt w4 qs s := SAt.below hHeld hbw
  have HQ4 := Lib.hid ((hbw.block q (YtieaipclioppkaaGreatCore.heap_lt HQ3.out)).trans HQ3.out)
  have HB4 := Lib.hid (HB3.out.trans (hbw.mono HB3.out.size))
  clear hbw hHeld
  refine hK.out _ _ hS4 (fun hHeld => ?_)
  clear hK K
  (try simp only [Act.put]); (try simp only [List.getElem_toArray, List.getElem_cons_zero, List.getElem_cons_succ]); (try simp only [List.setIfInBounds_toArray]); (try simp only [List.set_cons_zero, List.set_cons_succ])
  clear hS4
  refine wpAnyH_ready (rs := [8]) (by kernel_rfl) (by simp) ?_
  refine AllReadyH.cons rfl (fun K hK => ?_) AllReadyH.nil
  go_simp
  refine (numi_any _ _).mono ?_
  rintro e w5 ⟨rfl, hbw⟩
  have hS5 : SAt w5 qs s := SAt.below hHeld hbw
  have HQ5 := Lib.hid ((hbw.block q (YtieaipclioppkaaGreatCore.heap_lt HQ4.out)).trans HQ4.out)
  have HB5 := Lib.hid (HB4.out.trans (hbw.mono HB4.out.size))
  clear hbw hHeld
  refine hK.out _ _ hS5 (fun hHeld => ?_)
  clear hK K
  (try simp only [Act.put]); (try simp only [List.getElem_toArray, List.getElem_cons_zero, List.getElem_cons_succ]); (try simp only [List.setIfInBounds_toArray]); (try simp only [List.set_cons_zero, List.set_cons_succ])
  clear hS5
  refine wpAnyH_ready (rs := [11]) (by kernel_rfl) (by simp) ?_
  refine AllReadyH.cons rfl (fun K hK => ?_) AllReadyH.nil
  go_simp
  refine (numi_any _ _).mono ?_
  rintro e w6 ⟨rfl, hbw⟩
  have hS6 : SAt w6 qs s := SAt.below hHeld hbw
  have HQ6 := Lib.hid ((hbw.block q (YtieaipclioppkaaGreatCore.heap_lt HQ5.out)).trans HQ5.out)
  have HB6 := Lib.hid (HB5.out.trans (hbw.mono HB5.out.size))
  clear hbw hHeld
  refine hK.out _ _ hS6 (fun hHeld => ?_)
  clear hK K
  (try simp only [Act.put]); (try simp only [List.getElem_toArray, List.getElem_cons_zero, List.getElem_cons_succ]); (try simp only [List.setIfInBounds_toArray]); (try simp only [List.set_cons_zero, List.set_cons_succ])
  clear hS6
  refine wpAnyH_ready (rs := [15]) (by kernel_rfl) (by simp) ?_
  refine AllReadyH.cons rfl (fun K hK => ?_) AllReadyH.nil
  go_simp
  refine (numi_any _ _).mono ?_
  rintro e w7 ⟨rfl, hbw⟩
  have hS7 : SAt w7 qs s := SAt.below hHeld hbw
  have HQ7 := Lib.hid ((hbw.block q (YtieaipclioppkaaGreatCore.heap_lt HQ6.out)).trans HQ6.out)
  have HB7 := Lib.hid (HB6.out.trans (hbw.mono HB6.out.size))
  clear hbw hHeld
  refine hK.out _ _ hS7 (fun hHeld => ?_)
  clear hK K
  (try simp only [Act.put]); (try simp only [List.getElem_toArray, List.getElem_cons_zero, List.getElem_cons_succ]); (try simp only [List.setIfInBounds_toArray]); (try simp only [List.set_cons_zero, List.set_cons_succ])
  clear hS7
  refine wpAnyH_ready (rs := [19]) (by kernel_rfl) (by simp) ?_
  refine AllReadyH.cons rfl (fun K hK => ?_) AllReadyH.nil
  go_simp
  refine (num3_any _ _).mono ?_
  rintro e w8 ⟨rfl, hbw⟩
  have hS8 : SAt w8 qs s := SAt.below hHeld hbw
  have HQ8 := Lib.hid ((hbw.block q (YtieaipclioppkaaGreatCore.heap_lt HQ7.out)).trans HQ7.out)
  have HB8 := Lib.hid (HB7.out.trans (hbw.mono HB7.out.size))
  clear hbw hHeld
  refine hK.out _ _ hS8 (fun hHeld => ?_)
  clear hK K
  (try simp only [Act.put]); (try simp only [List.getElem_toArray, List.getElem_cons_zero, List.getElem_cons_succ]); (try simp only [List.setIfInBounds_toArray]); (try simp only [List.set_cons_zero, List.set_cons_succ])
  clear hS8
  refine wpAnyH_ready (rs := [22]) (by kernel_rfl) (by simp) ?_
  refine AllReadyH.cons rfl (fun K hK => ?_) AllReadyH.nil
  go_simp
  have hcall := allr_any s.roles qs 2 16 w8 (by rw [hb.ok.roles]; decide) (fun j hj => SAt.cell hHeld (TS.atR hb.ok j (by rw [hb.ok.roles] at hj; exact hj)))
  rw [hb.ok.roles] at hcall
  refine hcall.mono ?_
  clear hcall
  rintro e w9 ⟨cs, rfl, hM, hbw⟩
  obtain ⟨A9, c9, rfl, hR⟩ := M_list hM
  rw [List.length_map] at hR ⊢
  have HR9 := Lib.hid hR
  have hS9 : SAt w9 qs s := SAt.below hHeld hbw
  have HQ9 := Lib.hid ((hbw.block q (YtieaipclioppkaaGreatCore.heap_lt HQ8.out)).trans HQ8.out)
  have HB9 := Lib.hid (HB8.out.trans (hbw.mono HB8.out.size))
  clear hbw hHeld hR hM
  refine hK.out _ _ hS9 (fun hHeld => ?_)
  clear hK K
  (try simp only [Act.put]); (try simp only [List.getElem_toArray, List.getElem_cons_zero, List.getElem_cons_succ]); (try simp only [List.setIfInBounds_toArray]); (try simp only [List.set_cons_zero, List.set_cons_succ])
  clear hS9
  refine wpAnyH_ready (rs := [25]) (by kernel_rfl) (by simp) ?_
  refine AllReadyH.cons rfl (fun K hK => ?_) AllReadyH.nil
  go_simp
  have hcall := alli_any s.seen qs 27 8 w9 (by rw [hb.ok.seen]; decide) (fun j hj => SAt.cell hHeld (TS.atS hb.ok j (by rw [hb.ok.seen] at hj; exact hj)))
  rw [hb.ok.seen] at hcall
  refine hcall.mono ?_
  clear hcall
  rintro e w10 ⟨cs, rfl, hM, hbw⟩
  obtain ⟨A10, c10, rfl, hR⟩ := M_list hM
  rw [List.length_map] at hR ⊢
  have HR10 := Lib.hid hR
  have hS10 : SAt w10 qs s := SAt.below hHeld hbw
  have HQ10 := Lib.hid ((hbw.block q (YtieaipclioppkaaGreatCore.heap_lt HQ9.out)).trans HQ9.out)
  have HB10 := Lib.hid (HB9.out.trans (hbw.mono HB9.out.size))
  have HR9 := Lib.hid (Kd.R_below HR9.out hbw)
  clear hbw hHeld hR hM
  refine hK.out _ _ hS10 (fun hHeld => ?_)
  clear hK K
  (try simp only [Act.put]); (try simp only [List.getElem_toArray, List.getElem_cons_zero, List.getElem_cons_succ]); (try simp only [List.setIfInBounds_toArray]); (try simp only [List.set_cons_zero, List.set_cons_succ])
  clear hS10
  refine wpAnyH_ready (rs := [28]) (by kernel_rfl) (by simp) ?_
  refine AllReadyH.cons rfl (fun K hK => ?_) AllReadyH.nil
  go_simp
  rw [hb.g]
  have hcall := allg_nil (.func (.func 62) #[] #[]) w10
  refine hcall.mono ?_
  clear hcall
  rintro e w11 ⟨cs, rfl, hM, hbw⟩
  obtain ⟨A11, c11, rfl, hR⟩ := M_list hM
  rw [List.length_nil] at hR ⊢
  have HR11 := Lib.hid hR
  have hS11 : SAt w11 qs s := SAt.below hHeld hbw
  have HQ11 := Lib.hid ((hbw.block q (YtieaipclioppkaaGreatCore.heap_lt HQ10.out)).trans HQ10.out)
  have HB11 := Lib.hid (HB10.out.trans (hbw.mono HB10.out.size))
  have HR9 := Lib.hid (Kd.R_below HR9.out hbw)
  have HR10 := Lib.hid (Kd.R_below HR10.out hbw)
  clear hbw hHeld hR hM
  refine hK.out _ _ hS11 (fun hHeld => ?_)
  clear hK K
  (try simp only [Act.put]); (try simp only [List.getElem_toArray, List.getElem_cons_zero, List.getElem_cons_succ]); (try simp only [List.setIfInBounds_toArray]); (try simp only [List.set_cons_zero, List.set_cons_succ])
  clear hS11
  refine wpAnyH_ready (rs := [31]) (by kernel_rfl) (by simp) ?_
  refine AllReadyH.cons rfl (fun K hK => ?_) AllReadyH.nil
  go_simp
  rw [hb.f]
  have hcall := allf_nil (.func (.func 65) #[] #[]) w11
  refine hcall.mono ?_
  clear hcall
  rintro e w12 ⟨cs, rfl, hM, hbw⟩
  obtain ⟨A12, c12, rfl, hR⟩ := M_list hM
  rw [List.length_nil] at hR ⊢
  have HR12 := Lib.hid hR
  have hS12 : SAt w12 qs s := SAt.below hHeld hbw
  have HQ12 := Lib.hid ((hbw.block q (YtieaipclioppkaaGreatCore.heap_lt HQ11.out)).trans HQ11.out)
  have HB12 := Lib.hid (HB11.out.trans (hbw.mono HB11.out.size))
  have HR9 := Lib.hid (Kd.R_below HR9.out hbw)
  have HR10 := Lib.hid (Kd.R_below HR10.out hbw)
  have HR11 := Lib.hid (Kd.R_below HR11.out hbw)
  clear hbw hHeld hR hM
  refine hK.out _ _ hS12 (fun hHeld => ?_)
  clear hK K
  (try simp only [Act.put]); (try simp only [List.getElem_toArray, List.getElem_cons_zero, List.getElem_cons_succ]); (try simp only [List.setIfInBounds_toArray]); (try simp only [List.set_cons_zero, List.set_cons_succ])
  clear hS12
  refine wpAnyH_ready (rs := [34]) (by kernel_rfl) (by simp) ?_
  refine AllReadyH.cons rfl (fun K hK => ?_) AllReadyH.nil
  go_simp
  rw [hb.r]
  have hcall := alln_nil (.func (.func 67) #[] #[]) w12
  refine hcall.mono ?_
  clear hcall
  rintro e w13 ⟨cs, rfl, hM, hbw⟩
  obtain ⟨A13, c13, rfl, hR⟩ := M_list hM
  rw [List.length_nil] at hR ⊢
  have HR13 := Lib.hid hR
  have hS13 : SAt w13 qs s := SAt.below hHeld hbw
  have HQ13 := Lib.hid ((hbw.block q (YtieaipclioppkaaGreatCore.heap_lt HQ12.out)).trans HQ12.out)
  have HB13 := Lib.hid (HB12.out.trans (hbw.mono HB12.out.size))
  have HR9 := Lib.hid (Kd.R_below HR9.out hbw)
  have HR10 := Lib.hid (Kd.R_below HR10.out hbw)
  have HR11 := Lib.hid (Kd.R_below HR11.out hbw)
  have HR12 := Lib.hid (Kd.R_below HR12.out hbw)
  clear hbw hHeld hR hM
  refine hK.out _ _ hS13 (fun hHeld => ?_)
  clear hK K
  (try simp only [Act.put]); (try simp only [List.getElem_toArray, List.getElem_cons_zero, List.getElem_cons_succ]); (try simp only [List.setIfInBounds_toArray]); (try simp only [List.set_cons_zero, List.set_cons_succ])
  clear hS13
  refine wpAnyH_ready (rs := [37]) (by kernel_rfl) (by simp) ?_
  refine AllReadyH.cons rfl (fun K hK => ?_) AllReadyH.nil
  go_simp
  rw [hb.q]
  have hcall := allq_nil (.func (.func 69) #[] #[]) w13
  refine hcall.mono ?_
  clear hcall
  rintro e w14 ⟨cs, rfl, hM, hbw⟩
  obtain ⟨A14, c14, rfl, hR⟩ := M_list hM
  rw [List.length_nil] at hR ⊢
  have HR14 := Lib.hid hR
  have hS14 : SAt w14 qs s := SAt.below hHeld hbw
  have HQ14 := Lib.hid ((hbw.block q (YtieaipclioppkaaGreatCore.heap_lt HQ13.out)).trans HQ13.out)
  have HB14 := Lib.hid (HB13.out.trans (hbw.mono HB13.out.size))
  have HR9 := Lib.hid (Kd.R_below HR9.out hbw)
  have HR10 := Lib.hid (Kd.R_below HR10.out hbw)
  have HR11 := Lib.hid (Kd.R_below HR11.out hbw)
  have HR12 := Lib.hid (Kd.R_below HR12.out hbw)
  have HR13 := Lib.hid (Kd.R_below HR13.out hbw)
  clear hbw hHeld hR hM
  refine hK.out _ _ hS14 (fun hHeld => ?_)
  clear hK K
  (try simp only [Act.put]); (try simp only [List.getElem_toArray, List.getElem_cons_zero, List.getElem_cons_succ]); (try simp only [List.setIfInBounds_toArray]); (try simp only [List.set_cons_zero, List.set_cons_succ])
  clear hS14
  refine wpAnyH_ready (rs := [40]) (by kernel_rfl) (by simp) ?_
  refine AllReadyH.cons rfl (fun K hK => ?_) AllReadyH.nil
  go_simp
  rw [hb.c]
  have hcall := allc_nil (.func (.func 71) #[] #[]) w14
  refine hcall.mono ?_
  clear hcall
  rintro e w15 ⟨cs, rfl, hM, hbw⟩
  obtain ⟨A15, c15, rfl, hR⟩ := M_list hM
  rw [List.length_nil] at hR ⊢
  have HR15 := Lib.hid hR
  have hS15 : SAt w15 qs s := SAt.below hHeld hbw
  have HQ15 := Lib.hid ((hbw.block q (YtieaipclioppkaaGreatCore.heap_lt HQ14.out)).trans HQ14.out)
  have HB15 := Lib.hid (HB14.out.trans (hbw.mono HB14.out.size))
  have HR9 := Lib.hid (Kd.R_below HR9.out hbw)
  have HR10 := Lib.hid (Kd.R_below HR10.out hbw)
  have HR11 := Lib.hid (Kd.R_below HR11.out hbw)
  have HR12 := Lib.hid (Kd.R_below HR12.out hbw)
  have HR13 := Lib.hid (Kd.R_below HR13.out hbw)
  have HR14 := Lib.hid (Kd.R_below HR14.out hbw)
  clear hbw hHeld hR hM
  refine hK.out _ _ hS15 (fun hHeld => ?_)
  clear hK K
  (try simp only [Act.put]); (try simp only [List.getElem_toArray, List.getElem_cons_zero, List.getElem_cons_succ]); (try simp only [List.setIfInBounds_toArray]); (try simp only [List.set_cons_zero, List.set_cons_succ])
  clear hS15
  refine wpAnyH_ready (rs := [41]) (by kernel_rfl) (by simp) ?_
  refine AllReadyH.cons rfl (fun K hK => ?_) AllReadyH.nil
  go_simp
  have m9 := k65_mkM w15 (q + 1) (fun _ => True) ⟨2, 0, ⟨#[]⟩, s.roles.map numV⟩ (v3 := .slice A9 s.roles.length c9) (Kd.R_lower HR9.out (YtieaipclioppkaaGreatCore.heap_lt HQ8.out))
  have m10 := k65_mkM w15 (q + 1) (fun _ => True) ⟨2, 0, ⟨#[]⟩, s.seen.map numV⟩ (v3 := .slice A10 s.seen.length c10) (Kd.R_lower HR10.out (YtieaipclioppkaaGreatCore.heap_lt HQ9.out))
  have m11 := k65_mkM w15 (q + 1) (fun _ => True) ⟨2, 0, ⟨#[]⟩, []⟩ (v3 := .slice A11 0 c11) (Kd.R_lower HR11.out (YtieaipclioppkaaGreatCore.heap_lt HQ10.out))
  have m12 := k65_mkM w15 (q + 1) (fun _ => True) ⟨2, 0, ⟨#[]⟩, []⟩ (v3 := .slice A12 0 c12) (Kd.R_lower HR12.out (YtieaipclioppkaaGreatCore.heap_lt HQ11.out))
  have m13 := k65_mkM w15 (q + 1) (fun _ => True) ⟨2, 0, ⟨#[]⟩, []⟩ (v3 := .slice A13 0 c13) (Kd.R_lower HR13.out (YtieaipclioppkaaGreatCore.heap_lt HQ12.out))
  have m14 := k65_mkM w15 (q + 1) (fun _ => True) ⟨2, 0, ⟨#[]⟩, []⟩ (v3 := .slice A14 0 c14) (Kd.R_lower HR14.out (YtieaipclioppkaaGreatCore.heap_lt HQ13.out))
  have m15 := k65_mkM w15 (q + 1) (fun _ => True) ⟨2, 0, ⟨#[]⟩, []⟩ (v3 := .slice A15 0 c15) (Kd.R_lower HR15.out (YtieaipclioppkaaGreatCore.heap_lt HQ14.out))
  have hrep : Reps (k65.M w15 (q + 1) (fun _ => True)) 4 (stV s).f3 [(.int .i64 0), (.int .i64 s.num), (.string ⟨#[]⟩), (.slice none 0 0), (.int .i64 0), (.int .i64 s.epoch), (.string ⟨#[]⟩), (.slice none 0 0), (.int .i64 0), (.int .i64 s.next), (.string ⟨#[]⟩), (.slice none 0 0), (.int .i64 0), (.int .i64 s.ncall), (.string ⟨#[]⟩), (.slice none 0 0), (.int .i64 0), (.int .i64 s.tick), (.string ⟨#[]⟩), (.slice none 0 0), (.int .i64 0), (.int .i64 s.left), (.string ⟨#[]⟩), (.slice none 0 0), (.int .i64 2), (.int .i64 0), (.string ⟨#[]⟩), (.slice A9 s.roles.length c9), (.int .i64 2), (.int .i64 0), (.string ⟨#[]⟩), (.slice A10 s.seen.length c10), (.int .i64 2), (.int .i64 0), (.string ⟨#[]⟩), (.slice A11 0 c11), (.int .i64 2), (.int .i64 0), (.string ⟨#[]⟩), (.slice A12 0 c12), (.int .i64 2), (.int .i64 0), (.string ⟨#[]⟩), (.slice A13 0 c13), (.int .i64 2), (.int .i64 0), (.string ⟨#[]⟩), (.slice A14 0 c14), (.int .i64 2), (.int .i64 0), (.string ⟨#[]⟩), (.slice A15 0 c15)] := ((((((((((((((Reps.none _ _).snoc (M_num s.num w15 (q + 1) (fun _ => True)) rfl).snoc (M_num s.epoch w15 (q + 1) (fun _ => True)) rfl).snoc (M_num s.next w15 (q + 1) (fun _ => True)) rfl).snoc (M_num s.ncall w15 (q + 1) (fun _ => True)) rfl).snoc (M_num s.tick w15 (q + 1) (fun _ => True)) rfl).snoc (M_num s.left w15 (q + 1) (fun _ => True)) rfl).snoc m9 rfl).snoc m10 rfl).snoc m11 rfl).snoc m12 rfl).snoc m13 rfl).snoc m14 rfl).snoc m15 rfl)
  clear m9 m10 m11 m12 m13 m14 m15
  have hlit := OwnRow.lit (e := 65) w15 (q + 1) (hrep.imp_ (fun _ _ hp => k65.M_bound hp)) (YtieaipclioppkaaGreatCore.heap_lt HQ15.out) (by show 13 ≤ _; decide)
  have hR16 : k65.R 65 (w15.alloc (.cells #[(.int .i64 0), (.int .i64 s.num), (.string ⟨#[]⟩), (.slice none 0 0), (.int .i64 0), (.int .i64 s.epoch), (.string ⟨#[]⟩), (.slice none 0 0), (.int .i64 0), (.int .i64 s.next), (.string ⟨#[]⟩), (.slice none 0 0), (.int .i64 0), (.int .i64 s.ncall), (.string ⟨#[]⟩), (.slice none 0 0), (.int .i64 0), (.int .i64 s.tick), (.string ⟨#[]⟩), (.slice none 0 0), (.int .i64 0), (.int .i64 s.left), (.string ⟨#[]⟩), (.slice none 0 0), (.int .i64 2), (.int .i64 0), (.string ⟨#[]⟩), (.slice A9 s.roles.length c9), (.int .i64 2), (.int .i64 0), (.string ⟨#[]⟩), (.slice A10 s.seen.length c10), (.int .i64 2), (.int .i64 0), (.string ⟨#[]⟩), (.slice A11 0 c11), (.int .i64 2), (.int .i64 0), (.string ⟨#[]⟩), (.slice A12 0 c12), (.int .i64 2), (.int .i64 0), (.string ⟨#[]⟩), (.slice A13 0 c13), (.int .i64 2), (.int .i64 0), (.string ⟨#[]⟩), (.slice A14 0 c14), (.int .i64 2), (.int .i64 0), (.string ⟨#[]⟩), (.slice A15 0 c15)] 65)) (q + 1) (fun _ => True) (.slice (some ⟨w15.heap.size, 0, none⟩) 13 13) (stV s).f3 :=
    ⟨fun _ _ => trivial, hlit.imp_ (fun _ _ hp => k65.M_mono (fun k hk => ⟨trivial, own_fresh_ne hk.2.2.1⟩) (Kd.M_below hp ((Below.refl _ _).alloc (Nat.le_refl _) _)))⟩
  have hb16 : Below w15.heap.size w15 (w15.alloc (.cells #[(.int .i64 0), (.int .i64 s.num), (.string ⟨#[]⟩), (.slice none 0 0), (.int .i64 0), (.int .i64 s.epoch), (.string ⟨#[]⟩), (.slice none 0 0), (.int .i64 0), (.int .i64 s.next), (.string ⟨#[]⟩), (.slice none 0 0), (.int .i64 0), (.int .i64 s.ncall), (.string ⟨#[]⟩), (.slice none 0 0), (.int .i64 0), (.int .i64 s.tick), (.string ⟨#[]⟩), (.slice none 0 0), (.int .i64 0), (.int .i64 s.left), (.string ⟨#[]⟩), (.slice none 0 0), (.int .i64 2), (.int .i64 0), (.string ⟨#[]⟩), (.slice A9 s.roles.length c9), (.int .i64 2), (.int .i64 0), (.string ⟨#[]⟩), (.slice A10 s.seen.length c10), (.int .i64 2), (.int .i64 0), (.string ⟨#[]⟩), (.slice A11 0 c11), (.int .i64 2), (.int .i64 0), (.string ⟨#[]⟩), (.slice A12 0 c12), (.int .i64 2), (.int .i64 0), (.string ⟨#[]⟩), (.slice A13 0 c13), (.int .i64 2), (.int .i64 0), (.string ⟨#[]⟩), (.slice A14 0 c14), (.int .i64 2), (.int .i64 0), (.string ⟨#[]⟩), (.slice A15 0 c15)] 65)) := (Below.refl _ _).alloc (Nat.le_refl _) _
  have hS16 : SAt (w15.alloc (.cells #[(.int .i64 0), (.int .i64 s.num), (.string ⟨#[]⟩), (.slice none 0 0), (.int .i64 0), (.int .i64 s.epoch), (.string ⟨#[]⟩), (.slice none 0 0), (.int .i64 0), (.int .i64 s.next), (.string ⟨#[]⟩), (.slice none 0 0), (.int .i64 0), (.int .i64 s.ncall), (.string ⟨#[]⟩), (.slice none 0 0), (.int .i64 0), (.int .i64 s.tick), (.string ⟨#[]⟩), (.slice none 0 0), (.int .i64 0), (.int .i64 s.left), (.string ⟨#[]⟩), (.slice none 0 0), (.int .i64 2), (.int .i64 0), (.string ⟨#[]⟩), (.slice A9 s.roles.length c9), (.int .i64 2), (.int .i64 0), (.string ⟨#[]⟩), (.slice A10 s.seen.length c10), (.int .i64 2), (.int .i64 0), (.string ⟨#[]⟩), (.slice A11 0 c11), (.int .i64 2), (.int .i64 0), (.string ⟨#[]⟩), (.slice A12 0 c12), (.int .i64 2), (.int .i64 0), (.string ⟨#[]⟩), (.slice A13 0 c13), (.int .i64 2), (.int .i64 0), (.string ⟨#[]⟩), (.slice A14 0 c14), (.int .i64 2), (.int .i64 0), (.string ⟨#[]⟩), (.slice A15 0 c15)] 65)) qs s := SAt.below hHeld hb16
  clear hrep hlit hHeld
  refine hK.out _ _ hS16 (fun hHeld => ?_)
  clear hK K
  (try simp only [Act.put]); (try simp only [List.getElem_toArray, List.getElem_cons_zero, List.getElem_cons_succ]); (try simp only [List.setIfInBounds_toArray]); (try simp only [List.set_cons_zero, List.set_cons_succ])
  clear hS16
  obtain ⟨w16, hw16⟩ : ∃ w16, w15.alloc (.cells #[(.int .i64 0), (.int .i64 s.num), (.string ⟨#[]⟩), (.slice none 0 0), (.int .i64 0), (.int .i64 s.epoch), (.string ⟨#[]⟩), (.slice none 0 0), (.int .i64 0), (.int .i64 s.next), (.string ⟨#[]⟩), (.slice none 0 0), (.int .i64 0), (.int .i64 s.ncall), (.string ⟨#[]⟩), (.slice none 0 0), (.int .i64 0), (.int .i64 s.tick), (.string ⟨#[]⟩), (.slice none 0 0), (.int .i64 0), (.int .i64 s.left), (.string ⟨#[]⟩), (.slice none 0 0), (.int .i64 2), (.int .i64 0), (.string ⟨#[]⟩), (.slice A9 s.roles.length c9), (.int .i64 2), (.int .i64 0), (.string ⟨#[]⟩), (.slice A10 s.seen.length c10), (.int .i64 2), (.int .i64 0), (.string ⟨#[]⟩), (.slice A11 0 c11), (.int .i64 2), (.int .i64 0), (.string ⟨#[]⟩), (.slice A12 0 c12), (.int .i64 2), (.int .i64 0), (.string ⟨#[]⟩), (.slice A13 0 c13), (.int .i64 2), (.int .i64 0), (.string ⟨#[]⟩), (.slice A14 0 c14), (.int .i64 2), (.int .i64 0), (.string ⟨#[]⟩), (.slice A15 0 c15)] 65) = w16 := ⟨_, rfl⟩
  obtain ⟨N15, hN15⟩ : ∃ N, w15.heap.size = N := ⟨_, rfl⟩
  rw [hw16] at hR16 hb16 hHeld ⊢
  rw [hN15] at hR16 ⊢
  have hcall := pall_any (.slice (some ⟨N15, 0, none⟩) 13 13) (stV s).f3 (q + 1) (fun _ => True) w16 (by show 13 ≤ _; decide) (Nat.le_trans (YtieaipclioppkaaGreatCore.heap_lt HQ15.out) hb16.size) (fun _ _ => trivial) hR16
  have HCALL := Lib.hid hcall
  have HQ16 := Lib.hid ((hb16.block q (YtieaipclioppkaaGreatCore.heap_lt HQ15.out)).trans HQ15.out)
  have HB16 := Lib.hid (HB15.out.trans (hb16.mono HB15.out.size))
  clear hcall hR16 hb16 hw16 hN15 HR9 HR10 HR11 HR12 HR13 HR14 HR15
  refine wpAnyH_ready (rs := [42]) (by kernel_rfl) (by simp) ?_
  refine AllReadyH.cons rfl (fun K hK => ?_) AllReadyH.nil
  go_simp
  refine HCALL.out.mono ?_
  rintro e w17 ⟨cs, rfl, hM, hbw⟩
  obtain ⟨A17, c17, rfl, hR17⟩ := M_list hM
  have hl17 : (stV s).f3.length = 13 := rfl
  rw [hl17] at hR17 ⊢
  have hS17 : SAt w17 qs s := SAt.below hHeld hbw
  have hq17 := (hbw.block q (YtieaipclioppkaaGreatCore.heap_lt HQ16.out)).trans HQ16.out
  have HB17 := Lib.hid (HB16.out.trans (hbw.mono HB16.out.size))
  have HRq := Lib.hid hR17
  have HQ17 := Lib.hid hq17
  clear hbw hHeld hM hR17 hl17 hq17
  refine hK.out _ _ hS17 (fun hHeld => ?_)
  clear hK K
  (try simp only [Act.put]); (try simp only [List.getElem_toArray, List.getElem_cons_zero, List.getElem_cons_succ]); (try simp only [List.setIfInBounds_toArray]); (try simp only [List.set_cons_zero, List.set_cons_succ])
  clear hS17 HS1 HCALL
  have hq17 := HQ17.out
  have e0 := cell_of_block hq17 0
  have e1 := cell_of_block hq17 1
  have e2 := cell_of_block hq17 2
  have e3 := cell_of_block hq17 3
  have z0 := unfrozen_of_block hq17 0
  have z1 := unfrozen_of_block hq17 1
  have z2 := unfrozen_of_block hq17 2
  have z3 := unfrozen_of_block hq17 3
  have hfin := res_box hq17 2 0 ⟨#[]⟩ (.slice A17 13 c17)
  have hfr := res_fr w17 q 2 0 ⟨#[]⟩ (.slice A17 13 c17)
  clear hq17
  refine wpAnyH_ready (rs := [43]) (by kernel_rfl) (by simp) ?_
  refine AllReadyH.cons rfl (fun K hK => ?_) AllReadyH.nil
  go_simp
  change K _ (resW w17 q 2 0 ⟨#[]⟩ (.slice A17 13 c17))
  have hSF : SAt (resW w17 q 2 0 ⟨#[]⟩ (.slice A17 13 c17)) qs s := SAt.fr hHeld hfr hqq
  refine hK.out _ _ hSF (fun hHeld => ?_)
  clear hK K
  (try simp only [Act.put]); (try simp only [List.getElem_toArray, List.getElem_cons_zero, List.getElem_cons_succ]); (try simp only [List.setIfInBounds_toArray]); (try simp only [List.set_cons_zero, List.set_cons_succ])
  clear hSF
  refine wpAnyH_done (by kernel_rfl) ?_ _
  obtain ⟨wF, hwF⟩ : ∃ wF, resW w17 q 2 0 ⟨#[]⟩ (.slice A17 13 c17) = wF := ⟨_, rfl⟩
  rw [hwF] at hfin hfr ⊢
  have k0 := cell_of_block hfin 0
  have k1 := cell_of_block hfin 1
  have k2 := cell_of_block hfin 2
  have k3 := cell_of_block hfin 3
  go_wp2_with fail
  have hF : Below w.heap.size w wF := ((Fr.of_below (S := fun j => j = q) HB17.out).trans hfr).below (Nat.le_refl _) (fun k hk h => by have hq3 := hqlt.out; omega)
  refine bodyPost_ret (v := .agg #[.int .i64 2, .int .i64 0, .string ⟨#[]⟩, .slice A17 13 c17]) ?_ ?_ ?_
  · simp [results, Tryz.results29, go_sem, k0, k1, k2, k3]
  · rfl
  · exact ⟨[.int .i64 2, .int .i64 0, .string ⟨#[]⟩, .slice A17 13 c17], rfl, k65_mkM wF _ _ (stV s) (v3 := .slice A17 13 c17) (Kd.R_lower (Kd.R_mono (Kd.R_step (Kd.R_bound HRq.out) (fun j hj hlt => hfr.block j hlt (by have := hj.2.1; omega))) (fun _ _ => trivial)) (by have := hqlt.out; omega)), hF⟩

end Go.Proofs.YtieaipclioppkaaGreat.Iv

/-! image's readers of single values: must, list, long, where they go well. -/
namespace Go.Proofs.YtieaipclioppkaaGreat.Ih
open Go Go.RowKit Go.Joins Go.Proofs.YtieaipclioppkaaGreatCore Go.Proofs.YtieaipclioppkaaGreat.PLeaf Go.Proofs.YtieaipclioppkaaGreat.Fr Go.Proofs.YtieaipclioppkaaGreat.Pk Go.Proofs.YtieaipclioppkaaGreat.Rd Go.Proofs.YtieaipclioppkaaGreat.Vl Go.Proofs.YtieaipclioppkaaGreatW.PrintWords Go.Proofs.YtieaipclioppkaaGreatW.PrintLast Go.Proofs.YtieaipclioppkaaGreatW.PrintMore

set_option maxHeartbeats 4000000 in
set_option maxRecDepth 100000 in
theorem must_ok (w : World) : Calls Tryz.prog 26 #[.bool true] w fun e w' => e = .returned (.tuple #[]) ∧ w' = w := by
  go_enter Tryz.func26, Tryz.ntmps26
  go_wp2_with fail
  go_end0
  exact ⟨rfl, rfl⟩

set_option maxHeartbeats 4000000 in
set_option maxRecDepth 100000 in
theorem list_n (n : Int) (s : ByteArray) (A : Option Addr) (len c : Nat) (w : World) : Calls Tryz.prog 36 #[.agg #[.int .i64 2, .int .i64 n, .string s, .slice A len c], .int .i64 (len : Int)] w fun e w' => e = .returned (.slice A len c) ∧ Below w.heap.size w w' := by
  go_enter Tryz.func36, Tryz.ntmps36
  go_wp2_with fail
  refine (must_ok _).mono ?_
  rintro e w2 ⟨rfl, rfl⟩
  go_wp2_with fail
  exact bodyPost_ret (v := .slice A len c) (by simp [results, Tryz.results36, go_sem]) rfl ⟨rfl, (Below.refl _ _).alloc (Nat.le_refl _) _⟩
set_option maxHeartbeats 4000000 in
set_option maxRecDepth 100000 in
theorem list_neg (n : Int) (s : ByteArray) (A : Option Addr) (len c : Nat) (w : World) : Calls Tryz.prog 36 #[.agg #[.int .i64 2, .int .i64 n, .string s, .slice A len c], .int .i64 (-1)] w fun e w' => e = .returned (.slice A len c) ∧ Below w.heap.size w w' := by
  go_enter Tryz.func36, Tryz.ntmps36
  go_wp2_with fail
  refine (must_ok _).mono ?_
  rintro e w2 ⟨rfl, rfl⟩
  go_wp2_with fail
  exact bodyPost_ret (v := .slice A len c) (by simp [results, Tryz.results36, go_sem]) rfl ⟨rfl, (Below.refl _ _).alloc (Nat.le_refl _) _⟩
set_option maxHeartbeats 4000000 in
set_option maxRecDepth 100000 in
theorem long_any (n a b : Int) (s : ByteArray) (v : Value) (w : World) (h1 : a ≤ n) (h2 : n ≤ b) : Calls Tryz.prog 37 #[.agg #[.int .i64 0, .int .i64 n, .string s, v], .int .i64 a, .int .i64 b] w fun e w' => e = .returned (.int .i64 n) ∧ Below w.heap.size w w' := by
  go_enter Tryz.func37, Tryz.ntmps37
  go_wp2_with fail
  refine (must_ok _).mono ?_
  rintro e w2 ⟨rfl, rfl⟩
  go_wp2_with fail
  exact bodyPost_ret (v := .int .i64 n) (by simp [results, Tryz.results37, go_sem]) rfl ⟨rfl, (Below.refl _ _).alloc (Nat.le_refl _) _⟩

end Go.Proofs.YtieaipclioppkaaGreat.Ih

/-! image.Put of a new tenant: the bytes of its value. -/
namespace Go.Proofs.YtieaipclioppkaaGreat.Ip
open Go Go.RowKit Go.Joins Go.Proofs.YtieaipclioppkaaGreatCore Go.Proofs.YtieaipclioppkaaGreat.PLeaf Go.Proofs.YtieaipclioppkaaGreat.Fr Go.Proofs.YtieaipclioppkaaGreat.Pk Go.Proofs.YtieaipclioppkaaGreat.Pp Go.Proofs.YtieaipclioppkaaGreat.Rd Go.Proofs.YtieaipclioppkaaGreat.Rl Go.Proofs.YtieaipclioppkaaGreat.Vl Go.Proofs.YtieaipclioppkaaGreat.St Go.Proofs.YtieaipclioppkaaGreat.Nw Go.Proofs.YtieaipclioppkaaGreat.Iv Go.Proofs.YtieaipclioppkaaGreatW.PrintWords Go.Proofs.YtieaipclioppkaaGreatW.PrintLast Go.Proofs.YtieaipclioppkaaGreatW.PrintMore

/-- The value of a new tenant, and its bytes. -/
def nv : V := stV (TS.new 0)
def nb : ByteArray := ⟨(encV 0 nv).1.toArray⟩
theorem bare_new (n : Int) : Bare (TS.new n) := ⟨new_ok n, rfl, rfl, rfl, rfl, rfl⟩
theorem can_num (d : Nat) (n : Int) (h1 : -9223372036854775808 ≤ n) (h2 : n ≤ 9223372036854775807) : CanV d (numV n) := .num h1 h2
theorem nv_can : CanV 0 nv := by
  refine .list (by decide) (by decide) (fun x hx => ?_)
  simp only [List.mem_cons, List.not_mem_nil, or_false] at hx
  have hr : ∀ l : List Int, l.length ≤ 256 → (∀ n ∈ l, -9223372036854775808 ≤ n ∧ n ≤ 9223372036854775807) → CanV 1 ⟨2, 0, ⟨#[]⟩, l.map numV⟩ := fun l hl h => .list (by decide) (by simpa using hl) (fun x hx => by
    obtain ⟨n, hn, rfl⟩ := List.mem_map.1 hx
    exact can_num _ _ (h n hn).1 (h n hn).2)
  have he : CanV 1 ⟨2, 0, ⟨#[]⟩, []⟩ := .list (by decide) (by decide) (fun x hx => by cases hx)
  rcases hx with rfl | rfl | rfl | rfl | rfl | rfl | rfl | rfl | rfl | rfl | rfl | rfl | rfl
  · exact can_num _ _ (by decide) (by decide)
  · exact can_num _ _ (by decide) (by decide)
  · exact can_num _ _ (by decide) (by decide)
  · exact can_num _ _ (by decide) (by decide)
  · exact can_num _ _ (by decide) (by decide)
  · exact can_num _ _ (by decide) (by decide)
  · exact hr [4, 0, 0, 0, 0, 0, 0, 0, 0, 0, 0, 0, 0, 0, 0, 0] (by decide) (by decide)
  · exact hr [0, 0, 0, 0, 0, 0, 0, 0] (by decide) (by decide)
  all_goals exact he
theorem can_ok : ∀ (N : Nat) (v : V), SizeOf.sizeOf v < N → ∀ d, CanV d v → OkV v := by
  intro N
  induction N with
  | zero => intro v h; omega
  | succ N ih =>
    intro v hv d hc
    cases hc with
    | num h1 h2 => exact ⟨h1, h2, fun x hx => by cases hx⟩
    | str h => exact ⟨by decide, by decide, fun x hx => by cases hx⟩
    | @list _ l hd hl h =>
      refine ⟨by decide, by decide, fun x hx => ih x ?_ _ (h x hx)⟩
      have h1 := List.sizeOf_lt_of_mem hx
      have h2 : SizeOf.sizeOf (⟨2, 0, ⟨#[]⟩, l⟩ : V) = 1 + SizeOf.sizeOf (2 : Int) + SizeOf.sizeOf (0 : Int) + SizeOf.sizeOf (⟨#[]⟩ : ByteArray) + SizeOf.sizeOf l := S65.mk.sizeOf_spec 2 0 ⟨#[]⟩ l
      omega
theorem nv_len : (encV 0 nv).1.length ≤ 1000 := by
  have h : (encV 0 nv).1.length = 88 := by kernel_rfl
  omega
theorem packS_nv : packS nv = (nb, 0) := by
  unfold packS
  rw [if_pos (enc_can _ nv (Nat.lt_succ_self _) 0 nv_can)]
  rfl

set_option maxHeartbeats 4000000 in
set_option maxRecDepth 100000 in
theorem put_new (w : World) : Calls Tryz.prog 16 #[.agg (TS.new 0).cs.toArray] w fun e w' => e = .returned (.string nb) ∧ Below w.heap.size w w' := by
  obtain ⟨w1, hw1⟩ : ∃ w1, w.alloc (.cells (TS.new 0).cs.toArray 42) = w1 := ⟨_, rfl⟩
  obtain ⟨q, hqq⟩ : ∃ q, w.heap.size = q := ⟨_, rfl⟩
  have hs1 : SAt w1 q (TS.new 0) := by rw [← hw1, ← hqq]; exact SAt.new w _
  have hb1 : Below w.heap.size w w1 := by rw [← hw1]; exact (Below.refl _ _).alloc (Nat.le_refl _) _
  have HS1 := Lib.hid hs1
  have HB1 := Lib.hid hb1
  clear hs1 hb1
  go_enter Tryz.func16, Tryz.ntmps16
  go_wp2_with (first | (rw [hw1]) | (rw [hqq]) | (refine wpList_load_row rfl 42 _ rfl q rfl 42 (TS.new 0).cs.toArray (0, 0) _ HS1.out Tryz.underlying42 rfl (SAt.size (new_ok 0)) ?_))
  refine (value_bare _ (bare_new 0) w1).mono ?_
  rintro e w2 ⟨cs, rfl, hM, hb2⟩
  have hP := pput_any nv (can_ok _ nv (Nat.lt_succ_self _) 0 nv_can) cs w2 (k65.K_of_M hM) (by have := nv_len; omega)
  rw [packS_nv] at hP
  have HP := Lib.hid hP
  have HB2 := Lib.hid (HB1.out.trans (hb2.mono HB1.out.size))
  clear hP hM hb2
  go_wp2_with fail
  refine HP.out.mono ?_
  rintro e w3 ⟨rfl, hb3⟩
  have HB3 := Lib.hid (HB2.out.trans (hb3.mono HB2.out.size))
  clear hb3
  go_wp2_with fail
  go_ret
  exact ⟨rfl, HB3.out⟩

end Go.Proofs.YtieaipclioppkaaGreat.Ip

/-! pack.Get of a value's bytes. -/
namespace Go.Proofs.YtieaipclioppkaaGreat.Pg
open Go Go.RowKit Go.Joins Go.Proofs.YtieaipclioppkaaGreatCore Go.Proofs.YtieaipclioppkaaGreat.PLeaf Go.Proofs.YtieaipclioppkaaGreat.Fr Go.Proofs.YtieaipclioppkaaGreat.Pk Go.Proofs.YtieaipclioppkaaGreat.Rd Go.Proofs.YtieaipclioppkaaGreat.Rl Go.Proofs.YtieaipclioppkaaGreat.Vl Go.Proofs.YtieaipclioppkaaGreatW.PrintWords Go.Proofs.YtieaipclioppkaaGreatW.PrintLast Go.Proofs.YtieaipclioppkaaGreatW.PrintMore

theorem ta_nil {P : Program} {asserted : TypeId} {k : IntKind} {z : Value} (hu : P.underlying asserted = some (.int k)) (hz : (P.info? asserted).map (·.zero) = some (some z)) (xT : TypeId) (w : World) :
    (Instr.typeAssert .nilIface xT asserted true).run P w = .ok (.tuple #[z, .bool false]) w := by
  obtain ⟨j, hj, hz'⟩ := Option.map_eq_some_iff.1 hz
  simp [Instr.typeAssert, run_underlying hu, typeInfo, zeroValue, hj, hz']

set_option maxHeartbeats 4000000 in
set_option maxRecDepth 100000 in
theorem get1_idle (p1 p2 : Addr) (w : World) :
    CallsD Tryz.prog 33 #[.pointer (some p1), .pointer (some p2)] .returning w fun e u' w' => e = .returned (.tuple #[]) ∧ u' = .returning ∧ w' = w := by
  have hta := fun w => ta_nil (P := Tryz.prog) (asserted := 84) (z := .int .i64 0) Tryz.underlying84 (by kernel_rfl) 20 w
  refine callsD_of_wpS Tryz.func33 rfl fun c₀ cs hu => ?_
  apply wpS_seq
  apply wpS_region
  simp [wpOpsS, go_sem, recoverD, hu, hta, Tryz.ntmps33, Exit.thenS]
  apply wpS_seq
  apply wpS_region
  simp [wpOpsS, go_sem, Exit.thenS]
  refine wpS_cond (t := false) (by simp [Act.eval, Array.replicate]) ?_
  simp only [Bool.false_eq_true, if_false]
  refine wpS_of_wp (wp_skip ?_)
  cases c₀
  simp_all [bodyPostS, results, Tryz.results33]

theorem Has.all (l : List UInt8) : Has ⟨l.toArray⟩ 0 l := ⟨Nat.zero_le _, [], by simp⟩
/-- What comes back from pack.Get. -/
def GetPost (v : V) (w : World) (e : Ending) (w' : World) : Prop := ∃ cs, e = .returned (.tuple #[.agg cs.toArray, .int .i64 0]) ∧ k65.M w' w.heap.size (fun _ => True) v cs ∧ Below w.heap.size w w'
theorem HFR7a {q0 q1 rb : Nat} {w3 w5 w6 w7 : World} {o : Obj} (h7 : Fr (fun j => j = q0) w6 w7) (h6 : Fr (fun j => j = q0) w5 w6) (_h5 : Fr (fun j => j = rb) w3 w5) (h : w5.heap[q1]? = some o) (hne : q1 ≠ q0) : w7.heap[q1]? = some o := h7.at_ (h6.at_ h hne) hne
set_option maxHeartbeats 4000000 in
set_option maxRecDepth 100000 in
theorem pget_ok (v : V) (hv : CanV 0 v) (hl : (encV 0 v).1.length ≤ 140737488340000) (w : World) :
    Calls Tryz.prog 24 #[.string ⟨(encV 0 v).1.toArray⟩] w fun e w' => GetPost v w e w' := by
  have hmf : ∀ (fn : Fn) (first cap : Array Value) (w : World), (Instr.makeFunc fn first cap).run Tryz.prog w = .ok (.func fn first cap) w := fun _ _ _ _ => rfl
  obtain ⟨s, hs⟩ : ∃ s : ByteArray, ⟨(encV 0 v).1.toArray⟩ = s := ⟨_, rfl⟩
  have hsz : s.size = (encV 0 v).1.length := by rw [← hs]; simp [ByteArray.size]
  have hh : Has s 0 (encV 0 v).1 := by rw [← hs]; exact Has.all _
  have hcall := fun (rb : Nat) (w : World) (hr : RAt w rb s ((0 : Nat) : Int)) => value_all s rb (by omega) _ v (Nat.lt_succ_self _) 0 hv 0 w hr hh
  have HCALL := Lib.hid hcall
  have HSZ := Lib.hid hsz
  rw [hs]
  obtain ⟨w1, hw1⟩ : ∃ w1, w.alloc (.cells #[.int .i64 0, .int .i64 0, .string ⟨#[]⟩, .slice none 0 0] 65) = w1 := ⟨_, rfl⟩
  obtain ⟨q0, hq0⟩ : ∃ q, w.heap.size = q := ⟨_, rfl⟩
  obtain ⟨w2, hw2⟩ : ∃ w2, w1.alloc (.cells #[.int .i64 0] 44) = w2 := ⟨_, rfl⟩
  obtain ⟨q1, hq1⟩ : ∃ q, w1.heap.size = q := ⟨_, rfl⟩
  obtain ⟨w3, hw3⟩ : ∃ w3, w2.alloc (.cells #[.string s, .int .i64 0] 88) = w3 := ⟨_, rfl⟩
  obtain ⟨rb, hrb⟩ : ∃ q, w2.heap.size = q := ⟨_, rfl⟩
  have hb1 : Below w.heap.size w w1 := by rw [← hw1]; exact (Below.refl _ _).alloc (Nat.le_refl _) _
  have hb2 : Below w1.heap.size w1 w2 := by rw [← hw2]; exact (Below.refl _ _).alloc (Nat.le_refl _) _
  have hb3 : Below w2.heap.size w2 w3 := by rw [← hw3]; exact (Below.refl _ _).alloc (Nat.le_refl _) _
  have s1 : w1.heap.size = w.heap.size + 1 := by rw [← hw1]; simp
  have s2 : w2.heap.size = w1.heap.size + 1 := by rw [← hw2]; simp
  have b0 : w3.heap[q0]? = some (.cells #[.int .i64 0, .int .i64 0, .string ⟨#[]⟩, .slice none 0 0] 65 (0, 0)) := by
    have h1 : w1.heap[q0]? = some (.cells #[.int .i64 0, .int .i64 0, .string ⟨#[]⟩, .slice none 0 0] 65 (0, 0)) := by rw [← hw1, ← hq0]; exact heap_alloc_new _ _
    exact (hb3.block _ (by omega)).trans ((hb2.block _ (by omega)).trans h1)
  have b1 : w3.heap[q1]? = some (.cells #[.int .i64 0] 44 (0, 0)) := by
    have h1 : w2.heap[q1]? = some (.cells #[.int .i64 0] 44 (0, 0)) := by rw [← hw2, ← hq1]; exact heap_alloc_new _ _
    exact (hb3.block _ (by omega)).trans h1
  have br : RAt w3 rb s ((0 : Nat) : Int) := by unfold RAt; rw [← hw3, ← hrb]; exact heap_alloc_new _ _
  have HB3 := Lib.hid (hb1.trans ((hb2.trans (hb3.mono hb2.size)).mono hb1.size))
  have B0 := Lib.hid b0
  have B1 := Lib.hid b1
  have BR := Lib.hid br
  have HQ := Lib.hid (show q0 + 1 = q1 ∧ q1 + 1 = rb ∧ q0 = w.heap.size by omega)
  have hn1 : w.heap.size + 1 = q1 := by omega
  have hn2 : q1 + 1 = rb := by omega
  have hn3 : q0 + 1 = q1 := by omega
  clear hb1 hb2 hb3 s1 s2 b0 b1 br
  clear hs hsz hh hcall
  go_enter_defers Tryz.func24, Tryz.ntmps24
  go_wp2_with (first | (rw [hw1]) | (rw [hw2]) | (rw [hw3]) | (rw [hq0]) | (rw [hq1]) | (rw [hrb]) | (rw [hn3]) | (rw [hn2]))
  refine (HCALL.out rb w3 BR.out).mono ?_
  rintro e w5 ⟨cs, rfl, hM, hr5, hf5⟩
  rw [Nat.zero_add] at hr5
  obtain ⟨v3, rfl, hR3⟩ := k65_openM hM
  obtain ⟨A, c3, rfl⟩ := Kd.R_slice hR3
  have b0 := hf5.at_ B0.out (by have := HQ.out; omega)
  have b1 := hf5.at_ B1.out (by have := HQ.out; omega)
  have hsz5 := hf5.size
  have HR3 := Lib.hid hR3
  have HF5 := Lib.hid hf5
  have HR5 := Lib.hid hr5
  have B1' := Lib.hid b1
  obtain ⟨n5, hn5⟩ : ∃ n, v.f3.length = n := ⟨_, rfl⟩
  have HN5 := Lib.hid hn5
  rw [hn5]
  have e0 := cell_of_block b0 0
  have e1 := cell_of_block b0 1
  have e2 := cell_of_block b0 2
  have e3 := cell_of_block b0 3
  have z0 := unfrozen_of_block b0 0
  have z1 := unfrozen_of_block b0 1
  have z2 := unfrozen_of_block b0 2
  have z3 := unfrozen_of_block b0 3
  have hfin := res_box b0 v.f0 v.f1 v.f2 (.slice A n5 c3)
  have hfr := res_fr w5 q0 v.f0 v.f1 v.f2 (.slice A n5 c3)
  obtain ⟨w6, hw6⟩ : ∃ wF, resW w5 q0 v.f0 v.f1 v.f2 (.slice A n5 c3) = wF := ⟨_, rfl⟩
  rw [hw6] at hfin hfr
  have hr6 : RAt w6 rb s ((encV 0 v).1.length : Int) := HR5.out.fr hfr (by have := HQ.out; omega)
  have d1 : w6.cell? ⟨rb, 1, none⟩ = some (.int .i64 ((encV 0 v).1.length : Int)) := cell_of_block hr6 1
  rw [← HSZ.out] at d1
  have k0 := cell_of_block hfin 0
  have k1 := cell_of_block hfin 1
  have k2 := cell_of_block hfin 2
  have k3 := cell_of_block hfin 3
  have y0 := unfrozen_of_block hfin 0
  have y1 := unfrozen_of_block hfin 1
  have y2 := unfrozen_of_block hfin 2
  have y3 := unfrozen_of_block hfin 3
  have hfin7 := res_box hfin v.f0 v.f1 v.f2 (.slice A n5 c3)
  have hfr7 := res_fr w6 q0 v.f0 v.f1 v.f2 (.slice A n5 c3)
  obtain ⟨w7, hw7⟩ : ∃ wF, resW w6 q0 v.f0 v.f1 v.f2 (.slice A n5 c3) = wF := ⟨_, rfl⟩
  rw [hw7] at hfin7 hfr7
  have b16 := (HFR7a hfr7 hfr HF5.out B1'.out (by have := HQ.out; omega))
  have u0 := cell_of_block b16 0
  have x0 := unfrozen_of_block b16 0
  have HFR := Lib.hid (hfr.trans hfr7)
  have FIN7 := Lib.hid hfin7
  have B16 := Lib.hid b16
  clear hr5 hf5 b0 b1 hR3 hM hn5 hr6 hfin hfr hfin7 hfr7 b16
  unfold resW at hw6 hw7
  go_wp2_with (first | (rw [hw6]) | (rw [hw7]))
  have hfr8 : Fr (fun j => j = q1) w7 (w7.setCell ⟨q1, 0, none⟩ (.int .i64 0)) := (Fr.refl _ _).setAt rfl
  have hq8 := heap_setCell_same w7 q1 0 _ _ (.int .i64 0) B16.out
  have hf8 := hfr8.at_ FIN7.out (by omega)
  obtain ⟨w8, hw8⟩ : ∃ w8, w7.setCell ⟨q1, 0, none⟩ (.int .i64 0) = w8 := ⟨_, rfl⟩
  rw [hw8] at hfr8 hq8 hf8 ⊢
  have j0 := cell_of_block hf8 0
  have j1 := cell_of_block hf8 1
  have j2 := cell_of_block hf8 2
  have j3 := cell_of_block hf8 3
  have i0 : w8.cell? ⟨q1, 0, none⟩ = some (.int .i64 0) := cell_of_block hq8 0
  refine leaves_cons (f := 33) (args := #[.pointer (some ⟨q0, 0, none⟩), .pointer (some ⟨q1, 0, none⟩)]) (by simp) (by simp [go_sem]) ?_
  refine (get1_idle ⟨q0, 0, none⟩ ⟨q1, 0, none⟩ _).mono ?_
  rintro e u' w'' ⟨rfl, rfl, rfl⟩
  have hF : Fr (fun j => j = q0 ∨ j = q1 ∨ j = rb) w3 w'' := ((HF5.out.mono (fun _ h => .inr (.inr h))).trans (HFR.out.mono (fun _ h => .inl h))).trans (hfr8.mono (fun _ h => .inr (.inl h)))
  have hB : Below w.heap.size w w'' := (((Fr.of_below HB3.out).trans hF).below (Nat.le_refl _) (fun k hk h => by have := HQ.out; omega))
  have hR : k65.R 65 w'' w3.heap.size (fun _ => True) (.slice A n5 c3) v.f3 := by
    rw [← HN5.out]
    refine Kd.R_mono (Kd.R_step (Kd.R_bound HR3.out) (fun j hj hlt => ?_)) (fun _ _ => trivial)
    refine ((HFR.out.mono (S' := fun j => j = q0 ∨ j = q1) (fun _ h => .inl h)).trans (hfr8.mono (fun _ h => .inr h))).block j hlt (fun h => ?_)
    have := hj.2.1
    have := HQ.out
    have := YtieaipclioppkaaGreatCore.heap_lt BR.out
    omega
  have hM := k65_mkM w'' w.heap.size (fun _ => True) v (v3 := .slice A n5 c3) (Kd.R_lower hR HB3.out.size)
  simp [Leaves, settle, results, Tryz.results24, go_sem, j0, j1, j2, j3, i0]
  exact ⟨_, rfl, hM, hB⟩

end Go.Proofs.YtieaipclioppkaaGreat.Pg
