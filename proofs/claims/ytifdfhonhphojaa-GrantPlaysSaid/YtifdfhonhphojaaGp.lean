/- GrantPlays: the walk. -/
import Derived.Test.YtifdfhonhphojaaRq
import Derived.Deep.RegionHeld
import Derived.Test.YtifdfhonhphojaaOpens
namespace Go.Proofs.Ytifdfhonhphojaa.Gp
open Go Go.RowKit Go.Joins Go.Proofs.YtifdfhonhphojaaCore Go.Proofs.Ytifdfhonhphojaa.Fr Go.Proofs.Ytifdfhonhphojaa.Mp Go.Proofs.Ytifdfhonhphojaa.Ky Go.Proofs.Ytifdfhonhphojaa.Ko Go.Proofs.Ytifdfhonhphojaa.Named Go.Proofs.Ytifdfhonhphojaa.Tb Go.Proofs.Ytifdfhonhphojaa.Nw Go.Proofs.Ytifdfhonhphojaa.Oi Go.Proofs.Ytifdfhonhphojaa.O2 Go.Proofs.Ytifdfhonhphojaa.Rt Go.Proofs.Ytifdfhonhphojaa.Rd Go.Proofs.Ytifdfhonhphojaa.Ra Go.Proofs.Ytifdfhonhphojaa.Rb Go.Proofs.Ytifdfhonhphojaa.Pr Go.Proofs.Ytifdfhonhphojaa.Sa Go.Proofs.Ytifdfhonhphojaa.Gs Go.Proofs.Ytifdfhonhphojaa.Wk Go.Proofs.YtifdfhonhphojaaW.PrintWords Go.Proofs.YtifdfhonhphojaaW.PrintLast Go.Proofs.YtifdfhonhphojaaW.PrintMore

def ActsAt (w : World) (A : Option Addr) (xs : List (Bool × GKey)) : Prop := ∀ (i : Nat) (x : Bool × GKey), xs[i]? = some x → ∃ ad, A = some ad ∧ w.cell? (ad.add (i * 3)) = some (.bool x.1) ∧ w.cell? ⟨(ad.add (i * 3)).block, (ad.add (i * 3)).off + 1, none⟩ = some (.int .i64 x.2.c) ∧ w.cell? ⟨(ad.add (i * 3)).block, (ad.add (i * 3)).off + 2, none⟩ = some (.string x.2.f)

structure GInv (M tb mb rb : Nat) (bs : List Bx) (w : World) (gk : Nat) (v : Value) (wr : World) (j : Nat) (ks rs : List GKey) : Prop where
  hi : j ≤ M
  slot : v = .int .i64 j
  ghost : gk + j = M
  ps : PS w wr tb mb rb bs ks rs
  sy : Sy ks rs
  few : ks.length ≤ j
def GRel (M tb mb rb : Nat) (bs : List Bx) (w : World) (gk : Nat) (v : Value) (wr : World) : Prop := ∃ j ks rs, GInv M tb mb rb bs w gk v wr j ks rs

theorem addT_len (ks : List GKey) (k : GKey) : (addT ks k).length ≤ ks.length + 1 := by
  unfold addT
  split
  · simp
  · omega
theorem ps_S {w w' : World} {tb mb rb q qa : Nat} {ks rs : List GKey} {xd : Bool} {xc c : Int} {xf f : ByteArray} (h : PS w w' tb mb rb [(q, #[.bool xd, .int .i64 xc, .string xf], 46), (qa, #[.int .i64 c, .string f], 36)] ks rs) :
    w'.cell? ⟨q, 1, none⟩ = some (.int .i64 xc) ∧ w'.cell? ⟨q, 2, none⟩ = some (.string xf) ∧ w'.cell? ⟨qa, 0, none⟩ = some (.int .i64 c) ∧ w'.cell? ⟨qa, 1, none⟩ = some (.string f) :=
  ⟨h.cell (List.mem_cons_self ..) rfl, h.cell (List.mem_cons_self ..) rfl, h.cell (List.mem_cons_of_mem _ (List.mem_cons_self ..)) rfl, h.cell (List.mem_cons_of_mem _ (List.mem_cons_self ..)) rfl⟩

set_option maxHeartbeats 16000000 in
set_option maxRecDepth 100000 in
theorem law (A : Option Addr) (cc : Nat) (xs : List (Bool × GKey)) (ask : GKey) (w : World) (hE : ActsAt w A xs) (hcc : xs.length ≤ cc) (hm : xs.length ≤ 9223372036854775807) (hok : okK ask) (hoks : ∀ x ∈ xs, okK x.2) :
    Calls Try.prog 6 #[.slice A xs.length cc, .agg #[.int .i64 ask.c, .string ask.f]] w fun e w' => e = .returned (.bool true) ∧ Below w.heap.size w w' := by
  obtain ⟨M, hM⟩ : ∃ M : Nat, min xs.length 80 = M := ⟨_, rfl⟩
  have hMi : min (xs.length : Int) 80 = (M : Int) := by omega
  have hM1 : M ≤ xs.length := by omega
  have hM80 : M ≤ 80 := by omega
  have hMc : M ≤ cc := by omega
  have HE := Lib.hid hE
  have HOK := Lib.hid hok
  have HOKS := Lib.hid hoks
  obtain ⟨w1, hw1⟩ : ∃ w1, w.alloc (.cells #[.int .i64 ask.c, .string ask.f] 36) = w1 := ⟨_, rfl⟩
  have hb1 : Below w.heap.size w w1 := by rw [← hw1]; exact (Below.refl _ _).alloc (Nat.le_refl _) _
  have hq1 : w1.heap[w.heap.size]? = some (.cells #[.int .i64 ask.c, .string ask.f] 36 (0, 0)) := by rw [← hw1]; exact heap_alloc_new _ _
  obtain ⟨qa, hqa⟩ : ∃ qa, w.heap.size = qa := ⟨_, rfl⟩
  have hn := new_any none 0 [] w1 (KeysAt.nil _ _) (by simp) (by simp) (by simp)
  have HB1 := Lib.hid hb1
  have HQ1 := Lib.hid hq1
  clear hE hok hoks hb1 hq1 hM
  go_enter Try.func6, Try.ntmps6
  go_wp2_with (first | (rw [hw1]))
  refine hn.mono ?_
  rintro e w2 ⟨hb2, h⟩
  rcases h with ⟨h, _⟩ | ⟨_, tb, mb, htb, hmb, rfl, ht⟩
  · exact absurd rfl h
  have HT2 : Hid (TabAt w2 tb mb []) := Lib.hid ht
  have HQ2 := Lib.hid ((hb2.block _ (heap_lt HQ1.out)).trans HQ1.out)
  have HB2 := Lib.hid (HB1.out.trans (hb2.mono HB1.out.size))
  have HTB := Lib.hid (Nat.le_trans HB1.out.size htb)
  have HMB := Lib.hid (Nat.le_trans HB1.out.size hmb)
  clear ht hb2 htb hmb hn
  go_wp2_with fail
  obtain ⟨w3, hw3⟩ : ∃ w3, w2.alloc (.cells #[.slice none 0 0] 44) = w3 := ⟨_, rfl⟩
  have hb3 : Below w2.heap.size w2 w3 := by rw [← hw3]; exact (Below.refl _ _).alloc (Nat.le_refl _) _
  have hr3 : w3.heap[w2.heap.size]? = some (.cells #[.slice none 0 0] 44 (0, 0)) := by rw [← hw3]; exact heap_alloc_new _ _
  obtain ⟨rb, hrb⟩ : ∃ rb, w2.heap.size = rb := ⟨_, rfl⟩
  have HP3 : Hid (PS w w3 tb mb rb [(qa, #[.int .i64 ask.c, .string ask.f], 36)] [] []) := by
    refine ⟨HT2.out.below hb3, ⟨_, by rw [← hrb]; exact hr3, Own2.nil ..⟩, HB2.out.trans (hb3.mono HB2.out.size), ⟨HTB.out, HMB.out, by have := HB2.out.size; omega⟩, fun b hb => ?_⟩
    rw [List.mem_singleton] at hb
    subst hb
    refine ⟨?_, (by decide : (36 : Nat) ≠ 44)⟩
    have := (hb3.block _ (heap_lt HQ2.out)).trans HQ2.out
    rw [hqa] at this
    exact this
  clear hb3 hr3 HT2 HQ2 HTB HMB HQ1
  rw [hw3, hrb]
  refine (wakes_any _).mono ?_
  rintro e w4 ⟨rfl, hb4⟩
  have HP4 := Lib.hid (HP3.out.below hb4)
  clear hb4 hw3 hrb HP3 hw1
  go_wp2_with fail
  go_loopg [28] M (fun gk v wr => GRel M tb mb rb [(qa, #[.int .i64 ask.c, .string ask.f], 36)] w gk v wr)
  case atStart => exact ⟨0, [], [], Nat.zero_le _, rfl, rfl, HP4.out, Sy.nil, Nat.le_refl _⟩
  case round =>
    obtain ⟨j, ks, rs, hj, rfl, hg, hps, hsy, hfew⟩ := hrel
    have HG := Lib.hid hg
    have HP := Lib.hid hps
    have HS := Lib.hid hsy
    clear hg hps hsy HP4
    by_cases hlt : j < M
    · have hI : (j : Int) < (M : Int) := by omega
      have hjl : j < xs.length := by omega
      obtain ⟨x, hx⟩ : ∃ x, xs[j]? = some x := ⟨_, List.getElem?_eq_getElem hjl⟩
      obtain ⟨ad, rfl, hc0, hc1, hc2⟩ := HE.out j x hx
      have hokx := HOKS.out x (List.mem_of_getElem? hx)
      have HOX := Lib.hid hokx
      have e0 := pw_below HP.out.bel hc0
      have e1 := pw_below HP.out.bel hc1
      have e2 := pw_below HP.out.bel hc2
      clear hx hc0 hc1 hc2 hokx
      obtain ⟨xd, xc, xf⟩ := x
      simp only at e0 e1 e2 HOX
      obtain ⟨wb, hwb⟩ : ∃ wb, wr.alloc (.cells #[.bool xd, .int .i64 xc, .string xf] 46) = wb := ⟨_, rfl⟩
      have hbb : Below wr.heap.size wr wb := by rw [← hwb]; exact (Below.refl _ _).alloc (Nat.le_refl _) _
      have hqb : wb.heap[wr.heap.size]? = some (.cells #[.bool xd, .int .i64 xc, .string xf] 46 (0, 0)) := by rw [← hwb]; exact heap_alloc_new _ _
      obtain ⟨q, hq⟩ : ∃ q, wr.heap.size = q := ⟨_, rfl⟩
      rw [hq] at hqb
      have HPb := Lib.hid ((HP.out.below hbb).more hqb (by decide : (46 : Nat) ≠ 44))
      have c0 : wb.cell? ⟨q, 0, none⟩ = some (.bool xd) := HPb.out.cell (List.mem_cons_self ..) rfl
      have hS0 : wb.cell? ⟨q, 1, none⟩ = some (.int .i64 xc) ∧ wb.cell? ⟨q, 2, none⟩ = some (.string xf) := ⟨HPb.out.cell (List.mem_cons_self ..) rfl, HPb.out.cell (List.mem_cons_self ..) rfl⟩
      clear hbb hqb
      cases xd with
      | true =>
        go_wp2_with (first | (rw [hwb]) | (rw [hq]))
        refine wp_region_held_drew (S := fun w' => w'.cell? ⟨q, 1, none⟩ = some (.int .i64 xc) ∧ w'.cell? ⟨q, 2, none⟩ = some (.string xf)) (by kernel_rfl) hS0 (fun hHeld => ?_)
        refine wpAnyH_take (i := 0) (v := ?mv1) rfl (by kernel_rfl) (by kernel_rfl) (by kernel_rfl) (fun _ _ _ h => h) (Or.inl ⟨by rfl, ?mh1⟩) (by assumption) ?mr1
        case mh1 => intro w hSw; (try dsimp only at hSw); go_simp; try with_reducible rfl
        (try simp only [Act.put]); (try simp only [List.getElem_toArray, List.getElem_cons_zero, List.getElem_cons_succ]); (try simp only [List.setIfInBounds_toArray]); (try simp only [List.set_cons_zero, List.set_cons_succ])
        refine wpAnyH_take (i := 1) (v := ?mv2) rfl (by kernel_rfl) (by kernel_rfl) (by kernel_rfl) (fun _ _ _ h => h) (Or.inl ⟨by rfl, ?mh2⟩) (by assumption) ?mr2
        case mh2 => intro w hSw; (try dsimp only at hSw); go_simp; try with_reducible rfl
        (try simp only [Act.put]); (try simp only [List.getElem_toArray, List.getElem_cons_zero, List.getElem_cons_succ]); (try simp only [List.setIfInBounds_toArray]); (try simp only [List.set_cons_zero, List.set_cons_succ])
        refine wpAnyH_take (i := 2) (v := ?mv3) rfl (by kernel_rfl) (by kernel_rfl) (by kernel_rfl) (fun _ _ _ h => h) (Or.inl ⟨by rfl, ?mh3⟩) (by assumption) ?mr3
        case mh3 => intro w hSw; (try dsimp only at hSw); go_simp; try with_reducible rfl
        (try simp only [Act.put]); (try simp only [List.getElem_toArray, List.getElem_cons_zero, List.getElem_cons_succ]); (try simp only [List.setIfInBounds_toArray]); (try simp only [List.set_cons_zero, List.set_cons_succ])
        refine wpAnyH_take (i := 4) (v := ?mv4) rfl (by kernel_rfl) (by kernel_rfl) (by kernel_rfl) (fun _ _ _ h => h) (Or.inl ⟨by rfl, ?mh4⟩) (by assumption) ?mr4
        case mh4 => intro w hSw; (try dsimp only at hSw); go_simp; try with_reducible rfl
        (try simp only [Act.put]); (try simp only [List.getElem_toArray, List.getElem_cons_zero, List.getElem_cons_succ]); (try simp only [List.setIfInBounds_toArray]); (try simp only [List.set_cons_zero, List.set_cons_succ])
        refine wpAnyH_take (i := 5) (v := ?mv5) rfl (by kernel_rfl) (by kernel_rfl) (by kernel_rfl) (fun _ _ _ h => h) (Or.inl ⟨by rfl, ?mh5⟩) (by assumption) ?mr5
        case mh5 => intro w hSw; (try dsimp only at hSw); go_simp; try with_reducible rfl
        (try simp only [Act.put]); (try simp only [List.getElem_toArray, List.getElem_cons_zero, List.getElem_cons_succ]); (try simp only [List.setIfInBounds_toArray]); (try simp only [List.set_cons_zero, List.set_cons_succ])
        refine wpAnyH_take (i := 6) (v := ?mv6) rfl (by kernel_rfl) (by kernel_rfl) (by kernel_rfl) (fun _ _ _ h => h) (Or.inl ⟨by rfl, ?mh6⟩) (by assumption) ?mr6
        case mh6 => intro w hSw; (try dsimp only at hSw); go_simp; try with_reducible rfl
        (try simp only [Act.put]); (try simp only [List.getElem_toArray, List.getElem_cons_zero, List.getElem_cons_succ]); (try simp only [List.setIfInBounds_toArray]); (try simp only [List.set_cons_zero, List.set_cons_succ])
        refine wpAnyH_ready (rs := [3]) (by kernel_rfl) (by simp) ?_
        refine AllReadyH.cons rfl (fun K hK => ?_) AllReadyH.nil
        go_simp
        go_at_call 15
        refine (ps_drop (HPb.out.below (Below.refl _ _).drew) HOX.out).mono ?_
        rintro e w6 ⟨rfl, hp6⟩
        have HP6 := Lib.hid hp6
        have hS6 : w6.cell? ⟨q, 1, none⟩ = some (.int .i64 xc) ∧ w6.cell? ⟨q, 2, none⟩ = some (.string xf) := ⟨hp6.cell (List.mem_cons_self ..) rfl, hp6.cell (List.mem_cons_self ..) rfl⟩
        refine hK.out _ _ hS6 (fun hHeld => ?_)
        clear hK K
        (try simp only [Act.put]); (try simp only [List.getElem_toArray, List.getElem_cons_zero, List.getElem_cons_succ]); (try simp only [List.setIfInBounds_toArray]); (try simp only [List.set_cons_zero, List.set_cons_succ])
        refine wpAnyH_ready (rs := [7]) (by kernel_rfl) (by simp) ?_
        refine AllReadyH.cons rfl (fun K hK => ?_) AllReadyH.nil
        go_simp
        go_at_call 16
        refine (ps_rdrop HP6.out ⟨xc, xf⟩ (by have := HS.out.len; omega)).mono ?_
        rintro e w7 ⟨rfl, hp7⟩
        rw [HS.out.dropE]
        have HP7 := Lib.hid hp7
        have hS7 : w7.cell? ⟨q, 1, none⟩ = some (.int .i64 xc) ∧ w7.cell? ⟨q, 2, none⟩ = some (.string xf) := ⟨hp7.cell (List.mem_cons_self ..) rfl, hp7.cell (List.mem_cons_self ..) rfl⟩
        refine hK.out _ _ hS7 (fun hHeld => ?_)
        clear hK K
        (try simp only [Act.put]); (try simp only [List.getElem_toArray, List.getElem_cons_zero, List.getElem_cons_succ]); (try simp only [List.setIfInBounds_toArray]); (try simp only [List.set_cons_zero, List.set_cons_succ])
        refine wpAnyH_take (i := 8) (v := ?mv7) rfl (by kernel_rfl) (by kernel_rfl) (by kernel_rfl) (fun _ _ _ h => h) (Or.inl ⟨by rfl, ?mh7⟩) (by assumption) ?mr7
        case mh7 => intro w hSw; (try dsimp only at hSw); go_simp; try with_reducible rfl
        (try simp only [Act.put]); (try simp only [List.getElem_toArray, List.getElem_cons_zero, List.getElem_cons_succ]); (try simp only [List.setIfInBounds_toArray]); (try simp only [List.set_cons_zero, List.set_cons_succ])
        refine wpAnyH_done (by kernel_rfl) ?_ _
        clear hp6 hp7 hS0 hS6 hHeld
        have hsd := HS.out.drop ⟨xc, xf⟩
        have hfew2 : (ks.erase (⟨xc, xf⟩ : GKey)).length ≤ j + 1 := by have := List.length_erase_le (a := (⟨xc, xf⟩ : GKey)) (l := ks); omega
        obtain ⟨ks', hks'⟩ : ∃ ks', ks.erase (⟨xc, xf⟩ : GKey) = ks' := ⟨_, rfl⟩
        obtain ⟨rs', hrs'⟩ : ∃ rs', rs.filter (fun y => decide (y ≠ (⟨xc, xf⟩ : GKey))) = rs' := ⟨_, rfl⟩
        rw [hks', hrs'] at HP7 hsd
        rw [hks'] at hfew2
        have HSd := Lib.hid hsd
        clear hks' hrs' hsd hS7
        go_wp2_with fail
        have hT7 := ps_S HP7.out
        refine wp_region_held_drew (S := fun w' => w'.cell? ⟨q, 1, none⟩ = some (.int .i64 xc) ∧ w'.cell? ⟨q, 2, none⟩ = some (.string xf) ∧ w'.cell? ⟨qa, 0, none⟩ = some (.int .i64 ask.c) ∧ w'.cell? ⟨qa, 1, none⟩ = some (.string ask.f)) (by kernel_rfl) hT7 (fun hHeld => ?_)
        refine wpAnyH_take (i := 0) (v := ?mv8) rfl (by kernel_rfl) (by kernel_rfl) (by kernel_rfl) (fun _ _ _ h => h) (Or.inl ⟨by rfl, ?mh8⟩) (by assumption) ?mr8
        case mh8 => intro w hSw; (try dsimp only at hSw); go_simp; try with_reducible rfl
        (try simp only [Act.put]); (try simp only [List.getElem_toArray, List.getElem_cons_zero, List.getElem_cons_succ]); (try simp only [List.setIfInBounds_toArray]); (try simp only [List.set_cons_zero, List.set_cons_succ])
        refine wpAnyH_take (i := 1) (v := ?mv9) rfl (by kernel_rfl) (by kernel_rfl) (by kernel_rfl) (fun _ _ _ h => h) (Or.inl ⟨by rfl, ?mh9⟩) (by assumption) ?mr9
        case mh9 => intro w hSw; (try dsimp only at hSw); go_simp; try with_reducible rfl
        (try simp only [Act.put]); (try simp only [List.getElem_toArray, List.getElem_cons_zero, List.getElem_cons_succ]); (try simp only [List.setIfInBounds_toArray]); (try simp only [List.set_cons_zero, List.set_cons_succ])
        refine wpAnyH_ready (rs := [2]) (by kernel_rfl) (by simp) ?_
        refine AllReadyH.cons rfl (fun K hK => ?_) AllReadyH.nil
        go_simp
        go_at_call 19
        refine (ps_same (HP7.out.below (Below.refl _ _).drew) HSd.out (by omega)).mono ?_
        rintro e w8 ⟨rfl, hpw8⟩
        have Hw8 := Lib.hid hpw8
        have hSw8 := ps_S hpw8
        clear hpw8
        refine hK.out _ _ hSw8 (fun hHeld => ?_)
        clear hK K
        (try simp only [Act.put]); (try simp only [List.getElem_toArray, List.getElem_cons_zero, List.getElem_cons_succ]); (try simp only [List.setIfInBounds_toArray]); (try simp only [List.set_cons_zero, List.set_cons_succ])
        refine wpAnyH_take (i := 3) (v := ?mv10) rfl (by kernel_rfl) (by kernel_rfl) (by kernel_rfl) (fun _ _ _ h => h) (Or.inl ⟨by rfl, ?mh10⟩) (by assumption) ?mr10
        case mh10 => intro w hSw; (try dsimp only at hSw); go_simp; try with_reducible rfl
        (try simp only [Act.put]); (try simp only [List.getElem_toArray, List.getElem_cons_zero, List.getElem_cons_succ]); (try simp only [List.setIfInBounds_toArray]); (try simp only [List.set_cons_zero, List.set_cons_succ])
        refine wpAnyH_take (i := 4) (v := ?mv11) rfl (by kernel_rfl) (by kernel_rfl) (by kernel_rfl) (fun _ _ _ h => h) (Or.inl ⟨by rfl, ?mh11⟩) (by assumption) ?mr11
        case mh11 => intro w hSw; (try dsimp only at hSw); go_simp; try with_reducible rfl
        (try simp only [Act.put]); (try simp only [List.getElem_toArray, List.getElem_cons_zero, List.getElem_cons_succ]); (try simp only [List.setIfInBounds_toArray]); (try simp only [List.set_cons_zero, List.set_cons_succ])
        refine wpAnyH_take (i := 5) (v := ?mv12) rfl (by kernel_rfl) (by kernel_rfl) (by kernel_rfl) (fun _ _ _ h => h) (Or.inl ⟨by rfl, ?mh12⟩) (by assumption) ?mr12
        case mh12 => intro w hSw; (try dsimp only at hSw); go_simp; try with_reducible rfl
        (try simp only [Act.put]); (try simp only [List.getElem_toArray, List.getElem_cons_zero, List.getElem_cons_succ]); (try simp only [List.setIfInBounds_toArray]); (try simp only [List.set_cons_zero, List.set_cons_succ])
        refine wpAnyH_take (i := 6) (v := ?mv13) rfl (by kernel_rfl) (by kernel_rfl) (by kernel_rfl) (fun _ _ _ h => h) (Or.inl ⟨by rfl, ?mh13⟩) (by assumption) ?mr13
        case mh13 => intro w hSw; (try dsimp only at hSw); go_simp; try with_reducible rfl
        (try simp only [Act.put]); (try simp only [List.getElem_toArray, List.getElem_cons_zero, List.getElem_cons_succ]); (try simp only [List.setIfInBounds_toArray]); (try simp only [List.set_cons_zero, List.set_cons_succ])
        refine wpAnyH_take (i := 8) (v := ?mv14) rfl (by kernel_rfl) (by kernel_rfl) (by kernel_rfl) (fun _ _ _ h => h) (Or.inl ⟨by rfl, ?mh14⟩) (by assumption) ?mr14
        case mh14 => intro w hSw; (try dsimp only at hSw); go_simp; try with_reducible rfl
        (try simp only [Act.put]); (try simp only [List.getElem_toArray, List.getElem_cons_zero, List.getElem_cons_succ]); (try simp only [List.setIfInBounds_toArray]); (try simp only [List.set_cons_zero, List.set_cons_succ])
        refine wpAnyH_take (i := 9) (v := ?mv15) rfl (by kernel_rfl) (by kernel_rfl) (by kernel_rfl) (fun _ _ _ h => h) (Or.inl ⟨by rfl, ?mh15⟩) (by assumption) ?mr15
        case mh15 => intro w hSw; (try dsimp only at hSw); go_simp; try with_reducible rfl
        (try simp only [Act.put]); (try simp only [List.getElem_toArray, List.getElem_cons_zero, List.getElem_cons_succ]); (try simp only [List.setIfInBounds_toArray]); (try simp only [List.set_cons_zero, List.set_cons_succ])
        refine wpAnyH_ready (rs := [7]) (by kernel_rfl) (by simp) ?_
        refine AllReadyH.cons rfl (fun K hK => ?_) AllReadyH.nil
        go_simp
        go_at_call 20
        refine (ps_has Hw8.out HOK.out).mono ?_
        rintro e w9 ⟨rfl, hpw9⟩
        have Hw9 := Lib.hid hpw9
        have hSw9 := ps_S hpw9
        clear hpw9
        refine hK.out _ _ hSw9 (fun hHeld => ?_)
        clear hK K
        (try simp only [Act.put]); (try simp only [List.getElem_toArray, List.getElem_cons_zero, List.getElem_cons_succ]); (try simp only [List.setIfInBounds_toArray]); (try simp only [List.set_cons_zero, List.set_cons_succ])
        refine wpAnyH_ready (rs := [10]) (by kernel_rfl) (by simp) ?_
        refine AllReadyH.cons rfl (fun K hK => ?_) AllReadyH.nil
        go_simp
        go_at_call 21
        refine (ps_rhas Hw9.out ask (by have := HSd.out.len; omega)).mono ?_
        rintro e wA ⟨rfl, hpwA⟩
        rw [show decide (ask ∈ rs') = decide (ask ∈ ks') from decide_eq_decide.2 (HSd.out.mem ask)]
        obtain ⟨ba, hba⟩ : ∃ ba, decide (ask ∈ ks') = ba := ⟨_, rfl⟩
        rw [hba]
        clear hba
        have HwA := Lib.hid hpwA
        have hSwA := ps_S hpwA
        clear hpwA
        refine hK.out _ _ hSwA (fun hHeld => ?_)
        clear hK K
        (try simp only [Act.put]); (try simp only [List.getElem_toArray, List.getElem_cons_zero, List.getElem_cons_succ]); (try simp only [List.setIfInBounds_toArray]); (try simp only [List.set_cons_zero, List.set_cons_succ])
        refine wpAnyH_take (i := 11) (v := ?mv16) rfl (by kernel_rfl) (by kernel_rfl) (by kernel_rfl) (fun _ _ _ h => h) (Or.inl ⟨by rfl, ?mh16⟩) (by assumption) ?mr16
        case mh16 => intro w hSw; (try dsimp only at hSw); go_simp; try with_reducible rfl
        (try simp only [Act.put]); (try simp only [List.getElem_toArray, List.getElem_cons_zero, List.getElem_cons_succ]); (try simp only [List.setIfInBounds_toArray]); (try simp only [List.set_cons_zero, List.set_cons_succ])
        refine wpAnyH_take (i := 12) (v := ?mv17) rfl (by kernel_rfl) (by kernel_rfl) (by kernel_rfl) (fun _ _ _ h => h) (Or.inl ⟨by rfl, ?mh17⟩) (by assumption) ?mr17
        case mh17 => intro w hSw; (try dsimp only at hSw); go_simp; try with_reducible rfl
        (try simp only [Act.put]); (try simp only [List.getElem_toArray, List.getElem_cons_zero, List.getElem_cons_succ]); (try simp only [List.setIfInBounds_toArray]); (try simp only [List.set_cons_zero, List.set_cons_succ])
        refine wpAnyH_take (i := 13) (v := ?mv18) rfl (by kernel_rfl) (by kernel_rfl) (by kernel_rfl) (fun _ _ _ h => h) (Or.inl ⟨by rfl, ?mh18⟩) (by assumption) ?mr18
        case mh18 => intro w hSw; (try dsimp only at hSw); go_simp; try with_reducible rfl
        (try simp only [Act.put]); (try simp only [List.getElem_toArray, List.getElem_cons_zero, List.getElem_cons_succ]); (try simp only [List.setIfInBounds_toArray]); (try simp only [List.set_cons_zero, List.set_cons_succ])
        refine wpAnyH_take (i := 14) (v := ?mv19) rfl (by kernel_rfl) (by kernel_rfl) (by kernel_rfl) (fun _ _ _ h => h) (Or.inl ⟨by rfl, ?mh19⟩) (by assumption) ?mr19
        case mh19 => intro w hSw; (try dsimp only at hSw); go_simp; try with_reducible rfl
        (try simp only [Act.put]); (try simp only [List.getElem_toArray, List.getElem_cons_zero, List.getElem_cons_succ]); (try simp only [List.setIfInBounds_toArray]); (try simp only [List.set_cons_zero, List.set_cons_succ])
        refine wpAnyH_take (i := 15) (v := ?mv20) rfl (by kernel_rfl) (by kernel_rfl) (by kernel_rfl) (fun _ _ _ h => h) (Or.inl ⟨by rfl, ?mh20⟩) (by assumption) ?mr20
        case mh20 => intro w hSw; (try dsimp only at hSw); go_simp; try with_reducible rfl
        (try simp only [Act.put]); (try simp only [List.getElem_toArray, List.getElem_cons_zero, List.getElem_cons_succ]); (try simp only [List.setIfInBounds_toArray]); (try simp only [List.set_cons_zero, List.set_cons_succ])
        refine wpAnyH_take (i := 16) (v := ?mv21) rfl (by kernel_rfl) (by kernel_rfl) (by kernel_rfl) (fun _ _ _ h => h) (Or.inl ⟨by rfl, ?mh21⟩) (by assumption) ?mr21
        case mh21 => intro w hSw; (try dsimp only at hSw); go_simp; try with_reducible rfl
        (try simp only [Act.put]); (try simp only [List.getElem_toArray, List.getElem_cons_zero, List.getElem_cons_succ]); (try simp only [List.setIfInBounds_toArray]); (try simp only [List.set_cons_zero, List.set_cons_succ])
        refine wpAnyH_take (i := 18) (v := ?mv22) rfl (by kernel_rfl) (by kernel_rfl) (by kernel_rfl) (fun _ _ _ h => h) (Or.inl ⟨by rfl, ?mh22⟩) (by assumption) ?mr22
        case mh22 => intro w hSw; (try dsimp only at hSw); go_simp; try with_reducible rfl
        (try simp only [Act.put]); (try simp only [List.getElem_toArray, List.getElem_cons_zero, List.getElem_cons_succ]); (try simp only [List.setIfInBounds_toArray]); (try simp only [List.set_cons_zero, List.set_cons_succ])
        refine wpAnyH_take (i := 19) (v := ?mv23) rfl (by kernel_rfl) (by kernel_rfl) (by kernel_rfl) (fun _ _ _ h => h) (Or.inl ⟨by rfl, ?mh23⟩) (by assumption) ?mr23
        case mh23 => intro w hSw; (try dsimp only at hSw); go_simp; try with_reducible rfl
        (try simp only [Act.put]); (try simp only [List.getElem_toArray, List.getElem_cons_zero, List.getElem_cons_succ]); (try simp only [List.setIfInBounds_toArray]); (try simp only [List.set_cons_zero, List.set_cons_succ])
        refine wpAnyH_take (i := 20) (v := ?mv24) rfl (by kernel_rfl) (by kernel_rfl) (by kernel_rfl) (fun _ _ _ h => h) (Or.inl ⟨by rfl, ?mh24⟩) (by assumption) ?mr24
        case mh24 => intro w hSw; (try dsimp only at hSw); go_simp; try with_reducible rfl
        (try simp only [Act.put]); (try simp only [List.getElem_toArray, List.getElem_cons_zero, List.getElem_cons_succ]); (try simp only [List.setIfInBounds_toArray]); (try simp only [List.set_cons_zero, List.set_cons_succ])
        refine wpAnyH_ready (rs := [17]) (by kernel_rfl) (by simp) ?_
        refine AllReadyH.cons rfl (fun K hK => ?_) AllReadyH.nil
        go_simp
        go_at_call 20
        refine (ps_has (k := ⟨xc, xf⟩) HwA.out HOX.out).mono ?_
        rintro e wB ⟨rfl, hpwB⟩
        have HwB := Lib.hid hpwB
        have hSwB := ps_S hpwB
        clear hpwB
        refine hK.out _ _ hSwB (fun hHeld => ?_)
        clear hK K
        (try simp only [Act.put]); (try simp only [List.getElem_toArray, List.getElem_cons_zero, List.getElem_cons_succ]); (try simp only [List.setIfInBounds_toArray]); (try simp only [List.set_cons_zero, List.set_cons_succ])
        refine wpAnyH_ready (rs := [21]) (by kernel_rfl) (by simp) ?_
        refine AllReadyH.cons rfl (fun K hK => ?_) AllReadyH.nil
        go_simp
        go_at_call 21
        refine (ps_rhas HwB.out ⟨xc, xf⟩ (by have := HSd.out.len; omega)).mono ?_
        rintro e wC ⟨rfl, hpwC⟩
        rw [show decide ((⟨xc, xf⟩ : GKey) ∈ rs') = decide ((⟨xc, xf⟩ : GKey) ∈ ks') from decide_eq_decide.2 (HSd.out.mem ⟨xc, xf⟩)]
        obtain ⟨bb, hbb⟩ : ∃ bb, decide ((⟨xc, xf⟩ : GKey) ∈ ks') = bb := ⟨_, rfl⟩
        rw [hbb]
        clear hbb
        have HwC := Lib.hid hpwC
        have hSwC := ps_S hpwC
        clear hpwC
        refine hK.out _ _ hSwC (fun hHeld => ?_)
        clear hK K
        (try simp only [Act.put]); (try simp only [List.getElem_toArray, List.getElem_cons_zero, List.getElem_cons_succ]); (try simp only [List.setIfInBounds_toArray]); (try simp only [List.set_cons_zero, List.set_cons_succ])
        refine wpAnyH_take (i := 22) (v := ?mv25) rfl (by kernel_rfl) (by kernel_rfl) (by kernel_rfl) (fun _ _ _ h => h) (Or.inl ⟨by rfl, ?mh25⟩) (by assumption) ?mr25
        case mh25 => intro w hSw; (try dsimp only at hSw); go_simp; try with_reducible rfl
        (try simp only [Act.put]); (try simp only [List.getElem_toArray, List.getElem_cons_zero, List.getElem_cons_succ]); (try simp only [List.setIfInBounds_toArray]); (try simp only [List.set_cons_zero, List.set_cons_succ])
        refine wpAnyH_take (i := 23) (v := ?mv26) rfl (by kernel_rfl) (by kernel_rfl) (by kernel_rfl) (fun _ _ _ h => h) (Or.inl ⟨by rfl, ?mh26⟩) (by assumption) ?mr26
        case mh26 => intro w hSw; (try dsimp only at hSw); go_simp; try with_reducible rfl
        (try simp only [Act.put]); (try simp only [List.getElem_toArray, List.getElem_cons_zero, List.getElem_cons_succ]); (try simp only [List.setIfInBounds_toArray]); (try simp only [List.set_cons_zero, List.set_cons_succ])
        refine wpAnyH_done (by kernel_rfl) ?_ _
        clear hHeld hT7
        go_wp2_with fail
        go_roundg (gk - 1)
        case measure => have := HG.out; omega
        case rel => exact ⟨j + 1, ks', rs', by omega, by go_num, by have := HG.out; omega, HwC.out.less, HSd.out, hfew2⟩
      | false =>
        go_wp2_with (first | (rw [hwb]) | (rw [hq]))
        refine wp_region_held_drew (S := fun w' => w'.cell? ⟨q, 1, none⟩ = some (.int .i64 xc) ∧ w'.cell? ⟨q, 2, none⟩ = some (.string xf)) (by kernel_rfl) hS0 (fun hHeld => ?_)
        refine wpAnyH_take (i := 0) (v := ?mv27) rfl (by kernel_rfl) (by kernel_rfl) (by kernel_rfl) (fun _ _ _ h => h) (Or.inl ⟨by rfl, ?mh27⟩) (by assumption) ?mr27
        case mh27 => intro w hSw; (try dsimp only at hSw); go_simp; try with_reducible rfl
        (try simp only [Act.put]); (try simp only [List.getElem_toArray, List.getElem_cons_zero, List.getElem_cons_succ]); (try simp only [List.setIfInBounds_toArray]); (try simp only [List.set_cons_zero, List.set_cons_succ])
        refine wpAnyH_take (i := 1) (v := ?mv28) rfl (by kernel_rfl) (by kernel_rfl) (by kernel_rfl) (fun _ _ _ h => h) (Or.inl ⟨by rfl, ?mh28⟩) (by assumption) ?mr28
        case mh28 => intro w hSw; (try dsimp only at hSw); go_simp; try with_reducible rfl
        (try simp only [Act.put]); (try simp only [List.getElem_toArray, List.getElem_cons_zero, List.getElem_cons_succ]); (try simp only [List.setIfInBounds_toArray]); (try simp only [List.set_cons_zero, List.set_cons_succ])
        refine wpAnyH_take (i := 2) (v := ?mv29) rfl (by kernel_rfl) (by kernel_rfl) (by kernel_rfl) (fun _ _ _ h => h) (Or.inl ⟨by rfl, ?mh29⟩) (by assumption) ?mr29
        case mh29 => intro w hSw; (try dsimp only at hSw); go_simp; try with_reducible rfl
        (try simp only [Act.put]); (try simp only [List.getElem_toArray, List.getElem_cons_zero, List.getElem_cons_succ]); (try simp only [List.setIfInBounds_toArray]); (try simp only [List.set_cons_zero, List.set_cons_succ])
        refine wpAnyH_take (i := 4) (v := ?mv30) rfl (by kernel_rfl) (by kernel_rfl) (by kernel_rfl) (fun _ _ _ h => h) (Or.inl ⟨by rfl, ?mh30⟩) (by assumption) ?mr30
        case mh30 => intro w hSw; (try dsimp only at hSw); go_simp; try with_reducible rfl
        (try simp only [Act.put]); (try simp only [List.getElem_toArray, List.getElem_cons_zero, List.getElem_cons_succ]); (try simp only [List.setIfInBounds_toArray]); (try simp only [List.set_cons_zero, List.set_cons_succ])
        refine wpAnyH_take (i := 5) (v := ?mv31) rfl (by kernel_rfl) (by kernel_rfl) (by kernel_rfl) (fun _ _ _ h => h) (Or.inl ⟨by rfl, ?mh31⟩) (by assumption) ?mr31
        case mh31 => intro w hSw; (try dsimp only at hSw); go_simp; try with_reducible rfl
        (try simp only [Act.put]); (try simp only [List.getElem_toArray, List.getElem_cons_zero, List.getElem_cons_succ]); (try simp only [List.setIfInBounds_toArray]); (try simp only [List.set_cons_zero, List.set_cons_succ])
        refine wpAnyH_take (i := 6) (v := ?mv32) rfl (by kernel_rfl) (by kernel_rfl) (by kernel_rfl) (fun _ _ _ h => h) (Or.inl ⟨by rfl, ?mh32⟩) (by assumption) ?mr32
        case mh32 => intro w hSw; (try dsimp only at hSw); go_simp; try with_reducible rfl
        (try simp only [Act.put]); (try simp only [List.getElem_toArray, List.getElem_cons_zero, List.getElem_cons_succ]); (try simp only [List.setIfInBounds_toArray]); (try simp only [List.set_cons_zero, List.set_cons_succ])
        refine wpAnyH_ready (rs := [3]) (by kernel_rfl) (by simp) ?_
        refine AllReadyH.cons rfl (fun K hK => ?_) AllReadyH.nil
        go_simp
        go_at_call 17
        refine (ps_add (HPb.out.below (Below.refl _ _).drew) HOX.out).mono ?_
        rintro e w6 ⟨rfl, hp6⟩
        have HP6 := Lib.hid hp6
        have hS6 : w6.cell? ⟨q, 1, none⟩ = some (.int .i64 xc) ∧ w6.cell? ⟨q, 2, none⟩ = some (.string xf) := ⟨hp6.cell (List.mem_cons_self ..) rfl, hp6.cell (List.mem_cons_self ..) rfl⟩
        refine hK.out _ _ hS6 (fun hHeld => ?_)
        clear hK K
        (try simp only [Act.put]); (try simp only [List.getElem_toArray, List.getElem_cons_zero, List.getElem_cons_succ]); (try simp only [List.setIfInBounds_toArray]); (try simp only [List.set_cons_zero, List.set_cons_succ])
        refine wpAnyH_ready (rs := [7]) (by kernel_rfl) (by simp) ?_
        refine AllReadyH.cons rfl (fun K hK => ?_) AllReadyH.nil
        go_simp
        go_at_call 18
        refine (ps_radd HP6.out ⟨xc, xf⟩ (by have := HS.out.len; omega)).mono ?_
        rintro e w7 ⟨rfl, hp7⟩
        rw [HS.out.addE]
        have HP7 := Lib.hid hp7
        have hS7 : w7.cell? ⟨q, 1, none⟩ = some (.int .i64 xc) ∧ w7.cell? ⟨q, 2, none⟩ = some (.string xf) := ⟨hp7.cell (List.mem_cons_self ..) rfl, hp7.cell (List.mem_cons_self ..) rfl⟩
        refine hK.out _ _ hS7 (fun hHeld => ?_)
        clear hK K
        (try simp only [Act.put]); (try simp only [List.getElem_toArray, List.getElem_cons_zero, List.getElem_cons_succ]); (try simp only [List.setIfInBounds_toArray]); (try simp only [List.set_cons_zero, List.set_cons_succ])
        refine wpAnyH_take (i := 8) (v := ?mv33) rfl (by kernel_rfl) (by kernel_rfl) (by kernel_rfl) (fun _ _ _ h => h) (Or.inl ⟨by rfl, ?mh33⟩) (by assumption) ?mr33
        case mh33 => intro w hSw; (try dsimp only at hSw); go_simp; try with_reducible rfl
        (try simp only [Act.put]); (try simp only [List.getElem_toArray, List.getElem_cons_zero, List.getElem_cons_succ]); (try simp only [List.setIfInBounds_toArray]); (try simp only [List.set_cons_zero, List.set_cons_succ])
        refine wpAnyH_done (by kernel_rfl) ?_ _
        clear hp6 hp7 hS0 hS6 hHeld
        have hsd := HS.out.add ⟨xc, xf⟩
        have hfew2 : (addT ks (⟨xc, xf⟩ : GKey)).length ≤ j + 1 := by have := addT_len ks (⟨xc, xf⟩ : GKey); omega
        obtain ⟨ks', hks'⟩ : ∃ ks', addT ks (⟨xc, xf⟩ : GKey) = ks' := ⟨_, rfl⟩
        obtain ⟨rs', hrs'⟩ : ∃ rs', raddT rs (⟨xc, xf⟩ : GKey) = rs' := ⟨_, rfl⟩
        rw [hks', hrs'] at HP7 hsd
        rw [hks'] at hfew2
        have HSd := Lib.hid hsd
        clear hks' hrs' hsd hS7
        go_wp2_with fail
        have hT7 := ps_S HP7.out
        refine wp_region_held_drew (S := fun w' => w'.cell? ⟨q, 1, none⟩ = some (.int .i64 xc) ∧ w'.cell? ⟨q, 2, none⟩ = some (.string xf) ∧ w'.cell? ⟨qa, 0, none⟩ = some (.int .i64 ask.c) ∧ w'.cell? ⟨qa, 1, none⟩ = some (.string ask.f)) (by kernel_rfl) hT7 (fun hHeld => ?_)
        refine wpAnyH_take (i := 0) (v := ?mv34) rfl (by kernel_rfl) (by kernel_rfl) (by kernel_rfl) (fun _ _ _ h => h) (Or.inl ⟨by rfl, ?mh34⟩) (by assumption) ?mr34
        case mh34 => intro w hSw; (try dsimp only at hSw); go_simp; try with_reducible rfl
        (try simp only [Act.put]); (try simp only [List.getElem_toArray, List.getElem_cons_zero, List.getElem_cons_succ]); (try simp only [List.setIfInBounds_toArray]); (try simp only [List.set_cons_zero, List.set_cons_succ])
        refine wpAnyH_take (i := 1) (v := ?mv35) rfl (by kernel_rfl) (by kernel_rfl) (by kernel_rfl) (fun _ _ _ h => h) (Or.inl ⟨by rfl, ?mh35⟩) (by assumption) ?mr35
        case mh35 => intro w hSw; (try dsimp only at hSw); go_simp; try with_reducible rfl
        (try simp only [Act.put]); (try simp only [List.getElem_toArray, List.getElem_cons_zero, List.getElem_cons_succ]); (try simp only [List.setIfInBounds_toArray]); (try simp only [List.set_cons_zero, List.set_cons_succ])
        refine wpAnyH_ready (rs := [2]) (by kernel_rfl) (by simp) ?_
        refine AllReadyH.cons rfl (fun K hK => ?_) AllReadyH.nil
        go_simp
        go_at_call 19
        refine (ps_same (HP7.out.below (Below.refl _ _).drew) HSd.out (by omega)).mono ?_
        rintro e w8 ⟨rfl, hpw8⟩
        have Hw8 := Lib.hid hpw8
        have hSw8 := ps_S hpw8
        clear hpw8
        refine hK.out _ _ hSw8 (fun hHeld => ?_)
        clear hK K
        (try simp only [Act.put]); (try simp only [List.getElem_toArray, List.getElem_cons_zero, List.getElem_cons_succ]); (try simp only [List.setIfInBounds_toArray]); (try simp only [List.set_cons_zero, List.set_cons_succ])
        refine wpAnyH_take (i := 3) (v := ?mv36) rfl (by kernel_rfl) (by kernel_rfl) (by kernel_rfl) (fun _ _ _ h => h) (Or.inl ⟨by rfl, ?mh36⟩) (by assumption) ?mr36
        case mh36 => intro w hSw; (try dsimp only at hSw); go_simp; try with_reducible rfl
        (try simp only [Act.put]); (try simp only [List.getElem_toArray, List.getElem_cons_zero, List.getElem_cons_succ]); (try simp only [List.setIfInBounds_toArray]); (try simp only [List.set_cons_zero, List.set_cons_succ])
        refine wpAnyH_take (i := 4) (v := ?mv37) rfl (by kernel_rfl) (by kernel_rfl) (by kernel_rfl) (fun _ _ _ h => h) (Or.inl ⟨by rfl, ?mh37⟩) (by assumption) ?mr37
        case mh37 => intro w hSw; (try dsimp only at hSw); go_simp; try with_reducible rfl
        (try simp only [Act.put]); (try simp only [List.getElem_toArray, List.getElem_cons_zero, List.getElem_cons_succ]); (try simp only [List.setIfInBounds_toArray]); (try simp only [List.set_cons_zero, List.set_cons_succ])
        refine wpAnyH_take (i := 5) (v := ?mv38) rfl (by kernel_rfl) (by kernel_rfl) (by kernel_rfl) (fun _ _ _ h => h) (Or.inl ⟨by rfl, ?mh38⟩) (by assumption) ?mr38
        case mh38 => intro w hSw; (try dsimp only at hSw); go_simp; try with_reducible rfl
        (try simp only [Act.put]); (try simp only [List.getElem_toArray, List.getElem_cons_zero, List.getElem_cons_succ]); (try simp only [List.setIfInBounds_toArray]); (try simp only [List.set_cons_zero, List.set_cons_succ])
        refine wpAnyH_take (i := 6) (v := ?mv39) rfl (by kernel_rfl) (by kernel_rfl) (by kernel_rfl) (fun _ _ _ h => h) (Or.inl ⟨by rfl, ?mh39⟩) (by assumption) ?mr39
        case mh39 => intro w hSw; (try dsimp only at hSw); go_simp; try with_reducible rfl
        (try simp only [Act.put]); (try simp only [List.getElem_toArray, List.getElem_cons_zero, List.getElem_cons_succ]); (try simp only [List.setIfInBounds_toArray]); (try simp only [List.set_cons_zero, List.set_cons_succ])
        refine wpAnyH_take (i := 8) (v := ?mv40) rfl (by kernel_rfl) (by kernel_rfl) (by kernel_rfl) (fun _ _ _ h => h) (Or.inl ⟨by rfl, ?mh40⟩) (by assumption) ?mr40
        case mh40 => intro w hSw; (try dsimp only at hSw); go_simp; try with_reducible rfl
        (try simp only [Act.put]); (try simp only [List.getElem_toArray, List.getElem_cons_zero, List.getElem_cons_succ]); (try simp only [List.setIfInBounds_toArray]); (try simp only [List.set_cons_zero, List.set_cons_succ])
        refine wpAnyH_take (i := 9) (v := ?mv41) rfl (by kernel_rfl) (by kernel_rfl) (by kernel_rfl) (fun _ _ _ h => h) (Or.inl ⟨by rfl, ?mh41⟩) (by assumption) ?mr41
        case mh41 => intro w hSw; (try dsimp only at hSw); go_simp; try with_reducible rfl
        (try simp only [Act.put]); (try simp only [List.getElem_toArray, List.getElem_cons_zero, List.getElem_cons_succ]); (try simp only [List.setIfInBounds_toArray]); (try simp only [List.set_cons_zero, List.set_cons_succ])
        refine wpAnyH_ready (rs := [7]) (by kernel_rfl) (by simp) ?_
        refine AllReadyH.cons rfl (fun K hK => ?_) AllReadyH.nil
        go_simp
        go_at_call 20
        refine (ps_has Hw8.out HOK.out).mono ?_
        rintro e w9 ⟨rfl, hpw9⟩
        have Hw9 := Lib.hid hpw9
        have hSw9 := ps_S hpw9
        clear hpw9
        refine hK.out _ _ hSw9 (fun hHeld => ?_)
        clear hK K
        (try simp only [Act.put]); (try simp only [List.getElem_toArray, List.getElem_cons_zero, List.getElem_cons_succ]); (try simp only [List.setIfInBounds_toArray]); (try simp only [List.set_cons_zero, List.set_cons_succ])
        refine wpAnyH_ready (rs := [10]) (by kernel_rfl) (by simp) ?_
        refine AllReadyH.cons rfl (fun K hK => ?_) AllReadyH.nil
        go_simp
        go_at_call 21
        refine (ps_rhas Hw9.out ask (by have := HSd.out.len; omega)).mono ?_
        rintro e wA ⟨rfl, hpwA⟩
        rw [show decide (ask ∈ rs') = decide (ask ∈ ks') from decide_eq_decide.2 (HSd.out.mem ask)]
        obtain ⟨ba, hba⟩ : ∃ ba, decide (ask ∈ ks') = ba := ⟨_, rfl⟩
        rw [hba]
        clear hba
        have HwA := Lib.hid hpwA
        have hSwA := ps_S hpwA
        clear hpwA
        refine hK.out _ _ hSwA (fun hHeld => ?_)
        clear hK K
        (try simp only [Act.put]); (try simp only [List.getElem_toArray, List.getElem_cons_zero, List.getElem_cons_succ]); (try simp only [List.setIfInBounds_toArray]); (try simp only [List.set_cons_zero, List.set_cons_succ])
        refine wpAnyH_take (i := 11) (v := ?mv42) rfl (by kernel_rfl) (by kernel_rfl) (by kernel_rfl) (fun _ _ _ h => h) (Or.inl ⟨by rfl, ?mh42⟩) (by assumption) ?mr42
        case mh42 => intro w hSw; (try dsimp only at hSw); go_simp; try with_reducible rfl
        (try simp only [Act.put]); (try simp only [List.getElem_toArray, List.getElem_cons_zero, List.getElem_cons_succ]); (try simp only [List.setIfInBounds_toArray]); (try simp only [List.set_cons_zero, List.set_cons_succ])
        refine wpAnyH_take (i := 12) (v := ?mv43) rfl (by kernel_rfl) (by kernel_rfl) (by kernel_rfl) (fun _ _ _ h => h) (Or.inl ⟨by rfl, ?mh43⟩) (by assumption) ?mr43
        case mh43 => intro w hSw; (try dsimp only at hSw); go_simp; try with_reducible rfl
        (try simp only [Act.put]); (try simp only [List.getElem_toArray, List.getElem_cons_zero, List.getElem_cons_succ]); (try simp only [List.setIfInBounds_toArray]); (try simp only [List.set_cons_zero, List.set_cons_succ])
        refine wpAnyH_take (i := 13) (v := ?mv44) rfl (by kernel_rfl) (by kernel_rfl) (by kernel_rfl) (fun _ _ _ h => h) (Or.inl ⟨by rfl, ?mh44⟩) (by assumption) ?mr44
        case mh44 => intro w hSw; (try dsimp only at hSw); go_simp; try with_reducible rfl
        (try simp only [Act.put]); (try simp only [List.getElem_toArray, List.getElem_cons_zero, List.getElem_cons_succ]); (try simp only [List.setIfInBounds_toArray]); (try simp only [List.set_cons_zero, List.set_cons_succ])
        refine wpAnyH_take (i := 14) (v := ?mv45) rfl (by kernel_rfl) (by kernel_rfl) (by kernel_rfl) (fun _ _ _ h => h) (Or.inl ⟨by rfl, ?mh45⟩) (by assumption) ?mr45
        case mh45 => intro w hSw; (try dsimp only at hSw); go_simp; try with_reducible rfl
        (try simp only [Act.put]); (try simp only [List.getElem_toArray, List.getElem_cons_zero, List.getElem_cons_succ]); (try simp only [List.setIfInBounds_toArray]); (try simp only [List.set_cons_zero, List.set_cons_succ])
        refine wpAnyH_take (i := 15) (v := ?mv46) rfl (by kernel_rfl) (by kernel_rfl) (by kernel_rfl) (fun _ _ _ h => h) (Or.inl ⟨by rfl, ?mh46⟩) (by assumption) ?mr46
        case mh46 => intro w hSw; (try dsimp only at hSw); go_simp; try with_reducible rfl
        (try simp only [Act.put]); (try simp only [List.getElem_toArray, List.getElem_cons_zero, List.getElem_cons_succ]); (try simp only [List.setIfInBounds_toArray]); (try simp only [List.set_cons_zero, List.set_cons_succ])
        refine wpAnyH_take (i := 16) (v := ?mv47) rfl (by kernel_rfl) (by kernel_rfl) (by kernel_rfl) (fun _ _ _ h => h) (Or.inl ⟨by rfl, ?mh47⟩) (by assumption) ?mr47
        case mh47 => intro w hSw; (try dsimp only at hSw); go_simp; try with_reducible rfl
        (try simp only [Act.put]); (try simp only [List.getElem_toArray, List.getElem_cons_zero, List.getElem_cons_succ]); (try simp only [List.setIfInBounds_toArray]); (try simp only [List.set_cons_zero, List.set_cons_succ])
        refine wpAnyH_take (i := 18) (v := ?mv48) rfl (by kernel_rfl) (by kernel_rfl) (by kernel_rfl) (fun _ _ _ h => h) (Or.inl ⟨by rfl, ?mh48⟩) (by assumption) ?mr48
        case mh48 => intro w hSw; (try dsimp only at hSw); go_simp; try with_reducible rfl
        (try simp only [Act.put]); (try simp only [List.getElem_toArray, List.getElem_cons_zero, List.getElem_cons_succ]); (try simp only [List.setIfInBounds_toArray]); (try simp only [List.set_cons_zero, List.set_cons_succ])
        refine wpAnyH_take (i := 19) (v := ?mv49) rfl (by kernel_rfl) (by kernel_rfl) (by kernel_rfl) (fun _ _ _ h => h) (Or.inl ⟨by rfl, ?mh49⟩) (by assumption) ?mr49
        case mh49 => intro w hSw; (try dsimp only at hSw); go_simp; try with_reducible rfl
        (try simp only [Act.put]); (try simp only [List.getElem_toArray, List.getElem_cons_zero, List.getElem_cons_succ]); (try simp only [List.setIfInBounds_toArray]); (try simp only [List.set_cons_zero, List.set_cons_succ])
        refine wpAnyH_take (i := 20) (v := ?mv50) rfl (by kernel_rfl) (by kernel_rfl) (by kernel_rfl) (fun _ _ _ h => h) (Or.inl ⟨by rfl, ?mh50⟩) (by assumption) ?mr50
        case mh50 => intro w hSw; (try dsimp only at hSw); go_simp; try with_reducible rfl
        (try simp only [Act.put]); (try simp only [List.getElem_toArray, List.getElem_cons_zero, List.getElem_cons_succ]); (try simp only [List.setIfInBounds_toArray]); (try simp only [List.set_cons_zero, List.set_cons_succ])
        refine wpAnyH_ready (rs := [17]) (by kernel_rfl) (by simp) ?_
        refine AllReadyH.cons rfl (fun K hK => ?_) AllReadyH.nil
        go_simp
        go_at_call 20
        refine (ps_has (k := ⟨xc, xf⟩) HwA.out HOX.out).mono ?_
        rintro e wB ⟨rfl, hpwB⟩
        have HwB := Lib.hid hpwB
        have hSwB := ps_S hpwB
        clear hpwB
        refine hK.out _ _ hSwB (fun hHeld => ?_)
        clear hK K
        (try simp only [Act.put]); (try simp only [List.getElem_toArray, List.getElem_cons_zero, List.getElem_cons_succ]); (try simp only [List.setIfInBounds_toArray]); (try simp only [List.set_cons_zero, List.set_cons_succ])
        refine wpAnyH_ready (rs := [21]) (by kernel_rfl) (by simp) ?_
        refine AllReadyH.cons rfl (fun K hK => ?_) AllReadyH.nil
        go_simp
        go_at_call 21
        refine (ps_rhas HwB.out ⟨xc, xf⟩ (by have := HSd.out.len; omega)).mono ?_
        rintro e wC ⟨rfl, hpwC⟩
        rw [show decide ((⟨xc, xf⟩ : GKey) ∈ rs') = decide ((⟨xc, xf⟩ : GKey) ∈ ks') from decide_eq_decide.2 (HSd.out.mem ⟨xc, xf⟩)]
        obtain ⟨bb, hbb⟩ : ∃ bb, decide ((⟨xc, xf⟩ : GKey) ∈ ks') = bb := ⟨_, rfl⟩
        rw [hbb]
        clear hbb
        have HwC := Lib.hid hpwC
        have hSwC := ps_S hpwC
        clear hpwC
        refine hK.out _ _ hSwC (fun hHeld => ?_)
        clear hK K
        (try simp only [Act.put]); (try simp only [List.getElem_toArray, List.getElem_cons_zero, List.getElem_cons_succ]); (try simp only [List.setIfInBounds_toArray]); (try simp only [List.set_cons_zero, List.set_cons_succ])
        refine wpAnyH_take (i := 22) (v := ?mv51) rfl (by kernel_rfl) (by kernel_rfl) (by kernel_rfl) (fun _ _ _ h => h) (Or.inl ⟨by rfl, ?mh51⟩) (by assumption) ?mr51
        case mh51 => intro w hSw; (try dsimp only at hSw); go_simp; try with_reducible rfl
        (try simp only [Act.put]); (try simp only [List.getElem_toArray, List.getElem_cons_zero, List.getElem_cons_succ]); (try simp only [List.setIfInBounds_toArray]); (try simp only [List.set_cons_zero, List.set_cons_succ])
        refine wpAnyH_take (i := 23) (v := ?mv52) rfl (by kernel_rfl) (by kernel_rfl) (by kernel_rfl) (fun _ _ _ h => h) (Or.inl ⟨by rfl, ?mh52⟩) (by assumption) ?mr52
        case mh52 => intro w hSw; (try dsimp only at hSw); go_simp; try with_reducible rfl
        (try simp only [Act.put]); (try simp only [List.getElem_toArray, List.getElem_cons_zero, List.getElem_cons_succ]); (try simp only [List.setIfInBounds_toArray]); (try simp only [List.set_cons_zero, List.set_cons_succ])
        refine wpAnyH_done (by kernel_rfl) ?_ _
        clear hHeld hT7
        go_wp2_with fail
        go_roundg (gk - 1)
        case measure => have := HG.out; omega
        case rel => exact ⟨j + 1, ks', rs', by omega, by go_num, by have := HG.out; omega, HwC.out.less, HSd.out, hfew2⟩
    · obtain rfl : j = M := by omega
      go_wp2_with fail
      refine bodyPost_ret (v := .bool true) (by simp [results, Try.results6, go_sem]) rfl ⟨rfl, HP.out.bel⟩

def actK : Kd (Bool × Int × ByteArray) := Kd.pair Kd.bool (Kd.pair (Kd.int .i64) Kd.string)
def toA (x : Bool × Int × ByteArray) : Bool × GKey := (x.1, ⟨x.2.1, x.2.2⟩)
theorem acts_of {w : World} {A : Option Addr} {n : Nat} {xs : List (Bool × Int × ByteArray)} (h : actK.C w A n xs) : ActsAt w A (xs.map toA) := by
  obtain ⟨hl, _, hc⟩ := h
  intro i e hi
  rw [List.getElem?_map] at hi
  cases he : xs[i]? with
  | none => rw [he] at hi; cases hi
  | some e0 =>
    rw [he] at hi
    injection hi with hi
    subst hi
    have hil := (List.getElem?_eq_some_iff.1 he).1
    obtain ⟨ad, ha, hc⟩ := hc (by omega)
    obtain ⟨c, _, hr, hcell⟩ := hc i e0 he
    obtain ⟨c0, c1, rfl, h0, c2, c3, rfl, h2, h3⟩ := hr
    obtain rfl : c0 = [.bool e0.1] := h0
    obtain rfl : c2 = [.int .i64 e0.2.1] := h2
    obtain rfl : c3 = [.string e0.2.2] := h3
    refine ⟨ad, ha, hcell 0 _ rfl, ?_, ?_⟩
    · exact (congrArg w.cell? (add_field ad (i * 3) 1 (by decide))).symm.trans (hcell 1 _ rfl)
    · exact (congrArg w.cell? (add_field ad (i * 3) 2 (by decide))).symm.trans (hcell 2 _ rfl)

theorem law2 (A : Option Addr) (cc : Nat) (xs : List (Bool × Int × ByteArray)) (a : Int) (b : ByteArray) (w : World) (hC : actK.C w A xs.length xs) (hcc : xs.length ≤ cc) (ha : (Lit.int .i64 a).wf = true) (hb : b.size ≤ 140737488351232) (hoks : ∀ x ∈ xs, True ∧ ((Lit.int .i64 x.2.1).wf = true ∧ x.2.2.size ≤ 140737488351232)) :
    Calls Try.prog 6 #[.slice A xs.length cc, .agg #[.int .i64 a, .string b]] w fun e w' => e = .returned (.bool true) ∧ Below w.heap.size w w' := by
  have h := law A cc (xs.map toA) ⟨a, b⟩ w (acts_of hC) (by rw [List.length_map]; exact hcc) (by rw [List.length_map]; exact hC.2.1) ⟨ha, by show b.size ≤ maxLen; unfold maxLen; omega⟩ (fun x hx => by
    obtain ⟨y, hy, rfl⟩ := List.mem_map.1 hx
    have := (hoks y hy).2
    exact ⟨this.1, by have := this.2; show y.2.2.size ≤ maxLen; unfold maxLen; omega⟩)
  rw [List.length_map] at h
  exact h

end Go.Proofs.Ytifdfhonhphojaa.Gp
