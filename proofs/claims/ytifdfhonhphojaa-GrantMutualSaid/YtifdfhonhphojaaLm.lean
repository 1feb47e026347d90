/- GrantMutual: the walk. -/
import Derived.Test.YtifdfhonhphojaaLr
namespace Go.Proofs.Ytifdfhonhphojaa.Lm
open Go Go.RowKit Go.Proofs.YtifdfhonhphojaaCore Go.Proofs.Ytifdfhonhphojaa.Fr Go.Proofs.Ytifdfhonhphojaa.Mp Go.Proofs.Ytifdfhonhphojaa.Ky Go.Proofs.Ytifdfhonhphojaa.Rp Go.Proofs.Ytifdfhonhphojaa.Rw Go.Proofs.Ytifdfhonhphojaa.Oi Go.Proofs.Ytifdfhonhphojaa.Ri Go.Proofs.Ytifdfhonhphojaa.Rr Go.Proofs.Ytifdfhonhphojaa.O2 Go.Proofs.Ytifdfhonhphojaa.Wk Go.Proofs.Ytifdfhonhphojaa.Lr

def ones (ks : List Int) : List (Int × Int) := ks.map fun k => (k, 1)
theorem look_ones (ks : List Int) (k : Int) : ((Mp.look (ones ks) k).map (Value.int .i64)).getD (.int .i64 0) = .int .i64 (if k ∈ ks then 1 else 0) := by
  induction ks with
  | nil => rfl
  | cons a ks ih =>
    unfold ones at ih ⊢
    rw [List.map_cons, Mp.look]
    by_cases h : a = k
    · rw [if_pos h, if_pos (by simp [h])]; rfl
    · rw [if_neg h, ih]
      have : k ∈ a :: ks ↔ k ∈ ks := by
        rw [List.mem_cons]
        exact ⟨fun hh => hh.resolve_left (fun e => h e.symm), .inr⟩
      simp only [this]
theorem put_ones {ks : List Int} {k : Int} (h : ¬ k ∈ ks) : put (ones ks) k 1 = ones (ks ++ [k]) := by
  rw [(look_none (l := ones ks) (k := k) (fun p hp e => by
    obtain ⟨x, hx, rfl⟩ := List.mem_map.1 hp
    exact h (e ▸ hx))).2.1]
  simp [ones]

structure NInv (l : List Int) (w : World) (v1 : Value) (es : Edges) (ve : Value) (gk : Nat) (v : Value) (wr : World) (j : Nat) : Prop where
  hi : j ≤ l.length
  slot : v = .int .i64 j
  ghost : gk + j = l.length
  one : OwnI 3 wr w.heap.size v1 l
  ed : Own2 eI1 eI2 26 wr w.heap.size ve es
  bel : Below w.heap.size w wr
def NRel (l : List Int) (w : World) (v1 : Value) (es : Edges) (ve : Value) (gk : Nat) (v : Value) (wr : World) : Prop := ∃ j, NInv l w v1 es ve gk v wr j
structure PInv (l : List Int) (w : World) (v1 v2 : Value) (es : Edges) (ve : Value) (gk : Nat) (v : Value) (wr : World) (j : Nat) : Prop where
  hi : j ≤ l.length
  slot : v = .int .i64 j
  ghost : gk + j = l.length
  one : OwnI 3 wr w.heap.size v1 l
  two : IntsAt wr v2 l
  ed : Own2 eI1 eI2 26 wr w.heap.size ve es
  bel : Below w.heap.size w wr
def PRel (l : List Int) (w : World) (v1 v2 : Value) (es : Edges) (ve : Value) (gk : Nat) (v : Value) (wr : World) : Prop := ∃ j, PInv l w v1 v2 es ve gk v wr j
/-- While they are counted. -/
structure QInv (l l2 : List Int) (w : World) (v1 v2 : Value) (mb : Nat) (gk : Nat) (v : Value) (wr : World) (j : Nat) : Prop where
  hi : j ≤ l2.length
  slot : v = .int .i64 j
  ghost : gk + j = l2.length
  one : IntsAt wr v1 l
  two : IntsAt wr v2 l2
  map : MapIs encI (Value.int .i64) okI wr mb (ones (l2.take j))
  bel : Below w.heap.size w wr
def QRel (l l2 : List Int) (w : World) (v1 v2 : Value) (mb : Nat) (gk : Nat) (v : Value) (wr : World) : Prop := ∃ j, QInv l l2 w v1 v2 mb gk v wr j
theorem ints_fr {S : Nat → Prop} {w w' : World} {v : Value} {l : List Int} (h : IntsAt w v l) (f : Fr S w w') (hs : ∀ (i : Nat) (x : Int) (ad : Addr), l[i]? = some x → w.cell? (ad.add i) = some (.int .i64 x) → ¬ S (ad.add i).block) : IntsAt w' v l := by
  obtain ⟨A, c, h1, h2, h3⟩ := h
  refine ⟨A, c, h1, h2, fun i x hi => ?_⟩
  obtain ⟨ad, h4, h5⟩ := h3 i x hi
  exact ⟨ad, h4, (World.cell?_of_block (f.block _ (World.block_lt_of_cell? w _ h5) (hs i x ad hi h5))).trans h5⟩
/-- A cell is none of a map's. -/
theorem ints_map {w w' : World} {v : Value} {l : List Int} {mb : Nat} {lst : List (Int × Int)} (h : IntsAt w v l) (hm : MapIs encI (Value.int .i64) okI w mb lst) (f : Fr (fun k => k = mb) w w') : IntsAt w' v l :=
  ints_fr h f (fun i x ad _ hc e => by
    obtain ⟨es, c, hb, _⟩ := hm
    unfold World.cell? at hc
    have e' : (ad.add i).block = mb := e
    rw [e', hb] at hc
    cases hc)

theorem map_grown {α : Type} {e1 e2 : α → Value} {T base : Nat} {w w' : World} {v : Value} {xs : List α} {mb : Nat} {lst : List (Int × Int)} (hm : MapIs encI (Value.int .i64) okI w mb lst) (h2 : Own2 e1 e2 T w base v xs) (hg : w.grownBy w' v.ownBlock) : MapIs encI (Value.int .i64) okI w' mb lst := by
  refine hm.at_ (hg.block mb hm.lt (fun e => ?_))
  obtain ⟨es, c, hb, _⟩ := hm
  rcases h2.2 with ⟨rfl, _⟩ | ⟨g', cap', cur', rfl, _, hb', _⟩
  · cases e
  · injection e with e
    have e' : mb = g' := e
    rw [e', hb'] at hb
    cases hb
structure RInv (l l2 : List Int) (w : World) (v1 : Value) (mb : Nat) (gk : Nat) (v : Value) (wr : World) (j : Nat) : Prop where
  hi : j ≤ l.length
  slot : v = .int .i64 j
  ghost : gk + j = l.length
  one : IntsAt wr v1 l
  map : MapIs encI (Value.int .i64) okI wr mb (ones l2)
  bel : Below w.heap.size w wr
def RRel (l l2 : List Int) (w : World) (v1 : Value) (mb : Nat) (gk : Nat) (v : Value) (wr : World) : Prop := ∃ j, RInv l l2 w v1 mb gk v wr j

set_option maxHeartbeats 40000000 in
set_option maxRecDepth 100000 in
theorem law (a : Int) (A : Option Addr) (cc : Nat) (xs : Edges) (m1 m2 : Int) (w : World) (hE : EdgesAt w A xs) (hcc : xs.length ≤ cc) (hm : xs.length ≤ 9223372036854775807) (hok : okI a) (hoks : ∀ e ∈ xs, okI e.1 ∧ okI e.2) (hom : okI m1 ∧ okI m2) :
    Calls Try.prog 5 #[.int .i64 a, .slice A xs.length cc, .agg #[.int .i64 m1, .int .i64 m2]] w fun e w' => e = .returned (.bool true) ∧ Below w.heap.size w w' := by
  obtain ⟨M, hM⟩ : ∃ M : Nat, min xs.length 40 = M := ⟨_, rfl⟩
  have hMi : min (xs.length : Int) 40 = (M : Int) := by omega
  have hM1 : M ≤ xs.length := by omega
  have hM40 : M ≤ 40 := by omega
  have hMc : M ≤ cc := by omega
  obtain ⟨es, hes⟩ : ∃ es, xs.take M = es := ⟨_, rfl⟩
  have hel : es.length = M := by rw [← hes, List.length_take]; omega
  obtain ⟨w0, hw0⟩ : ∃ w0, w.alloc (.cells #[.int .i64 m1, .int .i64 m2] 25) = w0 := ⟨_, rfl⟩
  have hb0 : Below w.heap.size w w0 := by rw [← hw0]; exact (Below.refl _ _).alloc (Nat.le_refl _) _
  obtain ⟨q0, q1⟩ := cells_two w (.int .i64 m1) (.int .i64 m2) 25
  rw [hw0] at q0 q1
  have hee : EdgesAt w0 A es := fun i e hi => by
    rw [← hes, List.getElem?_take] at hi
    split at hi
    · exact hE.below hb0 i e hi
    · cases hi
  have hoe : ∀ e ∈ es, okI e.1 ∧ okI e.2 := fun e he => hoks e (List.mem_of_mem_take (by rw [hes]; exact he))
  have hou : ∀ b, okI b → ∀ es', (∀ e ∈ es', okI e.1 ∧ okI e.2) → ∀ x ∈ univ b es', okI x := by
    intro b hb es' h1 x hx
    unfold univ at hx
    rcases List.mem_cons.1 hx with rfl | hx
    · exact hb
    · obtain ⟨e, he, hx⟩ := List.mem_flatMap.1 hx
      simp at hx
      rcases hx with rfl | rfl
      · exact (h1 e he).1
      · exact (h1 e he).2
  have HE := Lib.hid hee
  have HEL := Lib.hid hel
  have HOU := Lib.hid hou
  have HOE := Lib.hid hoe
  have HOK := Lib.hid hok
  have HOM := Lib.hid hom
  have HB0 := Lib.hid hb0
  have HQ0 := Lib.hid q0
  have HQ1 := Lib.hid q1
  obtain ⟨i0, hi0, hz0, hz1, hz2⟩ := info_parts infoEdge
  have HI0 := Lib.hid hi0
  have HZ0 := Lib.hid hz0
  have HZ1 := Lib.hid hz1
  have HZ2 := Lib.hid hz2
  clear hM hes hee hE hoks hou hel hok hoe hom hb0 hi0 hz0 hz1 hz2
  go_enter Try.func5, Try.ntmps5
  go_wp2_with (rw [hw0])
  obtain ⟨q, hq⟩ : ∃ q, w.heap.size = q := ⟨_, rfl⟩
  rw [hq] at HB0 HQ0 HQ1
  rw [hq]
  go_loopg [7, 26] M (fun gk o v wr => CRel es w0 gk o v wr)
  case atStart => exact ⟨0, ⟨Nat.zero_le _, rfl, by rw [HEL.out]; rfl, by rw [List.take_zero]; exact Own2.nil, Below.refl _ _⟩⟩
  case round =>
    obtain ⟨j, hj, rfl, hg, hown, hbel⟩ := hrel
    rw [HEL.out] at hj hg
    have HG := Lib.hid hg
    have HO := Lib.hid hown
    have HB := Lib.hid hbel
    have htl : (es.take j).length ≤ 1000000 := by rw [List.length_take]; omega
    clear hg hown hbel
    by_cases hlt : j < M
    · have hI : (j : Int) < (M : Int) := by omega
      have hjl : j < es.length := by rw [HEL.out]; exact hlt
      obtain ⟨⟨ea, eb⟩, hej⟩ : ∃ e, es[j]? = some e := ⟨_, List.getElem?_eq_getElem hjl⟩
      obtain ⟨ad, rfl, k0, k1⟩ := HE.out j _ hej
      have m0 := pw_below HB.out k0
      have m1 := pw_below HB.out k1
      have htake : es.take j ++ [(ea, eb)] = es.take (j + 1) := by
        rw [List.take_succ_eq_append_getElem hjl]
        rw [List.getElem?_eq_getElem hjl] at hej
        injection hej with hej
        rw [hej]
      have HT := Lib.hid htake
      simp only at m0 m1
      obtain ⟨wb, hwb⟩ : ∃ wb, wr.alloc (.cells #[.int .i64 ea, .int .i64 eb] 25) = wb := ⟨_, rfl⟩
      have hbb : Below wr.heap.size wr wb := by rw [← hwb]; exact (Below.refl _ _).alloc (Nat.le_refl _) _
      obtain ⟨c0, c1⟩ := cells_two wr (.int .i64 ea) (.int .i64 eb) 25
      rw [hwb] at c0 c1
      obtain ⟨wc, hwc⟩ : ∃ wc, wb.alloc (.cells #[.int .i64 ea, .int .i64 eb] 26) = wc := ⟨_, rfl⟩
      have hbc : Below wb.heap.size wb wc := by rw [← hwc]; exact (Below.refl _ _).alloc (Nat.le_refl _) _
      obtain ⟨d0, d1⟩ := cells_two wb (.int .i64 ea) (.int .i64 eb) 26
      rw [hwc] at d0 d1
      have hbwc : Below wr.heap.size wr wc := hbb.trans (hbc.mono hbb.size)
      have HO2 := Lib.hid (HO.out.below hbwc)
      have HB2 := Lib.hid (HB.out.trans (hbwc.mono HB.out.size))
      obtain ⟨ab, hab⟩ : ∃ ab, wb.heap.size = ab := ⟨_, rfl⟩
      rw [hab] at d0 d1
      have HD0 := Lib.hid d0
      have HD1 := Lib.hid d1
      clear hej k0 k1 htake hbb hbc hbwc d0 d1
      go_wp2_with (first | (rw [hwb]) | (rw [hwc]) | (rw [hab]) | (at_builtin; go_must ((refine wpList_append_o2 (e1 := eI1) (e2 := eI2) (T := 26) (t := 24) (bytes := 16) Try.underlying24 HI0.out HZ0.out HZ1.out HZ2.out rfl rfl (.tmp 30) (.tmp 32) rfl HO2.out HB2.out.size htl (by decide) rfl ab 1 (ea, eb) rfl HD0.out HD1.out rfl rfl ?_; intro v3 w3 ho3 hb3 _; rw [HT.out] at ho3; have HO3 := Lib.hid ho3; have HB3 := Lib.hid (HB2.out.trans hb3); clear ho3 hb3 hwb hwc hab))))
      go_roundg (gk - 1)
      case measure => have := HG.out; omega
      case rel => exact ⟨j + 1, ⟨by rw [HEL.out]; omega, by go_num, by have := HG.out; rw [HEL.out]; omega, HO3.out, HB3.out⟩⟩
    · obtain rfl : j = M := by omega
      have hall : es.take j = es := List.take_of_length_le (by rw [HEL.out]; exact Nat.le_refl _)
      have ho := HO.out
      rw [hall] at ho
      have HOW := Lib.hid ho
      obtain ⟨A2, c2, rfl, hc2, hE2⟩ := at2_edges ho.at2
      have hl2 : es.length = j := HEL.out
      rw [hl2] at hc2 HOW
      rw [hl2]
      have hre := fun b W (hb : okI b) (hB : Below wr.heap.size wr W) => reach_any b A2 c2 es W (hE2.below hB) (by omega) (by rw [hl2]; exact hc2) (HOU.out b hb es HOE.out)
      rw [hl2] at hre
      have HRE := Lib.hid hre
      have hc2' := hc2
      clear hall ho hc2 hE2 hre hl2 q0 q1
      go_wp2_with fail
      refine (HRE.out a wr HOK.out (Below.refl _ _)).mono ?_
      rintro e w4 ⟨v4, l, rfl, hr4, ho4, hb4⟩
      have HR4 := Lib.hid hr4
      have hll : l.length ≤ 81 := by have := hr4.len; rw [HEL.out] at this; omega
      have HB4 := Lib.hid (HB.out.trans (hb4.mono HB.out.size))
      have HO4 := Lib.hid (HOW.out.below hb4)
      have HBW4 := Lib.hid hb4
      have hi4 : OwnI 3 w4 w0.heap.size v4 l := own_mono ho4 HB.out.size
      obtain ⟨A4, c4, rfl, hc4, _⟩ := (IntsAt.owns hi4).2
      obtain ⟨n, hn⟩ : ∃ n, l.length = n := ⟨_, rfl⟩
      rw [hn] at hi4 hc4 hll
      rw [hn]
      have HN := Lib.hid hn
      have HI4 := Lib.hid hi4
      clear hr4 ho4 hb4 hi4 hn
      go_wp2_with fail
      go_loopg [40] n (fun gk v wr => NRel l w0 (.slice A4 n c4) es (.slice A2 j c2) gk v wr)
      case atStart => exact ⟨0, ⟨Nat.zero_le _, rfl, by rw [HN.out]; rfl, HI4.out, HO4.out, HB4.out⟩⟩
      case round =>
        obtain ⟨i, hi, rfl, hgi, hone, hed, hbi⟩ := hrel
        rw [HN.out] at hi hgi
        have HGI := Lib.hid hgi
        have H1 := Lib.hid hone
        have HED := Lib.hid hed
        have HBI := Lib.hid hbi
        clear hgi hone hed hbi HI4
        by_cases hlti : i < n
        · have hiI : (i : Int) < (n : Int) := by omega
          have hil : i < l.length := by rw [HN.out]; exact hlti
          obtain ⟨y, hy⟩ : ∃ y, l[i]? = some y := ⟨_, List.getElem?_eq_getElem hil⟩
          obtain ⟨A6, c6, h6, _, hc6⟩ := (IntsAt.owns H1.out).2
          injection h6 with h6 hx1 hx2
          subst h6
          clear hx1 hx2
          obtain ⟨ad4, rfl, k4⟩ := hc6 i y hy
          have hcon := (HR4.out.mem y).1 (List.mem_of_getElem? hy)
          have hoy : okI y := HOU.out a HOK.out es HOE.out y (conn_univ hcon)
          have hre := reach_any y A2 c2 es wr (by obtain ⟨A9, c9, h9, _, hE9⟩ := at2_edges HED.out.at2; injection h9 with h9 _ _; subst h9; exact hE9) (by rw [HEL.out]; omega) (by rw [HEL.out]; exact hc2') (HOU.out y hoy es HOE.out)
          rw [HEL.out] at hre
          have HRY := Lib.hid hre
          have HCON := Lib.hid hcon
          clear hc6 hy hcon hoy hre
          go_wp2_with fail
          refine HRY.out.mono ?_
          rintro e w5 ⟨v5, l5, rfl, hr5, ho5, hb5⟩
          have hl5 : l5 = l := hr5.unique (HR4.out.of HCON.out)
          subst hl5
          have hi5 := (IntsAt.owns ho5).2
          obtain ⟨A5, c5, rfl, hc5, _⟩ := id hi5
          rw [HN.out] at hi5 hc5
          have hl9 := HN.out
          rw [hl9]
          have HI5 := Lib.hid hi5
          have H15 := Lib.hid (H1.out.below hb5)
          have HED5 := Lib.hid (HED.out.below hb5)
          have HB5 := Lib.hid (HBI.out.trans (hb5.mono HBI.out.size))
          clear hr5 ho5 hb5 hi5 hl9 k4
          go_wp2_with fail
          obtain ⟨gO, rfl⟩ : ∃ gO : Nat, gO = gk := ⟨_, rfl⟩
          obtain ⟨wo, rfl⟩ : ∃ wo : World, wo = wr := ⟨_, rfl⟩
          go_loopg [54] n (fun gk v wr => PRel l5 w0 (.slice (some ad4) n c4) (.slice A5 n c5) es (.slice A2 j c2) gk v wr)
          case atStart => exact ⟨0, ⟨Nat.zero_le _, rfl, by rw [HN.out]; rfl, H15.out, HI5.out, HED5.out, HB5.out⟩⟩
          case round =>
            obtain ⟨t, ht, rfl, hgt, ho1, ho2, hed, hbt⟩ := hrel
            rw [HN.out] at ht hgt
            have HGT := Lib.hid hgt
            have HT1 := Lib.hid ho1
            have HT2 := Lib.hid ho2
            have HTE := Lib.hid hed
            have HBT := Lib.hid hbt
            clear hgt ho1 ho2 hed hbt
            by_cases hltt : t < n
            · have htI : (t : Int) < (n : Int) := by omega
              have htl : t < l5.length := by rw [HN.out]; exact hltt
              obtain ⟨z, hz⟩ : ∃ z, l5[t]? = some z := ⟨_, List.getElem?_eq_getElem htl⟩
              obtain ⟨A6, c6, h6, _, hc6⟩ := (IntsAt.owns HT1.out).2
              injection h6 with h6 hx1 hx2
              subst h6
              clear hx1 hx2
              obtain ⟨ad6, had6, k4⟩ := hc6 t z hz
              injection had6 with had6
              subst had6
              obtain ⟨A7, c7, h7, _, hc7⟩ := HT2.out
              injection h7 with h7 hx3 hx4
              subst h7
              clear hx3 hx4
              obtain ⟨ad5, rfl, k5⟩ := hc7 t z hz
              clear hc6 hc7 hz
              go_wp2_with fail
              go_quiet (fail)
              obtain ⟨wq, hwq⟩ : ∃ wq, wr.drewN nq = wq := ⟨_, rfl⟩
              rw [hwq]
              have hbq : Below wr.heap.size wr wq := by rw [← hwq]; exact Go.Proofs.YtifdfhonhphojaaCore.below_drewN _
              have HU1 := Lib.hid (HT1.out.below hbq)
              have HU2 := Lib.hid (HT2.out.below hbq)
              have HUE := Lib.hid (HTE.out.below hbq)
              have HUB := Lib.hid (HBT.out.trans (hbq.mono HBT.out.size))
              clear hwq hbq k4 k5
              go_wp2_with fail
              go_roundg (gk - 1)
              case measure => have := HGT.out; omega
              case rel => exact ⟨t + 1, ⟨by rw [HN.out]; omega, by go_num, by have := HGT.out; rw [HN.out]; omega, HU1.out, HU2.out, HUE.out, HUB.out⟩⟩
            · obtain rfl : t = n := by omega
              go_wp2_with fail
              go_roundg (gO - 1)
              case measure => have := HGI.out; omega
              case rel => exact ⟨i + 1, ⟨by rw [HN.out]; omega, by go_num, by have := HGI.out; rw [HN.out]; omega, HT1.out, HTE.out, HBT.out⟩⟩
        · obtain rfl : i = n := by omega
          have hmm := @run_makeMap Try.prog
          obtain ⟨wm, hwm⟩ : ∃ wm, wr.alloc (.map #[] 0) = wm := ⟨_, rfl⟩
          have hbm : Below wr.heap.size wr wm := by rw [← hwm]; exact (Below.refl _ _).alloc (Nat.le_refl _) _
          have hmap : MapIs encI (Value.int .i64) okI wm wr.heap.size (ones (List.take 0 l)) := by rw [← hwm]; exact MapIs.made _ _ _ _
          have c0 := pw_below (HBI.out.trans (hbm.mono HBI.out.size)) HQ0.out
          have c1 := pw_below (HBI.out.trans (hbm.mono HBI.out.size)) HQ1.out
          obtain ⟨wc, hwc⟩ : ∃ wc, wm.alloc (.cells #[.int .i64 m1, .int .i64 m2] 26) = wc := ⟨_, rfl⟩
          have hbc : Below wm.heap.size wm wc := by rw [← hwc]; exact (Below.refl _ _).alloc (Nat.le_refl _) _
          obtain ⟨d0, d1⟩ := cells_two wm (.int .i64 m1) (.int .i64 m2) 26
          rw [hwc] at d0 d1
          obtain ⟨ab, hab⟩ : ∃ ab, wm.heap.size = ab := ⟨_, rfl⟩
          rw [hab] at d0 d1
          obtain ⟨mb, hmb⟩ : ∃ mb, wr.heap.size = mb := ⟨_, rfl⟩
          rw [hmb] at hmap
          have hbmc : Below wr.heap.size wr wc := hbm.trans (hbc.mono hbm.size)
          have HED2 := Lib.hid (HED.out.below hbmc)
          have HBI2 := Lib.hid (HBI.out.trans (hbmc.mono HBI.out.size))
          have H12 := Lib.hid (H1.out.below hbmc)
          have HMAP := Lib.hid (hmap.at_ (hbc.block _ hmap.lt))
          have HMB := Lib.hid (show w0.heap.size ≤ mb from by rw [← hmb]; exact HBI.out.size)
          have HD0 := Lib.hid d0
          have HD1 := Lib.hid d1
          have htl : es.length ≤ 1000000 := by rw [HEL.out]; omega
          clear hbm hbc hbmc hmap d0 d1 H1 HED HBI
          go_wp2_with (first | (rw [hwm]) | (rw [hwc]) | (rw [hab]) | (rw [hmb]) | (at_builtin; go_must ((refine wpList_append_o2 (e1 := eI1) (e2 := eI2) (T := 26) (t := 24) (bytes := 16) Try.underlying24 HI0.out HZ0.out HZ1.out HZ2.out rfl rfl (.tmp 70) (.tmp 72) rfl HED2.out HBI2.out.size htl (by decide) rfl ab 1 (m1, m2) rfl HD0.out HD1.out rfl rfl ?_; intro v3 w3 ho3 hb3 hg3; have HO3 := Lib.hid ho3; have HB3 := Lib.hid hb3; have HG3 := Lib.hid hg3; clear ho3 hb3 hg3 hwm hwc hab hmb c0 c1))))
          obtain ⟨A3, c3, rfl, hc3, hE3⟩ := at2_edges HO3.out.at2
          have hl3 : (es ++ [(m1, m2)]).length = j + 1 := by rw [List.length_append, List.length_singleton, HEL.out]
          have hoe3 : ∀ e ∈ es ++ [(m1, m2)], okI e.1 ∧ okI e.2 := fun e he => by
            rcases List.mem_append.1 he with he | he
            · exact HOE.out e he
            · rw [List.mem_singleton.1 he]; exact HOM.out
          have hsub : ∀ e ∈ es, e ∈ es ++ [(m1, m2)] := fun e he => List.mem_append_left _ he
          obtain ⟨es2, hes2⟩ : ∃ es2, es ++ [(m1, m2)] = es2 := ⟨_, rfl⟩
          rw [hes2] at hl3 hc3 hE3 hoe3 hsub
          rw [hes2]
          have hre := reach_any a A3 c3 es2 w3 hE3 (by rw [hl3]; omega) hc3 (HOU.out a HOK.out es2 hoe3)
          rw [hl3] at hre
          rw [hl3]
          have HRE2 := Lib.hid hre
          have HSUB := Lib.hid hsub
          have H13 := Lib.hid (IntsAt.owns (OwnI.grown H12.out HED2.out (by decide) HG3.out)).2
          have HM3 := Lib.hid (map_grown HMAP.out HED2.out HG3.out)
          have HB3' := Lib.hid (HBI2.out.trans HB3.out)
          have hl3b : es2.length ≤ 41 := by omega
          have HL3 := Lib.hid hl3
          clear hc3 hE3 hoe3 hsub hre hl3
          go_wp2_with fail
          refine HRE2.out.mono ?_
          rintro e w5 ⟨v5, l2, rfl, hr5, ho5, hb5⟩
          have HR5 := Lib.hid hr5
          have hll2 : l2.length ≤ 83 := by have := hr5.len; omega
          have hok2 : ∀ y ∈ l2, okI y := fun y hy => HOU.out a HOK.out es2 (fun e he => by
            have := HL3.out
            rw [← hes2] at he
            rcases List.mem_append.1 he with he | he
            · exact HOE.out e he
            · rw [List.mem_singleton.1 he]; exact HOM.out) y (conn_univ ((hr5.mem y).1 hy))
          have HOK2 := Lib.hid hok2
          have hi5 := (IntsAt.owns ho5).2
          obtain ⟨A5, c5, rfl, hc5, _⟩ := id hi5
          obtain ⟨n2, hn2⟩ : ∃ n2, l2.length = n2 := ⟨_, rfl⟩
          rw [hn2] at hi5 hc5 hll2
          rw [hn2]
          have HN2 := Lib.hid hn2
          have HI5 := Lib.hid hi5
          have H15 := Lib.hid (H13.out.below hb5)
          have HM5 := Lib.hid (HM3.out.at_ (hb5.block _ HM3.out.lt))
          have HB5 := Lib.hid (HB3'.out.trans (hb5.mono HB3'.out.size))
          clear hr5 ho5 hb5 hi5 hn2 hok2 hes2
          go_wp2_with fail
          go_loopg [76] n2 (fun gk v wr => QRel l l2 w0 (.slice A4 i c4) (.slice A5 n2 c5) mb gk v wr)
          case atStart => exact ⟨0, ⟨Nat.zero_le _, rfl, by rw [HN2.out]; rfl, H15.out, HI5.out, by simpa using HM5.out, HB5.out⟩⟩
          case round =>
            obtain ⟨t, ht, rfl, hgt, ho1, ho2, hmp, hbt⟩ := hrel
            rw [HN2.out] at ht hgt
            have HGT := Lib.hid hgt
            have HT1 := Lib.hid ho1
            have HT2 := Lib.hid ho2
            have HTM := Lib.hid hmp
            have HBT := Lib.hid hbt
            clear hgt ho1 ho2 hmp hbt
            by_cases hltt : t < n2
            · have htI : (t : Int) < (n2 : Int) := by omega
              have htl : t < l2.length := by rw [HN2.out]; exact hltt
              obtain ⟨y, hy⟩ : ∃ y, l2[t]? = some y := ⟨_, List.getElem?_eq_getElem htl⟩
              obtain ⟨A7, c7, h7, _, hc7⟩ := HT2.out
              injection h7 with h7 hx3 hx4
              subst h7
              clear hx3 hx4
              obtain ⟨ad5, rfl, k5⟩ := hc7 t y hy
              have hey : l2[t] = y := by rw [List.getElem?_eq_getElem htl] at hy; injection hy
              have hnot : ¬ y ∈ l2.take t := by
                have hup := HR5.out.up
                rw [← List.take_append_drop t l2, List.pairwise_append] at hup
                intro hm
                have h := hup.2.2 y hm y (by rw [List.drop_eq_getElem_cons htl, hey]; exact List.mem_cons_self ..)
                omega
              have hyo := HOK2.out y (List.mem_of_getElem? hy)
              have hl1 := HTM.out.lookup encI_M Try.underlying32 (z := .int .i64 0) (Try.zeroValue3 wr) hyo
              rw [look_ones, if_neg hnot] at hl1
              have hl1' : (Instr.lookup 32 (.map (some mb)) (.int .i64 y) false).run Try.prog wr = .ok (.int .i64 0) wr := hl1
              obtain ⟨w6, hst, hm6, hf6, hz6⟩ := HTM.out.store encI_M Try.underlying32 hyo (1 : Int)
              have hst' : (Instr.mapUpdate 32 (.map (some mb)) (.int .i64 y) (.int .i64 1)).run Try.prog wr = .ok () w6 := hst
              have htk : l2.take t ++ [y] = l2.take (t + 1) := by rw [List.take_succ_eq_append_getElem htl, hey]
              rw [put_ones hnot, htk] at hm6
              have HM6 := Lib.hid hm6
              have H61 := Lib.hid (ints_map HT1.out HTM.out hf6)
              have H62 := Lib.hid (ints_map HT2.out HTM.out hf6)
              have HB6 := Lib.hid (HBT.out.trans (hf6.below HBT.out.size (fun k hk e => by have := HMB.out; omega)))
              clear hc7 hy hey hnot hyo hl1 hst hm6 hf6 hz6 htk
              go_wp2_with fail
              go_roundg (gk - 1)
              case measure => have := HGT.out; omega
              case rel => exact ⟨t + 1, ⟨by rw [HN2.out]; omega, by go_num, by have := HGT.out; rw [HN2.out]; omega, H61.out, H62.out, HM6.out, HB6.out⟩⟩
            · obtain rfl : t = n2 := by omega
              have hmf := HTM.out
              rw [List.take_of_length_le (by rw [HN2.out]; exact Nat.le_refl _)] at hmf
              have HMF := Lib.hid hmf
              clear hmf
              go_wp2_with fail
              go_loopg [87] i (fun gk v wr => RRel l l2 w0 (.slice A4 i c4) mb gk v wr)
              case atStart => exact ⟨0, ⟨Nat.zero_le _, rfl, by rw [HN.out]; rfl, HT1.out, HMF.out, HBT.out⟩⟩
              case round =>
                obtain ⟨r, hr, rfl, hgr, ho1, hmp, hbr⟩ := hrel
                rw [HN.out] at hr hgr
                have HGR := Lib.hid hgr
                have HU1 := Lib.hid ho1
                have HUM := Lib.hid hmp
                have HUB := Lib.hid hbr
                clear hgr ho1 hmp hbr
                by_cases hltr : r < i
                · have hrI : (r : Int) < (i : Int) := by omega
                  have hrl : r < l.length := by rw [HN.out]; exact hltr
                  obtain ⟨y, hy⟩ : ∃ y, l[r]? = some y := ⟨_, List.getElem?_eq_getElem hrl⟩
                  obtain ⟨A7, c7, h7, _, hc7⟩ := HU1.out
                  injection h7 with h7 hx3 hx4
                  subst h7
                  clear hx3 hx4
                  obtain ⟨ad5, rfl, k5⟩ := hc7 r y hy
                  have hin : y ∈ l2 := (HR5.out.mem y).2 (((HR4.out.mem y).1 (List.mem_of_getElem? hy)).mono HSUB.out)
                  have hl1 := HUM.out.lookup encI_M Try.underlying32 (z := .int .i64 0) (Try.zeroValue3 wr) (HOK2.out y hin)
                  rw [look_ones, if_pos hin] at hl1
                  have hl1' : (Instr.lookup 32 (.map (some mb)) (.int .i64 y) false).run Try.prog wr = .ok (.int .i64 1) wr := hl1
                  clear hc7 hy hin hl1
                  go_wp2_with fail
                  go_roundg (gk - 1)
                  case measure => have := HGR.out; omega
                  case rel => exact ⟨r + 1, ⟨by rw [HN.out]; omega, by go_num, by have := HGR.out; rw [HN.out]; omega, HU1.out, HUM.out, HUB.out⟩⟩
                · obtain rfl : r = i := by omega
                  go_wp2_with fail
                  refine (wakes_any _).mono ?_
                  rintro e w7 ⟨rfl, hb7⟩
                  have hmp7 := HUM.out.at_ (hb7.block _ HUM.out.lt)
                  have hin : a ∈ l2 := (HR5.out.mem a).2 .refl
                  have hl1 := hmp7.lookup encI_M Try.underlying32 (z := .int .i64 0) (Try.zeroValue3 w7) HOK.out
                  rw [look_ones, if_pos hin] at hl1
                  have hl1' : (Instr.lookup 32 (.map (some mb)) (.int .i64 a) false).run Try.prog w7 = .ok (.int .i64 1) w7 := hl1
                  have HB7 := Lib.hid (HB0.out.trans ((HUB.out.trans (hb7.mono HUB.out.size)).mono (by rw [← hq]; exact HB0.out.size)))
                  clear hb7 hmp7 hin hl1
                  go_wp2_with fail
                  refine bodyPost_ret (v := .bool true) (by simp [results, Try.results5, go_sem]) rfl ⟨rfl, by first | exact HB7.out | (rw [hq]; exact HB7.out)⟩

end Go.Proofs.Ytifdfhonhphojaa.Lm
