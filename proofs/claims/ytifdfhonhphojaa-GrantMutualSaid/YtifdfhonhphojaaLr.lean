/- GrantReaches: the walk. -/
import Derived.Test.YtifdfhonhphojaaWk
import Derived.Test.YtifdfhonhphojaaO2
import Derived.Test.YtifdfhonhphojaaOpens
namespace Go.Proofs.Ytifdfhonhphojaa.Lr
open Go Go.RowKit Go.Proofs.YtifdfhonhphojaaCore Go.Proofs.Ytifdfhonhphojaa.Fr Go.Proofs.Ytifdfhonhphojaa.Mp Go.Proofs.Ytifdfhonhphojaa.Ky Go.Proofs.Ytifdfhonhphojaa.Rp Go.Proofs.Ytifdfhonhphojaa.Rw Go.Proofs.Ytifdfhonhphojaa.Oi Go.Proofs.Ytifdfhonhphojaa.Ri Go.Proofs.Ytifdfhonhphojaa.Rr Go.Proofs.Ytifdfhonhphojaa.O2 Go.Proofs.Ytifdfhonhphojaa.Wk Go.Proofs.YtifdfhonhphojaaW.PrintWords Go.Proofs.YtifdfhonhphojaaW.PrintLast Go.Proofs.YtifdfhonhphojaaW.PrintMore

def eI1 (e : Int × Int) : Value := .int .i64 e.1
def eI2 (e : Int × Int) : Value := .int .i64 e.2
theorem infoEdge : (Try.prog.info? 26).map (fun i => (i.zero, i.size, i.bytes)) = some (some (.agg #[.int .i64 0, .int .i64 0]), 2, 16) := by kernel_rfl
theorem at2_edges {w : World} {v : Value} {es : Edges} (h : At2 eI1 eI2 w v es) : ∃ A c, v = .slice A es.length c ∧ es.length ≤ c ∧ EdgesAt w A es := h
def edgeK : Kd (Int × Int) := Kd.pair (Kd.int .i64) (Kd.int .i64)
theorem edges_of {w : World} {A : Option Addr} {n : Nat} {xs : List (Int × Int)} (h : edgeK.C w A n xs) : EdgesAt w A xs := by
  obtain ⟨hl, _, hc⟩ := h
  intro i e hi
  have hil := (List.getElem?_eq_some_iff.1 hi).1
  obtain ⟨ad, ha, hc⟩ := hc (by omega)
  obtain ⟨c, _, hr, hcell⟩ := hc i e hi
  obtain ⟨c0, c1, rfl, h0, h1⟩ := hr
  obtain rfl : c0 = [.int .i64 e.1] := h0
  obtain rfl : c1 = [.int .i64 e.2] := h1
  refine ⟨ad, ha, hcell 0 _ rfl, ?_⟩
  exact (congrArg w.cell? (add_field ad (i * 2) 1 (by decide))).symm.trans (hcell 1 _ rfl)

structure CInv (es : Edges) (w : World) (gk : Nat) (o v : Value) (wr : World) (j : Nat) : Prop where
  hi : j ≤ es.length
  slot : v = .int .i64 j
  ghost : gk + j = es.length
  own : Own2 eI1 eI2 26 wr w.heap.size o (es.take j)
  bel : Below w.heap.size w wr
def CRel (es : Edges) (w : World) (gk : Nat) (o v : Value) (wr : World) : Prop := ∃ j, CInv es w gk o v wr j
structure DInv (l : List Int) (w : World) (v1 v2 : Value) (gk : Nat) (v : Value) (wr : World) (j : Nat) : Prop where
  hi : j ≤ l.length
  slot : v = .int .i64 j
  ghost : gk + j = l.length
  one : IntsAt wr v1 l
  two : IntsAt wr v2 l
  bel : Below w.heap.size w wr
def DRel (l : List Int) (w : World) (v1 v2 : Value) (gk : Nat) (v : Value) (wr : World) : Prop := ∃ j, DInv l w v1 v2 gk v wr j

set_option maxHeartbeats 16000000 in
set_option maxRecDepth 100000 in
theorem law (a : Int) (A : Option Addr) (cc : Nat) (xs : Edges) (w : World) (hE : EdgesAt w A xs) (hcc : xs.length ≤ cc) (hm : xs.length ≤ 9223372036854775807) (hok : okI a) (hoks : ∀ e ∈ xs, okI e.1 ∧ okI e.2) :
    Calls Try.prog 4 #[.int .i64 a, .slice A xs.length cc] w fun e w' => e = .returned (.bool true) ∧ Below w.heap.size w w' := by
  obtain ⟨M, hM⟩ : ∃ M : Nat, min xs.length 40 = M := ⟨_, rfl⟩
  have hMi : min (xs.length : Int) 40 = (M : Int) := by omega
  have hM1 : M ≤ xs.length := by omega
  have hM40 : M ≤ 40 := by omega
  have hMc : M ≤ cc := by omega
  obtain ⟨es, hes⟩ : ∃ es, xs.take M = es := ⟨_, rfl⟩
  have hel : es.length = M := by rw [← hes, List.length_take]; omega
  have hee : EdgesAt w A es := fun i e hi => by
    rw [← hes, List.getElem?_take] at hi
    split at hi
    · exact hE i e hi
    · cases hi
  have hou : ∀ x ∈ univ a es, okI x := by
    have h1 : ∀ e ∈ es, okI e.1 ∧ okI e.2 := fun e he => hoks e (List.mem_of_mem_take (by rw [hes]; exact he))
    intro x hx
    unfold univ at hx
    rcases List.mem_cons.1 hx with rfl | hx
    · exact hok
    · obtain ⟨e, he, hx⟩ := List.mem_flatMap.1 hx
      simp at hx
      rcases hx with rfl | rfl
      · exact (h1 e he).1
      · exact (h1 e he).2
  have HE := Lib.hid hee
  have HEL := Lib.hid hel
  have HOU := Lib.hid hou
  obtain ⟨i0, hi0, hz0, hz1, hz2⟩ := info_parts infoEdge
  have HI0 := Lib.hid hi0
  have HZ0 := Lib.hid hz0
  have HZ1 := Lib.hid hz1
  have HZ2 := Lib.hid hz2
  clear hM hes hee hE hoks hou hel hok hi0 hz0 hz1 hz2
  go_enter Try.func4, Try.ntmps4
  go_wp2_with fail
  go_loopg [5, 18] M (fun gk o v wr => CRel es w gk o v wr)
  case atStart => exact ⟨0, ⟨Nat.zero_le _, rfl, by rw [HEL.out]; rfl, by rw [List.take_zero]; exact Own2.nil, Below.refl _ _⟩⟩
  case round =>
    obtain ⟨j, hj, rfl, hg, hown, hbel⟩ := hrel
    rw [HEL.out] at hj hg
    have HG := Lib.hid hg
    have HO := Lib.hid hown
    have HB := Lib.hid hbel
    have htl : (es.take j).length ≤ 1000000 := by rw [List.length_take]; omega
    clear hg hown hbel
    by_cases hlt : j < M
    · have hI : (j : Int) < (M : Int) := by omega
      have hjl : j < es.length := by rw [HEL.out]; exact hlt
      obtain ⟨⟨ea, eb⟩, hej⟩ : ∃ e, es[j]? = some e := ⟨_, List.getElem?_eq_getElem hjl⟩
      obtain ⟨ad, rfl, k0, k1⟩ := HE.out j _ hej
      have m0 := pw_below HB.out k0
      have m1 := pw_below HB.out k1
      have htake : es.take j ++ [(ea, eb)] = es.take (j + 1) := by
        rw [List.take_succ_eq_append_getElem hjl]
        rw [List.getElem?_eq_getElem hjl] at hej
        injection hej with hej
        rw [hej]
      have HT := Lib.hid htake
      simp only at m0 m1
      obtain ⟨wb, hwb⟩ : ∃ wb, wr.alloc (.cells #[.int .i64 ea, .int .i64 eb] 25) = wb := ⟨_, rfl⟩
      have hbb : Below wr.heap.size wr wb := by rw [← hwb]; exact (Below.refl _ _).alloc (Nat.le_refl _) _
      obtain ⟨c0, c1⟩ := cells_two wr (.int .i64 ea) (.int .i64 eb) 25
      rw [hwb] at c0 c1
      obtain ⟨wc, hwc⟩ : ∃ wc, wb.alloc (.cells #[.int .i64 ea, .int .i64 eb] 26) = wc := ⟨_, rfl⟩
      have hbc : Below wb.heap.size wb wc := by rw [← hwc]; exact (Below.refl _ _).alloc (Nat.le_refl _) _
      obtain ⟨d0, d1⟩ := cells_two wb (.int .i64 ea) (.int .i64 eb) 26
      rw [hwc] at d0 d1
      have hbwc : Below wr.heap.size wr wc := hbb.trans (hbc.mono hbb.size)
      have HO2 := Lib.hid (HO.out.below hbwc)
      have HB2 := Lib.hid (HB.out.trans (hbwc.mono HB.out.size))
      obtain ⟨ab, hab⟩ : ∃ ab, wb.heap.size = ab := ⟨_, rfl⟩
      rw [hab] at d0 d1
      have HD0 := Lib.hid d0
      have HD1 := Lib.hid d1
      clear hej k0 k1 htake hbb hbc hbwc d0 d1
      go_wp2_with (first | (rw [hwb]) | (rw [hwc]) | (rw [hab]) | (at_builtin; go_must ((refine wpList_append_o2 (e1 := eI1) (e2 := eI2) (T := 26) (t := 24) (bytes := 16) Try.underlying24 HI0.out HZ0.out HZ1.out HZ2.out rfl rfl (.tmp 22) (.tmp 24) rfl HO2.out HB2.out.size htl (by decide) rfl ab 1 (ea, eb) rfl HD0.out HD1.out rfl rfl ?_; intro v3 w3 ho3 hb3 _; rw [HT.out] at ho3; have HO3 := Lib.hid ho3; have HB3 := Lib.hid (HB2.out.trans hb3); clear ho3 hb3 hwb hwc hab))))
      go_roundg (gk - 1)
      case measure => have := HG.out; omega
      case rel => exact ⟨j + 1, ⟨by rw [HEL.out]; omega, by go_num, by have := HG.out; rw [HEL.out]; omega, HO3.out, HB3.out⟩⟩
    · obtain rfl : j = M := by omega
      have hall : es.take j = es := List.take_of_length_le (by rw [HEL.out]; exact Nat.le_refl _)
      have ho := HO.out
      rw [hall] at ho
      obtain ⟨A2, c2, rfl, hc2, hE2⟩ := at2_edges ho.at2
      have HE2 := Lib.hid hE2
      have hre := reach_any a A2 c2 es wr hE2 (by rw [HEL.out]; omega) hc2 HOU.out
      have hrr := fun W hb => rreach_any a A cc es W (HE.out.below (HB.out.trans hb)) (by rw [HEL.out]; omega)
      rw [HEL.out] at hre hrr
      have HRE := Lib.hid hre
      have HRR := Lib.hid hrr
      have hl2 : es.length = j := HEL.out
      rw [hl2]
      clear hall ho hc2 hE2 hre hrr hl2
      go_wp2_with fail
      refine HRE.out.mono ?_
      rintro e w4 ⟨v4, l, rfl, hr4, ho4, hb4⟩
      have HR4 := Lib.hid hr4
      have hll : l.length ≤ 81 := by have := hr4.len; rw [HEL.out] at this; omega
      have HB4 := Lib.hid (HB.out.trans (hb4.mono HB.out.size))
      have hi4 := (IntsAt.owns ho4).2
      have HI4 := Lib.hid hi4
      go_wp2_with fail
      refine (HRR.out w4 (hb4.mono HB.out.size)).mono ?_
      rintro e w5 ⟨v5, rfl, ho5, hb5⟩
      have hl5 : rounds es (j + 1) [a] = l := by
        have h := rounds_reach es a
        rw [HEL.out] at h
        exact h.unique HR4.out
      rw [hl5] at ho5
      have HI5 := Lib.hid (IntsAt.owns ho5).2
      have HI4' := Lib.hid (HI4.out.below hb5)
      have HB5 := Lib.hid (HB4.out.trans (hb5.mono HB4.out.size))
      clear hr4 ho4 hb4 hi4 ho5 hb5 hl5
      go_wp2_with fail
      refine (wakes_any _).mono ?_
      rintro e w6 ⟨rfl, hb6⟩
      have hi4 := HI4'.out.below hb6
      have hi5 := HI5.out.below hb6
      have HB6 := Lib.hid (HB5.out.trans (hb6.mono HB5.out.size))
      obtain ⟨A4, c4, rfl, hc4, _⟩ := id hi4
      obtain ⟨A5, c5, rfl, hc5, _⟩ := id hi5
      obtain ⟨n, hn⟩ : ∃ n, l.length = n := ⟨_, rfl⟩
      rw [hn] at hi4 hi5 hc4 hc5 hll
      rw [hn]
      have HN := Lib.hid hn
      have HJ4 := Lib.hid hi4
      have HJ5 := Lib.hid hi5
      clear hb6 hi4 hi5 hn
      go_wp2_with fail
      go_loopg [44] n (fun gk v wr => DRel l w (.slice A4 n c4) (.slice A5 n c5) gk v wr)
      case atStart => exact ⟨0, ⟨Nat.zero_le _, rfl, by rw [HN.out]; rfl, HJ4.out, HJ5.out, HB6.out⟩⟩
      case round =>
        obtain ⟨i, hi, rfl, hgi, ho1, ho2, hbi⟩ := hrel
        rw [HN.out] at hi hgi
        have HGI := Lib.hid hgi
        have H1 := Lib.hid ho1
        have H2 := Lib.hid ho2
        have HBI := Lib.hid hbi
        clear hgi ho1 ho2 hbi
        by_cases hlti : i < n
        · have hiI : (i : Int) < (n : Int) := by omega
          have hil : i < l.length := by rw [HN.out]; exact hlti
          obtain ⟨y, hy⟩ : ∃ y, l[i]? = some y := ⟨_, List.getElem?_eq_getElem hil⟩
          obtain ⟨A6, c6, h6, _, hc6⟩ := H1.out
          injection h6 with h6 _ _
          subst h6
          obtain ⟨ad4, rfl, k4⟩ := hc6 i y hy
          obtain ⟨A7, c7, h7, _, hc7⟩ := H2.out
          injection h7 with h7 _ _
          subst h7
          obtain ⟨ad5, rfl, k5⟩ := hc7 i y hy
          clear hc6 hc7 hy
          go_wp2_with fail
          go_quiet (fail)
          obtain ⟨wq, hwq⟩ : ∃ wq, wr.drewN nq = wq := ⟨_, rfl⟩
          rw [hwq]
          have hbq : Below wr.heap.size wr wq := by rw [← hwq]; exact Go.Proofs.YtifdfhonhphojaaCore.below_drewN _
          have HQ1 := Lib.hid (H1.out.below hbq)
          have HQ2 := Lib.hid (H2.out.below hbq)
          have HQB := Lib.hid (HBI.out.trans (hbq.mono HBI.out.size))
          clear hwq hbq k4 k5
          go_wp2_with fail
          go_roundg (gk - 1)
          case measure => have := HGI.out; omega
          case rel => exact ⟨i + 1, ⟨by rw [HN.out]; omega, by go_num, by have := HGI.out; rw [HN.out]; omega, HQ1.out, HQ2.out, HQB.out⟩⟩
        · obtain rfl : i = n := by omega
          go_wp2_with fail
          refine bodyPost_ret (v := .bool true) (by simp [results, Try.results4, go_sem]) rfl ⟨rfl, HBI.out⟩

end Go.Proofs.Ytifdfhonhphojaa.Lr
