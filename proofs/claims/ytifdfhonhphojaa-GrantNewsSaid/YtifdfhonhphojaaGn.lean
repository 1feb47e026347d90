/- GrantNews: the walk. -/
import Derived.Test.YtifdfhonhphojaaRq
import Derived.Deep.RegionHeld
import Derived.Test.YtifdfhonhphojaaOpens
namespace Go.Proofs.Ytifdfhonhphojaa.Gn

open Go Go.RowKit Go.Joins Go.Proofs.YtifdfhonhphojaaCore Go.Proofs.Ytifdfhonhphojaa.Fr Go.Proofs.Ytifdfhonhphojaa.Mp Go.Proofs.Ytifdfhonhphojaa.Ky Go.Proofs.Ytifdfhonhphojaa.Ko Go.Proofs.Ytifdfhonhphojaa.Named Go.Proofs.Ytifdfhonhphojaa.Tb Go.Proofs.Ytifdfhonhphojaa.Nw Go.Proofs.Ytifdfhonhphojaa.Oi Go.Proofs.Ytifdfhonhphojaa.O2 Go.Proofs.Ytifdfhonhphojaa.Rt Go.Proofs.Ytifdfhonhphojaa.Rd Go.Proofs.Ytifdfhonhphojaa.Ra Go.Proofs.Ytifdfhonhphojaa.Rb Go.Proofs.Ytifdfhonhphojaa.Pr Go.Proofs.Ytifdfhonhphojaa.Sa Go.Proofs.Ytifdfhonhphojaa.Gs Go.Proofs.Ytifdfhonhphojaa.Wk Go.Proofs.YtifdfhonhphojaaW.PrintWords Go.Proofs.YtifdfhonhphojaaW.PrintLast Go.Proofs.YtifdfhonhphojaaW.PrintMore

/-- What New answers, and the document's list, behind j of the keys. -/
structure Fold (l : List GKey) (j : Nat) (want : Int) (ks rs : List GKey) : Prop where
  sy : Sy ks rs
  few : ks.length ≤ j
  zero : want = 0 → newM [] l = newM ks (l.drop j)
  other : want ≠ 0 → (newM [] l).1 = want
theorem Fold.start (l : List GKey) : Fold l 0 0 [] [] := ⟨Sy.nil, Nat.le_refl _, fun _ => by rw [List.drop_zero], fun h => absurd rfl h⟩
theorem Fold.idle {l : List GKey} {j : Nat} {want : Int} {ks rs : List GKey} (h : Fold l j want ks rs) (hw : want ≠ 0) : Fold l (j + 1) want ks rs := ⟨h.sy, Nat.le_succ_of_le h.few, fun e => absurd e hw, h.other⟩
theorem Fold.step {l : List GKey} {j : Nat} {ks rs : List GKey} (h : Fold l j 0 ks rs) {k : GKey} (hk : l[j]? = some k) : Fold l (j + 1) (addE rs k) (addT ks k) (raddT rs k) := by
  have hj := (List.getElem?_eq_some_iff.1 hk).1
  have hd : l.drop j = k :: l.drop (j + 1) := by
    rw [List.drop_eq_getElem_cons hj]
    rw [List.getElem?_eq_getElem hj] at hk
    injection hk with hk
    rw [hk]
  have hz := h.zero rfl
  rw [hd, newM] at hz
  rw [h.sy.addE k]
  refine ⟨h.sy.add k, ?_, fun e => ?_, fun e => ?_⟩
  · unfold addT
    split
    · rw [List.length_append, List.length_singleton]; have := h.few; omega
    · have := h.few; omega
  · rw [if_pos e] at hz
    rw [hz]
    unfold addT
    rw [if_pos e]
  · rw [if_neg e] at hz
    rw [hz]
theorem Fold.done {l : List GKey} {want : Int} {ks rs : List GKey} (h : Fold l l.length want ks rs) : (newM [] l).1 = want ∧ (want = 0 → (newM [] l).2 = ks) := by
  by_cases e : want = 0
  · have := h.zero e
    rw [List.drop_length] at this
    rw [this]
    exact ⟨e.symm, fun _ => rfl⟩
  · exact ⟨h.other e, fun h => absurd h e⟩

theorem RTab.grown {w w' : World} {rb base : Nat} {v : Value} {rs xs : List GKey} (h : RTab w rb rs) (ho : Own2 kI1 kI2 48 w base v xs) (hg : w.grownBy w' v.ownBlock) : RTab w' rb rs := by
  have hne : ∀ k cs T, w.heap[k]? = some (.cells cs T (0, 0)) → T ≠ 48 → ¬ some k = v.ownBlock := by
    intro k cs T hk hT e
    rcases ho.2 with ⟨rfl, _⟩ | ⟨g, cap, cur, rfl, _, hb, _⟩
    · cases e
    · injection e with e
      have e' : k = g := e
      rw [e', hb] at hk
      injection hk with hk
      injection hk with _ hk _
      exact hT hk.symm
  obtain ⟨u, h1, h2, h3⟩ := h.head
  refine ⟨u, (hg.block rb (heap_lt h1) (hne _ _ _ h1 (by decide))).trans h1, h2, h3.imp id ?_⟩
  rintro ⟨g, cap, cur, k1, k2, k3, k4⟩
  exact ⟨g, cap, cur, k1, k2, (hg.block g (heap_lt k3) (hne _ _ _ k3 (by decide))).trans k3, k4⟩
theorem own_fr {w w' : World} {rb base : Nat} {v : Value} {rs xs : List GKey} (ho : Own2 kI1 kI2 48 w base v xs) (h : RTab w rb rs) (f : Fr (fun i => i = rb) w w') : Own2 kI1 kI2 48 w' base v xs := by
  obtain ⟨u, h1, _⟩ := h.head
  refine ⟨ho.1, ho.2.imp id ?_⟩
  rintro ⟨g, cap, cur, k1, k2, k3, k4⟩
  refine ⟨g, cap, cur, k1, k2, f.at_ k3 ?_, k4⟩
  rintro rfl
  rw [h1] at k3
  injection k3 with k3
  injection k3 with _ k3 _
  exact absurd k3 (by decide)

def KAt (w : World) (A : Option Addr) (xs : List GKey) : Prop := KeysAt w A xs

structure NwInv (l : List GKey) (w w2 : World) (rb : Nat) (M : Nat) (gk : Nat) (o n v : Value) (wr : World) (j : Nat) (want : Int) (ks rs : List GKey) : Prop where
  hi : j ≤ M
  slot : v = .int .i64 j
  num : n = .int .i64 want
  ghost : gk + j = M
  own : Own2 kI1 kI2 48 wr w2.heap.size o (l.take j)
  ref : RTab wr rb rs
  fold : Fold l j want ks rs
  fr : Fr (fun i => i = rb) w2 wr
  bel : Below w.heap.size w wr
def NwRel (l : List GKey) (w w2 : World) (rb : Nat) (M : Nat) (gk : Nat) (o n v : Value) (wr : World) : Prop := ∃ j want ks rs, NwInv l w w2 rb M gk o n v wr j want ks rs
theorem fr_then {S : Nat → Prop} {w w' w'' : World} (f : Fr S w w') (hb : Below w.heap.size w' w'') : Fr S w w'' :=
  ⟨hb.os.trans f.os, hb.tape.trans f.tape, hb.output.trans f.output, Nat.le_trans f.size hb.size, fun i hi hs => (hb.block i hi).trans (f.block i hi hs)⟩
theorem bel_of {w w2 wr : World} {rb : Nat} (hb : Below w.heap.size w w2) (f : Fr (fun i => i = rb) w2 wr) (hr : w.heap.size ≤ rb) : Below w.heap.size w wr :=
  hb.trans (f.below hb.size (fun k hk e => by omega))

set_option maxHeartbeats 16000000 in
set_option maxRecDepth 100000 in
theorem law (A : Option Addr) (cc : Nat) (xs : List GKey) (ask : GKey) (w : World) (hE : KeysAt w A xs) (hcc : xs.length ≤ cc) (hm : xs.length ≤ 9223372036854775807) (hok : okK ask) (hoks : ∀ x ∈ xs, okK x) :
    Calls Try.prog 7 #[.slice A xs.length cc, .agg #[.int .i64 ask.c, .string ask.f]] w fun e w' => e = .returned (.bool true) ∧ Below w.heap.size w w' := by
  obtain ⟨M, hM⟩ : ∃ M : Nat, min xs.length 40 = M := ⟨_, rfl⟩
  have hMi : min (xs.length : Int) 40 = (M : Int) := by omega
  have hM1 : M ≤ xs.length := by omega
  have hM40 : M ≤ 40 := by omega
  have hMc : M ≤ cc := by omega
  obtain ⟨l, hl⟩ : ∃ l, xs.take M = l := ⟨_, rfl⟩
  have hll : l.length = M := by rw [← hl, List.length_take]; omega
  have hle : KeysAt w A l := fun i e hi => by
    rw [← hl, List.getElem?_take] at hi
    split at hi
    · exact hE i e hi
    · cases hi
  have hlo : ∀ k ∈ l, okK k := fun k hk => hoks k (List.mem_of_mem_take (by rw [hl]; exact hk))
  have HE := Lib.hid hle
  have HLL := Lib.hid hll
  have HOK := Lib.hid hok
  have HOKS := Lib.hid hlo
  obtain ⟨w1, hw1⟩ : ∃ w1, w.alloc (.cells #[.int .i64 ask.c, .string ask.f] 36) = w1 := ⟨_, rfl⟩
  have hb1 : Below w.heap.size w w1 := by rw [← hw1]; exact (Below.refl _ _).alloc (Nat.le_refl _) _
  have hq1 := cells_two w (.int .i64 ask.c) (.string ask.f) 36
  rw [hw1] at hq1
  obtain ⟨qa, hqa⟩ : ∃ qa, w.heap.size = qa := ⟨_, rfl⟩
  obtain ⟨w2, hw2⟩ : ∃ w2, w1.alloc (.cells #[.slice none 0 0] 44) = w2 := ⟨_, rfl⟩
  have hb2 : Below w1.heap.size w1 w2 := by rw [← hw2]; exact (Below.refl _ _).alloc (Nat.le_refl _) _
  have hr2 : w2.heap[w1.heap.size]? = some (.cells #[.slice none 0 0] 44 (0, 0)) := by rw [← hw2]; exact heap_alloc_new _ _
  obtain ⟨rb, hrb⟩ : ∃ rb, w1.heap.size = rb := ⟨_, rfl⟩
  rw [hrb] at hr2
  have HR2 : Hid (RTab w2 rb []) := Lib.hid ⟨_, hr2, Own2.nil ..⟩
  clear hr2
  have HRB : Hid (w.heap.size < rb) := Lib.hid (by rw [← hrb, ← hw1]; simp)
  have HB2 := Lib.hid (hb1.trans (hb2.mono hb1.size))
  have HC0 := Lib.hid (pw_below hb2 hq1.1)
  have HC1 := Lib.hid (pw_below hb2 hq1.2)
  obtain ⟨i0, hi0, hz0, hz1, hz2⟩ := info_parts Co.infoKey
  have HI0 := Lib.hid hi0
  have HZ0 := Lib.hid hz0
  have HZ1 := Lib.hid hz1
  have HZ2 := Lib.hid hz2
  clear hle hok hoks hlo hb1 hq1 hM hl hll hE hb2 hi0 hz0 hz1 hz2
  go_enter Try.func7, Try.ntmps7
  go_wp2_with (first | (rw [hw1]) | (rw [hw2]))
  clear hw1 hw2 hrb
  go_loopg [5, 7, 21] M (fun gk o n v wr => NwRel l w w2 rb M gk o n v wr)
  case atStart => exact ⟨0, 0, [], [], Nat.zero_le _, rfl, rfl, rfl, Own2.nil .., HR2.out, Fold.start l, Fr.refl _ _, HB2.out⟩
  case round =>
    obtain ⟨j, want, ks, rs, hj, rfl, rfl, hg, hown, href, hfold, hfr, hbel⟩ := hrel
    have HG := Lib.hid hg
    have HO := Lib.hid hown
    have HR := Lib.hid href
    have HF := Lib.hid hfold
    have HFR := Lib.hid hfr
    have HBL := Lib.hid hbel
    clear hg hown href hfold hfr hbel
    by_cases hlt : j < M
    · have hI : (j : Int) < (M : Int) := by omega
      have hjl : j < l.length := by rw [HLL.out]; exact hlt
      obtain ⟨y, hy⟩ : ∃ y, l[j]? = some y := ⟨_, List.getElem?_eq_getElem hjl⟩
      obtain ⟨ad, rfl, hc1, hc2⟩ := HE.out j y hy
      have e1 := pw_below HBL.out hc1
      have e2 := pw_below HBL.out hc2
      have htake : l.take (j + 1) = l.take j ++ [y] := by
        rw [List.take_succ_eq_append_getElem hjl]
        rw [List.getElem?_eq_getElem hjl] at hy
        injection hy with hy
        rw [hy]
      have HTK := Lib.hid htake
      have HY := Lib.hid hy
      have htl : (l.take j).length ≤ 1000000 := by rw [List.length_take]; omega
      clear hy hc1 hc2 htake
      obtain ⟨yc, yf⟩ := y
      simp only at e1 e2
      obtain ⟨wb, hwb⟩ : ∃ wb, wr.alloc (.cells #[.int .i64 yc, .string yf] 36) = wb := ⟨_, rfl⟩
      have hbb : Below wr.heap.size wr wb := by rw [← hwb]; exact (Below.refl _ _).alloc (Nat.le_refl _) _
      have hk := cells_two wr (.int .i64 yc) (.string yf) 36
      rw [hwb] at hk
      obtain ⟨q, hq⟩ : ∃ q, wr.heap.size = q := ⟨_, rfl⟩
      rw [hq] at hk
      obtain ⟨k0, k1⟩ := hk
      obtain ⟨wc, hwc⟩ : ∃ wc, wb.alloc (.cells #[.int .i64 yc, .string yf] 48) = wc := ⟨_, rfl⟩
      have hbc : Below wb.heap.size wb wc := by rw [← hwc]; exact (Below.refl _ _).alloc (Nat.le_refl _) _
      have hs := cells_two wb (.int .i64 yc) (.string yf) 48
      rw [hwc] at hs
      obtain ⟨ab, hab⟩ : ∃ ab, wb.heap.size = ab := ⟨_, rfl⟩
      rw [hab] at hs
      have HS0 := Lib.hid hs.1
      have HS1 := Lib.hid hs.2
      have hbrc : Below wr.heap.size wr wc := hbb.trans (hbc.mono hbb.size)
      have HOc := Lib.hid (HO.out.below hbrc)
      have HRc := Lib.hid (HR.out.below hbrc)
      have HFc := Lib.hid (HFR.out.trans (Fr.of_below hbrc))
      have m0 := pw_below hbc k0
      have m1 := pw_below hbc k1
      clear hbb hbc hs hbrc
      by_cases hw : want = 0
      · subst hw
        go_wp2_with (first | (rw [hwb]) | (rw [hq]) | (rw [hwc]) | (rw [hab]) | (at_builtin; go_must ((refine wpList_append_o2 (e1 := kI1) (e2 := kI2) (T := 48) (t := 56) (bytes := 24) Try.underlying56 HI0.out HZ0.out HZ1.out HZ2.out rfl rfl (.tmp 25) (.tmp 27) rfl HOc.out HFc.out.size htl (by decide) rfl ab 1 ⟨yc, yf⟩ rfl HS0.out HS1.out rfl rfl ?_; intro v3 w3 ho3 hb3 hg3; rw [← HTK.out] at ho3; have HO3 := Lib.hid ho3; have HR3 := Lib.hid (RTab.grown HRc.out HOc.out hg3); have HF3 := Lib.hid (fr_then HFc.out hb3); have n0 := own_keep HO.out hg3 (show wr.heap.size ≤ q by omega) m0; have n1 := own_keep HO.out hg3 (show wr.heap.size ≤ q by omega) m1; clear ho3 hb3 hg3 hwb hwc hab m0 m1 k0 k1))))
        have hlen := HF.out.sy.len
        have hfew := HF.out.few
        refine (radd_any HR3.out ⟨yc, yf⟩ (by omega)).mono ?_
        rintro e w4 ⟨rfl, hr4, hf4⟩
        have HR4 := Lib.hid hr4
        have HO4 := Lib.hid (own_fr HO3.out HR3.out hf4)
        have HF4 := Lib.hid (HF3.out.trans hf4)
        have HB4 := Lib.hid (bel_of HB2.out HF4.out (Nat.le_of_lt HRB.out))
        have HFo := Lib.hid (HF.out.step HY.out)
        clear hr4 hf4 n0 n1 hlen hfew
        go_wp2_with fail
        go_roundg (gk - 1)
        case measure => have := HG.out; omega
        case rel => exact ⟨j + 1, _, _, _, by omega, by go_num, rfl, by have := HG.out; omega, HO4.out, HR4.out, HFo.out, HF4.out, HB4.out⟩
      · have hwb0 : (want == 0) = false := by simpa using hw
        have HFo := Lib.hid (HF.out.idle hw)
        clear hw
        go_wp2_with (first | (rw [hwb]) | (rw [hq]) | (rw [hwc]) | (rw [hab]) | (at_builtin; go_must ((refine wpList_append_o2 (e1 := kI1) (e2 := kI2) (T := 48) (t := 56) (bytes := 24) Try.underlying56 HI0.out HZ0.out HZ1.out HZ2.out rfl rfl (.tmp 25) (.tmp 27) rfl HOc.out HFc.out.size htl (by decide) rfl ab 1 ⟨yc, yf⟩ rfl HS0.out HS1.out rfl rfl ?_; intro v3 w3 ho3 hb3 hg3; rw [← HTK.out] at ho3; have HO3 := Lib.hid ho3; have HR3 := Lib.hid (RTab.grown HRc.out HOc.out hg3); have HF3 := Lib.hid (fr_then HFc.out hb3); have n0 := own_keep HO.out hg3 (show wr.heap.size ≤ q by omega) m0; have n1 := own_keep HO.out hg3 (show wr.heap.size ≤ q by omega) m1; clear ho3 hb3 hg3 hwb hwc hab m0 m1 k0 k1))))
        have HB4 := Lib.hid (bel_of HB2.out HF3.out (Nat.le_of_lt HRB.out))
        go_roundg (gk - 1)
        case measure => have := HG.out; omega
        case rel => exact ⟨j + 1, _, _, _, by omega, by go_num, rfl, by have := HG.out; omega, HO3.out, HR3.out, HFo.out, HF3.out, HB4.out⟩
    · obtain rfl : j = M := by omega
      have hall : l.take j = l := List.take_of_length_le (by rw [HLL.out]; exact Nat.le_refl _)
      have ho := HO.out
      rw [hall] at ho
      obtain ⟨A2, c2, rfl, hc2, hK2⟩ := ho.at2
      have hK3 : KeysAt wr A2 l := hK2
      have hn := new_any A2 c2 l wr hK3 (by rw [HLL.out]; omega) hc2 HOKS.out
      rw [HLL.out] at hn
      rw [HLL.out]
      clear ho hall hK2 hK3
      have hd := Fold.done (l := l) (by rw [HLL.out]; exact HF.out)
      have HD := Lib.hid hd
      have g0 := HFR.out.cell HC0.out (show ¬ w.heap.size = rb from Nat.ne_of_lt HRB.out)
      have g1 := HFR.out.cell HC1.out (show ¬ w.heap.size = rb from Nat.ne_of_lt HRB.out)
      rw [hqa] at g0 g1
      have G0 := Lib.hid g0
      have G1 := Lib.hid g1
      clear hd g0 g1
      go_wp2_with fail
      refine hn.mono ?_
      rintro e w3 ⟨hb3, h⟩
      have HB3 := Lib.hid (HBL.out.trans (hb3.mono HBL.out.size))
      have HR3 := Lib.hid (HR.out.below hb3)
      have g0 := pw_below hb3 G0.out
      have g1 := pw_below hb3 G1.out
      clear hb3 hn G0 G1
      by_cases hw : want = 0
      · rcases h with ⟨h, _⟩ | ⟨_, tb, mb, _, _, rfl, ht⟩
        · exact absurd (HD.out.1.trans hw) h
        rw [HD.out.2 hw] at ht
        have HT := Lib.hid ht
        subst hw
        clear ht
        go_wp2_with fail
        refine (wakes_any _).mono ?_
        rintro e w4 ⟨rfl, hb4⟩
        have HB4 := Lib.hid (HB3.out.trans (hb4.mono HB3.out.size))
        have HR4 := Lib.hid (HR3.out.below hb4)
        have HT4 := Lib.hid (HT.out.below hb4)
        have f40 := pw_below hb4 g0
        have f41 := pw_below hb4 g1
        clear hb4 g0 g1
        go_wp2_with fail
        refine (add_nil ask _).mono ?_
        rintro e w5 ⟨rfl, hb5⟩
        have HB5 := Lib.hid (HB4.out.trans (hb5.mono HB4.out.size))
        have HR5 := Lib.hid (HR4.out.below hb5)
        have HT5 := Lib.hid (HT4.out.below hb5)
        have f50 := pw_below hb5 f40
        have f51 := pw_below hb5 f41
        clear hb5 f40 f41
        go_wp2_with fail
        refine (drop_nil ask _).mono ?_
        rintro e w6 ⟨rfl, hb6⟩
        have HB6 := Lib.hid (HB5.out.trans (hb6.mono HB5.out.size))
        have HR6 := Lib.hid (HR5.out.below hb6)
        have HT6 := Lib.hid (HT5.out.below hb6)
        have f60 := pw_below hb6 f50
        have f61 := pw_below hb6 f51
        clear hb6 f50 f51
        go_wp2_with fail
        refine (has_nil ask _).mono ?_
        rintro e w7 ⟨rfl, hb7⟩
        have HB7 := Lib.hid (HB6.out.trans (hb7.mono HB6.out.size))
        have HR7 := Lib.hid (HR6.out.below hb7)
        have HT7 := Lib.hid (HT6.out.below hb7)
        have f70 := pw_below hb7 f60
        have f71 := pw_below hb7 f61
        clear hb7 f60 f61
        go_wp2_with fail
        refine (list_nil _).mono ?_
        rintro e w8 ⟨rfl, hb8⟩
        have HB8 := Lib.hid (HB7.out.trans (hb8.mono HB7.out.size))
        have HR8 := Lib.hid (HR7.out.below hb8)
        have HT8 := Lib.hid (HT7.out.below hb8)
        have f80 := pw_below hb8 f70
        have f81 := pw_below hb8 f71
        clear hb8 f70 f71
        go_wp2_with fail
        have hfew := HF.out.few
        refine (same_any HT8.out HR8.out HF.out.sy (by omega)).mono ?_
        rintro e w9 ⟨rfl, hb9⟩
        have HB9 := Lib.hid (HB8.out.trans (hb9.mono HB8.out.size))
        clear hb9 f80 f81
        go_wp2_with fail
        refine bodyPost_ret (v := .bool true) (by simp [results, Try.results7, go_sem]) rfl ⟨rfl, HB9.out⟩
      · rcases h with ⟨_, rfl⟩ | ⟨h, _⟩
        · rw [HD.out.1]
          have hw0 : (want == 0) = false := by simpa using hw
          go_wp2_with fail
          refine (wakes_any _).mono ?_
          rintro e w4 ⟨rfl, hb4⟩
          have HB4 := Lib.hid (HB3.out.trans (hb4.mono HB3.out.size))
          have HR4 := Lib.hid (HR3.out.below hb4)
          have f40 := pw_below hb4 g0
          have f41 := pw_below hb4 g1
          clear hb4 g0 g1
          go_wp2_with fail
          refine (add_nil ask _).mono ?_
          rintro e w5 ⟨rfl, hb5⟩
          have HB5 := Lib.hid (HB4.out.trans (hb5.mono HB4.out.size))
          have HR5 := Lib.hid (HR4.out.below hb5)
          have f50 := pw_below hb5 f40
          have f51 := pw_below hb5 f41
          clear hb5 f40 f41
          go_wp2_with fail
          refine (drop_nil ask _).mono ?_
          rintro e w6 ⟨rfl, hb6⟩
          have HB6 := Lib.hid (HB5.out.trans (hb6.mono HB5.out.size))
          have HR6 := Lib.hid (HR5.out.below hb6)
          have f60 := pw_below hb6 f50
          have f61 := pw_below hb6 f51
          clear hb6 f50 f51
          go_wp2_with fail
          refine (has_nil ask _).mono ?_
          rintro e w7 ⟨rfl, hb7⟩
          have HB7 := Lib.hid (HB6.out.trans (hb7.mono HB6.out.size))
          have HR7 := Lib.hid (HR6.out.below hb7)
          have f70 := pw_below hb7 f60
          have f71 := pw_below hb7 f61
          clear hb7 f60 f61
          go_wp2_with fail
          refine (list_nil _).mono ?_
          rintro e w8 ⟨rfl, hb8⟩
          have HB8 := Lib.hid (HB7.out.trans (hb8.mono HB7.out.size))
          have HR8 := Lib.hid (HR7.out.below hb8)
          have f80 := pw_below hb8 f70
          have f81 := pw_below hb8 f71
          clear hb8 f70 f71
          go_wp2_with fail
          refine bodyPost_ret (v := .bool true) (by simp [results, Try.results7, go_sem]) rfl ⟨rfl, HB8.out⟩
        · exact absurd (HD.out.1.symm.trans h) hw

def keyK : Kd (Int × ByteArray) := Kd.pair (Kd.int .i64) Kd.string
def toK (x : Int × ByteArray) : GKey := ⟨x.1, x.2⟩
theorem keys_of {w : World} {A : Option Addr} {n : Nat} {xs : List (Int × ByteArray)} (h : keyK.C w A n xs) : KeysAt w A (xs.map toK) := by
  obtain ⟨hl, _, hc⟩ := h
  intro i e hi
  rw [List.getElem?_map] at hi
  cases he : xs[i]? with
  | none => rw [he] at hi; cases hi
  | some e0 =>
    rw [he] at hi
    injection hi with hi
    subst hi
    have hil := (List.getElem?_eq_some_iff.1 he).1
    obtain ⟨ad, ha, hc⟩ := hc (by omega)
    obtain ⟨c, _, hr, hcell⟩ := hc i e0 he
    obtain ⟨c2, c3, rfl, h2, h3⟩ := hr
    obtain rfl : c2 = [.int .i64 e0.1] := h2
    obtain rfl : c3 = [.string e0.2] := h3
    refine ⟨ad, ha, hcell 0 _ rfl, ?_⟩
    exact (congrArg w.cell? (add_field ad (i * 2) 1 (by decide))).symm.trans (hcell 1 _ rfl)

theorem law2 (A : Option Addr) (cc : Nat) (xs : List (Int × ByteArray)) (a : Int) (b : ByteArray) (w : World) (hC : keyK.C w A xs.length xs) (hcc : xs.length ≤ cc) (ha : (Lit.int .i64 a).wf = true) (hb : b.size ≤ 140737488351232) (hoks : ∀ x ∈ xs, (Lit.int .i64 x.1).wf = true ∧ x.2.size ≤ 140737488351232) :
    Calls Try.prog 7 #[.slice A xs.length cc, .agg #[.int .i64 a, .string b]] w fun e w' => e = .returned (.bool true) ∧ Below w.heap.size w w' := by
  have h := law A cc (xs.map toK) ⟨a, b⟩ w (keys_of hC) (by rw [List.length_map]; exact hcc) (by rw [List.length_map]; exact hC.2.1) ⟨ha, by show b.size ≤ maxLen; unfold maxLen; omega⟩ (fun x hx => by
    obtain ⟨y, hy, rfl⟩ := List.mem_map.1 hx
    have := hoks y hy
    exact ⟨this.1, by have := this.2; show y.2.size ≤ maxLen; unfold maxLen; omega⟩)
  rw [List.length_map] at h
  exact h

end Go.Proofs.Ytifdfhonhphojaa.Gn
