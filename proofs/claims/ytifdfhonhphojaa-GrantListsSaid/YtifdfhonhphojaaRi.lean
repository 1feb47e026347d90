/- The document's in, with. -/
import Derived.Test.YtifdfhonhphojaaRw
import Derived.Test.YtifdfhonhphojaaOi
namespace Go.Proofs.Ytifdfhonhphojaa.Ri
open Go Go.RowKit Go.Proofs.YtifdfhonhphojaaCore Go.Proofs.Ytifdfhonhphojaa.Fr Go.Proofs.Ytifdfhonhphojaa.Rp Go.Proofs.Ytifdfhonhphojaa.Rw Go.Proofs.Ytifdfhonhphojaa.Oi

/-- Numbers in line. -/
def IntsAt (w : World) (v : Value) (l : List Int) : Prop := ∃ A c, v = .slice A l.length c ∧ l.length ≤ c ∧ ∀ (i : Nat) (x : Int), l[i]? = some x → ∃ ad, A = some ad ∧ w.cell? (ad.add i) = some (.int .i64 x)
theorem IntsAt.below {w w' : World} {v : Value} {l : List Int} (h : IntsAt w v l) (hb : Below w.heap.size w w') : IntsAt w' v l := by
  obtain ⟨A, c, h1, h2, h3⟩ := h
  refine ⟨A, c, h1, h2, fun i x hi => ?_⟩
  obtain ⟨ad, h4, h5⟩ := h3 i x hi
  exact ⟨ad, h4, pw_below hb h5⟩
theorem IntsAt.owns {w : World} {base : Nat} {v : Value} {n : Nat} {l : List Int} (h : w.ownsRow base 3 1 v n (l.map (Value.int .i64))) : l.length = n ∧ IntsAt w v l := by
  have hl := h.1
  rw [List.length_map, Nat.mul_one] at hl
  refine ⟨hl, ?_⟩
  rcases h.2 with ⟨rfl, rfl⟩ | ⟨g, cap, cur, rfl, hg, hb, hn, hm, hs, ht⟩
  · refine ⟨none, 0, by rw [hl], by omega, fun i x hi => ?_⟩
    have := (List.getElem?_eq_some_iff.1 hi).1
    omega
  · refine ⟨_, cap, by rw [hl], by omega, fun i x hi => ⟨_, rfl, ?_⟩⟩
    rw [Addr.add_plain0]
    have hil := (List.getElem?_eq_some_iff.1 hi).1
    have h1 : (l.map (Value.int .i64))[i]? = some (.int .i64 x) := by rw [List.getElem?_map, hi]; rfl
    unfold World.cell?
    rw [hb]
    show cur[i]? = _
    rw [← ht, List.getElem?_take_of_lt (by omega), Array.getElem?_toList] at h1
    exact h1

structure InInv (l : List Int) (x : Int) (gk : Nat) (v : Value) (j : Nat) : Prop where
  hi : j ≤ l.length
  slot : v = .int .i64 j
  ghost : gk + j = l.length
  none : ¬ x ∈ l.take j
set_option maxHeartbeats 4000000 in
set_option maxRecDepth 100000 in
theorem in_any {v : Value} {l : List Int} {w : World} (h : IntsAt w v l) (x : Int) (hl : l.length ≤ 1000000) : Calls Try.prog 25 #[v, .int .i64 x] w fun e w' => e = .returned (.bool (decide (x ∈ l))) ∧ w' = w := by
  obtain ⟨A, c, rfl, hc, hcells⟩ := h
  have HC := Lib.hid hcells
  obtain ⟨M, hM⟩ : ∃ M, l.length = M := ⟨_, rfl⟩
  have HM := Lib.hid hM
  rw [hM] at hl hc
  rw [hM]
  clear hcells hM
  go_enter Try.func25, Try.ntmps25
  go_wp2_with fail
  go_loopg [5] M (fun gk v wr => (∃ j, InInv l x gk v j) ∧ wr = w)
  case atStart => exact ⟨⟨0, Nat.zero_le _, rfl, by rw [HM.out]; rfl, by simp⟩, rfl⟩
  case round =>
    obtain ⟨⟨j, hj, rfl, hg, hno⟩, rfl⟩ := hrel
    rw [HM.out] at hj hg
    have HG := Lib.hid hg
    have HNO := Lib.hid hno
    clear hg hno
    by_cases hlt : j < M
    · have hI : (j : Int) < (M : Int) := by omega
      have hjl : j < l.length := by rw [HM.out]; exact hlt
      obtain ⟨y, hy⟩ : ∃ y, l[j]? = some y := ⟨_, List.getElem?_eq_getElem hjl⟩
      obtain ⟨ad, rfl, hcell⟩ := HC.out j y hy
      have HY := Lib.hid hy
      clear hy
      by_cases hxy : y = x
      · have hb : (y == x) = true := by simpa using hxy
        have hin : decide (x ∈ l) = true := by
          have := List.mem_of_getElem? HY.out
          rw [hxy] at this
          simpa using this
        have HIN := Lib.hid hin
        clear hin hxy
        go_wp2_with fail
        refine bodyPost_ret (v := .bool true) (by simp [results, Try.results25, go_sem]) rfl ⟨by rw [HIN.out], rfl⟩
      · have hb : (y == x) = false := by simpa using hxy
        have hn : ¬ x ∈ l.take (j + 1) := by
          rw [List.take_succ_eq_append_getElem hjl, List.mem_append, List.mem_singleton]
          rintro (h | h)
          · exact HNO.out h
          · have := HY.out
            rw [List.getElem?_eq_getElem hjl] at this
            injection this with this
            exact hxy (by rw [h, this])
        have HN := Lib.hid hn
        clear hn hxy
        go_wp2_with fail
        go_roundg (gk - 1)
        case measure => have := HG.out; omega
        case rel => exact ⟨⟨j + 1, by rw [HM.out]; omega, by go_num, by have := HG.out; rw [HM.out]; omega, HN.out⟩, rfl⟩
    · obtain rfl : j = M := by omega
      have hin : decide (x ∈ l) = false := by
        have := HNO.out
        rw [List.take_of_length_le (by rw [HM.out]; exact Nat.le_refl _)] at this
        simpa using this
      have HIN := Lib.hid hin
      clear hin
      go_wp2_with fail
      refine bodyPost_ret (v := .bool false) (by simp [results, Try.results25, go_sem]) rfl ⟨by rw [HIN.out], rfl⟩

/-- Does none of these stand behind x? -/
def noneAbove (l : List Int) (x : Int) : Prop := ∀ y ∈ l, ¬ x < y
theorem ins_none {l : List Int} {x : Int} (h : noneAbove l x) : ins l x = l ++ [x] := by
  induction l with
  | nil => rfl
  | cons y r ih =>
    unfold ins
    rw [if_neg (h y (List.mem_cons_self ..)), ih (fun z hz => h z (List.mem_cons_of_mem _ hz))]
    rfl
theorem ins_none_lt {l : List Int} {x z : Int} (h : noneAbove l x) (hz : x < z) : ins (l ++ [z]) x = l ++ [x] ++ [z] := by
  induction l with
  | nil => simp [ins, hz]
  | cons y r ih =>
    rw [List.cons_append, ins, if_neg (h y (List.mem_cons_self ..)), ih (fun w hw => h w (List.mem_cons_of_mem _ hw))]
    rfl
theorem ins_some {l : List Int} {x z : Int} (h : ¬ noneAbove l x) : ins (l ++ [z]) x = ins l x ++ [z] := by
  induction l with
  | nil => exact absurd (fun y hy => by cases hy) h
  | cons y r ih =>
    rw [List.cons_append]
    unfold ins
    by_cases hc : x < y
    · rw [if_pos hc, if_pos hc]; rfl
    · rw [if_neg hc, if_neg hc, ih (fun hn => h (fun w hw => by
        rcases List.mem_cons.1 hw with rfl | hw
        · exact hc
        · exact hn w hw))]
      rfl
theorem ins_len (l : List Int) (x : Int) : (ins l x).length = l.length + 1 := by
  induction l with
  | nil => rfl
  | cons y r ih =>
    unfold ins
    split
    · rfl
    · rw [List.length_cons, ih, List.length_cons]

structure WInv (l : List Int) (x : Int) (w : World) (gk : Nat) (o p v : Value) (wr : World) (j : Nat) (out : List Int) (b : Bool) : Prop where
  hi : j ≤ l.length
  slot : v = .int .i64 j
  flag : p = .bool b
  ghost : gk + j = l.length
  no : b = false → noneAbove (l.take j) x ∧ out = l.take j
  yes : b = true → ¬ noneAbove (l.take j) x ∧ out = ins (l.take j) x
  own : OwnI 3 wr w.heap.size o out
  bel : Below w.heap.size w wr
def WRel (l : List Int) (x : Int) (w : World) (gk : Nat) (o p v : Value) (wr : World) : Prop := ∃ j out b, WInv l x w gk o p v wr j out b

set_option maxHeartbeats 16000000 in
set_option maxRecDepth 100000 in
theorem with_any {v : Value} {l : List Int} {w : World} (h : IntsAt w v l) (x : Int) (hl : l.length ≤ 1000000) :
    Calls Try.prog 26 #[v, .int .i64 x] w fun e w' => ∃ v', e = .returned v' ∧ OwnI 3 w' w.heap.size v' (ins l x) ∧ Below w.heap.size w w' := by
  obtain ⟨A, c, rfl, hc, hcells⟩ := h
  have HC := Lib.hid hcells
  obtain ⟨M, hM⟩ : ∃ M, l.length = M := ⟨_, rfl⟩
  have HM := Lib.hid hM
  rw [hM] at hl hc
  rw [hM]
  obtain ⟨i0, hi0, hz0, hz1, hz2⟩ := info_parts infoInt
  have HI0 := Lib.hid hi0
  have HZ0 := Lib.hid hz0
  have HZ1 := Lib.hid hz1
  have HZ2 := Lib.hid hz2
  clear hcells hM hi0 hz0 hz1 hz2
  go_enter Try.func26, Try.ntmps26
  go_wp2_with fail
  go_loopg [5, 6, 7] M (fun gk o p v wr => WRel l x w gk o p v wr)
  case atStart => exact ⟨0, [], false, ⟨Nat.zero_le _, rfl, rfl, by rw [HM.out]; rfl, fun _ => ⟨fun y hy => by simp at hy, by simp⟩, fun h => (by cases h), OwnI.nil _ _ _, Below.refl _ _⟩⟩
  case round =>
    obtain ⟨j, out, b, hj, rfl, rfl, hg, hno, hyes, hown, hbel⟩ := hrel
    rw [HM.out] at hj hg
    have HG := Lib.hid hg
    have HNO := Lib.hid hno
    have HYES := Lib.hid hyes
    have HO0 := Lib.hid hown
    have HBL0 := Lib.hid hbel
    have hol : out.length ≤ 1000001 := by
      cases b with
      | false => rw [(hno rfl).2, List.length_take]; omega
      | true => rw [(hyes rfl).2, ins_len, List.length_take]; omega
    clear hg hno hyes hown hbel
    by_cases hlt : j < M
    · have hI : (j : Int) < (M : Int) := by omega
      have hjl : j < l.length := by rw [HM.out]; exact hlt
      obtain ⟨y, hy⟩ : ∃ y, l[j]? = some y := ⟨_, List.getElem?_eq_getElem hjl⟩
      obtain ⟨ad, rfl, hcell0⟩ := HC.out j y hy
      have htake : l.take (j + 1) = l.take j ++ [y] := by
        rw [List.take_succ_eq_append_getElem hjl]
        rw [List.getElem?_eq_getElem hjl] at hy
        injection hy with hy
        rw [hy]
      have HT := Lib.hid htake
      have hcell := pw_below HBL0.out hcell0
      clear hy htake
      cases b with
      | true =>
        have hb6A : Below wr.heap.size wr (wr.alloc (.cells #[.int .i64 y] 3)) := (Below.refl _ _).alloc (Nat.le_refl _) _
        have hc6A := cell_one wr (.int .i64 y) 3
        have ho6A := HO0.out.below hb6A
        obtain ⟨w6A, hw6A⟩ : ∃ w6A, wr.alloc (.cells #[.int .i64 y] 3) = w6A := ⟨_, rfl⟩
        obtain ⟨a6A, ha6A⟩ : ∃ a6A, wr.heap.size = a6A := ⟨_, rfl⟩
        rw [hw6A] at hb6A hc6A ho6A
        rw [ha6A] at hc6A
        have HBL6A := Lib.hid (HBL0.out.trans (hb6A.mono HBL0.out.size))
        have HC6A := Lib.hid hc6A
        have HO6A := Lib.hid ho6A
        clear hb6A hc6A ho6A
        go_wp2_with (first | (rw [hw6A]) | (rw [ha6A]) | (at_builtin; go_must ((refine wpList_append_oi (T := 3) (t := 27) Try.underlying27 HI0.out HZ0.out HZ1.out HZ2.out rfl rfl _ _ rfl HO6A.out HBL6A.out.size (by omega) rfl ⟨a6A, 0, none⟩ 1 _ rfl HC6A.out ?_; intro vA wA hoA hbA; have HOA := Lib.hid hoA; have HBLA := Lib.hid (HBL6A.out.trans hbA); have hnlA := pw_below (HBLA.out) hcell0; clear hoA hbA hw6A ha6A))))
        have hfin : ¬ noneAbove (l.take (j + 1)) x ∧ out ++ [y] = ins (l.take (j + 1)) x := by
          obtain ⟨h1, h2⟩ := HYES.out (by simp)
          refine ⟨fun hn => h1 (fun z hz => hn z (by rw [HT.out]; exact List.mem_append_left _ hz)), ?_⟩
          rw [HT.out, ins_some h1, h2]
        have HF := Lib.hid hfin
        clear hfin
        go_wp2_with fail
        go_roundg (gk - 1)
        case measure => have := HG.out; omega
        case rel => exact ⟨j + 1, out ++ [y], true, ⟨by rw [HM.out]; omega, by go_num, rfl, by have := HG.out; rw [HM.out]; omega, fun h => (by cases h), fun _ => HF.out, HOA.out, HBLA.out⟩⟩
      | false =>
        by_cases hxy : x < y
        · skip
          have hb6A : Below wr.heap.size wr (wr.alloc (.cells #[.int .i64 x] 3)) := (Below.refl _ _).alloc (Nat.le_refl _) _
          have hc6A := cell_one wr (.int .i64 x) 3
          have ho6A := HO0.out.below hb6A
          obtain ⟨w6A, hw6A⟩ : ∃ w6A, wr.alloc (.cells #[.int .i64 x] 3) = w6A := ⟨_, rfl⟩
          obtain ⟨a6A, ha6A⟩ : ∃ a6A, wr.heap.size = a6A := ⟨_, rfl⟩
          rw [hw6A] at hb6A hc6A ho6A
          rw [ha6A] at hc6A
          have HBL6A := Lib.hid (HBL0.out.trans (hb6A.mono HBL0.out.size))
          have HC6A := Lib.hid hc6A
          have HO6A := Lib.hid ho6A
          clear hb6A hc6A ho6A
          go_wp2_with (first | (rw [hw6A]) | (rw [ha6A]) | (at_builtin; refine wpList_append_oi (T := 3) (t := 27) Try.underlying27 HI0.out HZ0.out HZ1.out HZ2.out rfl rfl (.tmp 24) (.tmp 26) rfl HO6A.out HBL6A.out.size (by omega) rfl ⟨a6A, 0, none⟩ 1 _ rfl HC6A.out ?_; intro vA wA hoA hbA; have HOA := Lib.hid hoA; have HBLA := Lib.hid (HBL6A.out.trans hbA); have hnlA := pw_below (HBLA.out) hcell0; clear hoA hbA hw6A ha6A; have hlA := (show (out ++ [x]).length ≤ 100000000 from by rw [List.length_append, List.length_singleton]; omega); have hb6B : Below wA.heap.size wA (wA.alloc (.cells #[.int .i64 y] 3)) := (Below.refl _ _).alloc (Nat.le_refl _) _; have hc6B := cell_one wA (.int .i64 y) 3; have ho6B := HOA.out.below hb6B; obtain ⟨w6B, hw6B⟩ : ∃ w6B, wA.alloc (.cells #[.int .i64 y] 3) = w6B := ⟨_, rfl⟩; obtain ⟨a6B, ha6B⟩ : ∃ a6B, wA.heap.size = a6B := ⟨_, rfl⟩; rw [hw6B] at hb6B hc6B ho6B; rw [ha6B] at hc6B; have HBL6B := Lib.hid (HBLA.out.trans (hb6B.mono HBLA.out.size)); have HC6B := Lib.hid hc6B; have HO6B := Lib.hid ho6B; clear hb6B hc6B ho6B) | (rw [hw6B]) | (rw [ha6B]) | (at_builtin; refine wpList_append_oi (T := 3) (t := 27) Try.underlying27 HI0.out HZ0.out HZ1.out HZ2.out rfl rfl (.tmp 28) (.tmp 33) rfl HO6B.out HBL6B.out.size hlA rfl ⟨a6B, 0, none⟩ 1 _ rfl HC6B.out ?_; intro vB wB hoB hbB; have HOB := Lib.hid hoB; have HBLB := Lib.hid (HBL6B.out.trans hbB); have hnlB := pw_below (HBLB.out) hcell0; clear hoB hbB hw6B ha6B))
          have hfin : ¬ noneAbove (l.take (j + 1)) x ∧ out ++ [x] ++ [y] = ins (l.take (j + 1)) x := by
            obtain ⟨h1, h2⟩ := HNO.out (by simp)
            refine ⟨fun hn => hn y (by rw [HT.out]; simp) hxy, ?_⟩
            rw [HT.out, ins_none_lt h1 hxy, h2]
          have HF := Lib.hid hfin
          clear hfin
          go_wp2_with fail
          go_roundg (gk - 1)
          case measure => have := HG.out; omega
          case rel => exact ⟨j + 1, _, true, ⟨by rw [HM.out]; omega, by go_num, rfl, by have := HG.out; rw [HM.out]; omega, fun h => (by cases h), fun _ => HF.out, HOB.out, HBLB.out⟩⟩
        · skip
          have hb6A : Below wr.heap.size wr (wr.alloc (.cells #[.int .i64 y] 3)) := (Below.refl _ _).alloc (Nat.le_refl _) _
          have hc6A := cell_one wr (.int .i64 y) 3
          have ho6A := HO0.out.below hb6A
          obtain ⟨w6A, hw6A⟩ : ∃ w6A, wr.alloc (.cells #[.int .i64 y] 3) = w6A := ⟨_, rfl⟩
          obtain ⟨a6A, ha6A⟩ : ∃ a6A, wr.heap.size = a6A := ⟨_, rfl⟩
          rw [hw6A] at hb6A hc6A ho6A
          rw [ha6A] at hc6A
          have HBL6A := Lib.hid (HBL0.out.trans (hb6A.mono HBL0.out.size))
          have HC6A := Lib.hid hc6A
          have HO6A := Lib.hid ho6A
          clear hb6A hc6A ho6A
          go_wp2_with (first | (rw [hw6A]) | (rw [ha6A]) | (at_builtin; go_must ((refine wpList_append_oi (T := 3) (t := 27) Try.underlying27 HI0.out HZ0.out HZ1.out HZ2.out rfl rfl _ _ rfl HO6A.out HBL6A.out.size (by omega) rfl ⟨a6A, 0, none⟩ 1 _ rfl HC6A.out ?_; intro vA wA hoA hbA; have HOA := Lib.hid hoA; have HBLA := Lib.hid (HBL6A.out.trans hbA); have hnlA := pw_below (HBLA.out) hcell0; clear hoA hbA hw6A ha6A))))
          have hfin : noneAbove (l.take (j + 1)) x ∧ out ++ [y] = l.take (j + 1) := by
            obtain ⟨h1, h2⟩ := HNO.out (by simp)
            refine ⟨fun z hz => ?_, by rw [HT.out, h2]⟩
            rw [HT.out, List.mem_append, List.mem_singleton] at hz
            rcases hz with hz | rfl
            · exact h1 z hz
            · exact fun hh => absurd hh (by simpa using hxy)
          have HF := Lib.hid hfin
          clear hfin
          go_wp2_with fail
          go_roundg (gk - 1)
          case measure => have := HG.out; omega
          case rel => exact ⟨j + 1, _, false, ⟨by rw [HM.out]; omega, by go_num, rfl, by have := HG.out; rw [HM.out]; omega, fun _ => HF.out, fun h => (by cases h), HOA.out, HBLA.out⟩⟩
    · obtain rfl : j = M := by omega
      have hcell0 : True := trivial
      have hall : l.take j = l := List.take_of_length_le (by rw [HM.out]; exact Nat.le_refl _)
      have HALL := Lib.hid hall
      clear hall
      cases b with
      | true =>
        have hfin : out = ins l x := by
          obtain ⟨_, h2⟩ := HYES.out (by simp)
          rw [h2, HALL.out]
        subst hfin
        go_wp2_with fail
        go_ret
        exact ⟨_, rfl, HO0.out, HBL0.out⟩
      | false =>
        have hfin : out ++ [x] = ins l x := by
          obtain ⟨h1, h2⟩ := HNO.out (by simp)
          rw [HALL.out] at h1 h2
          rw [h2, ins_none h1]
        have HF := Lib.hid hfin
        clear hfin
        have hb6A : Below wr.heap.size wr (wr.alloc (.cells #[.int .i64 x] 3)) := (Below.refl _ _).alloc (Nat.le_refl _) _
        have hc6A := cell_one wr (.int .i64 x) 3
        have ho6A := HO0.out.below hb6A
        obtain ⟨w6A, hw6A⟩ : ∃ w6A, wr.alloc (.cells #[.int .i64 x] 3) = w6A := ⟨_, rfl⟩
        obtain ⟨a6A, ha6A⟩ : ∃ a6A, wr.heap.size = a6A := ⟨_, rfl⟩
        rw [hw6A] at hb6A hc6A ho6A
        rw [ha6A] at hc6A
        have HBL6A := Lib.hid (HBL0.out.trans (hb6A.mono HBL0.out.size))
        have HC6A := Lib.hid hc6A
        have HO6A := Lib.hid ho6A
        clear hb6A hc6A ho6A
        go_wp2_with (first | (rw [hw6A]) | (rw [ha6A]) | (at_builtin; go_must ((refine wpList_append_oi (T := 3) (t := 27) Try.underlying27 HI0.out HZ0.out HZ1.out HZ2.out rfl rfl _ _ rfl HO6A.out HBL6A.out.size (by omega) rfl ⟨a6A, 0, none⟩ 1 _ rfl HC6A.out ?_; intro vA wA hoA hbA; rw [HF.out] at hoA; have HOA := Lib.hid hoA; have HBLA := Lib.hid (HBL6A.out.trans hbA); clear hoA hbA hw6A ha6A))))
        go_ret
        exact ⟨_, rfl, HOA.out, HBLA.out⟩

end Go.Proofs.Ytifdfhonhphojaa.Ri
