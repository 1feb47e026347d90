/- The document's table beside ours. (gen_rq.py put this text together.) -/
import Derived.Test.YtifdfhonhphojaaNw
import Derived.Test.YtifdfhonhphojaaO2
import Derived.Laws.StructEq
import Derived.Test.YtifdfhonhphojaaWEqStruct
import Derived.Test.YtifdfhonhphojaaWk
/- The document's table: Has, Add, Drop. -/
namespace Go.Proofs.Ytifdfhonhphojaa.Rt
open Go Go.RowKit Go.Proofs.YtifdfhonhphojaaCore Go.Proofs.Ytifdfhonhphojaa.Fr Go.Proofs.Ytifdfhonhphojaa.Mp Go.Proofs.Ytifdfhonhphojaa.Ky Go.Proofs.Ytifdfhonhphojaa.Ko Go.Proofs.Ytifdfhonhphojaa.Named Go.Proofs.Ytifdfhonhphojaa.Tb Go.Proofs.Ytifdfhonhphojaa.Nw Go.Proofs.Ytifdfhonhphojaa.Oi Go.Proofs.Ytifdfhonhphojaa.O2

def kI1 (k : GKey) : Value := .int .i64 k.c
def kI2 (k : GKey) : Value := .string k.f

theorem ba_loop (b : ByteArray) : ∀ (n i : Nat) (r : List UInt8), b.size - i = n → ByteArray.toList.loop b i r = r.reverse ++ b.data.toList.drop i := by
  intro n
  induction n with
  | zero =>
    intro i r h
    rw [ByteArray.toList.loop, if_neg (by omega), List.drop_of_length_le (by show b.data.size ≤ i; have : b.size = b.data.size := rfl; omega), List.append_nil]
  | succ n ih =>
    intro i r h
    have hi : i < b.data.size := by have : b.size = b.data.size := rfl; omega
    have hi2 : i < b.size := hi
    rw [ByteArray.toList.loop, if_pos hi2, ih _ _ (by omega), List.reverse_cons, List.append_assoc, List.drop_eq_getElem_cons (i := i) (by simpa using hi)]
    congr 1
    simp only [List.cons_append, List.nil_append]
    congr 1
    show b.data[i]! = _
    exact getElem!_pos b.data i hi
theorem ba_toList (b : ByteArray) : b.toList = b.data.toList := by
  unfold ByteArray.toList
  rw [ba_loop b _ 0 [] rfl]
  rfl

theorem ba_inj {a b : ByteArray} : a.toList = b.toList ↔ a = b := by
  refine ⟨fun h => ?_, fun h => by rw [h]⟩
  rw [ba_toList, ba_toList] at h
  exact ByteArray.ext (Array.toList_inj.1 h)
/-- Whether two keys are one, as the walk spells it. -/
theorem eq_if (a b : GKey) (w : World) : (if a.c = b.c then if a.f.toList = b.f.toList then Result.ok (Next.value (Value.bool true)) w else Result.ok (Next.value (Value.bool false)) w else Result.ok (Next.value (Value.bool false)) w) = Result.ok (Next.value (.bool (decide (a = b)))) w := by
  obtain ⟨ac, af⟩ := a
  obtain ⟨bc, bf⟩ := b
  simp only [ba_inj]
  by_cases h1 : ac = bc
  · by_cases h2 : af = bf
    · simp [h1, h2]
    · simp [h1, h2]
  · simp [h1]

/-- The document's table: its list, in a row of its own. -/
structure RTab (w : World) (rb : Nat) (rs : List GKey) : Prop where
  head : ∃ v, w.heap[rb]? = some (.cells #[v] 44 (0, 0)) ∧ Own2 kI1 kI2 50 w 0 v rs
theorem RTab.below {w w' : World} {rb : Nat} {rs : List GKey} (h : RTab w rb rs) (hb : Below w.heap.size w w') : RTab w' rb rs := by
  obtain ⟨v, h1, h2⟩ := h.head
  exact ⟨v, (hb.block rb (heap_lt h1)).trans h1, h2.below hb⟩
theorem RTab.cell {w : World} {rb : Nat} {rs : List GKey} (h : RTab w rb rs) : ∃ v, w.cell? ⟨rb, 0, none⟩ = some v ∧ w.heap[rb]? = some (.cells #[v] 44 (0, 0)) ∧ Own2 kI1 kI2 50 w 0 v rs := by
  obtain ⟨v, h1, h2⟩ := h.head
  exact ⟨v, by unfold World.cell?; rw [h1]; rfl, h1, h2⟩

structure HInv (l : List GKey) (x : GKey) (gk : Nat) (v : Value) (j : Nat) : Prop where
  hi : j ≤ l.length
  slot : v = .int .i64 j
  ghost : gk + j = l.length
  none : ¬ x ∈ l.take j

set_option maxHeartbeats 4000000 in
set_option maxRecDepth 100000 in
theorem rhas_any {w : World} {rb : Nat} {rs : List GKey} (h : RTab w rb rs) (k : GKey) (hl : rs.length ≤ 1000000) : Calls Try.prog 21 #[.pointer (some ⟨rb, 0, none⟩), .agg #[.int .i64 k.c, .string k.f]] w fun e w' => e = .returned (.bool (decide (k ∈ rs))) ∧ Below w.heap.size w w' := by
  obtain ⟨M, hM⟩ : ∃ M, rs.length = M := ⟨_, rfl⟩
  have HM := Lib.hid hM
  rw [hM] at hl
  obtain ⟨w1, hw1⟩ : ∃ w1, w.alloc (.cells #[.int .i64 k.c, .string k.f] 50) = w1 := ⟨_, rfl⟩
  have hb1 : Below w.heap.size w w1 := by rw [← hw1]; exact (Below.refl _ _).alloc (Nat.le_refl _) _
  have c01 := cells_two w (.int .i64 k.c) (.string k.f) 50
  rw [hw1] at c01
  obtain ⟨c0, c1⟩ := c01
  have C0 := Lib.hid c0
  have C1 := Lib.hid c1
  obtain ⟨v, ht, -, ho⟩ := (h.below hb1).cell
  obtain ⟨A, cp, rfl, hcp, hcells⟩ := ho.at2
  have HT := Lib.hid ht
  have HC := Lib.hid hcells
  have HB1 := Lib.hid hb1
  rw [hM] at hcp
  rw [hM] at HT
  clear h hM hcells hb1 ho ht c0 c1
  go_enter Try.func21, Try.ntmps21
  go_wp2_with (rw [hw1])
  go_loopg [5] M (fun gk v wr => (∃ j, HInv rs k gk v j) ∧ Below w1.heap.size w1 wr)
  case atStart => exact ⟨⟨0, Nat.zero_le _, rfl, by rw [HM.out]; rfl, by simp⟩, Below.refl _ _⟩
  case round =>
    obtain ⟨⟨j, hj, rfl, hg, hno⟩, hbw⟩ := hrel
    rw [HM.out] at hj hg
    have HG := Lib.hid hg
    have HNO := Lib.hid hno
    have HBW := Lib.hid hbw
    have ht := pw_below hbw HT.out
    have d0 := pw_below hbw C0.out
    have d1 := pw_below hbw C1.out
    clear hg hno hbw
    by_cases hlt : j < M
    · have hI : (j : Int) < (M : Int) := by omega
      have hjl : j < rs.length := by rw [HM.out]; exact hlt
      obtain ⟨y, hy⟩ : ∃ y, rs[j]? = some y := ⟨_, List.getElem?_eq_getElem hjl⟩
      obtain ⟨ad, rfl, hc1, hc2⟩ := HC.out j y hy
      have e1 := pw_below HBW.out hc1
      have e2 := pw_below HBW.out hc2
      have HY := Lib.hid hy
      clear hy hc1 hc2
      obtain ⟨yc, yf⟩ := y
      obtain ⟨kc, kf⟩ := k
      simp only [kI1, kI2] at e1 e2 d0 d1
      obtain ⟨b, hb⟩ : ∃ b, decide ((⟨yc, yf⟩ : GKey) = ⟨kc, kf⟩) = b := ⟨_, rfl⟩
      have hq := fun a => eq_if ⟨yc, yf⟩ ⟨kc, kf⟩ (wr.drewN a)
      simp only [hb] at hq
      have HQ := Lib.hid hq
      have HBB := Lib.hid hb
      clear hq hb
      go_wp2_with fail
      go_quiet ((rw [HQ.out]; exact ⟨rfl, rfl⟩))
      have hbn : Below w1.heap.size w1 (wr.drewN nq) := HBW.out.trans (Go.Proofs.YtifdfhonhphojaaCore.below_drewN _)
      have HBN := Lib.hid hbn
      clear hbn
      cases b with
      | true =>
        have hin : decide ((⟨kc, kf⟩ : GKey) ∈ rs) = true := by
          have h1 := List.mem_of_getElem? HY.out
          rw [of_decide_eq_true HBB.out] at h1
          simpa using h1
        have HIN := Lib.hid hin
        clear hin
        go_wp2_with fail
        refine bodyPost_ret (v := .bool true) (by simp [results, Try.results21, go_sem]) rfl ⟨by rw [HIN.out], HB1.out.trans (HBN.out.mono HB1.out.size)⟩
      | false =>
        have hn : ¬ (⟨kc, kf⟩ : GKey) ∈ rs.take (j + 1) := by
          rw [List.take_succ_eq_append_getElem hjl, List.mem_append, List.mem_singleton]
          rintro (h | h)
          · exact HNO.out h
          · have := HY.out
            rw [List.getElem?_eq_getElem hjl] at this
            injection this with this
            exact of_decide_eq_false HBB.out (by rw [h, this])
        have HN := Lib.hid hn
        clear hn
        go_wp2_with fail
        go_roundg (gk - 1)
        case measure => have := HG.out; omega
        case rel => exact ⟨⟨j + 1, by rw [HM.out]; omega, by go_num, by have := HG.out; rw [HM.out]; omega, HN.out⟩, HBN.out⟩
    · obtain rfl : j = M := by omega
      have hin : decide (k ∈ rs) = false := by
        have := HNO.out
        rw [List.take_of_length_le (by rw [HM.out]; exact Nat.le_refl _)] at this
        simpa using this
      have HIN := Lib.hid hin
      clear hin
      go_wp2_with fail
      refine bodyPost_ret (v := .bool false) (by simp [results, Try.results21, go_sem]) rfl ⟨by rw [HIN.out], HB1.out.trans (HBW.out.mono HB1.out.size)⟩

end Go.Proofs.Ytifdfhonhphojaa.Rt

/- The document's table: Drop. -/
namespace Go.Proofs.Ytifdfhonhphojaa.Rd
open Go Go.RowKit Go.Proofs.YtifdfhonhphojaaCore Go.Proofs.Ytifdfhonhphojaa.Fr Go.Proofs.Ytifdfhonhphojaa.Mp Go.Proofs.Ytifdfhonhphojaa.Ky Go.Proofs.Ytifdfhonhphojaa.Ko Go.Proofs.Ytifdfhonhphojaa.Named Go.Proofs.Ytifdfhonhphojaa.Tb Go.Proofs.Ytifdfhonhphojaa.Nw Go.Proofs.Ytifdfhonhphojaa.Oi Go.Proofs.Ytifdfhonhphojaa.O2 Go.Proofs.Ytifdfhonhphojaa.Rt

theorem infoRKey : (Try.prog.info? 50).map (fun i => (i.zero, i.size, i.bytes)) = some (some (.agg #[.int .i64 0, .string ⟨#[]⟩]), 2, 24) := by kernel_rfl

theorem ne_if (a b : GKey) (w : World) : (if a.c = b.c then if a.f.toList = b.f.toList then Result.ok (Next.value (Value.bool false)) w else Result.ok (Next.value (Value.bool true)) w else Result.ok (Next.value (Value.bool true)) w) = Result.ok (Next.value (.bool (!decide (a = b)))) w := by
  obtain ⟨ac, af⟩ := a
  obtain ⟨bc, bf⟩ := b
  simp only [ba_inj]
  by_cases h1 : ac = bc
  · by_cases h2 : af = bf
    · simp [h1, h2]
    · simp [h1, h2]
  · simp [h1]

theorem RTab.put {w : World} {rb B : Nat} {v v' : Value} {rs : List GKey} (hh : w.heap[rb]? = some (.cells #[v] 44 (0, 0))) (hB : rb < B) (ho : Own2 kI1 kI2 50 w B v' rs) : RTab (w.setCell ⟨rb, 0, none⟩ v') rb rs := by
  have h1 := heap_setCell_same w rb 0 #[v] 44 v' hh
  refine ⟨v', by rw [h1]; rfl, ho.1, ho.2.imp id ?_⟩
  rintro ⟨g, cap, cur, k1, k2, k3, k4⟩
  exact ⟨g, cap, cur, k1, Nat.zero_le _, (Below.heap_setCell w ⟨rb, 0, none⟩ v' g (by show g ≠ rb; omega)).trans k3, k4⟩

structure DInv (l : List GKey) (x : GKey) (W : World) (gk : Nat) (o v : Value) (wr : World) (j : Nat) : Prop where
  hi : j ≤ l.length
  slot : v = .int .i64 j
  ghost : gk + j = l.length
  own : Own2 kI1 kI2 50 wr W.heap.size o ((l.take j).filter fun y => decide (y ≠ x))
  bel : Below W.heap.size W wr

set_option maxHeartbeats 4000000 in
set_option maxRecDepth 100000 in
theorem rdrop_ok {w : World} {rb : Nat} {rs : List GKey} (h : RTab w rb rs) (k : GKey) (hl : rs.length ≤ 1000) (hin : k ∈ rs) : Calls Try.prog 16 #[.pointer (some ⟨rb, 0, none⟩), .agg #[.int .i64 k.c, .string k.f]] w fun e w' => e = .returned (.int .i64 0) ∧ RTab w' rb (rs.filter fun y => decide (y ≠ k)) ∧ Fr (fun i => i = rb) w w' := by
  obtain ⟨M, hM⟩ : ∃ M, rs.length = M := ⟨_, rfl⟩
  have HM := Lib.hid hM
  rw [hM] at hl
  obtain ⟨w1, hw1⟩ : ∃ w1, w.alloc (.cells #[.int .i64 k.c, .string k.f] 50) = w1 := ⟨_, rfl⟩
  have hb1 : Below w.heap.size w w1 := by rw [← hw1]; exact (Below.refl _ _).alloc (Nat.le_refl _) _
  have c01 := cells_two w (.int .i64 k.c) (.string k.f) 50
  rw [hw1] at c01
  obtain ⟨c0, c1⟩ := c01
  have HR1 := Lib.hid (h.below hb1)
  have HD : Hid (decide (k ∈ rs) = true) := Lib.hid (by simpa using hin)
  have HB1 := Lib.hid hb1
  clear h hM hb1 hin
  go_enter Try.func16, Try.ntmps16
  go_wp2_with (rw [hw1])
  have hh := rhas_any HR1.out k (by have := HM.out; omega)
  rw [HD.out] at hh
  refine hh.mono ?_
  rintro e w2 ⟨rfl, hb2⟩
  have d0 := pw_below hb2 c0
  have d1 := pw_below hb2 c1
  have C0 := Lib.hid d0
  have C1 := Lib.hid d1
  obtain ⟨v, ht, hhd, ho⟩ := (HR1.out.below hb2).cell
  obtain ⟨A, cp, rfl, hcp, hcells⟩ := ho.at2
  have HT := Lib.hid ht
  have HHD := Lib.hid hhd
  have HC := Lib.hid hcells
  have HB2 := Lib.hid (HB1.out.trans (hb2.mono HB1.out.size))
  rw [HM.out] at hcp
  rw [HM.out] at HT HHD
  clear hcells hb2 ho ht hhd c0 c1 d0 d1 hh
  go_wp2_with fail
  obtain ⟨i0, hi0, hz0, hz1, hz2⟩ := info_parts infoRKey
  have HI0 := Lib.hid hi0
  have HZ0 := Lib.hid hz0
  have HZ1 := Lib.hid hz1
  have HZ2 := Lib.hid hz2
  clear hi0 hz0 hz1 hz2
  go_loopg [6, 7] M (fun gk o v wr => ∃ j, DInv rs k w2 gk o v wr j)
  case atStart => exact ⟨0, Nat.zero_le _, rfl, by rw [HM.out]; rfl, Own2.nil .., Below.refl _ _⟩
  case round =>
    obtain ⟨j, hj, rfl, hg, hown, hbel⟩ := hrel
    rw [HM.out] at hj hg
    have HG := Lib.hid hg
    have ht := pw_below hbel HT.out
    have d0 := pw_below hbel C0.out
    have d1 := pw_below hbel C1.out
    have HO := Lib.hid hown
    have HBL := Lib.hid hbel
    have hol : ((rs.take j).filter fun y => decide (y ≠ k)).length ≤ 1000000 := by
      have h1 := List.length_filter_le (fun y => decide (y ≠ k)) (rs.take j)
      have h2 := List.length_take_le j rs
      omega
    clear hg hown hbel
    by_cases hlt : j < M
    · have hI : (j : Int) < (M : Int) := by omega
      have hjl : j < rs.length := by rw [HM.out]; exact hlt
      obtain ⟨y, hy⟩ : ∃ y, rs[j]? = some y := ⟨_, List.getElem?_eq_getElem hjl⟩
      obtain ⟨ad, rfl, hc1, hc2⟩ := HC.out j y hy
      have e1 := pw_below HBL.out hc1
      have e2 := pw_below HBL.out hc2
      have htake : rs.take (j + 1) = rs.take j ++ [y] := by
        rw [List.take_succ_eq_append_getElem hjl]
        rw [List.getElem?_eq_getElem hjl] at hy
        injection hy with hy
        rw [hy]
      have hflt : (rs.take (j + 1)).filter (fun y => decide (y ≠ k)) = (rs.take j).filter (fun y => decide (y ≠ k)) ++ (if y = k then [] else [y]) := by
        rw [htake, List.filter_append]
        by_cases h : y = k
        · simp [h]
        · simp [h]
      have HFL := Lib.hid hflt
      clear hy hc1 hc2 htake hflt
      obtain ⟨yc, yf⟩ := y
      obtain ⟨kc, kf⟩ := k
      simp only [kI1, kI2] at e1 e2 d0 d1
      obtain ⟨b, hb⟩ : ∃ b, decide ((⟨yc, yf⟩ : GKey) = ⟨kc, kf⟩) = b := ⟨_, rfl⟩
      have hq := fun a => ne_if ⟨yc, yf⟩ ⟨kc, kf⟩ (wr.drewN a)
      simp only [hb] at hq
      have HQ := Lib.hid hq
      have HBB := Lib.hid hb
      clear hq hb
      go_wp2_with fail
      go_quiet ((rw [HQ.out]; exact ⟨rfl, rfl⟩))
      obtain ⟨wd, hwd⟩ : ∃ wd, wr.drewN nq = wd := ⟨_, rfl⟩
      have hbd : Below wr.heap.size wr wd := by rw [← hwd]; exact Go.Proofs.YtifdfhonhphojaaCore.below_drewN _
      rw [hwd]
      have ht2 := pw_below hbd ht
      have f1 := pw_below hbd e1
      have f2 := pw_below hbd e2
      have HOd := Lib.hid (HO.out.below hbd)
      have HBd := Lib.hid (HBL.out.trans (hbd.mono HBL.out.size))
      clear ht d0 d1 e1 e2 hwd hbd
      cases b with
      | true =>
        have hfin : (rs.take (j + 1)).filter (fun y => decide (y ≠ (⟨kc, kf⟩ : GKey))) = (rs.take j).filter (fun y => decide (y ≠ (⟨kc, kf⟩ : GKey))) := by
          rw [HFL.out, if_pos (of_decide_eq_true HBB.out), List.append_nil]
        have HF := Lib.hid hfin
        clear hfin
        go_wp2_with fail
        go_roundg (gk - 1)
        case measure => have := HG.out; omega
        case rel => exact ⟨j + 1, by rw [HM.out]; omega, by go_num, by have := HG.out; rw [HM.out]; omega, by rw [HF.out]; exact HOd.out, HBd.out⟩
      | false =>
        have hfin : (rs.take (j + 1)).filter (fun y => decide (y ≠ (⟨kc, kf⟩ : GKey))) = (rs.take j).filter (fun y => decide (y ≠ (⟨kc, kf⟩ : GKey))) ++ [⟨yc, yf⟩] := by
          rw [HFL.out, if_neg (of_decide_eq_false HBB.out)]
        have HF := Lib.hid hfin
        clear hfin
        obtain ⟨wc, hwc⟩ : ∃ wc, wd.alloc (.cells #[.int .i64 yc, .string yf] 50) = wc := ⟨_, rfl⟩
        have hbc : Below wd.heap.size wd wc := by rw [← hwc]; exact (Below.refl _ _).alloc (Nat.le_refl _) _
        obtain ⟨g0, g1⟩ := cells_two wd (.int .i64 yc) (.string yf) 50
        rw [hwc] at g0 g1
        have HO2 := Lib.hid (HOd.out.below hbc)
        have HB3 := Lib.hid (HBd.out.trans (hbc.mono HBd.out.size))
        obtain ⟨ab, hab⟩ : ∃ ab, wd.heap.size = ab := ⟨_, rfl⟩
        rw [hab] at g0 g1
        have HG0 := Lib.hid g0
        have HG1 := Lib.hid g1
        clear hbc g0 g1
        go_wp2_with (first | (rw [hwc]) | (rw [hab]) | (at_builtin; go_must ((refine wpList_append_o2 (e1 := kI1) (e2 := kI2) (T := 50) (t := 42) (bytes := 24) Try.underlying42 HI0.out HZ0.out HZ1.out HZ2.out rfl rfl (.tmp 31) (.tmp 39) rfl HO2.out HB3.out.size hol (by decide) rfl ab 1 ⟨yc, yf⟩ rfl HG0.out HG1.out rfl rfl ?_; intro v3 w3 ho3 hb3 _; rw [← HF.out] at ho3; have HO3 := Lib.hid ho3; have HB4 := Lib.hid (HB3.out.trans hb3); clear ho3 hb3 hwc hab))))
        go_roundg (gk - 1)
        case measure => have := HG.out; omega
        case rel => exact ⟨j + 1, by rw [HM.out]; omega, by go_num, by have := HG.out; rw [HM.out]; omega, HO3.out, HB4.out⟩
    · obtain rfl : j = M := by omega
      have hall : rs.take j = rs := List.take_of_length_le (by rw [HM.out]; exact Nat.le_refl _)
      have ho := HO.out
      rw [hall] at ho
      have hlf := List.length_filter_le (fun y => decide (y ≠ k)) rs
      obtain ⟨rs', hrs⟩ : ∃ rs', rs.filter (fun y => decide (y ≠ k)) = rs' := ⟨_, rfl⟩
      rw [hrs] at ho hlf
      have HRS := Lib.hid hrs
      obtain ⟨n, hn⟩ : ∃ n, rs'.length = n := ⟨_, rfl⟩
      have hown := ho
      obtain ⟨A2, c2, rfl, -, -⟩ := ho.at2
      have HOF := Lib.hid hown
      have HH := Lib.hid ((HBL.out.block rb (heap_lt HHD.out)).trans HHD.out)
      have hlt := heap_lt HHD.out
      have hfz : wr.frozen? ⟨rb, 0, none⟩ = false := by unfold World.frozen?; rw [HH.out]; rfl
      have HLT := Lib.hid hlt
      rw [hn]
      rw [hn] at HOF
      clear hall ho hown hrs hlt hlf hn
      go_wp2_with fail
      refine bodyPost_ret (v := .int .i64 0) (by simp [results, Try.results16, go_sem]) rfl ⟨rfl, ?_, ?_⟩
      · rw [HRS.out]
        exact RTab.put HH.out HLT.out HOF.out
      · exact ((Fr.of_below HB2.out).trans (Fr.of_below HBL.out)).setAt rfl

set_option maxHeartbeats 4000000 in
set_option maxRecDepth 100000 in
theorem rdrop_no {w : World} {rb : Nat} {rs : List GKey} (h : RTab w rb rs) (k : GKey) (hl : rs.length ≤ 1000) (hin : ¬ k ∈ rs) : Calls Try.prog 16 #[.pointer (some ⟨rb, 0, none⟩), .agg #[.int .i64 k.c, .string k.f]] w fun e w' => e = .returned (.int .i64 13) ∧ Below w.heap.size w w' := by
  obtain ⟨w1, hw1⟩ : ∃ w1, w.alloc (.cells #[.int .i64 k.c, .string k.f] 50) = w1 := ⟨_, rfl⟩
  have hb1 : Below w.heap.size w w1 := by rw [← hw1]; exact (Below.refl _ _).alloc (Nat.le_refl _) _
  have c01 := cells_two w (.int .i64 k.c) (.string k.f) 50
  rw [hw1] at c01
  obtain ⟨c0, c1⟩ := c01
  have HR1 := Lib.hid (h.below hb1)
  have HD : Hid (decide (k ∈ rs) = false) := Lib.hid (by simpa using hin)
  have HB1 := Lib.hid hb1
  have HL := Lib.hid hl
  clear h hb1 hin hl
  go_enter Try.func16, Try.ntmps16
  go_wp2_with (rw [hw1])
  have hh := rhas_any HR1.out k (by have := HL.out; omega)
  rw [HD.out] at hh
  refine hh.mono ?_
  rintro e w2 ⟨rfl, hb2⟩
  have HB2 := Lib.hid (HB1.out.trans (hb2.mono HB1.out.size))
  clear hb2 c0 c1 hh
  go_wp2_with fail
  refine bodyPost_ret (v := .int .i64 13) (by simp [results, Try.results16, go_sem]) rfl ⟨rfl, HB2.out⟩

theorem rdrop_any {w : World} {rb : Nat} {rs : List GKey} (h : RTab w rb rs) (k : GKey) (hl : rs.length ≤ 1000) : Calls Try.prog 16 #[.pointer (some ⟨rb, 0, none⟩), .agg #[.int .i64 k.c, .string k.f]] w fun e w' => e = .returned (.int .i64 (dropE rs k)) ∧ RTab w' rb (rs.filter fun y => decide (y ≠ k)) ∧ Fr (fun i => i = rb) w w' := by
  unfold dropE
  by_cases c : k ∈ rs
  · rw [if_pos c]
    exact rdrop_ok h k hl c
  · rw [if_neg c]
    have e : rs.filter (fun y => decide (y ≠ k)) = rs := by
      refine List.filter_eq_self.2 (fun y hy => ?_)
      have : y ≠ k := by rintro rfl; exact c hy
      simpa using this
    rw [e]
    exact (rdrop_no h k hl c).mono fun _ _ ⟨he, hb⟩ => ⟨he, h.below hb, Fr.of_below hb⟩

end Go.Proofs.Ytifdfhonhphojaa.Rd

/- The document's table: Add. -/
namespace Go.Proofs.Ytifdfhonhphojaa.Ra
open Go Go.Lib Go.Sort Go.Proofs Go.RowKit Go.Proofs.YtifdfhonhphojaaCore Go.Proofs.Ytifdfhonhphojaa.Fr Go.Proofs.Ytifdfhonhphojaa.Mp Go.Proofs.Ytifdfhonhphojaa.Ky Go.Proofs.Ytifdfhonhphojaa.Ko Go.Proofs.Ytifdfhonhphojaa.Named Go.Proofs.Ytifdfhonhphojaa.Tb Go.Proofs.Ytifdfhonhphojaa.Nw Go.Proofs.Ytifdfhonhphojaa.Oi Go.Proofs.Ytifdfhonhphojaa.O2 Go.Proofs.Ytifdfhonhphojaa.Rt Go.Proofs.Ytifdfhonhphojaa.Rd

theorem own_keep {w0 w w' : World} {base T : Nat} {v : Value} {xs : List GKey} (h : Own2 kI1 kI2 T w0 base v xs) (hg : w.grownBy w' v.ownBlock) {a : Addr} {u : Value} (hle : w0.heap.size ≤ a.block) (hc : w.cell? a = some u) : w'.cell? a = some u := by
  refine (World.cell?_of_block (hg.block a.block (World.block_lt_of_cell? w _ hc) (fun e => ?_))).trans hc
  have := (World.ownsRow.lt h a.block e.symm).2
  omega
theorem bl_cb : ∀ a b : List UInt8, Op.bytesLess a b = decide (compareBytes a b < 0)
  | [], [] => rfl
  | [], _ :: _ => rfl
  | _ :: _, [] => rfl
  | x :: a, y :: b => by
    unfold Op.bytesLess compareBytes
    by_cases h1 : x < y
    · simp [h1]
    · by_cases h2 : y < x
      · have hne : ¬ x = y := by rintro rfl; exact h1 h2
        simp [h1, h2, hne]
      · have he : x = y := by
          rw [UInt8.not_lt] at h1 h2
          exact UInt8.le_antisymm h2 h1
        subst he
        simp [bl_cb a b]
theorem lt_iff (a b : GKey) : ltK a b = true ↔ a.c < b.c ∨ (a.c = b.c ∧ Op.bytesLess a.f.toList b.f.toList = true) := by
  rw [ltK_iff, bl_cb, ba_toList, ba_toList, decide_eq_true_iff]
theorem lt_no {a b : GKey} (h : ¬ (a.c < b.c ∨ (a.c = b.c ∧ Op.bytesLess a.f.toList b.f.toList = true))) : ltK a b = false := by
  cases hh : ltK a b with
  | false => rfl
  | true => exact absurd ((lt_iff a b).1 hh) h
def noneK (l : List GKey) (x : GKey) : Prop := ∀ y ∈ l, ltK x y = false
def insK : List GKey → GKey → List GKey
  | [], x => [x]
  | y :: r, x => if ltK x y then x :: y :: r else y :: insK r x
theorem ins_none {l : List GKey} {x : GKey} (h : noneK l x) : insK l x = l ++ [x] := by
  induction l with
  | nil => rfl
  | cons y r ih =>
    unfold insK
    rw [if_neg (by rw [h y (List.mem_cons_self ..)]; decide), ih (fun z hz => h z (List.mem_cons_of_mem _ hz))]
    rfl
theorem ins_none_lt {l : List GKey} {x z : GKey} (h : noneK l x) (hz : ltK x z = true) : insK (l ++ [z]) x = l ++ [x] ++ [z] := by
  induction l with
  | nil => simp [insK, hz]
  | cons y r ih =>
    rw [List.cons_append, insK, if_neg (by rw [h y (List.mem_cons_self ..)]; decide), ih (fun w hw => h w (List.mem_cons_of_mem _ hw))]
    rfl
theorem ins_some {l : List GKey} {x z : GKey} (h : ¬ noneK l x) : insK (l ++ [z]) x = insK l x ++ [z] := by
  induction l with
  | nil => exact absurd (fun y hy => by cases hy) h
  | cons y r ih =>
    rw [List.cons_append]
    unfold insK
    by_cases hc : ltK x y = true
    · rw [if_pos hc, if_pos hc]; rfl
    · rw [if_neg hc, if_neg hc, ih (fun hn => h (fun w hw => by
        rcases List.mem_cons.1 hw with rfl | hw
        · simpa using hc
        · exact hn w hw))]
      rfl
theorem ins_len (l : List GKey) (x : GKey) : (insK l x).length = l.length + 1 := by
  induction l with
  | nil => rfl
  | cons y r ih =>
    unfold insK
    split
    · rfl
    · rw [List.length_cons, ih, List.length_cons]

structure WInv (l : List GKey) (x : GKey) (W : World) (gk : Nat) (o p v : Value) (wr : World) (j : Nat) (out : List GKey) (b : Bool) : Prop where
  hi : j ≤ l.length
  slot : v = .int .i64 j
  flag : p = .bool b
  ghost : gk + j = l.length
  no : b = false → noneK (l.take j) x ∧ out = l.take j
  yes : b = true → ¬ noneK (l.take j) x ∧ out = insK (l.take j) x
  own : Own2 kI1 kI2 50 wr W.heap.size o out
  bel : Below W.heap.size W wr
def WRel (l : List GKey) (x : GKey) (W : World) (gk : Nat) (o p v : Value) (wr : World) : Prop := ∃ j out b, WInv l x W gk o p v wr j out b

set_option maxHeartbeats 16000000 in
set_option maxRecDepth 100000 in
theorem radd_ok {w : World} {rb : Nat} {rs : List GKey} (h : RTab w rb rs) (k : GKey) (hkc : 0 ≤ k.c ∧ k.c < 8) (hn : namedB k.f = true) (hl : rs.length ≤ 1000) (hin : ¬ k ∈ rs) (h16 : rs.length < 16) : Calls Try.prog 18 #[.pointer (some ⟨rb, 0, none⟩), .agg #[.int .i64 k.c, .string k.f]] w fun e w' => e = .returned (.int .i64 0) ∧ RTab w' rb (insK rs k) ∧ Fr (fun i => i = rb) w w' := by
  obtain ⟨M, hM⟩ : ∃ M, rs.length = M := ⟨_, rfl⟩
  have HM := Lib.hid hM
  rw [hM] at h16 hl
  obtain ⟨w1, hw1⟩ : ∃ w1, w.alloc (.cells #[.int .i64 k.c, .string k.f] 50) = w1 := ⟨_, rfl⟩
  have hb1 : Below w.heap.size w w1 := by rw [← hw1]; exact (Below.refl _ _).alloc (Nat.le_refl _) _
  have c01 := cells_two w (.int .i64 k.c) (.string k.f) 50
  rw [hw1] at c01
  obtain ⟨c0, c1⟩ := c01
  have HR1 := Lib.hid (h.below hb1)
  have HD : Hid (decide (k ∈ rs) = false) := Lib.hid (by simpa using hin)
  have HN := Lib.hid hn
  have HB1 := Lib.hid hb1
  have hk0 : ¬ k.c < 0 := by omega
  have hk8 : ¬ 7 < k.c := by omega
  clear h hM hb1 hin hn hkc
  go_enter Try.func18, Try.ntmps18
  go_wp2_with (rw [hw1])
  refine (ref_any _ _).mono ?_
  rintro e w2 ⟨rfl, hd2⟩
  rw [HN.out]
  have hb2 : Below w1.heap.size w1 w2 := hd2.below
  have d0 := pw_below hb2 c0
  have d1 := pw_below hb2 c1
  have HR2 := Lib.hid (HR1.out.below hb2)
  have HB2 := Lib.hid (HB1.out.trans (hb2.mono HB1.out.size))
  clear hb2 hd2 c0 c1
  go_wp2_with fail
  have hh := rhas_any HR2.out k (by have := HM.out; omega)
  rw [HD.out] at hh
  refine hh.mono ?_
  rintro e w3 ⟨rfl, hb3⟩
  have e0 := pw_below hb3 d0
  have e1 := pw_below hb3 d1
  have C0 := Lib.hid e0
  have C1 := Lib.hid e1
  obtain ⟨v, ht, hhd, ho⟩ := (HR2.out.below hb3).cell
  obtain ⟨A, cp, rfl, hcp, hcells⟩ := ho.at2
  rw [HM.out] at hcp ht hhd
  have HT := Lib.hid ht
  have HHD := Lib.hid hhd
  have HC := Lib.hid hcells
  have HB3 := Lib.hid (HB2.out.trans (hb3.mono HB2.out.size))
  have hI16 : ¬ (16 : Int) ≤ (M : Int) := by omega
  clear hcells hb3 ho hhd d0 d1 hh
  go_wp2_with fail
  obtain ⟨i0, hi0, hz0, hz1, hz2⟩ := info_parts infoRKey
  have HI0 := Lib.hid hi0
  have HZ0 := Lib.hid hz0
  have HZ1 := Lib.hid hz1
  have HZ2 := Lib.hid hz2
  clear hi0 hz0 hz1 hz2 ht e0 e1
  go_loopg [7, 8, 9] M (fun gk o p v wr => WRel rs k w3 gk o p v wr)
  case atStart => exact ⟨0, [], false, ⟨Nat.zero_le _, rfl, rfl, by rw [HM.out]; rfl, fun _ => ⟨fun y hy => by simp at hy, by simp⟩, fun h => (by cases h), Own2.nil .., Below.refl _ _⟩⟩
  case round =>
    obtain ⟨j, out, b, hj, rfl, rfl, hg, hno, hyes, hown, hbel⟩ := hrel
    rw [HM.out] at hj hg
    have HG := Lib.hid hg
    have HNO := Lib.hid hno
    have HYES := Lib.hid hyes
    have HO0 := Lib.hid hown
    have HBL0 := Lib.hid hbel
    have hol : out.length ≤ 1001 := by
      cases b with
      | false => rw [(hno rfl).2, List.length_take]; omega
      | true => rw [(hyes rfl).2, ins_len, List.length_take]; omega
    have ht := pw_below hbel HT.out
    have hk0' := pw_below hbel C0.out
    have hk1' := pw_below hbel C1.out
    clear hg hno hyes hown hbel
    by_cases hlt : j < M
    · have hI : (j : Int) < (M : Int) := by omega
      have hjl : j < rs.length := by rw [HM.out]; exact hlt
      obtain ⟨y, hy⟩ : ∃ y, rs[j]? = some y := ⟨_, List.getElem?_eq_getElem hjl⟩
      obtain ⟨ad, rfl, hc1, hc2⟩ := HC.out j y hy
      have e1 := pw_below HBL0.out hc1
      have e2 := pw_below HBL0.out hc2
      have htake : rs.take (j + 1) = rs.take j ++ [y] := by
        rw [List.take_succ_eq_append_getElem hjl]
        rw [List.getElem?_eq_getElem hjl] at hy
        injection hy with hy
        rw [hy]
      have HTK := Lib.hid htake
      clear hy hc1 hc2 htake
      obtain ⟨yc, yf⟩ := y
      obtain ⟨kc, kf⟩ := k
      simp only [kI1, kI2] at e1 e2 hk0' hk1' hk0 hk8
      -- x's own box
      obtain ⟨w6X, hw6X⟩ : ∃ w6X, wr.alloc (.cells #[.int .i64 yc, .string yf] 50) = w6X := ⟨_, rfl⟩
      have hb6X : Below wr.heap.size wr w6X := (by rw [← hw6X]; exact (Below.refl _ _).alloc (Nat.le_refl _) _)
      have ccX := cells_two wr (.int .i64 yc) (.string yf) 50
      rw [hw6X] at ccX
      obtain ⟨a6X, ha6X⟩ : ∃ a6X, wr.heap.size = a6X := ⟨_, rfl⟩
      rw [ha6X] at ccX
      have HO6X := Lib.hid (HO0.out.below hb6X)
      have HBL6X := Lib.hid (HBL0.out.trans (hb6X.mono HBL0.out.size))
      have HC6X := Lib.hid ccX.1
      have HD6X := Lib.hid ccX.2
      have x0X := HC6X.out
      have x1X := HD6X.out
      have kk0 := pw_below hb6X hk0'
      have kk1 := pw_below hb6X hk1'
      cases b with
      | true =>
        obtain ⟨w6A, hw6A⟩ : ∃ w6A, w6X.alloc (.cells #[.int .i64 yc, .string yf] 50) = w6A := ⟨_, rfl⟩
        have hb6A : Below w6X.heap.size w6X w6A := (by rw [← hw6A]; exact (Below.refl _ _).alloc (Nat.le_refl _) _)
        have ccA := cells_two w6X (.int .i64 yc) (.string yf) 50
        rw [hw6A] at ccA
        obtain ⟨a6A, ha6A⟩ : ∃ a6A, w6X.heap.size = a6A := ⟨_, rfl⟩
        rw [ha6A] at ccA
        have HO6A := Lib.hid (HO6X.out.below hb6A)
        have HBL6A := Lib.hid (HBL6X.out.trans (hb6A.mono HBL6X.out.size))
        have HC6A := Lib.hid ccA.1
        have HD6A := Lib.hid ccA.2
        have xa0 := pw_below hb6A x0X
        have xa1 := pw_below hb6A x1X
        go_wp2_with (first | (rw [hw6X]) | (rw [ha6X]) | (rw [hw6A]) | (rw [ha6A]) | (at_builtin; refine wpList_append_o2 (e1 := kI1) (e2 := kI2) (T := 50) (t := 42) (bytes := 24) Try.underlying42 HI0.out HZ0.out HZ1.out HZ2.out rfl rfl (.tmp 77) (.tmp 79) rfl HO6A.out HBL6A.out.size (by omega) (by decide) rfl a6A 1 ⟨yc, yf⟩ rfl HC6A.out HD6A.out rfl rfl ?_; intro vA wA hoA hbA _; have HOA := Lib.hid hoA; have HBLA := Lib.hid (HBL6A.out.trans hbA);  clear hoA hbA hw6A ha6A))
        have hfin : ¬ noneK (rs.take (j + 1)) ⟨kc, kf⟩ ∧ out ++ [⟨yc, yf⟩] = insK (rs.take (j + 1)) ⟨kc, kf⟩ := by
          obtain ⟨h1, h2⟩ := HYES.out (by simp)
          refine ⟨fun hn => h1 (fun z hz => hn z (by rw [HTK.out]; exact List.mem_append_left _ hz)), ?_⟩
          rw [HTK.out, ins_some h1, h2]
        have HF := Lib.hid hfin
        clear hfin
        go_wp2_with fail
        go_roundg (gk - 1)
        case measure => have := HG.out; omega
        case rel => exact ⟨j + 1, _, true, ⟨by rw [HM.out]; omega, by go_num, rfl, by have := HG.out; rw [HM.out]; omega, fun h => (by cases h), fun _ => HF.out, HOA.out, HBLA.out⟩⟩
      | false =>
        by_cases hA : kc < yc
        · skip
          obtain ⟨w6A, hw6A⟩ : ∃ w6A, w6X.alloc (.cells #[.int .i64 kc, .string kf] 50) = w6A := ⟨_, rfl⟩
          have hb6A : Below w6X.heap.size w6X w6A := (by rw [← hw6A]; exact (Below.refl _ _).alloc (Nat.le_refl _) _)
          have ccA := cells_two w6X (.int .i64 kc) (.string kf) 50
          rw [hw6A] at ccA
          obtain ⟨a6A, ha6A⟩ : ∃ a6A, w6X.heap.size = a6A := ⟨_, rfl⟩
          rw [ha6A] at ccA
          have HO6A := Lib.hid (HO6X.out.below hb6A)
          have HBL6A := Lib.hid (HBL6X.out.trans (hb6A.mono HBL6X.out.size))
          have HC6A := Lib.hid ccA.1
          have HD6A := Lib.hid ccA.2
          have xa0 := pw_below hb6A x0X
          have xa1 := pw_below hb6A x1X
          go_wp2_with (first | (rw [hw6X]) | (rw [ha6X]) | (rw [hw6A]) | (rw [ha6A]) | (at_builtin; refine wpList_append_o2 (e1 := kI1) (e2 := kI2) (T := 50) (t := 42) (bytes := 24) Try.underlying42 HI0.out HZ0.out HZ1.out HZ2.out rfl rfl (.tmp 73) (.tmp 75) rfl HO6A.out HBL6A.out.size (by omega) (by decide) rfl a6A 1 ⟨kc, kf⟩ rfl HC6A.out HD6A.out rfl rfl ?_; intro vA wA hoA hbA hgA; have HOA := Lib.hid hoA; have HBLA := Lib.hid (HBL6A.out.trans hbA); have x0A := own_keep HO0.out hgA (show wr.heap.size ≤ a6X by omega) xa0; have x1A := own_keep HO0.out hgA (show wr.heap.size ≤ a6X by omega) xa1; have hlA := (show (out ++ [(⟨kc, kf⟩ : GKey)]).length ≤ 1000000 from by rw [List.length_append, List.length_singleton]; omega); obtain ⟨w6B, hw6B⟩ : ∃ w6B, wA.alloc (.cells #[.int .i64 yc, .string yf] 50) = w6B := ⟨_, rfl⟩; have hb6B : Below wA.heap.size wA w6B := (by rw [← hw6B]; exact (Below.refl _ _).alloc (Nat.le_refl _) _); have ccB := cells_two wA (.int .i64 yc) (.string yf) 50; rw [hw6B] at ccB; obtain ⟨a6B, ha6B⟩ : ∃ a6B, wA.heap.size = a6B := ⟨_, rfl⟩; rw [ha6B] at ccB; have HO6B := Lib.hid (HOA.out.below hb6B); have HBL6B := Lib.hid (HBLA.out.trans (hb6B.mono HBLA.out.size)); have HC6B := Lib.hid ccB.1; have HD6B := Lib.hid ccB.2; have x0B := pw_below hb6B x0A; have x1B := pw_below hb6B x1A; clear xa0 xa1 hgA; clear hoA hbA hw6A ha6A) | (rw [hw6B]) | (rw [ha6B]) | (at_builtin; go_must ((refine wpList_append_o2 (e1 := kI1) (e2 := kI2) (T := 50) (t := 42) (bytes := 24) Try.underlying42 HI0.out HZ0.out HZ1.out HZ2.out rfl rfl (.tmp 77) (.tmp 79) rfl HO6B.out HBL6B.out.size hlA (by decide) rfl a6B 1 ⟨yc, yf⟩ rfl HC6B.out HD6B.out rfl rfl ?_; intro vB wB hoB hbB _; have HOB := Lib.hid hoB; have HBLB := Lib.hid (HBL6B.out.trans hbB);  clear hoB hbB hw6B ha6B))))
          have hfin : ¬ noneK (rs.take (j + 1)) ⟨kc, kf⟩ ∧ out ++ [⟨kc, kf⟩] ++ [⟨yc, yf⟩] = insK (rs.take (j + 1)) ⟨kc, kf⟩ := by
            obtain ⟨h1, h2⟩ := HNO.out (by simp)
            have hlt : ltK ⟨kc, kf⟩ ⟨yc, yf⟩ = true := (lt_iff _ _).2 (Or.inl hA)
            refine ⟨fun hn => (by have := hn ⟨yc, yf⟩ (by rw [HTK.out]; simp); rw [hlt] at this; cases this), ?_⟩
            rw [HTK.out, ins_none_lt h1 hlt, h2]
          have HF := Lib.hid hfin
          clear hfin
          go_wp2_with fail
          go_roundg (gk - 1)
          case measure => have := HG.out; omega
          case rel => exact ⟨j + 1, _, true, ⟨by rw [HM.out]; omega, by go_num, rfl, by have := HG.out; rw [HM.out]; omega, fun h => (by cases h), fun _ => HF.out, HOB.out, HBLB.out⟩⟩
        · have HA := Lib.hid hA
          by_cases hE : kc = yc
          · by_cases hS : Op.bytesLess kf.toList yf.toList = true
            · have HS := Lib.hid hS
              subst hE
              obtain ⟨w6A, hw6A⟩ : ∃ w6A, w6X.alloc (.cells #[.int .i64 kc, .string kf] 50) = w6A := ⟨_, rfl⟩
              have hb6A : Below w6X.heap.size w6X w6A := (by rw [← hw6A]; exact (Below.refl _ _).alloc (Nat.le_refl _) _)
              have ccA := cells_two w6X (.int .i64 kc) (.string kf) 50
              rw [hw6A] at ccA
              obtain ⟨a6A, ha6A⟩ : ∃ a6A, w6X.heap.size = a6A := ⟨_, rfl⟩
              rw [ha6A] at ccA
              have HO6A := Lib.hid (HO6X.out.below hb6A)
              have HBL6A := Lib.hid (HBL6X.out.trans (hb6A.mono HBL6X.out.size))
              have HC6A := Lib.hid ccA.1
              have HD6A := Lib.hid ccA.2
              have xa0 := pw_below hb6A x0X
              have xa1 := pw_below hb6A x1X
              go_wp2_with (first | (rw [hw6X]) | (rw [ha6X]) | (rw [hw6A]) | (rw [ha6A]) | (at_builtin; refine wpList_append_o2 (e1 := kI1) (e2 := kI2) (T := 50) (t := 42) (bytes := 24) Try.underlying42 HI0.out HZ0.out HZ1.out HZ2.out rfl rfl (.tmp 73) (.tmp 75) rfl HO6A.out HBL6A.out.size (by omega) (by decide) rfl a6A 1 ⟨kc, kf⟩ rfl HC6A.out HD6A.out rfl rfl ?_; intro vA wA hoA hbA hgA; have HOA := Lib.hid hoA; have HBLA := Lib.hid (HBL6A.out.trans hbA); have x0A := own_keep HO0.out hgA (show wr.heap.size ≤ a6X by omega) xa0; have x1A := own_keep HO0.out hgA (show wr.heap.size ≤ a6X by omega) xa1; have hlA := (show (out ++ [(⟨kc, kf⟩ : GKey)]).length ≤ 1000000 from by rw [List.length_append, List.length_singleton]; omega); obtain ⟨w6B, hw6B⟩ : ∃ w6B, wA.alloc (.cells #[.int .i64 kc, .string yf] 50) = w6B := ⟨_, rfl⟩; have hb6B : Below wA.heap.size wA w6B := (by rw [← hw6B]; exact (Below.refl _ _).alloc (Nat.le_refl _) _); have ccB := cells_two wA (.int .i64 kc) (.string yf) 50; rw [hw6B] at ccB; obtain ⟨a6B, ha6B⟩ : ∃ a6B, wA.heap.size = a6B := ⟨_, rfl⟩; rw [ha6B] at ccB; have HO6B := Lib.hid (HOA.out.below hb6B); have HBL6B := Lib.hid (HBLA.out.trans (hb6B.mono HBLA.out.size)); have HC6B := Lib.hid ccB.1; have HD6B := Lib.hid ccB.2; have x0B := pw_below hb6B x0A; have x1B := pw_below hb6B x1A; clear xa0 xa1 hgA; clear hoA hbA hw6A ha6A) | (rw [hw6B]) | (rw [ha6B]) | (at_builtin; go_must ((refine wpList_append_o2 (e1 := kI1) (e2 := kI2) (T := 50) (t := 42) (bytes := 24) Try.underlying42 HI0.out HZ0.out HZ1.out HZ2.out rfl rfl (.tmp 77) (.tmp 79) rfl HO6B.out HBL6B.out.size hlA (by decide) rfl a6B 1 ⟨kc, yf⟩ rfl HC6B.out HD6B.out rfl rfl ?_; intro vB wB hoB hbB _; have HOB := Lib.hid hoB; have HBLB := Lib.hid (HBL6B.out.trans hbB);  clear hoB hbB hw6B ha6B))))
              have hfin : ¬ noneK (rs.take (j + 1)) ⟨kc, kf⟩ ∧ out ++ [⟨kc, kf⟩] ++ [⟨kc, yf⟩] = insK (rs.take (j + 1)) ⟨kc, kf⟩ := by
                obtain ⟨h1, h2⟩ := HNO.out (by simp)
                have hlt : ltK ⟨kc, kf⟩ ⟨kc, yf⟩ = true := (lt_iff _ _).2 (Or.inr ⟨rfl, HS.out⟩)
                refine ⟨fun hn => (by have := hn ⟨kc, yf⟩ (by rw [HTK.out]; simp); rw [hlt] at this; cases this), ?_⟩
                rw [HTK.out, ins_none_lt h1 hlt, h2]
              have HF := Lib.hid hfin
              clear hfin
              go_wp2_with fail
              go_roundg (gk - 1)
              case measure => have := HG.out; omega
              case rel => exact ⟨j + 1, _, true, ⟨by rw [HM.out]; omega, by go_num, rfl, by have := HG.out; rw [HM.out]; omega, fun h => (by cases h), fun _ => HF.out, HOB.out, HBLB.out⟩⟩
            · have hS' : Op.bytesLess kf.toList yf.toList = false := by simpa using hS
              have HS := Lib.hid hS'
              subst hE
              clear hS
              obtain ⟨w6A, hw6A⟩ : ∃ w6A, w6X.alloc (.cells #[.int .i64 kc, .string yf] 50) = w6A := ⟨_, rfl⟩
              have hb6A : Below w6X.heap.size w6X w6A := (by rw [← hw6A]; exact (Below.refl _ _).alloc (Nat.le_refl _) _)
              have ccA := cells_two w6X (.int .i64 kc) (.string yf) 50
              rw [hw6A] at ccA
              obtain ⟨a6A, ha6A⟩ : ∃ a6A, w6X.heap.size = a6A := ⟨_, rfl⟩
              rw [ha6A] at ccA
              have HO6A := Lib.hid (HO6X.out.below hb6A)
              have HBL6A := Lib.hid (HBL6X.out.trans (hb6A.mono HBL6X.out.size))
              have HC6A := Lib.hid ccA.1
              have HD6A := Lib.hid ccA.2
              have xa0 := pw_below hb6A x0X
              have xa1 := pw_below hb6A x1X
              go_wp2_with (first | (rw [hw6X]) | (rw [ha6X]) | (rw [hw6A]) | (rw [ha6A]) | (at_builtin; refine wpList_append_o2 (e1 := kI1) (e2 := kI2) (T := 50) (t := 42) (bytes := 24) Try.underlying42 HI0.out HZ0.out HZ1.out HZ2.out rfl rfl (.tmp 77) (.tmp 79) rfl HO6A.out HBL6A.out.size (by omega) (by decide) rfl a6A 1 ⟨kc, yf⟩ rfl HC6A.out HD6A.out rfl rfl ?_; intro vA wA hoA hbA _; have HOA := Lib.hid hoA; have HBLA := Lib.hid (HBL6A.out.trans hbA);  clear hoA hbA hw6A ha6A))
              have hfin : noneK (rs.take (j + 1)) ⟨kc, kf⟩ ∧ out ++ [⟨kc, yf⟩] = rs.take (j + 1) := by
                obtain ⟨h1, h2⟩ := HNO.out (by simp)
                refine ⟨fun z hz => ?_, by rw [HTK.out, h2]⟩
                rw [HTK.out, List.mem_append, List.mem_singleton] at hz
                rcases hz with hz | rfl
                · exact h1 z hz
                · exact lt_no (fun h => h.elim (fun h => by have h' : kc < kc := h; omega) (fun h => by have := h.2; rw [HS.out] at this; cases this))
              have HF := Lib.hid hfin
              clear hfin
              go_wp2_with fail
              go_roundg (gk - 1)
              case measure => have := HG.out; omega
              case rel => exact ⟨j + 1, _, false, ⟨by rw [HM.out]; omega, by go_num, rfl, by have := HG.out; rw [HM.out]; omega, fun _ => HF.out, fun h => (by cases h), HOA.out, HBLA.out⟩⟩
          · have HE := Lib.hid hE
            obtain ⟨w6A, hw6A⟩ : ∃ w6A, w6X.alloc (.cells #[.int .i64 yc, .string yf] 50) = w6A := ⟨_, rfl⟩
            have hb6A : Below w6X.heap.size w6X w6A := (by rw [← hw6A]; exact (Below.refl _ _).alloc (Nat.le_refl _) _)
            have ccA := cells_two w6X (.int .i64 yc) (.string yf) 50
            rw [hw6A] at ccA
            obtain ⟨a6A, ha6A⟩ : ∃ a6A, w6X.heap.size = a6A := ⟨_, rfl⟩
            rw [ha6A] at ccA
            have HO6A := Lib.hid (HO6X.out.below hb6A)
            have HBL6A := Lib.hid (HBL6X.out.trans (hb6A.mono HBL6X.out.size))
            have HC6A := Lib.hid ccA.1
            have HD6A := Lib.hid ccA.2
            have xa0 := pw_below hb6A x0X
            have xa1 := pw_below hb6A x1X
            go_wp2_with (first | (rw [hw6X]) | (rw [ha6X]) | (rw [hw6A]) | (rw [ha6A]) | (at_builtin; refine wpList_append_o2 (e1 := kI1) (e2 := kI2) (T := 50) (t := 42) (bytes := 24) Try.underlying42 HI0.out HZ0.out HZ1.out HZ2.out rfl rfl (.tmp 77) (.tmp 79) rfl HO6A.out HBL6A.out.size (by omega) (by decide) rfl a6A 1 ⟨yc, yf⟩ rfl HC6A.out HD6A.out rfl rfl ?_; intro vA wA hoA hbA _; have HOA := Lib.hid hoA; have HBLA := Lib.hid (HBL6A.out.trans hbA);  clear hoA hbA hw6A ha6A))
            have hfin : noneK (rs.take (j + 1)) ⟨kc, kf⟩ ∧ out ++ [⟨yc, yf⟩] = rs.take (j + 1) := by
              obtain ⟨h1, h2⟩ := HNO.out (by simp)
              refine ⟨fun z hz => ?_, by rw [HTK.out, h2]⟩
              rw [HTK.out, List.mem_append, List.mem_singleton] at hz
              rcases hz with hz | rfl
              · exact h1 z hz
              · exact lt_no (fun h => h.elim (fun h => by have := HA.out; have h' : kc < yc := h; omega) (fun h => HE.out h.1))
            have HF := Lib.hid hfin
            clear hfin
            go_wp2_with fail
            go_roundg (gk - 1)
            case measure => have := HG.out; omega
            case rel => exact ⟨j + 1, _, false, ⟨by rw [HM.out]; omega, by go_num, rfl, by have := HG.out; rw [HM.out]; omega, fun _ => HF.out, fun h => (by cases h), HOA.out, HBLA.out⟩⟩
    · obtain rfl : j = M := by omega
      have hall : rs.take j = rs := List.take_of_length_le (by rw [HM.out]; exact Nat.le_refl _)
      have HALL := Lib.hid hall
      have HH := Lib.hid ((HBL0.out.block rb (heap_lt HHD.out)).trans HHD.out)
      have hlt := heap_lt HHD.out
      have HLT := Lib.hid hlt
      have hfz : wr.frozen? ⟨rb, 0, none⟩ = false := by unfold World.frozen?; rw [HH.out]; rfl
      clear hall hlt
      cases b with
      | true =>
        have hfin : out = insK rs k := by
          obtain ⟨_, h2⟩ := HYES.out (by simp)
          rw [h2, HALL.out]
        have HF := Lib.hid hfin
        clear hfin
        obtain ⟨n, hn⟩ : ∃ n, out.length = n := ⟨_, rfl⟩
        have ho := HO0.out
        obtain ⟨A2, c2, rfl, -, -⟩ := ho.at2
        have HOF := Lib.hid ho
        clear ho HO0
        rw [hn]
        rw [hn] at HOF
        clear hn
        go_wp2_with fail
        refine bodyPost_ret (v := .int .i64 0) (by simp [results, Try.results18, go_sem]) rfl ⟨rfl, ?_, ?_⟩
        · have := RTab.put HH.out HLT.out HOF.out
          rw [HF.out] at this
          exact this
        · exact ((Fr.of_below HB3.out).trans (Fr.of_below HBL0.out)).setAt rfl
      | false =>
        have hfin : out ++ [k] = insK rs k := by
          obtain ⟨h1, h2⟩ := HNO.out (by simp)
          rw [HALL.out] at h1 h2
          rw [h2, ins_none h1]
        have HF := Lib.hid hfin
        clear hfin
        obtain ⟨kc, kf⟩ := k
        simp only at hk0' hk1' hk0 hk8
        obtain ⟨w6A, hw6A⟩ : ∃ w6A, wr.alloc (.cells #[.int .i64 kc, .string kf] 50) = w6A := ⟨_, rfl⟩
        have hb6A : Below wr.heap.size wr w6A := (by rw [← hw6A]; exact (Below.refl _ _).alloc (Nat.le_refl _) _)
        have ccA := cells_two wr (.int .i64 kc) (.string kf) 50
        rw [hw6A] at ccA
        obtain ⟨a6A, ha6A⟩ : ∃ a6A, wr.heap.size = a6A := ⟨_, rfl⟩
        rw [ha6A] at ccA
        have HO6A := Lib.hid (HO0.out.below hb6A)
        have HBL6A := Lib.hid (HBL0.out.trans (hb6A.mono HBL0.out.size))
        have HC6A := Lib.hid ccA.1
        have HD6A := Lib.hid ccA.2
        go_wp2_with (first | (rw [hw6A]) | (rw [ha6A]) | (at_builtin; go_must ((refine wpList_append_o2 (e1 := kI1) (e2 := kI2) (T := 50) (t := 42) (bytes := 24) Try.underlying42 HI0.out HZ0.out HZ1.out HZ2.out rfl rfl _ _ rfl HO6A.out HBL6A.out.size (by omega) (by decide) rfl a6A 1 ⟨kc, kf⟩ rfl HC6A.out HD6A.out rfl rfl ?_; intro vA wA hoA hbA _; obtain ⟨n, hn⟩ : ∃ n, (out ++ [(⟨kc, kf⟩ : GKey)]).length = n := ⟨_, rfl⟩; have ho := hoA; obtain ⟨A2, c2, rfl, -, -⟩ := ho.at2; have HOF := Lib.hid ho; have HBF := Lib.hid (HBL6A.out.trans hbA); have HHF := Lib.hid ((HBF.out.block rb (heap_lt HHD.out)).trans HHD.out); have hfzA : wA.frozen? ⟨rb, 0, none⟩ = false := (by unfold World.frozen?; rw [HHF.out]; rfl); have htA := pw_below HBF.out HT.out; rw [hn]; rw [hn] at HOF; clear ho hoA hbA hn hw6A ha6A))))
        refine bodyPost_ret (v := .int .i64 0) (by simp [results, Try.results18, go_sem]) rfl ⟨rfl, ?_, ?_⟩
        · have := RTab.put HHF.out HLT.out HOF.out
          rw [HF.out] at this
          exact this
        · exact ((Fr.of_below HB3.out).trans (Fr.of_below HBF.out)).setAt rfl

end Go.Proofs.Ytifdfhonhphojaa.Ra

/- The document's table: Add, its errors; all of it. -/
namespace Go.Proofs.Ytifdfhonhphojaa.Rb
open Go Go.RowKit Go.Proofs.YtifdfhonhphojaaCore Go.Proofs.Ytifdfhonhphojaa.Fr Go.Proofs.Ytifdfhonhphojaa.Mp Go.Proofs.Ytifdfhonhphojaa.Ky Go.Proofs.Ytifdfhonhphojaa.Ko Go.Proofs.Ytifdfhonhphojaa.Named Go.Proofs.Ytifdfhonhphojaa.Tb Go.Proofs.Ytifdfhonhphojaa.Nw Go.Proofs.Ytifdfhonhphojaa.Oi Go.Proofs.Ytifdfhonhphojaa.O2 Go.Proofs.Ytifdfhonhphojaa.Rt Go.Proofs.Ytifdfhonhphojaa.Rd Go.Proofs.Ytifdfhonhphojaa.Ra

set_option maxHeartbeats 4000000 in
set_option maxRecDepth 100000 in
theorem radd_arg1 {w : World} {rb : Nat} {rs : List GKey} (h : RTab w rb rs) (k : GKey) (hk : k.c < 0) : Calls Try.prog 18 #[.pointer (some ⟨rb, 0, none⟩), .agg #[.int .i64 k.c, .string k.f]] w fun e w' => e = .returned (.int .i64 2) ∧ Below w.heap.size w w' := by
  obtain ⟨w1, hw1⟩ : ∃ w1, w.alloc (.cells #[.int .i64 k.c, .string k.f] 50) = w1 := ⟨_, rfl⟩
  have hb1 : Below w.heap.size w w1 := by rw [← hw1]; exact (Below.refl _ _).alloc (Nat.le_refl _) _
  have c01 := cells_two w (.int .i64 k.c) (.string k.f) 50
  rw [hw1] at c01
  obtain ⟨c0, c1⟩ := c01
  have HR1 := Lib.hid (h.below hb1)
  have HB1 := Lib.hid hb1
  clear h hb1
  go_enter Try.func18, Try.ntmps18
  go_wp2_with (rw [hw1])
  refine bodyPost_ret (v := .int .i64 2) (by simp [results, Try.results18, go_sem]) rfl ⟨rfl, HB1.out⟩

set_option maxHeartbeats 4000000 in
set_option maxRecDepth 100000 in
theorem radd_arg2 {w : World} {rb : Nat} {rs : List GKey} (h : RTab w rb rs) (k : GKey) (hk : 8 ≤ k.c) : Calls Try.prog 18 #[.pointer (some ⟨rb, 0, none⟩), .agg #[.int .i64 k.c, .string k.f]] w fun e w' => e = .returned (.int .i64 2) ∧ Below w.heap.size w w' := by
  obtain ⟨w1, hw1⟩ : ∃ w1, w.alloc (.cells #[.int .i64 k.c, .string k.f] 50) = w1 := ⟨_, rfl⟩
  have hb1 : Below w.heap.size w w1 := by rw [← hw1]; exact (Below.refl _ _).alloc (Nat.le_refl _) _
  have c01 := cells_two w (.int .i64 k.c) (.string k.f) 50
  rw [hw1] at c01
  obtain ⟨c0, c1⟩ := c01
  have HR1 := Lib.hid (h.below hb1)
  have HB1 := Lib.hid hb1
  have hk0 : ¬ k.c < 0 := by omega
  have hk7 : 7 < k.c := by omega
  clear h hb1
  go_enter Try.func18, Try.ntmps18
  go_wp2_with (rw [hw1])
  refine bodyPost_ret (v := .int .i64 2) (by simp [results, Try.results18, go_sem]) rfl ⟨rfl, HB1.out⟩

set_option maxHeartbeats 4000000 in
set_option maxRecDepth 100000 in
theorem radd_name {w : World} {rb : Nat} {rs : List GKey} (h : RTab w rb rs) (k : GKey) (hkc : 0 ≤ k.c ∧ k.c < 8) (hn : namedB k.f = false) : Calls Try.prog 18 #[.pointer (some ⟨rb, 0, none⟩), .agg #[.int .i64 k.c, .string k.f]] w fun e w' => e = .returned (.int .i64 30) ∧ Below w.heap.size w w' := by
  obtain ⟨w1, hw1⟩ : ∃ w1, w.alloc (.cells #[.int .i64 k.c, .string k.f] 50) = w1 := ⟨_, rfl⟩
  have hb1 : Below w.heap.size w w1 := by rw [← hw1]; exact (Below.refl _ _).alloc (Nat.le_refl _) _
  have c01 := cells_two w (.int .i64 k.c) (.string k.f) 50
  rw [hw1] at c01
  obtain ⟨c0, c1⟩ := c01
  have HR1 := Lib.hid (h.below hb1)
  have HB1 := Lib.hid hb1
  have hk0 : ¬ k.c < 0 := by omega
  have hk8 : ¬ 7 < k.c := by omega
  have HN := Lib.hid hn
  clear h hb1 hn hkc
  go_enter Try.func18, Try.ntmps18
  go_wp2_with (rw [hw1])
  refine (ref_any _ _).mono ?_
  rintro e w2 ⟨rfl, hd2⟩
  rw [HN.out]
  have hb2 : Below w1.heap.size w1 w2 := hd2.below
  have d0 := pw_below hb2 c0
  have d1 := pw_below hb2 c1
  have HR2 := Lib.hid (HR1.out.below hb2)
  have HB2 := Lib.hid (HB1.out.trans (hb2.mono HB1.out.size))
  clear hb2 hd2 c0 c1
  go_wp2_with fail
  refine bodyPost_ret (v := .int .i64 30) (by simp [results, Try.results18, go_sem]) rfl ⟨rfl, HB2.out⟩

set_option maxHeartbeats 4000000 in
set_option maxRecDepth 100000 in
theorem radd_there {w : World} {rb : Nat} {rs : List GKey} (h : RTab w rb rs) (k : GKey) (hkc : 0 ≤ k.c ∧ k.c < 8) (hn : namedB k.f = true) (hl : rs.length ≤ 1000) (hin : k ∈ rs) : Calls Try.prog 18 #[.pointer (some ⟨rb, 0, none⟩), .agg #[.int .i64 k.c, .string k.f]] w fun e w' => e = .returned (.int .i64 34) ∧ Below w.heap.size w w' := by
  obtain ⟨w1, hw1⟩ : ∃ w1, w.alloc (.cells #[.int .i64 k.c, .string k.f] 50) = w1 := ⟨_, rfl⟩
  have hb1 : Below w.heap.size w w1 := by rw [← hw1]; exact (Below.refl _ _).alloc (Nat.le_refl _) _
  have c01 := cells_two w (.int .i64 k.c) (.string k.f) 50
  rw [hw1] at c01
  obtain ⟨c0, c1⟩ := c01
  have HR1 := Lib.hid (h.below hb1)
  have HB1 := Lib.hid hb1
  have HD : Hid (decide (k ∈ rs) = true) := Lib.hid (by simpa using hin)
  clear hin
  have hk0 : ¬ k.c < 0 := by omega
  have hk8 : ¬ 7 < k.c := by omega
  have HN := Lib.hid hn
  clear h hb1 hn hkc
  go_enter Try.func18, Try.ntmps18
  go_wp2_with (rw [hw1])
  refine (ref_any _ _).mono ?_
  rintro e w2 ⟨rfl, hd2⟩
  rw [HN.out]
  have hb2 : Below w1.heap.size w1 w2 := hd2.below
  have d0 := pw_below hb2 c0
  have d1 := pw_below hb2 c1
  have HR2 := Lib.hid (HR1.out.below hb2)
  have HB2 := Lib.hid (HB1.out.trans (hb2.mono HB1.out.size))
  clear hb2 hd2 c0 c1
  go_wp2_with fail
  have hh := rhas_any HR2.out k (by omega)
  rw [HD.out] at hh
  refine hh.mono ?_
  rintro e w3 ⟨rfl, hb3⟩
  obtain ⟨v, ht, hhd, ho⟩ := (HR2.out.below hb3).cell
  have hsl : ∃ A c, v = .slice A rs.length c := by
    obtain ⟨A, c, h1, h2, h3⟩ := ho.at2
    exact ⟨A, c, h1⟩
  obtain ⟨A, cp, rfl⟩ := hsl
  have HB3 := Lib.hid (HB2.out.trans (hb3.mono HB2.out.size))
  clear hb3 ho hhd d0 d1 hh
  go_wp2_with fail
  refine bodyPost_ret (v := .int .i64 34) (by simp [results, Try.results18, go_sem]) rfl ⟨rfl, HB3.out⟩

set_option maxHeartbeats 4000000 in
set_option maxRecDepth 100000 in
theorem radd_full {w : World} {rb : Nat} {rs : List GKey} (h : RTab w rb rs) (k : GKey) (hkc : 0 ≤ k.c ∧ k.c < 8) (hn : namedB k.f = true) (hl : rs.length ≤ 1000) (hin : ¬ k ∈ rs) (h16 : 16 ≤ rs.length) : Calls Try.prog 18 #[.pointer (some ⟨rb, 0, none⟩), .agg #[.int .i64 k.c, .string k.f]] w fun e w' => e = .returned (.int .i64 35) ∧ Below w.heap.size w w' := by
  obtain ⟨w1, hw1⟩ : ∃ w1, w.alloc (.cells #[.int .i64 k.c, .string k.f] 50) = w1 := ⟨_, rfl⟩
  have hb1 : Below w.heap.size w w1 := by rw [← hw1]; exact (Below.refl _ _).alloc (Nat.le_refl _) _
  have c01 := cells_two w (.int .i64 k.c) (.string k.f) 50
  rw [hw1] at c01
  obtain ⟨c0, c1⟩ := c01
  have HR1 := Lib.hid (h.below hb1)
  have HB1 := Lib.hid hb1
  have HD : Hid (decide (k ∈ rs) = false) := Lib.hid (by simpa using hin)
  clear hin
  have hk0 : ¬ k.c < 0 := by omega
  have hk8 : ¬ 7 < k.c := by omega
  have HN := Lib.hid hn
  clear h hb1 hn hkc
  go_enter Try.func18, Try.ntmps18
  go_wp2_with (rw [hw1])
  refine (ref_any _ _).mono ?_
  rintro e w2 ⟨rfl, hd2⟩
  rw [HN.out]
  have hb2 : Below w1.heap.size w1 w2 := hd2.below
  have d0 := pw_below hb2 c0
  have d1 := pw_below hb2 c1
  have HR2 := Lib.hid (HR1.out.below hb2)
  have HB2 := Lib.hid (HB1.out.trans (hb2.mono HB1.out.size))
  clear hb2 hd2 c0 c1
  go_wp2_with fail
  have hh := rhas_any HR2.out k (by omega)
  rw [HD.out] at hh
  refine hh.mono ?_
  rintro e w3 ⟨rfl, hb3⟩
  obtain ⟨v, ht, hhd, ho⟩ := (HR2.out.below hb3).cell
  have hsl : ∃ A c, v = .slice A rs.length c := by
    obtain ⟨A, c, h1, h2, h3⟩ := ho.at2
    exact ⟨A, c, h1⟩
  obtain ⟨A, cp, rfl⟩ := hsl
  have HB3 := Lib.hid (HB2.out.trans (hb3.mono HB2.out.size))
  clear hb3 ho hhd d0 d1 hh
  obtain ⟨n, hn⟩ : ∃ n, rs.length = n := ⟨_, rfl⟩
  rw [hn] at h16 ht
  clear hn
  have hI : (16 : Int) ≤ (n : Int) := by omega
  go_wp2_with fail
  refine bodyPost_ret (v := .int .i64 35) (by simp [results, Try.results18, go_sem]) rfl ⟨rfl, HB3.out⟩

/-- The list behind Add. -/
def raddT (rs : List GKey) (k : GKey) : List GKey := if addE rs k = 0 then insK rs k else rs
theorem radd_any {w : World} {rb : Nat} {rs : List GKey} (h : RTab w rb rs) (k : GKey) (hl : rs.length ≤ 1000) : Calls Try.prog 18 #[.pointer (some ⟨rb, 0, none⟩), .agg #[.int .i64 k.c, .string k.f]] w fun e w' => e = .returned (.int .i64 (addE rs k)) ∧ RTab w' rb (raddT rs k) ∧ Fr (fun i => i = rb) w w' := by
  have go : ∀ c : Int, c ≠ 0 → addE rs k = c → (Calls Try.prog 18 #[.pointer (some ⟨rb, 0, none⟩), .agg #[.int .i64 k.c, .string k.f]] w fun e w' => e = .returned (.int .i64 c) ∧ Below w.heap.size w w') → Calls Try.prog 18 #[.pointer (some ⟨rb, 0, none⟩), .agg #[.int .i64 k.c, .string k.f]] w fun e w' => e = .returned (.int .i64 (addE rs k)) ∧ RTab w' rb (raddT rs k) ∧ Fr (fun i => i = rb) w w' := by
    intro c hc he hC
    unfold raddT
    rw [he, if_neg hc]
    exact hC.mono fun _ _ ⟨h1, hb⟩ => ⟨h1, h.below hb, Fr.of_below hb⟩
  by_cases h1 : k.c < 0 ∨ 8 ≤ k.c
  · refine go 2 (by decide) (by unfold addE; rw [if_pos h1]) ?_
    rcases h1 with h1 | h1
    · exact radd_arg1 h k h1
    · exact radd_arg2 h k h1
  have hkc : 0 ≤ k.c ∧ k.c < 8 := by omega
  cases hn : namedB k.f with
  | false => exact go 30 (by decide) (by unfold addE; rw [if_neg h1, if_pos hn]) (radd_name h k hkc hn)
  | true =>
    have hn' : ¬ namedB k.f = false := by rw [hn]; decide
    by_cases hin : k ∈ rs
    · exact go 34 (by decide) (by unfold addE; rw [if_neg h1, if_neg hn', if_pos hin]) (radd_there h k hkc hn hl hin)
    by_cases h16 : 16 ≤ rs.length
    · exact go 35 (by decide) (by unfold addE; rw [if_neg h1, if_neg hn', if_neg hin, if_pos h16]) (radd_full h k hkc hn hl hin h16)
    have he : addE rs k = 0 := by unfold addE; rw [if_neg h1, if_neg hn', if_neg hin, if_neg h16]
    unfold raddT
    rw [he, if_pos rfl]
    exact radd_ok h k hkc hn hl hin (by omega)

end Go.Proofs.Ytifdfhonhphojaa.Rb

/- The table's keys and the document's list, side by side; plain. -/
namespace Go.Proofs.Ytifdfhonhphojaa.Pr
open Go Go.RowKit Go.Proofs.Ytifdfhonhphojaa.Ky Go.Proofs.Ytifdfhonhphojaa.Ko Go.Proofs.Ytifdfhonhphojaa.Named Go.Proofs.Ytifdfhonhphojaa.Tb Go.Proofs.Ytifdfhonhphojaa.Ra Go.Proofs.Ytifdfhonhphojaa.Rb

structure Sy (ks rs : List GKey) : Prop where
  perm : rs.Perm ks
  sorted : rs.Pairwise fun x y => ltK x y = true
theorem Sy.nil : Sy [] [] := ⟨.refl _, List.Pairwise.nil⟩
theorem Sy.nodup {ks rs : List GKey} (h : Sy ks rs) : ks.Nodup := h.perm.nodup_iff.1 (nodup_of_strict h.sorted)
theorem Sy.sort {ks rs : List GKey} (h : Sy ks rs) : sortK ks = rs := sortK_eq h.nodup h.perm.symm h.sorted
theorem Sy.mem {ks rs : List GKey} (h : Sy ks rs) (k : GKey) : k ∈ rs ↔ k ∈ ks := h.perm.mem_iff
theorem Sy.len {ks rs : List GKey} (h : Sy ks rs) : rs.length = ks.length := h.perm.length_eq
theorem insK_perm (l : List GKey) (x : GKey) : (insK l x).Perm (l ++ [x]) := by
  induction l with
  | nil => exact .refl _
  | cons y r ih =>
    unfold insK
    split
    · exact (List.perm_append_comm (l₁ := [x]) (l₂ := y :: r))
    · exact (ih.cons y)
theorem insK_sorted {l : List GKey} {x : GKey} (hs : l.Pairwise fun x y => ltK x y = true) (hx : ¬ x ∈ l) : (insK l x).Pairwise fun x y => ltK x y = true := by
  induction l with
  | nil => exact List.pairwise_singleton _ _
  | cons y r ih =>
    obtain ⟨h1, h2⟩ := List.pairwise_cons.1 hs
    unfold insK
    by_cases c : ltK x y = true
    · rw [if_pos c]
      refine List.pairwise_cons.2 ⟨fun z hz => ?_, hs⟩
      rcases List.mem_cons.1 hz with rfl | hz
      · exact c
      · exact ltK_trans c (h1 z hz)
    · rw [if_neg c]
      refine List.pairwise_cons.2 ⟨fun z hz => ?_, ih h2 (fun h => hx (List.mem_cons_of_mem _ h))⟩
      rcases List.mem_append.1 ((insK_perm r x).mem_iff.1 hz) with hz | hz
      · exact h1 z hz
      · rw [List.mem_singleton] at hz
        subst hz
        cases d : ltK y z with
        | true => rfl
        | false => exact absurd (ltK_total (by simpa using c) d) (fun e => hx (by rw [e]; exact List.mem_cons_self ..))
theorem Sy.addE {ks rs : List GKey} (h : Sy ks rs) (k : GKey) : addE rs k = addE ks k := by
  unfold Tb.addE
  simp only [h.mem k, h.len]
theorem addE_new {ks : List GKey} {k : GKey} (h : Tb.addE ks k = 0) : ¬ k ∈ ks := by
  unfold Tb.addE at h
  intro hk
  split at h
  · cases h
  · split at h
    · cases h
    · first
        | (rw [if_pos hk] at h; cases h)
        | cases h
theorem Sy.add {ks rs : List GKey} (h : Sy ks rs) (k : GKey) : Sy (addT ks k) (raddT rs k) := by
  unfold addT raddT
  rw [h.addE k]
  by_cases c : Tb.addE ks k = 0
  · rw [if_pos c, if_pos c]
    have hk : ¬ k ∈ rs := fun hk => addE_new c ((h.mem k).1 hk)
    exact ⟨(insK_perm rs k).trans (h.perm.append_right _), insK_sorted h.sorted hk⟩
  · rw [if_neg c, if_neg c]
    exact h
theorem Sy.dropE {ks rs : List GKey} (h : Sy ks rs) (k : GKey) : dropE rs k = dropE ks k := by
  unfold Tb.dropE
  simp only [h.mem k]
theorem Sy.drop {ks rs : List GKey} (h : Sy ks rs) (k : GKey) : Sy (ks.erase k) (rs.filter fun y => decide (y ≠ k)) := by
  refine ⟨?_, h.sorted.sublist (List.filter_sublist ..)⟩
  have e : ks.erase k = ks.filter fun y => decide (y ≠ k) := by
    rw [h.nodup.erase_eq_filter]
    congr 1
    funext y
    by_cases c : y = k <;> simp [c]
  rw [e]
  exact h.perm.filter _

end Go.Proofs.Ytifdfhonhphojaa.Pr

/- Has the table the document's grants? -/
namespace Go.Proofs.Ytifdfhonhphojaa.Sa
open Go Go.RowKit Go.Proofs.YtifdfhonhphojaaCore Go.Proofs.Ytifdfhonhphojaa.Fr Go.Proofs.Ytifdfhonhphojaa.Mp Go.Proofs.Ytifdfhonhphojaa.Ky Go.Proofs.Ytifdfhonhphojaa.Ko Go.Proofs.Ytifdfhonhphojaa.Named Go.Proofs.Ytifdfhonhphojaa.Tb Go.Proofs.Ytifdfhonhphojaa.Nw Go.Proofs.Ytifdfhonhphojaa.Oi Go.Proofs.Ytifdfhonhphojaa.O2 Go.Proofs.Ytifdfhonhphojaa.Rt Go.Proofs.Ytifdfhonhphojaa.Rd Go.Proofs.Ytifdfhonhphojaa.Ra Go.Proofs.Ytifdfhonhphojaa.Rb Go.Proofs.Ytifdfhonhphojaa.Pr

set_option maxHeartbeats 4000000 in
set_option maxRecDepth 100000 in
theorem same_any {w : World} {tb mb rb : Nat} {ks rs : List GKey} (h : TabAt w tb mb ks) (hr : RTab w rb rs) (hs : Sy ks rs) (hl : ks.length ≤ 1000) : Calls Try.prog 19 #[.pointer (some ⟨tb, 0, none⟩), .pointer (some ⟨rb, 0, none⟩)] w fun e w' => e = .returned (.bool true) ∧ Below w.heap.size w w' := by
  have hli := list_any h hl
  rw [hs.sort, ← hs.len] at hli
  rw [← hs.len] at hl
  have HR := Lib.hid hr
  clear h hr hs
  obtain ⟨M, hM⟩ : ∃ M, rs.length = M := ⟨_, rfl⟩
  have HM := Lib.hid hM
  rw [hM] at hl hli
  clear hM
  go_enter Try.func19, Try.ntmps19
  go_wp2_with fail
  refine hli.mono ?_
  rintro e w1 ⟨v, rfl, hown, -, hb1⟩
  obtain ⟨A, c, rfl, hc, -, hK⟩ := KeysAt.owns hown
  obtain ⟨v, ht, -, ho⟩ := (HR.out.below hb1).cell
  obtain ⟨B, d, rfl, hd, hcells⟩ := ho.at2
  rw [HM.out] at ht hd
  have HT := Lib.hid ht
  have HC := Lib.hid hcells
  have HK := Lib.hid hK
  have HB1 := Lib.hid hb1
  clear hcells hK hb1 ho hown hli
  go_wp2_with fail
  go_loopg [19] M (fun gk v wr => ∃ j : Nat, j ≤ M ∧ v = .int .i64 j ∧ gk + j = M ∧ Below w1.heap.size w1 wr)
  case atStart => exact ⟨0, Nat.zero_le _, rfl, rfl, Below.refl _ _⟩
  case round =>
    obtain ⟨j, hj, rfl, hg, hbw⟩ := hrel
    have HG := Lib.hid hg
    have HBW := Lib.hid hbw
    have ht := pw_below hbw HT.out
    clear hg hbw
    by_cases hlt : j < M
    · have hI : (j : Int) < (M : Int) := by omega
      have hjl : j < rs.length := by rw [HM.out]; exact hlt
      obtain ⟨y, hy⟩ : ∃ y, rs[j]? = some y := ⟨_, List.getElem?_eq_getElem hjl⟩
      obtain ⟨ad, rfl, hc1, hc2⟩ := HC.out j y hy
      obtain ⟨ae, rfl, hf1, hf2⟩ := HK.out j y hy
      have e1 := pw_below HBW.out hc1
      have e2 := pw_below HBW.out hc2
      have f1 := pw_below HBW.out hf1
      have f2 := pw_below HBW.out hf2
      clear hy hc1 hc2 hf1 hf2
      obtain ⟨yc, yf⟩ := y
      simp only [kI1, kI2] at e1 e2 f1 f2
      go_wp2_with fail
      go_quiet (fail)
      have hbn : Below w1.heap.size w1 (wr.drewN nq) := HBW.out.trans (Go.Proofs.YtifdfhonhphojaaCore.below_drewN _)
      have HBN := Lib.hid hbn
      clear hbn
      go_wp2_with fail
      go_roundg (gk - 1)
      case measure => have := HG.out; omega
      case rel => exact ⟨j + 1, by omega, by go_num, by have := HG.out; omega, HBN.out⟩
    · obtain rfl : j = M := by omega
      go_wp2_with fail
      refine bodyPost_ret (v := .bool true) (by simp [results, Try.results19, go_sem]) rfl ⟨rfl, HB1.out.trans (HBW.out.mono HB1.out.size)⟩

end Go.Proofs.Ytifdfhonhphojaa.Sa

/- GrantPlays: the table, the document's table and our boxes, from call to call. -/
namespace Go.Proofs.Ytifdfhonhphojaa.Gs
open Go Go.RowKit Go.Proofs.YtifdfhonhphojaaCore Go.Proofs.Ytifdfhonhphojaa.Fr Go.Proofs.Ytifdfhonhphojaa.Mp Go.Proofs.Ytifdfhonhphojaa.Ky Go.Proofs.Ytifdfhonhphojaa.Ko Go.Proofs.Ytifdfhonhphojaa.Named Go.Proofs.Ytifdfhonhphojaa.Tb Go.Proofs.Ytifdfhonhphojaa.Nw Go.Proofs.Ytifdfhonhphojaa.Oi Go.Proofs.Ytifdfhonhphojaa.O2 Go.Proofs.Ytifdfhonhphojaa.Rt Go.Proofs.Ytifdfhonhphojaa.Rd Go.Proofs.Ytifdfhonhphojaa.Ra Go.Proofs.Ytifdfhonhphojaa.Rb Go.Proofs.Ytifdfhonhphojaa.Pr Go.Proofs.Ytifdfhonhphojaa.Sa

theorem TabAt.isMap {w : World} {tb mb : Nat} {ks : List GKey} (h : TabAt w tb mb ks) : ∃ es clock, w.heap[mb]? = some (.map es clock) := by
  obtain ⟨es, clock, hh, _⟩ := h.map
  exact ⟨es, clock, hh⟩
theorem RTab.fr {S : Nat → Prop} {w w' : World} {rb : Nat} {rs : List GKey} (h : RTab w rb rs) (f : Fr S w w') (hS : ∀ k cs T, w.heap[k]? = some (.cells cs T (0, 0)) → ¬ S k) : RTab w' rb rs := by
  obtain ⟨v, h1, h2, h3⟩ := h.head
  refine ⟨v, f.at_ h1 (hS _ _ _ h1), h2, h3.imp id ?_⟩
  rintro ⟨g, cap, cur, k1, k2, k3, k4⟩
  exact ⟨g, cap, cur, k1, k2, f.at_ k3 (hS _ _ _ k3), k4⟩

abbrev Bx := Nat × Array Value × Nat
structure PS (w0 w : World) (tb mb rb : Nat) (bs : List Bx) (ks rs : List GKey) : Prop where
  tab : TabAt w tb mb ks
  ref : RTab w rb rs
  bel : Below w0.heap.size w0 w
  lo : w0.heap.size ≤ tb ∧ w0.heap.size ≤ mb ∧ w0.heap.size ≤ rb
  bx : ∀ b ∈ bs, w.heap[b.1]? = some (.cells b.2.1 b.2.2 (0, 0)) ∧ b.2.2 ≠ 44
section
variable {w0 w w' : World} {tb mb rb : Nat} {bs : List Bx} {ks rs ks' rs' : List GKey}
theorem PS.below (h : PS w0 w tb mb rb bs ks rs) (hb : Below w.heap.size w w') : PS w0 w' tb mb rb bs ks rs :=
  ⟨h.tab.below hb, h.ref.below hb, h.bel.trans (hb.mono h.bel.size), h.lo, fun b hm => ⟨(hb.block b.1 (heap_lt (h.bx b hm).1)).trans (h.bx b hm).1, (h.bx b hm).2⟩⟩
theorem PS.cell (h : PS w0 w tb mb rb bs ks rs) {q i : Nat} {cs : Array Value} {T : Nat} {v : Value} (hm : (q, cs, T) ∈ bs) (hv : cs[i]? = some v) : w.cell? ⟨q, i, none⟩ = some v := by
  unfold World.cell?
  rw [(h.bx _ hm).1]
  exact hv
theorem PS.frT (h : PS w0 w tb mb rb bs ks rs) (f : Fr (fun i => i = mb) w w') (ht : TabAt w' tb mb ks') : PS w0 w' tb mb rb bs ks' rs := by
  obtain ⟨es, clock, hm⟩ := TabAt.isMap h.tab
  have hne : ∀ k cs T, w.heap[k]? = some (.cells cs T (0, 0)) → ¬ k = mb := by
    rintro k cs T hk rfl
    rw [hk] at hm
    cases hm
  exact ⟨ht, RTab.fr h.ref f hne, h.bel.trans (f.below h.bel.size (fun k hk e => by have := h.lo.2.1; omega)), h.lo, fun b hb => ⟨f.at_ (h.bx b hb).1 (hne _ _ _ (h.bx b hb).1), (h.bx b hb).2⟩⟩
theorem PS.frR (h : PS w0 w tb mb rb bs ks rs) (f : Fr (fun i => i = rb) w w') (hr : RTab w' rb rs') : PS w0 w' tb mb rb bs ks rs' := by
  obtain ⟨es, clock, hm⟩ := TabAt.isMap h.tab
  obtain ⟨v, h1, h2⟩ := h.ref.head
  have hne : ∀ k cs T, w.heap[k]? = some (.cells cs T (0, 0)) → T ≠ 44 → ¬ k = rb := by
    rintro k cs T hk hT rfl
    rw [hk] at h1
    injection h1 with h1
    injection h1 with _ h1 _
    exact hT h1
  have hnm : ¬ mb = rb := by
    rintro rfl
    rw [hm] at h1
    cases h1
  exact ⟨h.tab.fr f (hne _ _ _ h.tab.head (by decide)) hnm, hr, h.bel.trans (f.below h.bel.size (fun k hk e => by have := h.lo.2.2; omega)), h.lo, fun b hb => ⟨f.at_ (h.bx b hb).1 (hne _ _ _ (h.bx b hb).1 (h.bx b hb).2), (h.bx b hb).2⟩⟩
theorem PS.more (h : PS w0 w tb mb rb bs ks rs) {q : Nat} {cs : Array Value} {T : Nat} (hq : w.heap[q]? = some (.cells cs T (0, 0))) (hT : T ≠ 44) : PS w0 w tb mb rb ((q, cs, T) :: bs) ks rs :=
  ⟨h.tab, h.ref, h.bel, h.lo, fun b hb => by
    rcases List.mem_cons.1 hb with rfl | hb
    · exact ⟨hq, hT⟩
    · exact h.bx b hb⟩
theorem PS.less {b : Bx} (h : PS w0 w tb mb rb (b :: bs) ks rs) : PS w0 w tb mb rb bs ks rs := ⟨h.tab, h.ref, h.bel, h.lo, fun b hb => h.bx b (List.mem_cons_of_mem _ hb)⟩

theorem ps_add (h : PS w0 w tb mb rb bs ks rs) {k : GKey} (hk : okK k) : Calls Try.prog 17 #[.pointer (some ⟨tb, 0, none⟩), .agg #[.int .i64 k.c, .string k.f]] w fun e w' => e = .returned (.int .i64 (addE ks k)) ∧ PS w0 w' tb mb rb bs (addT ks k) rs :=
  (add_any h.tab hk).mono fun _ _ ⟨he, h1, h2⟩ => ⟨he, h.frT h2 h1⟩
theorem ps_drop (h : PS w0 w tb mb rb bs ks rs) {k : GKey} (hk : okK k) : Calls Try.prog 15 #[.pointer (some ⟨tb, 0, none⟩), .agg #[.int .i64 k.c, .string k.f]] w fun e w' => e = .returned (.int .i64 (dropE ks k)) ∧ PS w0 w' tb mb rb bs (ks.erase k) rs :=
  (drop_any h.tab hk).mono fun _ _ ⟨he, h1, h2⟩ => ⟨he, h.frT h2 h1⟩
theorem ps_has (h : PS w0 w tb mb rb bs ks rs) {k : GKey} (hk : okK k) : Calls Try.prog 20 #[.pointer (some ⟨tb, 0, none⟩), .agg #[.int .i64 k.c, .string k.f]] w fun e w' => e = .returned (.bool (decide (k ∈ ks))) ∧ PS w0 w' tb mb rb bs ks rs :=
  (has_any h.tab hk).mono fun _ _ ⟨he, h1⟩ => ⟨he, h.below h1⟩
theorem ps_radd (h : PS w0 w tb mb rb bs ks rs) (k : GKey) (hl : rs.length ≤ 1000) : Calls Try.prog 18 #[.pointer (some ⟨rb, 0, none⟩), .agg #[.int .i64 k.c, .string k.f]] w fun e w' => e = .returned (.int .i64 (addE rs k)) ∧ PS w0 w' tb mb rb bs ks (raddT rs k) :=
  (radd_any h.ref k hl).mono fun _ _ ⟨he, h1, h2⟩ => ⟨he, h.frR h2 h1⟩
theorem ps_rdrop (h : PS w0 w tb mb rb bs ks rs) (k : GKey) (hl : rs.length ≤ 1000) : Calls Try.prog 16 #[.pointer (some ⟨rb, 0, none⟩), .agg #[.int .i64 k.c, .string k.f]] w fun e w' => e = .returned (.int .i64 (dropE rs k)) ∧ PS w0 w' tb mb rb bs ks (rs.filter fun y => decide (y ≠ k)) :=
  (rdrop_any h.ref k hl).mono fun _ _ ⟨he, h1, h2⟩ => ⟨he, h.frR h2 h1⟩
theorem ps_rhas (h : PS w0 w tb mb rb bs ks rs) (k : GKey) (hl : rs.length ≤ 1000) : Calls Try.prog 21 #[.pointer (some ⟨rb, 0, none⟩), .agg #[.int .i64 k.c, .string k.f]] w fun e w' => e = .returned (.bool (decide (k ∈ rs))) ∧ PS w0 w' tb mb rb bs ks rs :=
  (rhas_any h.ref k (by omega)).mono fun _ _ ⟨he, h1⟩ => ⟨he, h.below h1⟩
theorem ps_same (h : PS w0 w tb mb rb bs ks rs) (hs : Sy ks rs) (hl : ks.length ≤ 1000) : Calls Try.prog 19 #[.pointer (some ⟨tb, 0, none⟩), .pointer (some ⟨rb, 0, none⟩)] w fun e w' => e = .returned (.bool true) ∧ PS w0 w' tb mb rb bs ks rs :=
  (same_any h.tab h.ref hs hl).mono fun _ _ ⟨he, h1⟩ => ⟨he, h.below h1⟩
end

end Go.Proofs.Ytifdfhonhphojaa.Gs
