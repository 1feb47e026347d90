/- slices.SortedFunc over maps.Keys at our keys. -/
import Derived.Test.YtifdfhonhphojaaKo
namespace Go.Proofs.Ytifdfhonhphojaa.Sf
open Go Go.RowKit Go.Maps Go.Sort Go.Shelf Go.Proofs Go.Proofs.YtifdfhonhphojaaCore Go.Proofs.Ytifdfhonhphojaa.Fr Go.Proofs.Ytifdfhonhphojaa.Mp Go.Proofs.Ytifdfhonhphojaa.Rgm Go.Proofs.Ytifdfhonhphojaa.Ky Go.Proofs.Ytifdfhonhphojaa.Ks Go.Proofs.Ytifdfhonhphojaa.Co Go.Proofs.Ytifdfhonhphojaa.So Go.Proofs.Ytifdfhonhphojaa.Ko

theorem flat_at : ∀ (ss : List GKey) (t : Nat), (ss.flatMap cellsK)[t]? = (ss[t / 2]?).bind fun k => (cellsK k)[t % 2]?
  | [], t => by simp
  | k :: ss, 0 => by simp [cellsK]
  | k :: ss, 1 => by simp [cellsK]
  | k :: ss, t + 2 => by
    have e1 : (t + 2) / 2 = t / 2 + 1 := by omega
    have e2 : (t + 2) % 2 = t % 2 := by omega
    rw [e1, e2, List.getElem?_cons_succ, ← flat_at ss t, List.flatMap_cons]
    rw [List.getElem?_append_right (by simp [cellsK])]
    simp [cellsK]
theorem flat_eq (ss : List GKey) : (flatK cellsK 2 ss.toArray).toList = ss.flatMap cellsK := by
  apply List.ext_getElem?
  intro t
  rw [flat_at]
  unfold flatK
  rw [Array.toList_map, List.getElem?_map, Array.toList_range, List.size_toArray]
  by_cases h : t < ss.length * 2
  · rw [List.getElem?_range h]
    have h2 : t / 2 < ss.length := by omega
    rw [List.getElem?_eq_getElem h2]
    simp only [Option.map_some, Option.bind_some]
    have e1 : ss.toArray[t / 2]! = ss[t / 2] := by simp [h2]
    rw [e1]
    have h3 : t % 2 < (cellsK ss[t / 2]).length := by show t % 2 < 2; omega
    rw [List.getElem?_eq_getElem h3]
    simp [h3]
  · rw [List.getElem?_eq_none (by simp; omega), List.getElem?_eq_none (by omega)]
    rfl
theorem holds_of {w : World} {g : Nat} {cur : Array Value} {e : TypeId} {ss : List GKey} (hb : w.heap[g]? = some (.cells cur e (0, 0))) (ht : cur.toList.take (ss.length * 2) = ss.flatMap cellsK) : HoldsK cellsK 2 w g 0 ss.toArray := by
  intro j hj
  have hj' : j < ss.length * 2 := by simpa using hj
  refine ⟨?_, by simp [World.frozen?, hb]⟩
  have h1 : (cur.toList.take (ss.length * 2))[j]? = (flatK cellsK 2 ss.toArray).toList[j]? := by rw [ht, flat_eq]
  rw [List.getElem?_take_of_lt hj'] at h1
  simp only [World.cell?, hb, Nat.zero_add]
  simp only [Option.isSome_none, Bool.false_eq_true, if_false]
  rw [← Array.getElem?_toList, h1, Array.getElem?_toList, Array.getElem?_eq_getElem hj, getElem!_pos _ j hj]
  rfl
theorem heap_sorted {w : World} {g n : Nat} {os : Array Obj} {cur : Array Value} {e : TypeId} {fr : Nat × Nat} (d : Array GKey) (hb : w.heap[g]? = some (.cells cur e fr)) :
    (sortWorldK cellsK 2 w g 0 n d os).heap[g]? = some (.cells (putCells id 0 (flatK cellsK 2 d) cur) e fr) := by
  have hg : g < w.heap.size := (Array.getElem?_eq_some_iff.1 hb).1
  unfold sortWorldK putRowK
  rw [heap_grow_old _ _ (by simpa using hg)]
  simp [putRow, mapBlock, Sort.ahead, Array.getElem?_modify, hb, onCells]
theorem grownBy_sorted {w : World} {g n : Nat} {os : Array Obj} (d : Array GKey) : w.grownBy (sortWorldK cellsK 2 w g 0 n d os) (some g) := by
  unfold sortWorldK putRowK
  refine ⟨rfl, rfl, rfl, by simp, fun k hk hne => ?_⟩
  rw [heap_grow_old _ _ (by simpa using hk)]
  have : g ≠ k := fun e => hne (by rw [e])
  simp [putRow, mapBlock, Sort.ahead, Array.getElem?_modify, this]
theorem take_put (cur : Array Value) (F : Array Value) (h : F.size ≤ cur.size) : (putCells id 0 F cur).toList.take F.size = F.toList := by
  apply List.ext_getElem?
  intro j
  by_cases hj : j < F.size
  · rw [List.getElem?_take_of_lt hj, Array.getElem?_toList, Array.getElem?_toList]
    simp [putCells, hj, show j < cur.size by omega]
  · rw [List.getElem?_take_eq_none (by omega), List.getElem?_eq_none (by simp; omega)]
theorem owns_sorted {w : World} {base g cap n : Nat} {e : TypeId} {os : Array Obj} {cur : Array Value} {ss ts : List GKey} (hl : ts.length = ss.length) (hbase : base ≤ g) (hb : w.heap[g]? = some (.cells cur e (0, 0)))
    (h1 : ss.length ≤ cap) (h2 : cap ≤ maxLen) (h3 : cur.size = cap * 2) :
    (sortWorldK cellsK 2 w g 0 n ts.toArray os).ownsRow base e 2 (.slice (some ⟨g, 0, none⟩) ss.length cap) ss.length (ts.flatMap cellsK) := by
  have hf : (flatK cellsK 2 ts.toArray).size = ss.length * 2 := by rw [size_flatK, List.size_toArray, hl]
  refine ⟨by rw [cellsK_len, hl], .inr ⟨g, cap, _, rfl, hbase, heap_sorted _ hb, h1, h2, by simp [putCells, h3], ?_⟩⟩
  rw [← hf, take_put _ _ (by rw [hf, h3]; exact Nat.mul_le_mul_right _ h1), flat_eq]

theorem cmp_lays (blk off size : Nat) (w : World) : CmpLays Try.prog 29 #[] cellsK 2 cmpK blk off size w := by
  intro m os dk _ x y
  exact (cmp_any x y (sortWorldK cellsK 2 w blk off m dk os)).mono fun _ _ h => h

set_option maxHeartbeats 1000000 in
/-- slices.SortedFunc(maps.Keys(m), ..). -/
theorem sorted_keys (b : Nat) (l : List (GKey × Bool)) (w : World) (hown : MapIs encK Value.bool okK w b l) (hlen : l.length ≤ 1000000) :
    Calls Try.prog 27 #[.func (.func 38) #[] #[.pointer (some ⟨w.heap.size, 0, none⟩)], .func (.func 29) #[] #[]] (w.alloc (.cells #[.map (some b)] 59)) fun e w' =>
      ∃ (v : Value) (ss : List GKey), e = .returned v ∧ ss.Perm (l.map Prod.fst) ∧ w'.ownsRow (w.heap.size + 1) 48 2 v ss.length ((sortK ss).flatMap cellsK) ∧ (v = .slice none 0 0 ↔ ss = []) ∧ Below w.heap.size w w' := by
  have hb := hown.lt
  have hseq : SeqGives Fence.wide 2 Try.prog 38 #[.pointer (some ⟨w.heap.size, 0, none⟩)] encK (fun ss => ss.Perm (l.map Prod.fst)) l.length (w.alloc (.cells #[.map (some b)] 59)) :=
    key_gives Fence.wide 2 trivial rfl (by omega) w.heap.size b l _ (by simp) (by unfold World.cell?; rw [heap_alloc_new]; rfl) (hown.at_ (Below.heap_alloc _ _ b hb))
  have hcol := collect_in Fence.wide 4 trivial trivial rfl (by omega) 38 #[.pointer (some ⟨w.heap.size, 0, none⟩)] trivial (enters_of Try.func38 (by kernel_rfl) rfl) _ l.length (by unfold maxLen; omega) (by omega) _ hseq
  have hcol2 := callsIn_wide.1 hcol
  have HC := Lib.hid hcol2
  have hlm : ∀ ss : List GKey, ss.Perm (l.map Prod.fst) → ss.length ≤ 1000000 := fun ss h => by rw [h.length_eq, List.length_map]; exact hlen
  have HLM := Lib.hid hlm
  clear hseq hcol hcol2 hlm hown hlen hb
  obtain ⟨w1, hw1⟩ : ∃ w1, w.alloc (.cells #[.map (some b)] 59) = w1 := ⟨_, rfl⟩
  have hb1 : Below w.heap.size w w1 := by rw [← hw1]; exact (Below.refl _ _).alloc (Nat.le_refl _) _
  have hs1 : w1.heap.size = w.heap.size + 1 := by rw [← hw1]; simp
  have HB1 := Lib.hid hb1
  have HS1 := Lib.hid hs1
  rw [hw1] at HC
  rw [hw1]
  clear hb1 hs1 hw1
  go_enter Try.func27, Try.ntmps27
  go_wp2_with fail
  refine HC.out.mono ?_
  rintro e W ⟨v, ss, rfl, hS, hrow, hnil, hbl⟩
  rcases hrow.2 with ⟨rfl, hz⟩ | ⟨gb, cap, cur, rfl, hbase, hgb, r1, r2, r3, r4⟩
  · obtain rfl : ss = [] := List.eq_nil_of_length_eq_zero hz
    have hres := HB1.out.trans (hbl.mono HB1.out.size)
    have hrow2 := hrow
    rw [HS1.out] at hrow2
    have HR := Lib.hid hrow2
    have HB := Lib.hid hres
    clear hrow hrow2 hres hbl hnil
    go_wp2_with (go_at_call 37; refine (AnyF.slices_SortFunc_none Try.sortFuncK none 0 _ W).mono ?_; rintro e w' ⟨rfl, rfl⟩)
    go_ret
    exact ⟨.slice none 0 0, [], rfl, hS, by rw [show sortK [] = [] from by simp [sortK]]; exact HR.out, by simp, HB.out⟩
  · have hH := holds_of hgb r4
    have hgl : gb < W.heap.size := heap_lt hgb
    have hsz : ss.toArray.size < 4611686018427387904 := by have := HLM.out ss hS; simp; omega
    have cS := AnyQ.slices_SortFunc_total Try.sortFuncK 2 Try.isAgg48 Try.sizeOf48 cellsK (fun _ => rfl) (fun x v hv => by simp [cellsK] at hv; rcases hv with rfl | rfl <;> rfl) cmpK swoK 29 #[] gb 0 cap ss.toArray W (enters_of Try.func29 (by kernel_rfl) rfl) (cmp_lays _ _ _ _) hH hgl hsz (fun x y h1 h2 => ltK_total h1 h2)
    rw [List.size_toArray] at cS
    have hown2 : ∀ n os, (sortWorldK cellsK 2 W gb 0 n (sortK ss).toArray os).ownsRow w1.heap.size 48 2 (.slice (some ⟨gb, 0, none⟩) ss.length cap) ss.length ((sortK ss).flatMap cellsK) := fun n os => owns_sorted (by rw [sortK, List.length_mergeSort]) hbase hgb r1 r2 r3
    have hb2 : ∀ n os, Below w.heap.size w (sortWorldK cellsK 2 W gb 0 n (sortK ss).toArray os) := fun n os => (HB1.out.trans (hbl.mono HB1.out.size)).grown (grownBy_sorted _) (HB1.out.trans (hbl.mono HB1.out.size)).size (fun j hj => by cases hj; have := HB1.out.size; omega)
    rw [HS1.out] at hown2
    have CS := Lib.hid cS
    have HO := Lib.hid hown2
    have HB := Lib.hid hb2
    have HN := Lib.hid hnil
    clear cS hown2 hb2 hH hgb r1 r2 r3 r4 hrow hbl hsz hnil hgl hbase
    go_wp2_with (go_at_call 37; refine CS.out.mono ?_; rintro e w' ⟨rfl, n, os, rfl⟩)
    go_ret
    exact ⟨_, ss, rfl, hS, HO.out n os, HN.out, HB.out n os⟩

end Go.Proofs.Ytifdfhonhphojaa.Sf
