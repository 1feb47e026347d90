/- slices.Sorted over maps.Keys at ints; slices.SortedFunc over maps.Keys at our keys; its comparison; The order of our keys; plain; slices.SortedFunc over maps.Keys at our keys; A table of grants: Has, Add, Drop, List, New; A table of grants that has none: New, List. -/
import Derived.Test.YtieaipclioppkaaGreatN1
import Derived.Test.YtieaipclioppkaaGreatShelf
import Derived.WalkSpells
import Derived.StillTailTactics
import Derived.Shelf.SlSortCmp.NoneTotal
import Derived.Deep.QuietTactic
import Derived.BigQuiet
set_option linter.unusedSimpArgs false
set_option linter.unusedVariables false

/-! slices.Sorted over maps.Keys at ints; slices.SortedFunc over maps.Keys at our keys; its comparison. -/
namespace Go.Proofs.YtieaipclioppkaaGreat.So
open Go Go.RowKit Go.Maps Go.Sort Go.Shelf Go.Proofs Go.Proofs.YtieaipclioppkaaGreatCore Go.Proofs.YtieaipclioppkaaGreat.Fr Go.Proofs.YtieaipclioppkaaGreat.Mp Go.Proofs.YtieaipclioppkaaGreat.Rgm Go.Proofs.YtieaipclioppkaaGreat.Ky Go.Proofs.YtieaipclioppkaaGreat.Ks Go.Proofs.YtieaipclioppkaaGreat.Co

/-- The first that is not nought. -/
def orI (x y : Int) : Int := if x = 0 then y else x
set_option maxHeartbeats 1000000 in
theorem or_two (x y : Int) (g c : Nat) (w : World) (h0 : w.cell? ⟨g, 0, none⟩ = some (.int .i64 x)) (h1 : w.cell? ⟨g, 1, none⟩ = some (.int .i64 y)) :
    Calls Tryz.prog 85 #[.slice (some ⟨g, 0, none⟩) 2 c] w fun e w' => e = .returned (.int .i64 (orI x y)) ∧ w' = w := by
  unfold orI
  by_cases hx : x = 0
  · rw [if_pos hx]
    have hxb : (x != 0) = false := by simp [hx]
    clear hx
    by_cases hy : y = 0
    · subst hy
      go_enter Tryz.func85, Tryz.ntmps85
      go_wp2
      refine wp_loop_rounds 3 ?_
      rw [rounds_succ]
      go_wp2
      rw [rounds_succ]
      go_wp2
      rw [rounds_succ]
      go_wp2
      go_ret
      exact ⟨rfl, rfl⟩
    · have hyb : (y != 0) = true := by simp [hy]
      clear hy
      go_enter Tryz.func85, Tryz.ntmps85
      go_wp2
      refine wp_loop_rounds 3 ?_
      rw [rounds_succ]
      go_wp2
      rw [rounds_succ]
      go_wp2
      go_ret
      exact ⟨rfl, rfl⟩
  · rw [if_neg hx]
    have hxb : (x != 0) = true := by simp [hx]
    clear hx
    go_enter Tryz.func85, Tryz.ntmps85
    go_wp2
    refine wp_loop_rounds 3 ?_
    rw [rounds_succ]
    go_wp2
    go_ret
    exact ⟨rfl, rfl⟩

/-- How two keys stand. -/
def cmpK (a b : GKey) : Int := orI (Lib.compareInt a.c b.c) (Lib.compareBytes a.f.data.toList b.f.data.toList)

set_option maxHeartbeats 4000000 in
set_option maxRecDepth 100000 in
theorem cmp_any (a b : GKey) (w : World) : Calls Tryz.prog 84 #[.agg #[.int .i64 a.c, .string a.f], .agg #[.int .i64 b.c, .string b.f]] w fun e w' => e = .returned (.int .i64 (cmpK a b)) ∧ ∃ n os, w' = grow (w.drewN n) os := by
  obtain ⟨ac, af⟩ := a
  obtain ⟨bc, bf⟩ := b
  go_enter Tryz.func84, Tryz.ntmps84
  obtain ⟨w2, hw2⟩ : ∃ w2, (w.alloc (.cells #[.int .i64 ac, .string af] 95)).alloc (.cells #[.int .i64 bc, .string bf] 95) = w2 := ⟨_, rfl⟩
  have ha : w2.heap[w.heap.size]? = some (.cells #[.int .i64 ac, .string af] 95 (0, 0)) := by rw [← hw2]; exact Go.Proofs.YtieaipclioppkaaGreatCore.heap_alloc_old _ _ _ _ (heap_alloc_new _ _)
  have hb : w2.heap[w.heap.size + 1]? = some (.cells #[.int .i64 bc, .string bf] 95 (0, 0)) := by rw [← hw2]; have := heap_alloc_new (w.alloc (.cells #[.int .i64 ac, .string af] 95)) (.cells #[.int .i64 bc, .string bf] 95); rwa [World.size_alloc] at this
  have c0 : w2.cell? ⟨w.heap.size, 0, none⟩ = some (.int .i64 ac) := by unfold World.cell?; rw [ha]; rfl
  have c1 : w2.cell? ⟨w.heap.size, 1, none⟩ = some (.string af) := by unfold World.cell?; rw [ha]; rfl
  have c2 : w2.cell? ⟨w.heap.size + 1, 0, none⟩ = some (.int .i64 bc) := by unfold World.cell?; rw [hb]; rfl
  have c3 : w2.cell? ⟨w.heap.size + 1, 1, none⟩ = some (.string bf) := by unfold World.cell?; rw [hb]; rfl
  have hg2 : w2 = grow w #[.cells #[.int .i64 ac, .string af] 95, .cells #[.int .i64 bc, .string bf] 95] := by rw [← hw2, alloc_eq_grow, alloc_eq_grow, grow_grow]; rfl
  have HG2 := Lib.hid hg2
  clear hg2 ha hb
  go_wp2_with (rw [hw2])
  clear hw2
  refine wp_region_still_tail 10 (by kernel_rfl) (by kernel_rfl) ?_
  simp only [List.take_succ_cons, List.take_zero, List.drop_succ_cons, List.drop_zero]
  still_step
  still_step
  still_step
  still_step
  still_call (Tryz.cmp_Compare_int _ _ _)
  still_step
  still_step
  still_step
  still_step
  still_call (Tryz.strings_Compare _ _ _)
  refine wpStill_nil ?_
  change wpList _ _ _ _ _ w2.drew
  obtain ⟨p, hp⟩ : ∃ p, Lib.compareInt ac bc = p := ⟨_, rfl⟩
  obtain ⟨q, hq⟩ : ∃ q, Lib.compareBytes af.data.toList bf.data.toList = q := ⟨_, rfl⟩
  rw [hp, hq]
  obtain ⟨w3, hw3⟩ : ∃ w3, w2.drew.alloc (.cells #[.int .i64 p, .int .i64 q] 3) = w3 := ⟨_, rfl⟩
  have hc3 : w3.heap[w2.heap.size]? = some (.cells #[.int .i64 p, .int .i64 q] 3 (0, 0)) := by rw [← hw3]; exact heap_alloc_new w2.drew _
  have d0 : w3.cell? ⟨w2.heap.size, 0, none⟩ = some (.int .i64 p) := by unfold World.cell?; rw [hc3]; rfl
  have d1 : w3.cell? ⟨w2.heap.size, 1, none⟩ = some (.int .i64 q) := by unfold World.cell?; rw [hc3]; rfl
  have hor := or_two p q w2.heap.size 2 w3 d0 d1
  have HOR := Lib.hid hor
  have hres : cmpK ⟨ac, af⟩ ⟨bc, bf⟩ = orI p q := by unfold cmpK; simp only [hp, hq]
  have HRES := Lib.hid hres
  have hend : ∃ n os, w3 = grow (w.drewN n) os := ⟨1, #[.cells #[.int .i64 ac, .string af] 95, .cells #[.int .i64 bc, .string bf] 95] ++ #[.cells #[.int .i64 p, .int .i64 q] 3], by rw [← hw3, HG2.out, alloc_eq_grow]; rfl⟩
  have HEND := Lib.hid hend
  clear hp hq hor hres hc3 d0 d1 c0 c1 c2 c3 hend
  go_wp2_with (first | (rw [hw3]) | (go_at_call 85; refine HOR.out.mono ?_; rintro e w4 ⟨rfl, rfl⟩))
  go_ret
  exact ⟨(by rw [HRES.out]; rfl), HEND.out⟩

end Go.Proofs.YtieaipclioppkaaGreat.So

/-! The order of our keys; plain. -/
namespace Go.Proofs.YtieaipclioppkaaGreat.Ko
open Go Go.Lib Go.Sort Go.Proofs Go.Proofs.YtieaipclioppkaaGreat.Ky Go.Proofs.YtieaipclioppkaaGreat.So

theorem cb_self : ∀ a : List UInt8, compareBytes a a = 0
  | [] => rfl
  | x :: a => by
    unfold compareBytes
    rw [if_neg (UInt8.lt_irrefl x), if_neg (UInt8.lt_irrefl x)]
    exact cb_self a
theorem cb_eq : ∀ {a b : List UInt8}, compareBytes a b = 0 → a = b
  | [], [], _ => rfl
  | [], _ :: _, h => by simp [compareBytes] at h
  | _ :: _, [], h => by simp [compareBytes] at h
  | x :: a, y :: b, h => by
    unfold compareBytes at h
    split at h
    · omega
    · split at h
      · omega
      · rename_i h1 h2
        have : x = y := by
          rw [UInt8.not_lt] at h1 h2
          exact UInt8.le_antisymm h2 h1
        rw [this, cb_eq h]
theorem cb_swap : ∀ a b : List UInt8, compareBytes b a = - compareBytes a b
  | [], [] => rfl
  | [], _ :: _ => rfl
  | _ :: _, [] => rfl
  | x :: a, y :: b => by
    unfold compareBytes
    by_cases h1 : x < y
    · rw [if_pos h1, if_neg (UInt8.lt_asymm h1), if_pos h1]
      rfl
    · rw [if_neg h1]
      by_cases h2 : y < x
      · simp [h1, h2]
      · simp [h1, h2, cb_swap a b]
theorem cb_trans : ∀ {a b c : List UInt8}, compareBytes a b < 0 → compareBytes b c < 0 → compareBytes a c < 0
  | [], [], _, h, _ => by simp [compareBytes] at h
  | [], _ :: _, [], _, h => by simp [compareBytes] at h
  | [], _ :: _, _ :: _, _, _ => by simp [compareBytes]
  | _ :: _, [], _, h, _ => by simp [compareBytes] at h
  | _ :: _, _ :: _, [], _, h => by simp [compareBytes] at h
  | x :: a, y :: b, z :: c, h, k => by
    unfold compareBytes at h k ⊢
    by_cases h1 : x < y
    · by_cases k1 : y < z
      · rw [if_pos (UInt8.lt_trans h1 k1)]; omega
      · rw [if_neg k1] at k
        by_cases k2 : z < y
        · rw [if_pos k2] at k; omega
        · have : y = z := UInt8.le_antisymm (UInt8.not_lt.1 k2) (UInt8.not_lt.1 k1)
          rw [← this, if_pos h1]; omega
    · rw [if_neg h1] at h
      by_cases h2 : y < x
      · rw [if_pos h2] at h; omega
      · rw [if_neg h2] at h
        have : x = y := UInt8.le_antisymm (UInt8.not_lt.1 h2) (UInt8.not_lt.1 h1)
        subst this
        by_cases k1 : x < z
        · rw [if_pos k1]; omega
        · rw [if_neg k1] at k ⊢
          by_cases k2 : z < x
          · rw [if_pos k2] at k; omega
          · rw [if_neg k2] at k ⊢
            exact cb_trans h k

theorem ci_cases (x y : Int) : (x < y ∧ compareInt x y = -1) ∨ (y < x ∧ compareInt x y = 1) ∨ (x = y ∧ compareInt x y = 0) := by
  unfold compareInt
  by_cases h1 : x < y
  · exact .inl ⟨h1, if_pos h1⟩
  · by_cases h2 : x > y
    · exact .inr (.inl ⟨h2, by rw [if_neg h1, if_pos h2]⟩)
    · exact .inr (.inr ⟨by omega, by rw [if_neg h1, if_neg h2]⟩)
theorem cmp_neg (a b : GKey) : cmpK a b < 0 ↔ a.c < b.c ∨ (a.c = b.c ∧ compareBytes a.f.data.toList b.f.data.toList < 0) := by
  unfold cmpK orI
  rcases ci_cases a.c b.c with ⟨h, e⟩ | ⟨h, e⟩ | ⟨h, e⟩ <;> rw [e]
  · simp [h]
  · simp; omega
  · simp [h]
/-- One stands ahead of the other. -/
def ltK (a b : GKey) : Bool := decide (cmpK a b < 0)
theorem ltK_iff (a b : GKey) : ltK a b = true ↔ a.c < b.c ∨ (a.c = b.c ∧ compareBytes a.f.data.toList b.f.data.toList < 0) := by unfold ltK; rw [decide_eq_true_iff]; exact cmp_neg a b
theorem ltK_irrefl (a : GKey) : ltK a a = false := by
  rw [Bool.eq_false_iff]
  intro h
  rcases (ltK_iff a a).1 h with h | ⟨_, h⟩
  · omega
  · rw [cb_self] at h; omega
theorem ltK_trans {a b c : GKey} (h : ltK a b = true) (k : ltK b c = true) : ltK a c = true := by
  rw [ltK_iff] at h k ⊢
  rcases h with h | ⟨h, h2⟩ <;> rcases k with k | ⟨k, k2⟩
  · exact .inl (by omega)
  · exact .inl (by omega)
  · exact .inl (by omega)
  · exact .inr ⟨by omega, cb_trans h2 k2⟩
theorem ltK_total {a b : GKey} (h : ltK a b = false) (k : ltK b a = false) : a = b := by
  obtain ⟨ac, af⟩ := a
  obtain ⟨bc, bf⟩ := b
  have h1 : ¬ (ltK ⟨ac, af⟩ ⟨bc, bf⟩ = true) := by rw [h]; simp
  have k1 : ¬ (ltK ⟨bc, bf⟩ ⟨ac, af⟩ = true) := by rw [k]; simp
  rw [ltK_iff] at h1 k1
  simp only at h1 k1
  have hc : ac = bc := by omega
  subst hc
  have e1 : compareBytes af.data.toList bf.data.toList = 0 := by
    have := cb_swap af.data.toList bf.data.toList
    omega
  have e2 := cb_eq e1
  have : af = bf := by
    obtain ⟨⟨x⟩⟩ := af
    obtain ⟨⟨y⟩⟩ := bf
    simp at e2
    rw [e2]
  rw [this]
theorem ltK_ntrans {a b c : GKey} (h : ltK a b = false) (k : ltK b c = false) : ltK a c = false := by
  rw [Bool.eq_false_iff]
  intro hac
  cases hba : ltK b a with
  | true =>
    have := ltK_trans hba hac
    rw [k] at this
    cases this
  | false =>
    have := ltK_total h hba
    subst this
    rw [k] at hac
    cases hac
theorem lt_of : ltOf cmpK = ltK := rfl
theorem swoK : SWO (ltOf cmpK) := ⟨fun x => ltK_irrefl x, fun _ _ _ => ltK_trans, fun _ _ _ => ltK_ntrans⟩

/-- In order. -/
def sortK (l : List GKey) : List GKey := l.mergeSort fun x y => !ltK y x
theorem sortK_perm (l : List GKey) : (sortK l).Perm l := List.mergeSort_perm _ _
theorem sortK_sorted (l : List GKey) : (sortK l).Pairwise (fun a b => ltK b a = false) := by
  have h := List.pairwise_mergeSort (le := fun x y => !ltK y x) (fun a b c h k => by
    simp only [Bool.not_eq_true'] at h k ⊢
    exact ltK_ntrans k h) (fun a b => by
    cases h1 : ltK b a <;> cases h2 : ltK a b <;> simp
    have := ltK_trans h1 h2
    rw [ltK_irrefl] at this
    cases this) l
  exact h.imp (fun h => by simpa using h)
/-- Two lists in order of the same keys, each once, are one. -/
theorem eq_of_sorted : ∀ {a b : List GKey}, a.Perm b → a.Pairwise (fun x y => ltK x y = true) → b.Pairwise (fun x y => ltK x y = true) → a = b
  | [], b, hp, _, _ => (List.nil_perm.1 hp).symm
  | x :: a, [], hp, _, _ => by simp at hp
  | x :: a, y :: b, hp, ha, hb => by
    rw [List.pairwise_cons] at ha hb
    have hxy : x = y := by
      have hx : x ∈ y :: b := hp.mem_iff.1 (List.mem_cons_self ..)
      have hy : y ∈ x :: a := hp.mem_iff.2 (List.mem_cons_self ..)
      rcases List.mem_cons.1 hx with h | h
      · exact h
      · rcases List.mem_cons.1 hy with k | k
        · exact k.symm
        · have h1 := hb.1 x h
          have h2 := ha.1 y k
          have := ltK_trans h1 h2
          rw [ltK_irrefl] at this
          cases this
    subst hxy
    rw [eq_of_sorted (List.perm_cons _ |>.1 hp) ha.2 hb.2]
theorem strict_of {l : List GKey} (hn : l.Nodup) (hs : l.Pairwise (fun a b => ltK b a = false)) : l.Pairwise (fun x y => ltK x y = true) := by
  rw [List.nodup_iff_pairwise_ne] at hn
  exact (hn.and hs).imp (fun {a b} ⟨h1, h2⟩ => by
    cases h : ltK a b with
    | true => rfl
    | false => exact absurd (ltK_total h h2) h1)
theorem nodup_of_strict {l : List GKey} (hs : l.Pairwise (fun x y => ltK x y = true)) : l.Nodup := by
  rw [List.nodup_iff_pairwise_ne]
  exact hs.imp (fun {a b} h e => by rw [e, ltK_irrefl] at h; cases h)
theorem sortK_eq {a b : List GKey} (hn : a.Nodup) (hp : a.Perm b) (hb : b.Pairwise (fun x y => ltK x y = true)) : sortK a = b :=
  eq_of_sorted ((sortK_perm a).trans hp) (strict_of ((sortK_perm a).nodup_iff.2 hn) (sortK_sorted a)) hb

end Go.Proofs.YtieaipclioppkaaGreat.Ko

/-! slices.SortedFunc over maps.Keys at our keys. -/
namespace Go.Proofs.YtieaipclioppkaaGreat.Sf
open Go Go.RowKit Go.Maps Go.Sort Go.Shelf Go.Proofs Go.Proofs.YtieaipclioppkaaGreatCore Go.Proofs.YtieaipclioppkaaGreat.Fr Go.Proofs.YtieaipclioppkaaGreat.Mp Go.Proofs.YtieaipclioppkaaGreat.Rgm Go.Proofs.YtieaipclioppkaaGreat.Ky Go.Proofs.YtieaipclioppkaaGreat.Ks Go.Proofs.YtieaipclioppkaaGreat.Co Go.Proofs.YtieaipclioppkaaGreat.So Go.Proofs.YtieaipclioppkaaGreat.Ko

theorem flat_at : ∀ (ss : List GKey) (t : Nat), (ss.flatMap cellsK)[t]? = (ss[t / 2]?).bind fun k => (cellsK k)[t % 2]?
  | [], t => by simp
  | k :: ss, 0 => by simp [cellsK]
  | k :: ss, 1 => by simp [cellsK]
  | k :: ss, t + 2 => by
    have e1 : (t + 2) / 2 = t / 2 + 1 := by omega
    have e2 : (t + 2) % 2 = t % 2 := by omega
    rw [e1, e2, List.getElem?_cons_succ, ← flat_at ss t, List.flatMap_cons]
    rw [List.getElem?_append_right (by simp [cellsK])]
    simp [cellsK]
theorem flat_eq (ss : List GKey) : (flatK cellsK 2 ss.toArray).toList = ss.flatMap cellsK := by
  apply List.ext_getElem?
  intro t
  rw [flat_at]
  unfold flatK
  rw [Array.toList_map, List.getElem?_map, Array.toList_range, List.size_toArray]
  by_cases h : t < ss.length * 2
  · rw [List.getElem?_range h]
    have h2 : t / 2 < ss.length := by omega
    rw [List.getElem?_eq_getElem h2]
    simp only [Option.map_some, Option.bind_some]
    have e1 : ss.toArray[t / 2]! = ss[t / 2] := by simp [h2]
    rw [e1]
    have h3 : t % 2 < (cellsK ss[t / 2]).length := by show t % 2 < 2; omega
    rw [List.getElem?_eq_getElem h3]
    simp [h3]
  · rw [List.getElem?_eq_none (by simp; omega), List.getElem?_eq_none (by omega)]
    rfl
theorem holds_of {w : World} {g : Nat} {cur : Array Value} {e : TypeId} {ss : List GKey} (hb : w.heap[g]? = some (.cells cur e (0, 0))) (ht : cur.toList.take (ss.length * 2) = ss.flatMap cellsK) : HoldsK cellsK 2 w g 0 ss.toArray := by
  intro j hj
  have hj' : j < ss.length * 2 := by simpa using hj
  refine ⟨?_, by simp [World.frozen?, hb]⟩
  have h1 : (cur.toList.take (ss.length * 2))[j]? = (flatK cellsK 2 ss.toArray).toList[j]? := by rw [ht, flat_eq]
  rw [List.getElem?_take_of_lt hj'] at h1
  simp only [World.cell?, hb, Nat.zero_add]
  simp only [Option.isSome_none, Bool.false_eq_true, if_false]
  rw [← Array.getElem?_toList, h1, Array.getElem?_toList, Array.getElem?_eq_getElem hj, getElem!_pos _ j hj]
  rfl
theorem heap_sorted {w : World} {g n : Nat} {os : Array Obj} {cur : Array Value} {e : TypeId} {fr : Nat × Nat} (d : Array GKey) (hb : w.heap[g]? = some (.cells cur e fr)) :
    (sortWorldK cellsK 2 w g 0 n d os).heap[g]? = some (.cells (putCells id 0 (flatK cellsK 2 d) cur) e fr) := by
  have hg : g < w.heap.size := (Array.getElem?_eq_some_iff.1 hb).1
  unfold sortWorldK putRowK
  rw [heap_grow_old _ _ (by simpa using hg)]
  simp [putRow, mapBlock, Sort.ahead, Array.getElem?_modify, hb, onCells]
theorem grownBy_sorted {w : World} {g n : Nat} {os : Array Obj} (d : Array GKey) : w.grownBy (sortWorldK cellsK 2 w g 0 n d os) (some g) := by
  unfold sortWorldK putRowK
  refine ⟨rfl, rfl, rfl, by simp, fun k hk hne => ?_⟩
  rw [heap_grow_old _ _ (by simpa using hk)]
  have : g ≠ k := fun e => hne (by rw [e])
  simp [putRow, mapBlock, Sort.ahead, Array.getElem?_modify, this]
theorem take_put (cur : Array Value) (F : Array Value) (h : F.size ≤ cur.size) : (putCells id 0 F cur).toList.take F.size = F.toList := by
  apply List.ext_getElem?
  intro j
  by_cases hj : j < F.size
  · rw [List.getElem?_take_of_lt hj, Array.getElem?_toList, Array.getElem?_toList]
    simp [putCells, hj, show j < cur.size by omega]
  · rw [List.getElem?_take_eq_none (by omega), List.getElem?_eq_none (by simp; omega)]
theorem owns_sorted {w : World} {base g cap n : Nat} {e : TypeId} {os : Array Obj} {cur : Array Value} {ss ts : List GKey} (hl : ts.length = ss.length) (hbase : base ≤ g) (hb : w.heap[g]? = some (.cells cur e (0, 0)))
    (h1 : ss.length ≤ cap) (h2 : cap ≤ maxLen) (h3 : cur.size = cap * 2) :
    (sortWorldK cellsK 2 w g 0 n ts.toArray os).ownsRow base e 2 (.slice (some ⟨g, 0, none⟩) ss.length cap) ss.length (ts.flatMap cellsK) := by
  have hf : (flatK cellsK 2 ts.toArray).size = ss.length * 2 := by rw [size_flatK, List.size_toArray, hl]
  refine ⟨by rw [cellsK_len, hl], .inr ⟨g, cap, _, rfl, hbase, heap_sorted _ hb, h1, h2, by simp [putCells, h3], ?_⟩⟩
  rw [← hf, take_put _ _ (by rw [hf, h3]; exact Nat.mul_le_mul_right _ h1), flat_eq]

theorem cmp_lays (blk off size : Nat) (w : World) : CmpLays Tryz.prog 84 #[] cellsK 2 cmpK blk off size w := by
  intro m os dk _ x y
  exact (cmp_any x y (sortWorldK cellsK 2 w blk off m dk os)).mono fun _ _ h => h

set_option maxHeartbeats 1000000 in
/-- slices.SortedFunc(maps.Keys(m), ..). -/
theorem sorted_keys (b : Nat) (l : List (GKey × Bool)) (w : World) (hown : MapIs encK Value.bool okK w b l) (hlen : l.length ≤ 1000000) :
    Calls Tryz.prog 82 #[.func (.func 106) #[] #[.pointer (some ⟨w.heap.size, 0, none⟩)], .func (.func 84) #[] #[]] (w.alloc (.cells #[.map (some b)] 157)) fun e w' =>
      ∃ (v : Value) (ss : List GKey), e = .returned v ∧ ss.Perm (l.map Prod.fst) ∧ w'.ownsRow (w.heap.size + 1) 95 2 v ss.length ((sortK ss).flatMap cellsK) ∧ (v = .slice none 0 0 ↔ ss = []) ∧ Below w.heap.size w w' := by
  have hb := hown.lt
  have hseq : SeqGives Fence.wide 2 Tryz.prog 106 #[.pointer (some ⟨w.heap.size, 0, none⟩)] encK (fun ss => ss.Perm (l.map Prod.fst)) l.length (w.alloc (.cells #[.map (some b)] 157)) :=
    key_gives Fence.wide 2 trivial rfl (by omega) w.heap.size b l _ (by simp) (by unfold World.cell?; rw [heap_alloc_new]; rfl) (hown.at_ (Below.heap_alloc _ _ b hb))
  have hcol := collect_in Fence.wide 4 trivial trivial rfl (by omega) 106 #[.pointer (some ⟨w.heap.size, 0, none⟩)] trivial (enters_of Tryz.func106 (by kernel_rfl) rfl) _ l.length (by unfold maxLen; omega) (by omega) _ hseq
  have hcol2 := callsIn_wide.1 hcol
  have HC := Lib.hid hcol2
  have hlm : ∀ ss : List GKey, ss.Perm (l.map Prod.fst) → ss.length ≤ 1000000 := fun ss h => by rw [h.length_eq, List.length_map]; exact hlen
  have HLM := Lib.hid hlm
  clear hseq hcol hcol2 hlm hown hlen hb
  obtain ⟨w1, hw1⟩ : ∃ w1, w.alloc (.cells #[.map (some b)] 157) = w1 := ⟨_, rfl⟩
  have hb1 : Below w.heap.size w w1 := by rw [← hw1]; exact (Below.refl _ _).alloc (Nat.le_refl _) _
  have hs1 : w1.heap.size = w.heap.size + 1 := by rw [← hw1]; simp
  have HB1 := Lib.hid hb1
  have HS1 := Lib.hid hs1
  rw [hw1] at HC
  rw [hw1]
  clear hb1 hs1 hw1
  go_enter Tryz.func82, Tryz.ntmps82
  go_wp2_with fail
  refine HC.out.mono ?_
  rintro e W ⟨v, ss, rfl, hS, hrow, hnil, hbl⟩
  rcases hrow.2 with ⟨rfl, hz⟩ | ⟨gb, cap, cur, rfl, hbase, hgb, r1, r2, r3, r4⟩
  · obtain rfl : ss = [] := List.eq_nil_of_length_eq_zero hz
    have hres := HB1.out.trans (hbl.mono HB1.out.size)
    have hrow2 := hrow
    rw [HS1.out] at hrow2
    have HR := Lib.hid hrow2
    have HB := Lib.hid hres
    clear hrow hrow2 hres hbl hnil
    go_wp2_with (go_at_call 105; refine (AnyF.slices_SortFunc_none Tryz.sortFuncK none 0 _ W).mono ?_; rintro e w' ⟨rfl, rfl⟩)
    go_ret
    exact ⟨.slice none 0 0, [], rfl, hS, by rw [show sortK [] = [] from by simp [sortK]]; exact HR.out, by simp, HB.out⟩
  · have hH := holds_of hgb r4
    have hgl : gb < W.heap.size := heap_lt hgb
    have hsz : ss.toArray.size < 4611686018427387904 := by have := HLM.out ss hS; simp; omega
    have cS := AnyQ.slices_SortFunc_total Tryz.sortFuncK 2 Tryz.isAgg95 Tryz.sizeOf95 cellsK (fun _ => rfl) (fun x v hv => by simp [cellsK] at hv; rcases hv with rfl | rfl <;> rfl) cmpK swoK 84 #[] gb 0 cap ss.toArray W (enters_of Tryz.func84 (by kernel_rfl) rfl) (cmp_lays _ _ _ _) hH hgl hsz (fun x y h1 h2 => ltK_total h1 h2)
    rw [List.size_toArray] at cS
    have hown2 : ∀ n os, (sortWorldK cellsK 2 W gb 0 n (sortK ss).toArray os).ownsRow w1.heap.size 95 2 (.slice (some ⟨gb, 0, none⟩) ss.length cap) ss.length ((sortK ss).flatMap cellsK) := fun n os => owns_sorted (by rw [sortK, List.length_mergeSort]) hbase hgb r1 r2 r3
    have hb2 : ∀ n os, Below w.heap.size w (sortWorldK cellsK 2 W gb 0 n (sortK ss).toArray os) := fun n os => (HB1.out.trans (hbl.mono HB1.out.size)).grown (grownBy_sorted _) (HB1.out.trans (hbl.mono HB1.out.size)).size (fun j hj => by cases hj; have := HB1.out.size; omega)
    rw [HS1.out] at hown2
    have CS := Lib.hid cS
    have HO := Lib.hid hown2
    have HB := Lib.hid hb2
    have HN := Lib.hid hnil
    clear cS hown2 hb2 hH hgb r1 r2 r3 r4 hrow hbl hsz hnil hgl hbase
    go_wp2_with (go_at_call 105; refine CS.out.mono ?_; rintro e w' ⟨rfl, n, os, rfl⟩)
    go_ret
    exact ⟨_, ss, rfl, hS, HO.out n os, HN.out, HB.out n os⟩

end Go.Proofs.YtieaipclioppkaaGreat.Sf

/-! A table of grants: Has, Add, Drop, List, New. -/
namespace Go.Proofs.YtieaipclioppkaaGreat.Tl
open Go Go.RowKit Go.Proofs.YtieaipclioppkaaGreatCore Go.Proofs.YtieaipclioppkaaGreat.Fr Go.Proofs.YtieaipclioppkaaGreat.Mp Go.Proofs.YtieaipclioppkaaGreat.Rgm Go.Proofs.YtieaipclioppkaaGreat.Ky Go.Proofs.YtieaipclioppkaaGreat.Ks Go.Proofs.YtieaipclioppkaaGreat.Co Go.Proofs.YtieaipclioppkaaGreat.So Go.Proofs.YtieaipclioppkaaGreat.Ko Go.Proofs.YtieaipclioppkaaGreat.Sf

def trues (ks : List GKey) : List (GKey × Bool) := ks.map fun k => (k, true)
theorem trues_fst (ks : List GKey) : (trues ks).map Prod.fst = ks := by simp [trues, List.map_map, Function.comp_def]
theorem look_trues (ks : List GKey) (k : GKey) : ((Mp.look (trues ks) k).map Value.bool).getD (.bool false) = .bool (decide (k ∈ ks)) := by
  have h := look_iff (l := trues ks) (k := k)
  rw [trues_fst] at h
  cases hl : Mp.look (trues ks) k with
  | none =>
    rw [hl] at h
    have : ¬ k ∈ ks := fun hk => by have := h.2 hk; cases this
    simp [this]
  | some v =>
    rw [hl] at h
    have hk : k ∈ ks := h.1 rfl
    have hv : v = true := by
      have : ∀ l : List GKey, Mp.look (trues l) k = some v → v = true := by
        intro l
        induction l with
        | nil => intro h; cases h
        | cons a l ih =>
          intro h
          show v = true
          unfold trues at h
          rw [List.map_cons, Mp.look] at h
          split at h
          · injection h with h; exact h.symm
          · exact ih h
      exact this ks hl
    simp [hk, hv]
theorem put_trues {ks : List GKey} {k : GKey} (h : ¬ k ∈ ks) : put (trues ks) k true = trues (ks ++ [k]) := by
  rw [(look_none (l := trues ks) (k := k) (fun p hp e => by
    obtain ⟨x, hx, rfl⟩ := List.mem_map.1 hp
    exact h (e ▸ hx))).2.1]
  simp [trues]
theorem del_trues (ks : List GKey) (k : GKey) : del (trues ks) k = trues (ks.erase k) := by
  induction ks with
  | nil => rfl
  | cons a ks ih =>
    unfold trues at ih ⊢
    rw [List.map_cons, del, List.erase_cons]
    by_cases h : a = k
    · rw [if_pos h, if_pos (by simpa using h)]
    · rw [if_neg h, if_neg (by simpa using h), ih, List.map_cons]

structure TabAt (w : World) (tb mb : Nat) (ks : List GKey) : Prop where
  head : w.heap[tb]? = some (.cells #[.map (some mb)] 159 (0, 0))
  map : MapIs encK Value.bool okK w mb (trues ks)
theorem TabAt.fr {S : Nat → Prop} {w w' : World} {tb mb : Nat} {ks : List GKey} (h : TabAt w tb mb ks) (f : Fr S w w') (h1 : ¬ S tb) (h2 : ¬ S mb) : TabAt w' tb mb ks := ⟨f.at_ h.head h1, h.map.fr f h2⟩
theorem TabAt.below {w w' : World} {tb mb : Nat} {ks : List GKey} (h : TabAt w tb mb ks) (f : Below w.heap.size w w') : TabAt w' tb mb ks := h.fr (S := fun _ => False) (Fr.of_below f) (fun h => h) (fun h => h)
theorem TabAt.cell {w : World} {tb mb : Nat} {ks : List GKey} (h : TabAt w tb mb ks) : w.cell? ⟨tb, 0, none⟩ = some (.map (some mb)) := by unfold World.cell?; rw [h.head]; rfl
theorem TabAt.nodup {w : World} {tb mb : Nat} {ks : List GKey} (h : TabAt w tb mb ks) : ks.Nodup := by have := h.map.nodup; rwa [trues_fst] at this
theorem TabAt.look {w : World} {tb mb : Nat} {ks : List GKey} (h : TabAt w tb mb ks) {k : GKey} (hk : okK k) : (Instr.lookup 157 (.map (some mb)) (.agg #[.int .i64 k.c, .string k.f]) false).run Tryz.prog w = .ok (.bool (decide (k ∈ ks))) w := by
  have := h.map.lookup encK_M Tryz.underlying157 (z := .bool false) (Tryz.zeroValue4 w) hk
  rw [look_trues] at this
  exact this

theorem pw_below {w w' : World} {a : Addr} {v : Value} (hb : Below w.heap.size w w') (h : w.cell? a = some v) : w'.cell? a = some v := (hb.cell (World.block_lt_of_cell? w _ h)).trans h

set_option maxHeartbeats 4000000 in
set_option maxRecDepth 100000 in
theorem list_nil (w : World) : Calls Tryz.prog 43 #[.pointer none] w fun e w' => e = .returned (.slice none 0 0) ∧ Below w.heap.size w w' := by
  go_enter Tryz.func43, Tryz.ntmps43
  go_wp2_with fail
  refine bodyPost_ret (v := .slice none 0 0) (by simp [results, Tryz.results43, go_sem]) rfl ⟨rfl, Below.refl _ _⟩

set_option maxHeartbeats 4000000 in
set_option maxRecDepth 100000 in
theorem list_any {w : World} {tb mb : Nat} {ks : List GKey} (h : TabAt w tb mb ks) (hl : ks.length ≤ 1000) :
    Calls Tryz.prog 43 #[.pointer (some ⟨tb, 0, none⟩)] w fun e w' => ∃ v, e = .returned v ∧ w'.ownsRow (w.heap.size + 1) 95 2 v ks.length ((sortK ks).flatMap cellsK) ∧ (v = .slice none 0 0 ↔ ks = []) ∧ Below w.heap.size w w' := by
  have hlen : (trues ks).length ≤ 1000000 := by simp [trues]; omega
  have hs := sorted_keys mb (trues ks) w h.map hlen
  have HS := Lib.hid hs
  have ht := h.cell
  have H := Lib.hid h
  clear hs hlen h
  go_enter Tryz.func43, Tryz.ntmps43
  go_wp2_with fail
  refine (key_keys _ _).mono ?_
  rintro e w' ⟨rfl, rfl⟩
  clear ht
  obtain ⟨w1, hw1⟩ : ∃ w1, w.alloc (.cells #[.map (some mb)] 157) = w1 := ⟨_, rfl⟩
  rw [hw1] at HS
  rw [hw1]
  go_wp2_with fail
  refine HS.out.mono ?_
  rintro e w2 ⟨v, ss, rfl, hp, hr, hn, hb⟩
  rw [trues_fst] at hp
  have hss : sortK ss = sortK ks := by
    have hnd := H.out.nodup
    exact sortK_eq (hp.nodup_iff.2 hnd) (hp.trans (sortK_perm ks).symm) (strict_of ((sortK_perm ks).nodup_iff.2 hnd) (sortK_sorted ks))
  rw [hss, hp.length_eq] at hr
  have hn2 : v = .slice none 0 0 ↔ ks = [] := hn.trans ⟨fun e => by rw [e] at hp; exact List.nil_perm.1 hp, fun e => by rw [e] at hp; exact List.perm_nil.1 hp⟩
  have HR := Lib.hid hr
  have HN2 := Lib.hid hn2
  have HB := Lib.hid hb
  clear hr hn hn2 hb hss hp hw1
  go_wp2_with fail
  go_ret
  exact ⟨v, rfl, HR.out, HN2.out, HB.out⟩

end Go.Proofs.YtieaipclioppkaaGreat.Tl

/-! A table of grants that has none: New, List. -/
namespace Go.Proofs.YtieaipclioppkaaGreat.G0
open Go Go.RowKit Go.Proofs.YtieaipclioppkaaGreatCore Go.Proofs.YtieaipclioppkaaGreat.Fr Go.Proofs.YtieaipclioppkaaGreat.Mp Go.Proofs.YtieaipclioppkaaGreat.Rgm Go.Proofs.YtieaipclioppkaaGreat.Ky Go.Proofs.YtieaipclioppkaaGreat.Tl Go.Proofs.YtieaipclioppkaaGreat.Ko

def Tab0 (w : World) (tb : Nat) : Prop := ∃ mb, TabAt w tb mb []
theorem Tab0.below {w w' : World} {tb : Nat} (h : Tab0 w tb) (hb : Below w.heap.size w w') : Tab0 w' tb := let ⟨mb, h⟩ := h; ⟨mb, h.below hb⟩
def New0 (w : World) (e : Ending) (w' : World) : Prop := ∃ tb, e = .returned (.tuple #[.pointer (some ⟨tb, 0, none⟩), .int .i64 0]) ∧ Tab0 w' tb ∧ Below w.heap.size w w'
def List0 (w : World) (e : Ending) (w' : World) : Prop := ∃ A c, e = .returned (.slice A 0 c) ∧ Below w.heap.size w w'
def ZW (w0 : World) (v : Value) (wr : World) : Prop := v = .int .i64 0 ∧ w0 = wr

set_option maxHeartbeats 4000000 in
set_option maxRecDepth 100000 in
theorem new0 (w : World) : Calls Tryz.prog 41 #[.slice none 0 0] w (New0 w) := by
  have hmm := @run_makeMap Tryz.prog
  obtain ⟨w1, hw1⟩ : ∃ w1, (w.alloc (.map #[] 0)).alloc (.cells #[.map (some w.heap.size)] 159) = w1 := ⟨_, rfl⟩
  have hb1 : Below w.heap.size w w1 := by rw [← hw1]; exact ((Below.refl _ _).alloc (Nat.le_refl _) _).alloc (by simp) _
  have ht1 : TabAt w1 (w.heap.size + 1) w.heap.size [] := by
    rw [← hw1]
    refine ⟨?_, ?_⟩
    · have := heap_alloc_new (w.alloc (.map #[] 0)) (.cells #[.map (some w.heap.size)] 159)
      rwa [World.size_alloc] at this
    · have h := MapIs.made (V := Bool) encK Value.bool okK w
      exact h.at_ (Below.heap_alloc _ _ _ (by simp))
  have HB1 := Lib.hid hb1
  have HT1 := Lib.hid ht1
  clear hb1 ht1
  go_enter Tryz.func41, Tryz.ntmps41
  go_wp2_with (rw [hw1])
  go_loopg [13] 1 (fun gk v wr => ZW w1 v wr)
  case atStart => exact ⟨rfl, rfl⟩
  case round =>
    obtain ⟨rfl, rfl⟩ := hrel
    go_wp2_with fail
    go_ret2
    exact ⟨w.heap.size + 1, rfl, ⟨w.heap.size, HT1.out⟩, HB1.out⟩

theorem list0 (tb : Nat) (w : World) (h : Tab0 w tb) : Calls Tryz.prog 43 #[.pointer (some ⟨tb, 0, none⟩)] w (List0 w) := by
  obtain ⟨mb, h⟩ := h
  refine (list_any h (by simp)).mono ?_
  rintro e w' ⟨v, rfl, hr, hn, hb⟩
  obtain rfl := hn.2 rfl
  exact ⟨none, 0, rfl, hb⟩

end Go.Proofs.YtieaipclioppkaaGreat.G0
