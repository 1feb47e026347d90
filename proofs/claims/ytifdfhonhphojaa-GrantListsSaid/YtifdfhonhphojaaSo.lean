/- slices.Sorted over maps.Keys at ints; slices.SortedFunc over maps.Keys at our keys; its comparison. -/
import Derived.Test.YtifdfhonhphojaaCo
import Derived.Test.YtifdfhonhphojaaShelf
import Derived.WalkSpells
import Derived.StillTailTactics
namespace Go.Proofs.Ytifdfhonhphojaa.So
open Go Go.RowKit Go.Maps Go.Sort Go.Shelf Go.Proofs Go.Proofs.YtifdfhonhphojaaCore Go.Proofs.Ytifdfhonhphojaa.Fr Go.Proofs.Ytifdfhonhphojaa.Mp Go.Proofs.Ytifdfhonhphojaa.Rgm Go.Proofs.Ytifdfhonhphojaa.Ky Go.Proofs.Ytifdfhonhphojaa.Ks Go.Proofs.Ytifdfhonhphojaa.Co

theorem sorts (m : Nat) : AnyZI.SortsIn Try.prog Try.sortedI_ren Fence.wide m :=
  ⟨fun blk off cap ss W hH hblk hsz => callsIn_wide.2 (AnyM.slices_Sort_int Try.laysSlM5_f34 blk off cap ss W hH hblk hsz),
   fun p cap W => callsIn_wide.2 (AnyM.slices_Sort_int_none Try.laysSlM5_f34 p cap W)⟩

/-- slices.Sorted(maps.Keys(m)). -/
theorem sorted_ints (b : Nat) (l : List (Int × Bool)) (w : World) (hown : MapIs encI Value.bool okI w b l) (hlen : l.length ≤ 10000000) :
    Calls Try.prog 23 #[.func (.func 35) #[] #[.pointer (some ⟨w.heap.size, 0, none⟩)]] (w.alloc (.cells #[.map (some b)] 61)) fun e w' =>
      ∃ (v : Value) (ss : List Int), e = .returned v ∧ ss.Perm (l.map Prod.fst) ∧ w'.ownsRow (w.heap.size + 1) 3 1 v ss.length ((ss.mergeSort (fun x y => decide (x ≤ y))).map encI) ∧ (v = .slice none 0 0 ↔ ss = []) ∧ Below w.heap.size w w' := by
  have hb := hown.lt
  have hseq : SeqGives Fence.wide 2 Try.prog 35 #[.pointer (some ⟨w.heap.size, 0, none⟩)] encZ (fun ss => ss.Perm (l.map Prod.fst)) l.length (w.alloc (.cells #[.map (some b)] 61)) :=
    int_gives Fence.wide 2 trivial rfl (by omega) w.heap.size b l _ (by simp) (by unfold World.cell?; rw [heap_alloc_new]; rfl) (hown.at_ (Below.heap_alloc _ _ b hb))
  have h := AnyZI.sorted_in Try.sortedI Fence.wide 5 trivial trivial trivial trivial rfl (by omega) (sorts _) (enters_of Try.func34 (by kernel_rfl) rfl) 35 #[.pointer (some ⟨w.heap.size, 0, none⟩)] trivial (enters_of Try.func35 (by kernel_rfl) rfl) _ _ (by unfold maxLen; omega) (by omega) _ hseq
  refine (callsIn_wide.1 h).mono ?_
  rintro e w' ⟨v, ss, he, hp, hr, hn, hbl⟩
  rw [World.size_alloc] at hr hbl
  exact ⟨v, ss, he, hp, hr, hn, ((Below.refl _ _).alloc (Nat.le_refl _) _).trans (hbl.mono (by omega))⟩

/-- The first that is not nought. -/
def orI (x y : Int) : Int := if x = 0 then y else x
set_option maxHeartbeats 1000000 in
theorem or_two (x y : Int) (g c : Nat) (w : World) (h0 : w.cell? ⟨g, 0, none⟩ = some (.int .i64 x)) (h1 : w.cell? ⟨g, 1, none⟩ = some (.int .i64 y)) :
    Calls Try.prog 30 #[.slice (some ⟨g, 0, none⟩) 2 c] w fun e w' => e = .returned (.int .i64 (orI x y)) ∧ w' = w := by
  unfold orI
  by_cases hx : x = 0
  · rw [if_pos hx]
    have hxb : (x != 0) = false := by simp [hx]
    clear hx
    by_cases hy : y = 0
    · subst hy
      go_enter Try.func30, Try.ntmps30
      go_wp2
      refine wp_loop_rounds 3 ?_
      rw [rounds_succ]
      go_wp2
      rw [rounds_succ]
      go_wp2
      rw [rounds_succ]
      go_wp2
      go_ret
      exact ⟨rfl, rfl⟩
    · have hyb : (y != 0) = true := by simp [hy]
      clear hy
      go_enter Try.func30, Try.ntmps30
      go_wp2
      refine wp_loop_rounds 3 ?_
      rw [rounds_succ]
      go_wp2
      rw [rounds_succ]
      go_wp2
      go_ret
      exact ⟨rfl, rfl⟩
  · rw [if_neg hx]
    have hxb : (x != 0) = true := by simp [hx]
    clear hx
    go_enter Try.func30, Try.ntmps30
    go_wp2
    refine wp_loop_rounds 3 ?_
    rw [rounds_succ]
    go_wp2
    go_ret
    exact ⟨rfl, rfl⟩

/-- How two keys stand. -/
def cmpK (a b : GKey) : Int := orI (Lib.compareInt a.c b.c) (Lib.compareBytes a.f.data.toList b.f.data.toList)

set_option maxHeartbeats 4000000 in
set_option maxRecDepth 100000 in
theorem cmp_any (a b : GKey) (w : World) : Calls Try.prog 29 #[.agg #[.int .i64 a.c, .string a.f], .agg #[.int .i64 b.c, .string b.f]] w fun e w' => e = .returned (.int .i64 (cmpK a b)) ∧ ∃ n os, w' = grow (w.drewN n) os := by
  obtain ⟨ac, af⟩ := a
  obtain ⟨bc, bf⟩ := b
  go_enter Try.func29, Try.ntmps29
  obtain ⟨w2, hw2⟩ : ∃ w2, (w.alloc (.cells #[.int .i64 ac, .string af] 48)).alloc (.cells #[.int .i64 bc, .string bf] 48) = w2 := ⟨_, rfl⟩
  have ha : w2.heap[w.heap.size]? = some (.cells #[.int .i64 ac, .string af] 48 (0, 0)) := by rw [← hw2]; exact Go.Proofs.YtifdfhonhphojaaCore.heap_alloc_old _ _ _ _ (heap_alloc_new _ _)
  have hb : w2.heap[w.heap.size + 1]? = some (.cells #[.int .i64 bc, .string bf] 48 (0, 0)) := by rw [← hw2]; have := heap_alloc_new (w.alloc (.cells #[.int .i64 ac, .string af] 48)) (.cells #[.int .i64 bc, .string bf] 48); rwa [World.size_alloc] at this
  have c0 : w2.cell? ⟨w.heap.size, 0, none⟩ = some (.int .i64 ac) := by unfold World.cell?; rw [ha]; rfl
  have c1 : w2.cell? ⟨w.heap.size, 1, none⟩ = some (.string af) := by unfold World.cell?; rw [ha]; rfl
  have c2 : w2.cell? ⟨w.heap.size + 1, 0, none⟩ = some (.int .i64 bc) := by unfold World.cell?; rw [hb]; rfl
  have c3 : w2.cell? ⟨w.heap.size + 1, 1, none⟩ = some (.string bf) := by unfold World.cell?; rw [hb]; rfl
  have hg2 : w2 = grow w #[.cells #[.int .i64 ac, .string af] 48, .cells #[.int .i64 bc, .string bf] 48] := by rw [← hw2, alloc_eq_grow, alloc_eq_grow, grow_grow]; rfl
  have HG2 := Lib.hid hg2
  clear hg2 ha hb
  go_wp2_with (rw [hw2])
  clear hw2
  refine wp_region_still_tail 10 (by kernel_rfl) (by kernel_rfl) ?_
  simp only [List.take_succ_cons, List.take_zero, List.drop_succ_cons, List.drop_zero]
  still_step
  still_step
  still_step
  still_step
  still_call (Try.cmp_Compare_int _ _ _)
  still_step
  still_step
  still_step
  still_step
  still_call (Try.strings_Compare _ _ _)
  refine wpStill_nil ?_
  change wpList _ _ _ _ _ w2.drew
  obtain ⟨p, hp⟩ : ∃ p, Lib.compareInt ac bc = p := ⟨_, rfl⟩
  obtain ⟨q, hq⟩ : ∃ q, Lib.compareBytes af.data.toList bf.data.toList = q := ⟨_, rfl⟩
  rw [hp, hq]
  obtain ⟨w3, hw3⟩ : ∃ w3, w2.drew.alloc (.cells #[.int .i64 p, .int .i64 q] 3) = w3 := ⟨_, rfl⟩
  have hc3 : w3.heap[w2.heap.size]? = some (.cells #[.int .i64 p, .int .i64 q] 3 (0, 0)) := by rw [← hw3]; exact heap_alloc_new w2.drew _
  have d0 : w3.cell? ⟨w2.heap.size, 0, none⟩ = some (.int .i64 p) := by unfold World.cell?; rw [hc3]; rfl
  have d1 : w3.cell? ⟨w2.heap.size, 1, none⟩ = some (.int .i64 q) := by unfold World.cell?; rw [hc3]; rfl
  have hor := or_two p q w2.heap.size 2 w3 d0 d1
  have HOR := Lib.hid hor
  have hres : cmpK ⟨ac, af⟩ ⟨bc, bf⟩ = orI p q := by unfold cmpK; simp only [hp, hq]
  have HRES := Lib.hid hres
  have hend : ∃ n os, w3 = grow (w.drewN n) os := ⟨1, #[.cells #[.int .i64 ac, .string af] 48, .cells #[.int .i64 bc, .string bf] 48] ++ #[.cells #[.int .i64 p, .int .i64 q] 3], by rw [← hw3, HG2.out, alloc_eq_grow]; rfl⟩
  have HEND := Lib.hid hend
  clear hp hq hor hres hc3 d0 d1 c0 c1 c2 c3 hend
  go_wp2_with (first | (rw [hw3]) | (go_at_call 30; refine HOR.out.mono ?_; rintro e w4 ⟨rfl, rfl⟩))
  go_ret
  exact ⟨(by rw [HRES.out]; rfl), HEND.out⟩

end Go.Proofs.Ytifdfhonhphojaa.So
