/- What the document fixes of grants. -/
import Derived.Test.YtifdfhonhphojaaNw
import Derived.Test.YtifdfhonhphojaaRr
namespace Go.Proofs.Ytifdfhonhphojaa.Wk
open Go Go.RowKit Go.Proofs.YtifdfhonhphojaaCore Go.Proofs.Ytifdfhonhphojaa.Fr Go.Proofs.Ytifdfhonhphojaa.Mp Go.Proofs.Ytifdfhonhphojaa.Ky Go.Proofs.Ytifdfhonhphojaa.So Go.Proofs.Ytifdfhonhphojaa.Co Go.Proofs.Ytifdfhonhphojaa.Ko Go.Proofs.Ytifdfhonhphojaa.Sf Go.Proofs.Ytifdfhonhphojaa.Named Go.Proofs.Ytifdfhonhphojaa.Tb Go.Proofs.Ytifdfhonhphojaa.Nw Go.Proofs.Ytifdfhonhphojaa.Rp Go.Proofs.Ytifdfhonhphojaa.Oi Go.Proofs.Ytifdfhonhphojaa.Ri

def payK : GKey := ⟨1, ⟨#[112, 97, 121]⟩⟩
theorem pay_new : newM [] [payK] = (0, [payK]) := by
  have h : addE [] payK = 0 := by decide +kernel
  rw [newM, if_pos h]
  rfl
theorem pay_ok : okK payK := ⟨by decide, by decide⟩
def es3 : Edges := [(2, 1), (3, 4), (4, 2)]
theorem es3_reach : rounds es3 4 [1] = [1, 2, 3, 4] := by decide +kernel
theorem es3_ok : ∀ x ∈ univ 1 es3, okI x := by
  have h : ∀ y ∈ univ 1 es3, (Lit.int .i64 y).wf = true := by decide
  exact fun x hx => h x hx
theorem keys_one (w : World) (k : GKey) : KeysAt (w.alloc (.cells #[.int .i64 k.c, .string k.f] 48)) (some ⟨w.heap.size, 0, none⟩) [k] := fun i x hi => by
  match i with
  | 0 =>
    have e : k = x := by simpa using hi
    subst e
    obtain ⟨h1, h2⟩ := box_cells w k
    refine ⟨_, rfl, ?_, ?_⟩
    · rw [Addr.add_plain0]; exact h1
    · rw [Addr.add_plain0]; exact h2
  | i + 1 => simp at hi
theorem edges_three (w : World) (a b c d e f : Int) : Rw.EdgesAt (w.alloc (.cells #[.int .i64 a, .int .i64 b, .int .i64 c, .int .i64 d, .int .i64 e, .int .i64 f] 26)) (some ⟨w.heap.size, 0, none⟩) [(a, b), (c, d), (e, f)] := fun i x hi => by
  match i with
  | 0 | 1 | 2 =>
    simp at hi
    subst hi
    refine ⟨_, rfl, ?_, ?_⟩ <;> (rw [Addr.add_plain0]; unfold World.cell?; show (match (w.alloc _).heap[w.heap.size]? with | some (.cells c _ _) => _ | _ => _) = _; rw [heap_alloc_new]; rfl)
  | i + 3 => simp at hi

set_option maxHeartbeats 16000000 in
set_option maxRecDepth 100000 in
theorem wakes_any (w : World) : Calls Try.prog 13 #[] w fun e w' => e = .returned (.bool true) ∧ Below w.heap.size w w' := by
  have hk1 := keys_one w payK
  obtain ⟨w1, hw1⟩ : ∃ w1, w.alloc (.cells #[.int .i64 1, .string ⟨#[112, 97, 121]⟩] 48) = w1 := ⟨_, rfl⟩
  have hw1' : w.alloc (.cells #[.int .i64 payK.c, .string payK.f] 48) = w1 := hw1
  rw [hw1'] at hk1
  have hb1 : Below w.heap.size w w1 := by rw [← hw1]; exact (Below.refl _ _).alloc (Nat.le_refl _) _
  have HK1 := Lib.hid hk1
  have HB1 := Lib.hid hb1
  clear hk1 hw1' hb1
  go_enter Try.func13, Try.ntmps13
  go_wp2_with (rw [hw1])
  refine (new_any (some ⟨w.heap.size, 0, none⟩) 1 [payK] w1 HK1.out (by simp) (by simp) (by simpa using pay_ok)).mono ?_
  rintro e w2 ⟨hb2, h2⟩
  rw [pay_new] at h2
  rcases h2 with ⟨h2, _⟩ | ⟨_, tb, mb, _, _, rfl, ht2⟩
  · exact absurd rfl h2
  have HB2 := Lib.hid (HB1.out.trans (hb2.mono HB1.out.size))
  have HT2 := Lib.hid (show TabAt w2 tb mb [payK] from ht2)
  clear hb2 ht2 hw1
  go_wp2_with fail
  refine (has_any HT2.out pay_ok).mono ?_
  rintro e w3 ⟨rfl, hb3⟩
  have hd : decide (payK ∈ [payK]) = true := by simp
  rw [hd]
  have HT3 := Lib.hid (HT2.out.below hb3)
  have HB3 := Lib.hid (HB2.out.trans (hb3.mono HB2.out.size))
  clear hb3 hd
  go_wp2_with fail
  refine (list_any HT3.out (by simp)).mono ?_
  rintro e w4 ⟨v, rfl, hr, _, hb4⟩
  obtain ⟨A4, c4, rfl, _, _, _⟩ := KeysAt.owns hr
  have hl1 : [payK].length = 1 := rfl
  rw [hl1]
  have HB4 := Lib.hid (HB3.out.trans (hb4.mono HB3.out.size))
  clear hr hb4 hl1
  have he5 := edges_three w4 2 1 3 4 4 2
  obtain ⟨w5, hw5⟩ : ∃ w5, w4.alloc (.cells #[.int .i64 2, .int .i64 1, .int .i64 3, .int .i64 4, .int .i64 4, .int .i64 2] 26) = w5 := ⟨_, rfl⟩
  rw [hw5] at he5
  have hb5 : Below w4.heap.size w4 w5 := by rw [← hw5]; exact (Below.refl _ _).alloc (Nat.le_refl _) _
  have HE5 := Lib.hid he5
  have HB5 := Lib.hid (HB4.out.trans (hb5.mono HB4.out.size))
  clear he5 hb5
  go_wp2_with (rw [hw5])
  refine (Rw.reach_any 1 (some ⟨w4.heap.size, 0, none⟩) 3 es3 w5 HE5.out (by decide) (by decide) es3_ok).mono ?_
  rintro e w6 ⟨v6, l6, rfl, hr6, ho6, hb6⟩
  have hl6 : l6 = [1, 2, 3, 4] := by
    rw [← es3_reach]
    exact hr6.unique (rounds_reach es3 1)
  subst hl6
  obtain ⟨_, A6, c6, rfl, _, _⟩ := IntsAt.owns ho6
  have HB6 := Lib.hid (HB5.out.trans (hb6.mono HB5.out.size))
  clear ho6 hb6 hr6 hw5
  go_wp2_with fail
  refine bodyPost_ret (v := .bool true) (by simp [results, Try.results13, go_sem]) rfl ⟨rfl, HB6.out⟩

end Go.Proofs.Ytifdfhonhphojaa.Wk
