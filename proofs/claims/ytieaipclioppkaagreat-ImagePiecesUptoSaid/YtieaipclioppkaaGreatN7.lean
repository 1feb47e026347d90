/- image.read of a new tenant's value; image.sound of a new tenant; image.Get of a new tenant's bytes; The law's wakes: a new tenant is put, read back and weighed. -/
import Derived.Test.YtieaipclioppkaaGreatN6
import Derived.Test.YtieaipclioppkaaGreatN2
import Derived.Test.YtieaipclioppkaaGreatN3
set_option linter.unusedSimpArgs false
set_option linter.unusedVariables false

/-! image.read of a new tenant's value. -/
namespace Go.Proofs.YtieaipclioppkaaGreat.Ir
open Go Go.RowKit Go.Joins Go.Proofs.YtieaipclioppkaaGreatCore Go.Proofs.YtieaipclioppkaaGreat.PLeaf Go.Proofs.YtieaipclioppkaaGreat.Fr Go.Proofs.YtieaipclioppkaaGreat.Pk Go.Proofs.YtieaipclioppkaaGreat.Rd Go.Proofs.YtieaipclioppkaaGreat.Vl Go.Proofs.YtieaipclioppkaaGreat.St Go.Proofs.YtieaipclioppkaaGreat.Nw Go.Proofs.YtieaipclioppkaaGreat.Iv Go.Proofs.YtieaipclioppkaaGreat.Ih Go.Proofs.YtieaipclioppkaaGreatW.PrintWords Go.Proofs.YtieaipclioppkaaGreatW.PrintLast Go.Proofs.YtieaipclioppkaaGreatW.PrintMore

theorem R_row {α : Type} {d : Kd α} {e base : Nat} {ok : Nat → Prop} {w : World} {v : Value} {xs : List α} (h : d.R e w base ok v xs) (hn : 0 < xs.length) :
    ∃ g cap, v = .slice (some ⟨g, 0, none⟩) xs.length cap ∧ base ≤ g ∧ g < w.heap.size ∧ xs.length ≤ cap ∧ ∀ i x, xs[i]? = some x → ∃ cs, d.M w base ok x cs ∧ ∀ j u, cs[j]? = some u → w.cell? ⟨g, i * d.sz + j, none⟩ = some u := by
  obtain ⟨_, inner, ho, hr⟩ := h
  rcases ho.2 with ⟨rfl, hx⟩ | ⟨g, cap, cur, rfl, hg, hh, hcap, hm, hlen, hcells⟩
  · omega
  · refine ⟨g, cap, rfl, hg, YtieaipclioppkaaGreatCore.heap_lt hh, hcap, fun i x hx => ⟨_, d.M_mono (fun _ hk => hk.1) (hr.2 i x hx), fun j u hj => ?_⟩⟩
    have hj1 : j < ((inner.drop (i * d.sz)).take d.sz).length := (List.getElem?_eq_some_iff.1 hj).1
    rw [List.length_take] at hj1
    rw [List.getElem?_take_of_lt (by omega), List.getElem?_drop] at hj
    rw [cell_of_row w g _ cur _ _ hh, ← Array.getElem?_toList]
    have h1 : i * d.sz + j < inner.length := (List.getElem?_eq_some_iff.1 hj).1
    rw [ho.1] at h1
    rw [← hcells] at hj
    exact (List.getElem?_take_of_lt (l := cur.toList) h1).symm.trans hj
/-- Four cells. -/
structure C4 (w : World) (g o : Nat) (a b c d : Value) : Prop where
  c0 : w.cell? ⟨g, o, none⟩ = some a
  c1 : w.cell? ⟨g, o + 1, none⟩ = some b
  c2 : w.cell? ⟨g, o + 2, none⟩ = some c
  c3 : w.cell? ⟨g, o + 3, none⟩ = some d
theorem C4.below {w w1 : World} {g o : Nat} {a b c d : Value} (h : C4 w g o a b c d) (hb : Below w.heap.size w w1) : C4 w1 g o a b c d := ⟨pw_cell_below hb h.c0, pw_cell_below hb h.c1, pw_cell_below hb h.c2, pw_cell_below hb h.c3⟩
theorem R_num {base : Nat} {ok : Nat → Prop} {w : World} {g : Nat} {xs : List V} (h : ∀ i x, xs[i]? = some x → ∃ cs, k65.M w base ok x cs ∧ ∀ j u, cs[j]? = some u → w.cell? ⟨g, i * 4 + j, none⟩ = some u) (i : Nat) (n : Int) (o : Nat) (ho : i * 4 = o) (hi : xs[i]? = some (numV n)) :
    ∃ A c, C4 w g o (.int .i64 0) (.int .i64 n) (.string ⟨#[]⟩) (.slice A 0 c) := by
  subst ho
  obtain ⟨cs, hM, hc⟩ := h i _ hi
  obtain ⟨v3, rfl, hR3⟩ := k65_openM hM
  obtain ⟨A, c3, rfl⟩ := Kd.R_slice hR3
  exact ⟨A, c3, hc 0 _ rfl, hc 1 _ rfl, hc 2 _ rfl, hc 3 _ rfl⟩
theorem R_list {base : Nat} {ok : Nat → Prop} {w : World} {g : Nat} {xs : List V} (h : ∀ i x, xs[i]? = some x → ∃ cs, k65.M w base ok x cs ∧ ∀ j u, cs[j]? = some u → w.cell? ⟨g, i * 4 + j, none⟩ = some u) (i : Nat) (l : List V) (o : Nat) (ho : i * 4 = o) (hi : xs[i]? = some ⟨2, 0, ⟨#[]⟩, l⟩) :
    ∃ A c, C4 w g o (.int .i64 2) (.int .i64 0) (.string ⟨#[]⟩) (.slice A l.length c) ∧ k65.R 65 w base ok (.slice A l.length c) l := by
  subst ho
  obtain ⟨cs, hM, hc⟩ := h i _ hi
  obtain ⟨A, c3, rfl, hR⟩ := M_list hM
  exact ⟨A, c3, ⟨hc 0 _ rfl, hc 1 _ rfl, hc 2 _ rfl, hc 3 _ rfl⟩, hR⟩

def ns : TS := TS.new 0
def TS.s1 : TS := { TS.zero with num := 0 }
def TS.s2 : TS := { TS.s1 with epoch := 0 }
def TS.s3 : TS := { TS.s2 with next := 1 }
def TS.s4 : TS := { TS.s3 with ncall := 1 }
def TS.s5 : TS := { TS.s4 with tick := -1 }
def TS.s6 : TS := { TS.s5 with left := 0 }
def rol : List Int := [4, 0, 0, 0, 0, 0, 0, 0, 0, 0, 0, 0, 0, 0, 0, 0]
def TS.r (k : Nat) : TS := { TS.s6 with roles := rol.take k ++ List.replicate (16 - k) 0 }
def TS.e (_k : Nat) : TS := { TS.s6 with roles := rol, seen := List.replicate 8 0 }

structure RInv (w : World) (qs gk : Nat) (v : Value) (wr : World) (k : Nat) : Prop where
  le : k ≤ 16
  slot : v = .int .i64 k
  ghost : gk + k = 16
  st : SAt wr qs (TS.r k)
  below : Below w.heap.size w wr
def RRel (w : World) (qs gk : Nat) (v : Value) (wr : World) : Prop := ∃ k, RInv w qs gk v wr k
theorem rol_bd (k : Nat) (hk : k < 16) : 0 ≤ rol.getD k 0 ∧ rol.getD k 0 ≤ 4 := by
  have : ∀ k : Fin 16, 0 ≤ rol.getD k.1 0 ∧ rol.getD k.1 0 ≤ 4 := by decide
  exact this ⟨k, hk⟩
theorem r_set (k : Nat) (hk : k < 16) : (TS.r k).cs.set (2 + k) (.int .i64 (rol.getD k 0)) = (TS.r (k + 1)).cs := by
  match k, hk with
  | 0, _ => rfl
  | 1, _ => rfl
  | 2, _ => rfl
  | 3, _ => rfl
  | 4, _ => rfl
  | 5, _ => rfl
  | 6, _ => rfl
  | 7, _ => rfl
  | 8, _ => rfl
  | 9, _ => rfl
  | 10, _ => rfl
  | 11, _ => rfl
  | 12, _ => rfl
  | 13, _ => rfl
  | 14, _ => rfl
  | 15, _ => rfl
  | n + 16, h => exact absurd h (by omega)
theorem r_ok (k : Nat) (hk : k ≤ 16) : (TS.r k).Ok := ⟨by simp [TS.r, TS.s6, TS.s5, rol]; omega, rfl, rfl, rfl, rfl, rfl, rfl⟩

structure EInv (w : World) (qs gk : Nat) (v : Value) (wr : World) (k : Nat) : Prop where
  le : k ≤ 8
  slot : v = .int .i64 k
  ghost : gk + k = 8
  st : SAt wr qs ns
  below : Below w.heap.size w wr
def ERel (w : World) (qs gk : Nat) (v : Value) (wr : World) : Prop := ∃ k, EInv w qs gk v wr k
def Z1 (w0 : World) (v : Value) (wr : World) : Prop := v = .int .i64 0 ∧ wr = w0
theorem ns_seen (k : Nat) (hk : k < 8) : ns.cs.set (27 + k) (.int .i64 0) = ns.cs := by
  match k, hk with
  | 0, _ => rfl
  | 1, _ => rfl
  | 2, _ => rfl
  | 3, _ => rfl
  | 4, _ => rfl
  | 5, _ => rfl
  | 6, _ => rfl
  | 7, _ => rfl
  | n + 8, h => exact absurd h (by omega)
theorem ns_at (k : Nat) (hk : k < 8) : ns.cs[27 + k]? = some (.int .i64 0) := by
  match k, hk with
  | 0, _ => rfl
  | 1, _ => rfl
  | 2, _ => rfl
  | 3, _ => rfl
  | 4, _ => rfl
  | 5, _ => rfl
  | 6, _ => rfl
  | 7, _ => rfl
  | n + 8, h => exact absurd h (by omega)

set_option maxHeartbeats 16000000 in
set_option maxRecDepth 100000 in
theorem read_new (base : Nat) (ok : Nat → Prop) (cs : List Value) (w : World) (h : k65.M w base ok (stV ns) cs) : Calls Tryz.prog 25 #[.agg cs.toArray] w fun e w' => e = .returned (.agg ns.cs.toArray) ∧ Below w.heap.size w w' := by
  obtain ⟨A0, cA0, rfl, hR⟩ := M_list h
  obtain ⟨g, cap, hv, hg0, hg, hcap, hrow⟩ := R_row hR (by decide)
  injection hv with e1 e2 e3
  subst e1 e3
  obtain ⟨A1, c1, n0⟩ := R_num hrow 0 0 0 rfl rfl
  obtain ⟨A2, c2, n1⟩ := R_num hrow 1 0 4 rfl rfl
  obtain ⟨A3, c3, n2⟩ := R_num hrow 2 1 8 rfl rfl
  obtain ⟨A4, c4, n3⟩ := R_num hrow 3 1 12 rfl rfl
  obtain ⟨A5, c5, n4⟩ := R_num hrow 4 (-1) 16 rfl rfl
  obtain ⟨A6, c6, n5⟩ := R_num hrow 5 0 20 rfl rfl
  obtain ⟨A7, c7, n6, r6⟩ := R_list hrow 6 (rol.map numV) 24 rfl rfl
  obtain ⟨A8, c8, n7, r7⟩ := R_list hrow 7 ((List.replicate 8 0).map numV) 28 rfl rfl
  obtain ⟨A9, c9, n8, _⟩ := R_list hrow 8 [] 32 rfl rfl
  obtain ⟨A10, c10, n9, _⟩ := R_list hrow 9 [] 36 rfl rfl
  obtain ⟨A11, c11, n10, _⟩ := R_list hrow 10 [] 40 rfl rfl
  obtain ⟨A12, c12, n11, _⟩ := R_list hrow 11 [] 44 rfl rfl
  obtain ⟨A13, c13, n12, _⟩ := R_list hrow 12 [] 48 rfl rfl
  have N0 := Lib.hid n0
  have N1 := Lib.hid n1
  have N2 := Lib.hid n2
  have N3 := Lib.hid n3
  have N4 := Lib.hid n4
  have N5 := Lib.hid n5
  have N6 := Lib.hid n6
  have N7 := Lib.hid n7
  have N8 := Lib.hid n8
  have N9 := Lib.hid n9
  have N10 := Lib.hid n10
  have N11 := Lib.hid n11
  have N12 := Lib.hid n12
  obtain ⟨g7, cap7, hv7, _, hg7, _, hrow7⟩ := R_row r6 (by decide)
  injection hv7 with e1 e2 e3
  subst e1 e3
  obtain ⟨g8, cap8, hv8, _, hg8, _, hrow8⟩ := R_row r7 (by decide)
  injection hv8 with e1 e2 e3
  subst e1 e3
  have L7 : Hid (∀ k, k < 16 → ∃ A c, C4 w g7 (k * 4) (.int .i64 0) (.int .i64 (rol.getD k 0)) (.string ⟨#[]⟩) (.slice A 0 c)) := Lib.hid (fun k hk => R_num hrow7 k _ _ rfl (by
    rw [List.getElem?_map, List.getD_eq_getElem?_getD, List.getElem?_eq_getElem (show k < rol.length from hk)]
    rfl))
  have L8 : Hid (∀ k, k < 8 → ∃ A c, C4 w g8 (k * 4) (.int .i64 0) (.int .i64 0) (.string ⟨#[]⟩) (.slice A 0 c)) := Lib.hid (fun k hk => R_num hrow8 k _ _ rfl (by
    rw [List.getElem?_map, List.getElem?_replicate, if_pos hk]
    rfl))
  have HG := Lib.hid hg
  clear h hR hrow n0 n1 n2 n3 n4 n5 n6 n7 n8 n9 n10 n11 n12 r6 r7 hg0 hrow7 hrow8 e2 hg7 hg8
  have hz := zlit_eq
  unfold zlit at hz
  dsimp only at hz
  obtain ⟨w1, hw1⟩ : ∃ w1, w.alloc (.cells #[.int .i64 2, .int .i64 0, .string ⟨#[]⟩, .slice (some ⟨g, 0, none⟩) 13 cA0] 65) = w1 := ⟨_, rfl⟩
  obtain ⟨q, hq⟩ : ∃ q, w.heap.size = q := ⟨_, rfl⟩
  obtain ⟨w2, hw2⟩ : ∃ w2, w1.alloc (.cells TS.zero.cs.toArray 42) = w2 := ⟨_, rfl⟩
  obtain ⟨qs, hqs⟩ : ∃ q, w1.heap.size = q := ⟨_, rfl⟩
  have hb1 : Below w.heap.size w w1 := by rw [← hw1]; exact (Below.refl _ _).alloc (Nat.le_refl _) _
  have hb2 : Below w1.heap.size w1 w2 := by rw [← hw2]; exact (Below.refl _ _).alloc (Nat.le_refl _) _
  have hq1 : w1.heap[q]? = some (.cells #[.int .i64 2, .int .i64 0, .string ⟨#[]⟩, .slice (some ⟨g, 0, none⟩) 13 cA0] 65 (0, 0)) := by rw [← hw1, ← hq]; exact heap_alloc_new _ _
  have hq2 := (hb2.block q (YtieaipclioppkaaGreatCore.heap_lt hq1)).trans hq1
  have hs2 : SAt w2 qs TS.zero := by rw [← hw2, ← hqs]; exact SAt.new w1 _
  have hws : w.heap.size ≤ qs := by rw [← hqs]; exact hb1.size
  have e0 := cell_of_block hq2 0
  have e1 := cell_of_block hq2 1
  have e2 := cell_of_block hq2 2
  have e3 := cell_of_block hq2 3
  have HWS := Lib.hid hws
  have HS2 := Lib.hid hs2
  have HB2 := Lib.hid (hb1.trans (hb2.mono hb1.size))
  clear hb1 hb2 hq1 hq2 hs2 hws
  change Calls _ _ #[.agg #[.int .i64 2, .int .i64 0, .string ⟨#[]⟩, .slice (some ⟨g, 0, none⟩) 13 cA0]] _ _
  go_enter Tryz.func25, Tryz.ntmps25
  go_wp2_with (first | (rw [hz]) | (rw [hw1]) | (rw [hq]) | (rw [hw2]) | (rw [hqs]))
  refine (list_n _ _ _ 13 _ w2).mono ?_
  rintro e w3 ⟨rfl, hb⟩
  have HB3 := Lib.hid (HB2.out.trans (hb.mono HB2.out.size))
  have HS3 := Lib.hid (HS2.out.below hb)
  clear hb
  obtain ⟨e0, e1, e2, e3⟩ := C4.below N0.out HB3.out
  go_wp2_with fail
  refine (long_any 0 0 7 _ _ w3 (by decide) (by decide)).mono ?_
  rintro e w4 ⟨rfl, hb⟩
  clear e0 e1 e2 e3
  have HB4 := Lib.hid (HB3.out.trans (hb.mono HB3.out.size))
  have HS4 := Lib.hid (HS3.out.below hb)
  clear hb
  have kc := HS4.out.cell (TS.at0 _)
  have kf := HS4.out.fz 0
  have hs5 : SAt (w4.setCell ⟨qs, 0, none⟩ (.int .i64 0)) qs TS.s1 := HS4.out.set rfl
  have hb5 : Below w.heap.size w (w4.setCell ⟨qs, 0, none⟩ (.int .i64 0)) := HB4.out.setCell (p := ⟨qs, 0, none⟩) HWS.out _
  obtain ⟨w5, hw5⟩ : ∃ W, w4.setCell ⟨qs, 0, none⟩ (.int .i64 0) = W := ⟨_, rfl⟩
  rw [hw5] at hs5 hb5
  have HS5 := Lib.hid hs5
  have HB5 := Lib.hid hb5
  clear hs5 hb5
  go_wp2_with (first | (rw [hw5]))
  clear hw5 kc kf
  refine wp_region_held_drew (S := fun W => Below w.heap.size w W) (by kernel_rfl) HB5.out.drew (fun hHeld => ?_)
  refine wpAnyH_take (i := 0) (v := ?mv1) rfl (by kernel_rfl) (by kernel_rfl) (by kernel_rfl) (fun _ _ _ h => h) (Or.inl ⟨by rfl, ?mh1⟩) (by assumption) ?mr1
  case mh1 => intro w hSw; clear hSw; go_simp; try with_reducible rfl
  (try simp only [Act.put]); (try simp only [List.getElem_toArray, List.getElem_cons_zero, List.getElem_cons_succ]); (try simp only [List.setIfInBounds_toArray]); (try simp only [List.set_cons_zero, List.set_cons_succ])
  refine wpAnyH_take (i := 1) (v := ?mv2) rfl (by kernel_rfl) (by kernel_rfl) (by kernel_rfl) (fun _ _ _ h => h) (Or.inl ⟨by rfl, ?mh2⟩) (by assumption) ?mr2
  case mh2 => intro w hSw; clear hSw; go_simp; try with_reducible rfl
  (try simp only [Act.put]); (try simp only [List.getElem_toArray, List.getElem_cons_zero, List.getElem_cons_succ]); (try simp only [List.setIfInBounds_toArray]); (try simp only [List.set_cons_zero, List.set_cons_succ])
  refine wpAnyH_take (i := 2) (v := ?mv3) rfl (by kernel_rfl) (by kernel_rfl) (by kernel_rfl) (fun _ _ _ h => h) (Or.inl ⟨by rfl, ?mh3⟩) (by assumption) ?mr3
  case mh3 => intro w hSw; obtain ⟨hc0, hc1, hc2, hc3⟩ := C4.below N1.out hSw; clear hSw; go_simp; try with_reducible rfl
  (try simp only [Act.put]); (try simp only [List.getElem_toArray, List.getElem_cons_zero, List.getElem_cons_succ]); (try simp only [List.setIfInBounds_toArray]); (try simp only [List.set_cons_zero, List.set_cons_succ])
  refine wpAnyH_take (i := 4) (v := ?mv4) rfl (by kernel_rfl) (by kernel_rfl) (by kernel_rfl) (fun _ _ _ h => h) (Or.inl ⟨by rfl, ?mh4⟩) (by assumption) ?mr4
  case mh4 => intro w hSw; clear hSw; go_simp; try with_reducible rfl
  (try simp only [Act.put]); (try simp only [List.getElem_toArray, List.getElem_cons_zero, List.getElem_cons_succ]); (try simp only [List.setIfInBounds_toArray]); (try simp only [List.set_cons_zero, List.set_cons_succ])
  refine wpAnyH_take (i := 5) (v := ?mv5) rfl (by kernel_rfl) (by kernel_rfl) (by kernel_rfl) (fun _ _ _ h => h) (Or.inl ⟨by rfl, ?mh5⟩) (by assumption) ?mr5
  case mh5 => intro w hSw; clear hSw; go_simp; try with_reducible rfl
  (try simp only [Act.put]); (try simp only [List.getElem_toArray, List.getElem_cons_zero, List.getElem_cons_succ]); (try simp only [List.setIfInBounds_toArray]); (try simp only [List.set_cons_zero, List.set_cons_succ])
  refine wpAnyH_take (i := 6) (v := ?mv6) rfl (by kernel_rfl) (by kernel_rfl) (by kernel_rfl) (fun _ _ _ h => h) (Or.inl ⟨by rfl, ?mh6⟩) (by assumption) ?mr6
  case mh6 => intro w hSw; obtain ⟨hc0, hc1, hc2, hc3⟩ := C4.below N2.out hSw; clear hSw; go_simp; try with_reducible rfl
  (try simp only [Act.put]); (try simp only [List.getElem_toArray, List.getElem_cons_zero, List.getElem_cons_succ]); (try simp only [List.setIfInBounds_toArray]); (try simp only [List.set_cons_zero, List.set_cons_succ])
  refine wpAnyH_take (i := 8) (v := ?mv7) rfl (by kernel_rfl) (by kernel_rfl) (by kernel_rfl) (fun _ _ _ h => h) (Or.inl ⟨by rfl, ?mh7⟩) (by assumption) ?mr7
  case mh7 => intro w hSw; clear hSw; go_simp; try with_reducible rfl
  (try simp only [Act.put]); (try simp only [List.getElem_toArray, List.getElem_cons_zero, List.getElem_cons_succ]); (try simp only [List.setIfInBounds_toArray]); (try simp only [List.set_cons_zero, List.set_cons_succ])
  refine wpAnyH_take (i := 9) (v := ?mv8) rfl (by kernel_rfl) (by kernel_rfl) (by kernel_rfl) (fun _ _ _ h => h) (Or.inl ⟨by rfl, ?mh8⟩) (by assumption) ?mr8
  case mh8 => intro w hSw; clear hSw; go_simp; try with_reducible rfl
  (try simp only [Act.put]); (try simp only [List.getElem_toArray, List.getElem_cons_zero, List.getElem_cons_succ]); (try simp only [List.setIfInBounds_toArray]); (try simp only [List.set_cons_zero, List.set_cons_succ])
  refine wpAnyH_take (i := 10) (v := ?mv9) rfl (by kernel_rfl) (by kernel_rfl) (by kernel_rfl) (fun _ _ _ h => h) (Or.inl ⟨by rfl, ?mh9⟩) (by assumption) ?mr9
  case mh9 => intro w hSw; obtain ⟨hc0, hc1, hc2, hc3⟩ := C4.below N3.out hSw; clear hSw; go_simp; try with_reducible rfl
  (try simp only [Act.put]); (try simp only [List.getElem_toArray, List.getElem_cons_zero, List.getElem_cons_succ]); (try simp only [List.setIfInBounds_toArray]); (try simp only [List.set_cons_zero, List.set_cons_succ])
  have HS5d : Hid (SAt w5.drew qs TS.s1) := Lib.hid (SAt.drew HS5.out)
  refine wpAnyH_ready (rs := [3]) (by kernel_rfl) (by simp) ?_
  refine AllReadyH.cons rfl (fun K hK => ?_) AllReadyH.nil
  go_simp
  refine (long_any 0 0 9007199254740992 _ _ w5.drew (by decide) (by decide)).mono ?_
  rintro e w6 ⟨rfl, hb⟩
  have hS : Below w.heap.size w w6 := hHeld.trans (hb.mono hHeld.size)
  have HS6 := Lib.hid (SAt.below HS5d.out hb)
  clear hb hHeld
  refine hK.out _ _ hS (fun hHeld => ?_)
  clear hK K
  (try simp only [Act.put]); (try simp only [List.getElem_toArray, List.getElem_cons_zero, List.getElem_cons_succ]); (try simp only [List.setIfInBounds_toArray]); (try simp only [List.set_cons_zero, List.set_cons_succ])
  clear hS
  refine wpAnyH_take (i := 12) (v := ?mv10) rfl (by kernel_rfl) (by kernel_rfl) (by kernel_rfl) (fun _ _ _ h => h) (Or.inl ⟨by rfl, ?mh10⟩) (by assumption) ?mr10
  case mh10 => intro w hSw; clear hSw; go_simp; try with_reducible rfl
  (try simp only [Act.put]); (try simp only [List.getElem_toArray, List.getElem_cons_zero, List.getElem_cons_succ]); (try simp only [List.setIfInBounds_toArray]); (try simp only [List.set_cons_zero, List.set_cons_succ])
  refine wpAnyH_ready (rs := [7]) (by kernel_rfl) (by simp) ?_
  refine AllReadyH.cons rfl (fun K hK => ?_) AllReadyH.nil
  go_simp
  refine (long_any 1 1 9007199254740993 _ _ w6 (by decide) (by decide)).mono ?_
  rintro e w7 ⟨rfl, hb⟩
  have hS : Below w.heap.size w w7 := hHeld.trans (hb.mono hHeld.size)
  have HS7 := Lib.hid (SAt.below HS6.out hb)
  clear hb hHeld
  refine hK.out _ _ hS (fun hHeld => ?_)
  clear hK K
  (try simp only [Act.put]); (try simp only [List.getElem_toArray, List.getElem_cons_zero, List.getElem_cons_succ]); (try simp only [List.setIfInBounds_toArray]); (try simp only [List.set_cons_zero, List.set_cons_succ])
  clear hS
  refine wpAnyH_ready (rs := [11]) (by kernel_rfl) (by simp) ?_
  refine AllReadyH.cons rfl (fun K hK => ?_) AllReadyH.nil
  go_simp
  refine (long_any 1 1 9007199254740993 _ _ w7 (by decide) (by decide)).mono ?_
  rintro e w8 ⟨rfl, hb⟩
  have hS : Below w.heap.size w w8 := hHeld.trans (hb.mono hHeld.size)
  have HS8 := Lib.hid (SAt.below HS7.out hb)
  clear hb hHeld
  refine hK.out _ _ hS (fun hHeld => ?_)
  clear hK K
  (try simp only [Act.put]); (try simp only [List.getElem_toArray, List.getElem_cons_zero, List.getElem_cons_succ]); (try simp only [List.setIfInBounds_toArray]); (try simp only [List.set_cons_zero, List.set_cons_succ])
  clear hS
  have kc := HS8.out.cell (TS.at1 _)
  have kf := HS8.out.fz 1
  refine wpAnyH_ready (rs := [13]) (by kernel_rfl) (by simp) ?_
  refine AllReadyH.cons rfl (fun K hK => ?_) AllReadyH.nil
  go_simp
  have hS : Below w.heap.size w (w8.setCell ⟨qs, 1, none⟩ (.int .i64 0)) := hHeld.setCell (p := ⟨qs, 1, none⟩) HWS.out _
  have HS9 : Hid (SAt (w8.setCell ⟨qs, 1, none⟩ (.int .i64 0)) qs TS.s2) := Lib.hid (HS8.out.set rfl)
  obtain ⟨w9, hw9⟩ : ∃ W, w8.setCell ⟨qs, 1, none⟩ (.int .i64 0) = W := ⟨_, rfl⟩
  rw [hw9] at hS HS9 ⊢
  clear hw9 hHeld kc kf
  refine hK.out _ _ hS (fun hHeld => ?_)
  clear hK K
  (try simp only [Act.put]); (try simp only [List.getElem_toArray, List.getElem_cons_zero, List.getElem_cons_succ]); (try simp only [List.setIfInBounds_toArray]); (try simp only [List.set_cons_zero, List.set_cons_succ])
  clear hS
  refine wpAnyH_take (i := 14) (v := ?mv11) rfl (by kernel_rfl) (by kernel_rfl) (by kernel_rfl) (fun _ _ _ h => h) (Or.inl ⟨by rfl, ?mh11⟩) (by assumption) ?mr11
  case mh11 => intro w hSw; clear hSw; go_simp; try with_reducible rfl
  (try simp only [Act.put]); (try simp only [List.getElem_toArray, List.getElem_cons_zero, List.getElem_cons_succ]); (try simp only [List.setIfInBounds_toArray]); (try simp only [List.set_cons_zero, List.set_cons_succ])
  have kc := HS9.out.cell (show TS.s2.cs[21]? = some (.int .i64 0) from rfl)
  have kf := HS9.out.fz 21
  refine wpAnyH_ready (rs := [15]) (by kernel_rfl) (by simp) ?_
  refine AllReadyH.cons rfl (fun K hK => ?_) AllReadyH.nil
  go_simp
  have hS : Below w.heap.size w (w9.setCell ⟨qs, 21, none⟩ (.int .i64 1)) := hHeld.setCell (p := ⟨qs, 21, none⟩) HWS.out _
  have HS10 : Hid (SAt (w9.setCell ⟨qs, 21, none⟩ (.int .i64 1)) qs TS.s3) := Lib.hid (HS9.out.set rfl)
  obtain ⟨w10, hw10⟩ : ∃ W, w9.setCell ⟨qs, 21, none⟩ (.int .i64 1) = W := ⟨_, rfl⟩
  rw [hw10] at hS HS10 ⊢
  clear hw10 hHeld kc kf
  refine hK.out _ _ hS (fun hHeld => ?_)
  clear hK K
  (try simp only [Act.put]); (try simp only [List.getElem_toArray, List.getElem_cons_zero, List.getElem_cons_succ]); (try simp only [List.setIfInBounds_toArray]); (try simp only [List.set_cons_zero, List.set_cons_succ])
  clear hS
  refine wpAnyH_take (i := 16) (v := ?mv12) rfl (by kernel_rfl) (by kernel_rfl) (by kernel_rfl) (fun _ _ _ h => h) (Or.inl ⟨by rfl, ?mh12⟩) (by assumption) ?mr12
  case mh12 => intro w hSw; clear hSw; go_simp; try with_reducible rfl
  (try simp only [Act.put]); (try simp only [List.getElem_toArray, List.getElem_cons_zero, List.getElem_cons_succ]); (try simp only [List.setIfInBounds_toArray]); (try simp only [List.set_cons_zero, List.set_cons_succ])
  have kc := HS10.out.cell (show TS.s3.cs[26]? = some (.int .i64 0) from rfl)
  have kf := HS10.out.fz 26
  refine wpAnyH_ready (rs := [17]) (by kernel_rfl) (by simp) ?_
  refine AllReadyH.cons rfl (fun K hK => ?_) AllReadyH.nil
  go_simp
  have hS : Below w.heap.size w (w10.setCell ⟨qs, 26, none⟩ (.int .i64 1)) := hHeld.setCell (p := ⟨qs, 26, none⟩) HWS.out _
  have HS11 : Hid (SAt (w10.setCell ⟨qs, 26, none⟩ (.int .i64 1)) qs TS.s4) := Lib.hid (HS10.out.set rfl)
  obtain ⟨w11, hw11⟩ : ∃ W, w10.setCell ⟨qs, 26, none⟩ (.int .i64 1) = W := ⟨_, rfl⟩
  rw [hw11] at hS HS11 ⊢
  clear hw11 hHeld kc kf
  refine hK.out _ _ hS (fun hHeld => ?_)
  clear hK K
  (try simp only [Act.put]); (try simp only [List.getElem_toArray, List.getElem_cons_zero, List.getElem_cons_succ]); (try simp only [List.setIfInBounds_toArray]); (try simp only [List.set_cons_zero, List.set_cons_succ])
  clear hS
  refine wpAnyH_done (by kernel_rfl) ?_ _
  have HB11 := Lib.hid hHeld
  clear hHeld
  go_wp2_with fail
  refine wp_region_held_drew (S := fun W => Below w.heap.size w W) (by kernel_rfl) HB11.out.drew (fun hHeld => ?_)
  refine wpAnyH_take (i := 0) (v := ?mv13) rfl (by kernel_rfl) (by kernel_rfl) (by kernel_rfl) (fun _ _ _ h => h) (Or.inl ⟨by rfl, ?mh13⟩) (by assumption) ?mr13
  case mh13 => intro w hSw; clear hSw; go_simp; try with_reducible rfl
  (try simp only [Act.put]); (try simp only [List.getElem_toArray, List.getElem_cons_zero, List.getElem_cons_succ]); (try simp only [List.setIfInBounds_toArray]); (try simp only [List.set_cons_zero, List.set_cons_succ])
  refine wpAnyH_take (i := 1) (v := ?mv14) rfl (by kernel_rfl) (by kernel_rfl) (by kernel_rfl) (fun _ _ _ h => h) (Or.inl ⟨by rfl, ?mh14⟩) (by assumption) ?mr14
  case mh14 => intro w hSw; clear hSw; go_simp; try with_reducible rfl
  (try simp only [Act.put]); (try simp only [List.getElem_toArray, List.getElem_cons_zero, List.getElem_cons_succ]); (try simp only [List.setIfInBounds_toArray]); (try simp only [List.set_cons_zero, List.set_cons_succ])
  refine wpAnyH_take (i := 2) (v := ?mv15) rfl (by kernel_rfl) (by kernel_rfl) (by kernel_rfl) (fun _ _ _ h => h) (Or.inl ⟨by rfl, ?mh15⟩) (by assumption) ?mr15
  case mh15 => intro w hSw; obtain ⟨hc0, hc1, hc2, hc3⟩ := C4.below N4.out hSw; clear hSw; go_simp; try with_reducible rfl
  (try simp only [Act.put]); (try simp only [List.getElem_toArray, List.getElem_cons_zero, List.getElem_cons_succ]); (try simp only [List.setIfInBounds_toArray]); (try simp only [List.set_cons_zero, List.set_cons_succ])
  refine wpAnyH_take (i := 4) (v := ?mv16) rfl (by kernel_rfl) (by kernel_rfl) (by kernel_rfl) (fun _ _ _ h => h) (Or.inl ⟨by rfl, ?mh16⟩) (by assumption) ?mr16
  case mh16 => intro w hSw; clear hSw; go_simp; try with_reducible rfl
  (try simp only [Act.put]); (try simp only [List.getElem_toArray, List.getElem_cons_zero, List.getElem_cons_succ]); (try simp only [List.setIfInBounds_toArray]); (try simp only [List.set_cons_zero, List.set_cons_succ])
  refine wpAnyH_take (i := 5) (v := ?mv17) rfl (by kernel_rfl) (by kernel_rfl) (by kernel_rfl) (fun _ _ _ h => h) (Or.inl ⟨by rfl, ?mh17⟩) (by assumption) ?mr17
  case mh17 => intro w hSw; clear hSw; go_simp; try with_reducible rfl
  (try simp only [Act.put]); (try simp only [List.getElem_toArray, List.getElem_cons_zero, List.getElem_cons_succ]); (try simp only [List.setIfInBounds_toArray]); (try simp only [List.set_cons_zero, List.set_cons_succ])
  refine wpAnyH_take (i := 6) (v := ?mv18) rfl (by kernel_rfl) (by kernel_rfl) (by kernel_rfl) (fun _ _ _ h => h) (Or.inl ⟨by rfl, ?mh18⟩) (by assumption) ?mr18
  case mh18 => intro w hSw; obtain ⟨hc0, hc1, hc2, hc3⟩ := C4.below N5.out hSw; clear hSw; go_simp; try with_reducible rfl
  (try simp only [Act.put]); (try simp only [List.getElem_toArray, List.getElem_cons_zero, List.getElem_cons_succ]); (try simp only [List.setIfInBounds_toArray]); (try simp only [List.set_cons_zero, List.set_cons_succ])
  have HS11d : Hid (SAt w11.drew qs TS.s4) := Lib.hid (SAt.drew HS11.out)
  refine wpAnyH_ready (rs := [3]) (by kernel_rfl) (by simp) ?_
  refine AllReadyH.cons rfl (fun K hK => ?_) AllReadyH.nil
  go_simp
  refine (long_any (-1) (-1) 9223372036854775807 _ _ w11.drew (by decide) (by decide)).mono ?_
  rintro e w12 ⟨rfl, hb⟩
  have hS : Below w.heap.size w w12 := hHeld.trans (hb.mono hHeld.size)
  have HS12 := Lib.hid (SAt.below HS11d.out hb)
  clear hb hHeld
  refine hK.out _ _ hS (fun hHeld => ?_)
  clear hK K
  (try simp only [Act.put]); (try simp only [List.getElem_toArray, List.getElem_cons_zero, List.getElem_cons_succ]); (try simp only [List.setIfInBounds_toArray]); (try simp only [List.set_cons_zero, List.set_cons_succ])
  clear hS
  refine wpAnyH_ready (rs := [7]) (by kernel_rfl) (by simp) ?_
  refine AllReadyH.cons rfl (fun K hK => ?_) AllReadyH.nil
  go_simp
  refine (long_any 0 0 2147483647 _ _ w12 (by decide) (by decide)).mono ?_
  rintro e w13 ⟨rfl, hb⟩
  have hS : Below w.heap.size w w13 := hHeld.trans (hb.mono hHeld.size)
  have HS13 := Lib.hid (SAt.below HS12.out hb)
  clear hb hHeld
  refine hK.out _ _ hS (fun hHeld => ?_)
  clear hK K
  (try simp only [Act.put]); (try simp only [List.getElem_toArray, List.getElem_cons_zero, List.getElem_cons_succ]); (try simp only [List.setIfInBounds_toArray]); (try simp only [List.set_cons_zero, List.set_cons_succ])
  clear hS
  refine wpAnyH_take (i := 8) (v := ?mv19) rfl (by kernel_rfl) (by kernel_rfl) (by kernel_rfl) (fun _ _ _ h => h) (Or.inl ⟨by rfl, ?mh19⟩) (by assumption) ?mr19
  case mh19 => intro w hSw; clear hSw; go_simp; try with_reducible rfl
  (try simp only [Act.put]); (try simp only [List.getElem_toArray, List.getElem_cons_zero, List.getElem_cons_succ]); (try simp only [List.setIfInBounds_toArray]); (try simp only [List.set_cons_zero, List.set_cons_succ])
  refine wpAnyH_take (i := 9) (v := ?mv20) rfl (by kernel_rfl) (by kernel_rfl) (by kernel_rfl) (fun _ _ _ h => h) (Or.inl ⟨by rfl, ?mh20⟩) (by assumption) ?mr20
  case mh20 => intro w hSw; clear hSw; go_simp; try with_reducible rfl
  (try simp only [Act.put]); (try simp only [List.getElem_toArray, List.getElem_cons_zero, List.getElem_cons_succ]); (try simp only [List.setIfInBounds_toArray]); (try simp only [List.set_cons_zero, List.set_cons_succ])
  have kc := HS13.out.cell (show TS.s4.cs[23]? = some (.int .i64 0) from rfl)
  have kf := HS13.out.fz 23
  have kc' := HS13.out.cell (show TS.s4.cs[24]? = some (.int .i64 0) from rfl)
  have kf' := HS13.out.fz 24
  refine wpAnyH_ready (rs := [10]) (by kernel_rfl) (by simp) ?_
  refine AllReadyH.cons rfl (fun K hK => ?_) AllReadyH.nil
  go_simp
  have hS : Below w.heap.size w ((w13.setCell ⟨qs, 23, none⟩ (.int .i64 (-1))).setCell ⟨qs, 24, none⟩ (.int .i64 0)) := (hHeld.setCell (p := ⟨qs, 23, none⟩) HWS.out _).setCell (p := ⟨qs, 24, none⟩) HWS.out _
  have HS14 : Hid (SAt ((w13.setCell ⟨qs, 23, none⟩ (.int .i64 (-1))).setCell ⟨qs, 24, none⟩ (.int .i64 0)) qs (TS.r 0)) := Lib.hid ((HS13.out.set (s' := TS.s5) rfl).set rfl)
  obtain ⟨w14, hw14⟩ : ∃ W, (w13.setCell ⟨qs, 23, none⟩ (.int .i64 (-1))).setCell ⟨qs, 24, none⟩ (.int .i64 0) = W := ⟨_, rfl⟩
  rw [hw14] at hS HS14 ⊢
  clear hw14 hHeld kc kf kc' kf'
  refine hK.out _ _ hS (fun hHeld => ?_)
  clear hK K
  (try simp only [Act.put]); (try simp only [List.getElem_toArray, List.getElem_cons_zero, List.getElem_cons_succ]); (try simp only [List.setIfInBounds_toArray]); (try simp only [List.set_cons_zero, List.set_cons_succ])
  clear hS
  refine wpAnyH_done (by kernel_rfl) ?_ _
  have HB14 := Lib.hid hHeld
  clear hHeld
  obtain ⟨e0, e1, e2, e3⟩ := C4.below N6.out HB14.out
  have hl16 : (rol.map numV).length = 16 := rfl
  rw [hl16] at e3
  go_wp2_with fail
  refine (list_n _ _ _ 16 _ w14).mono ?_
  rintro e w15 ⟨rfl, hb⟩
  have HB15 := Lib.hid (HB14.out.trans (hb.mono HB14.out.size))
  have HS15 := Lib.hid (HS14.out.below hb)
  clear hb e0 e1 e2 e3
  go_wp2_with fail
  go_loopg [62] 16 (fun gk v wr => RRel w qs gk v wr)
  case atStart => exact ⟨0, ⟨Nat.zero_le _, rfl, rfl, HS15.out, HB15.out⟩⟩
  case round =>
    obtain ⟨k, hk, rfl, hg, hst, hbel⟩ := hrel
    have HG2 := Lib.hid hg
    have HST := Lib.hid hst
    have HBL := Lib.hid hbel
    clear hg hst hbel
    by_cases hlt : k < 16
    · obtain ⟨Ak, ck, h4⟩ := L7.out k hlt
      obtain ⟨e0, e1, e2, e3⟩ := C4.below h4 HBL.out
      clear h4
      obtain ⟨x, hx⟩ : ∃ x, rol.getD k 0 = x := ⟨_, rfl⟩
      have hx0 := rol_bd k hlt
      have hrs := r_set k hlt
      rw [hx] at e1 hx0 hrs
      have HRS := Lib.hid hrs
      have hbA : Below wr.heap.size wr (wr.alloc (.cells #[.int .i64 0, .int .i64 x, .string ⟨#[]⟩, .slice Ak 0 ck] 65)) := (Below.refl _ _).alloc (Nat.le_refl _) _
      have HBA := Lib.hid hbA
      clear hx hrs hbA
      go_wp2_with fail
      refine (long_any x 0 4 _ _ _ hx0.1 hx0.2).mono ?_
      rintro e wc ⟨rfl, hb⟩
      have hbc := HBA.out.trans (hb.mono HBA.out.size)
      have HSC := Lib.hid (HST.out.below hbc)
      have HBC := Lib.hid (HBL.out.trans (hbc.mono HBL.out.size))
      have kc := HSC.out.cell (TS.atR (r_ok k hk) k hlt)
      have kf := HSC.out.fz (2 + k)
      have hs9 : SAt (wc.setCell ⟨qs, 2 + k, none⟩ (.int .i64 x)) qs (TS.r (k + 1)) := HSC.out.set HRS.out
      have hb9 : Below w.heap.size w (wc.setCell ⟨qs, 2 + k, none⟩ (.int .i64 x)) := HBC.out.setCell (p := ⟨qs, 2 + k, none⟩) HWS.out _
      obtain ⟨w9, hw9⟩ : ∃ W, wc.setCell ⟨qs, 2 + k, none⟩ (.int .i64 x) = W := ⟨_, rfl⟩
      rw [hw9] at hs9 hb9
      have HS9 := Lib.hid hs9
      have HB9 := Lib.hid hb9
      clear hs9 hb9 hb hbc e0 e1 e2 e3
      go_wp2_with (first | (rw [hw9]))
      go_roundg (gk - 1)
      case measure => have := HG2.out; omega
      case rel => exact ⟨k + 1, ⟨by omega, by go_num, by have := HG2.out; omega, HS9.out, HB9.out⟩⟩
    · obtain rfl : k = 16 := by omega
      obtain ⟨e0, e1, e2, e3⟩ := C4.below N7.out HBL.out
      have hl8 : ((List.replicate 8 (0 : Int)).map numV).length = 8 := rfl
      rw [hl8] at e3
      go_wp2_with fail
      refine (list_n _ _ _ 8 _ wr).mono ?_
      rintro e w16 ⟨rfl, hb⟩
      have HB16 := Lib.hid (HBL.out.trans (hb.mono HBL.out.size))
      have hs16 : SAt w16 qs ns := HST.out.below hb
      have HS16 := Lib.hid hs16
      clear hb e0 e1 e2 e3 hs16
      go_wp2_with fail
      go_loopg [78] 8 (fun gk v wr => ERel w qs gk v wr)
      case atStart => exact ⟨0, ⟨Nat.zero_le _, rfl, rfl, HS16.out, HB16.out⟩⟩
      case round =>
        obtain ⟨k, hk, rfl, hg, hst, hbel⟩ := hrel
        have HG3 := Lib.hid hg
        have HST3 := Lib.hid hst
        have HBL3 := Lib.hid hbel
        clear hg hst hbel
        by_cases hlt : k < 8
        · obtain ⟨Ak, ck, h4⟩ := L8.out k hlt
          obtain ⟨e0, e1, e2, e3⟩ := C4.below h4 HBL3.out
          clear h4
          have hrs := ns_seen k hlt
          have HRS := Lib.hid hrs
          clear hrs
          have hbA : Below wr.heap.size wr (wr.alloc (.cells #[.int .i64 0, .int .i64 0, .string ⟨#[]⟩, .slice Ak 0 ck] 65)) := (Below.refl _ _).alloc (Nat.le_refl _) _
          have HBA := Lib.hid hbA
          clear hbA
          go_wp2_with fail
          refine (long_any 0 0 9223372036854775807 _ _ _ (by decide) (by decide)).mono ?_
          rintro e wc ⟨rfl, hb⟩
          have hbc := HBA.out.trans (hb.mono HBA.out.size)
          have HSC := Lib.hid (HST3.out.below hbc)
          have HBC := Lib.hid (HBL3.out.trans (hbc.mono HBL3.out.size))
          have kc := HSC.out.cell (ns_at k hlt)
          have kf := HSC.out.fz (27 + k)
          have hs9 : SAt (wc.setCell ⟨qs, 27 + k, none⟩ (.int .i64 0)) qs ns := HSC.out.set HRS.out
          have hb9 : Below w.heap.size w (wc.setCell ⟨qs, 27 + k, none⟩ (.int .i64 0)) := HBC.out.setCell (p := ⟨qs, 27 + k, none⟩) HWS.out _
          obtain ⟨w9, hw9⟩ : ∃ W, wc.setCell ⟨qs, 27 + k, none⟩ (.int .i64 0) = W := ⟨_, rfl⟩
          rw [hw9] at hs9 hb9
          have HS9 := Lib.hid hs9
          have HB9 := Lib.hid hb9
          clear hs9 hb9 hb hbc e0 e1 e2 e3
          go_wp2_with (first | (rw [hw9]))
          go_roundg (gk - 1)
          case measure => have := HG3.out; omega
          case rel => exact ⟨k + 1, ⟨by omega, by go_num, by have := HG3.out; omega, HS9.out, HB9.out⟩⟩
        · obtain rfl : k = 8 := by omega
          obtain ⟨e0, e1, e2, e3⟩ := C4.below N8.out HBL3.out
          rw [List.length_nil] at e3
          go_wp2_with fail
          refine (list_neg _ _ _ 0 _ wr).mono ?_
          rintro e w17 ⟨rfl, hb⟩
          have HB17 := Lib.hid (HBL3.out.trans (hb.mono HBL3.out.size))
          have HS17 := Lib.hid (HST3.out.below hb)
          clear hb e0 e1 e2 e3
          go_wp2_with fail
          go_loopg [94] 1 (fun gk v wr => Z1 w17 v wr)
          case atStart => exact ⟨rfl, rfl⟩
          case round =>
            obtain ⟨rfl, rfl⟩ := hrel
            obtain ⟨e0, e1, e2, e3⟩ := C4.below N9.out HB17.out
            rw [List.length_nil] at e3
            go_wp2_with fail
            refine (list_neg _ _ _ 0 _ wr).mono ?_
            rintro e w18 ⟨rfl, hb⟩
            have HB18 := Lib.hid (HB17.out.trans (hb.mono HB17.out.size))
            have HS18 := Lib.hid (HS17.out.below hb)
            clear hb e0 e1 e2 e3
            go_wp2_with fail
            go_loopg [120] 1 (fun gk v wr => Z1 w18 v wr)
            case atStart => exact ⟨rfl, rfl⟩
            case round =>
              obtain ⟨rfl, rfl⟩ := hrel
              obtain ⟨e0, e1, e2, e3⟩ := C4.below N10.out HB18.out
              rw [List.length_nil] at e3
              go_wp2_with fail
              refine (list_neg _ _ _ 0 _ wr).mono ?_
              rintro e w19 ⟨rfl, hb⟩
              have HB19 := Lib.hid (HB18.out.trans (hb.mono HB18.out.size))
              have HS19 := Lib.hid (HS18.out.below hb)
              clear hb e0 e1 e2 e3
              go_wp2_with fail
              go_loopg [144] 1 (fun gk v wr => Z1 w19 v wr)
              case atStart => exact ⟨rfl, rfl⟩
              case round =>
                obtain ⟨rfl, rfl⟩ := hrel
                obtain ⟨e0, e1, e2, e3⟩ := C4.below N11.out HB19.out
                rw [List.length_nil] at e3
                go_wp2_with fail
                refine (list_neg _ _ _ 0 _ wr).mono ?_
                rintro e w20 ⟨rfl, hb⟩
                have HB20 := Lib.hid (HB19.out.trans (hb.mono HB19.out.size))
                have HS20 := Lib.hid (HS19.out.below hb)
                clear hb e0 e1 e2 e3
                go_wp2_with fail
                go_loopg [168] 1 (fun gk v wr => Z1 w20 v wr)
                case atStart => exact ⟨rfl, rfl⟩
                case round =>
                  obtain ⟨rfl, rfl⟩ := hrel
                  obtain ⟨e0, e1, e2, e3⟩ := C4.below N12.out HB20.out
                  rw [List.length_nil] at e3
                  go_wp2_with fail
                  refine (list_neg _ _ _ 0 _ wr).mono ?_
                  rintro e w21 ⟨rfl, hb⟩
                  have HB21 := Lib.hid (HB20.out.trans (hb.mono HB20.out.size))
                  have HS21 := Lib.hid (HS20.out.below hb)
                  clear hb e0 e1 e2 e3
                  go_wp2_with fail
                  go_loopg [194] 1 (fun gk v wr => Z1 w21 v wr)
                  case atStart => exact ⟨rfl, rfl⟩
                  case round =>
                    obtain ⟨rfl, rfl⟩ := hrel
                    have hsF := (HS21.out).row (s' := ns)
                    have hfF := row_fr _ qs ns.cs.toArray |> fun h => (Fr.of_below (S := fun j => j = qs) HB21.out).trans h
                    have hbF := hfF.below (B := w.heap.size) (Nat.le_refl _) (fun j hj h => by have := HWS.out; omega)
                    have HSF := Lib.hid hsF
                    have HBF := Lib.hid hbF
                    clear hsF hfF hbF
                    go_wp2_with (first | (refine wpList_load_row rfl 42 _ rfl qs rfl 42 ns.cs.toArray (0, 0) _ HS21.out Tryz.underlying42 rfl (SAt.size (new_ok 0)) ?_) | (refine wpList_store_rowTo rfl 42 _ _ rfl rfl qs ns.cs.toArray rfl rfl 42 ns.cs.toArray HS21.out (SAt.size (new_ok 0)) rfl (TS.oneCell (new_ok 0)) ?_))
                    exact bodyPost_ret (v := .agg ns.cs.toArray) (results_cell_row (p := 2) (ty := 42) rfl _ _ qs 42 _ (0, 0) _ rfl HSF.out Tryz.underlying42 rfl (SAt.size (new_ok 0))) rfl ⟨rfl, HBF.out⟩

end Go.Proofs.YtieaipclioppkaaGreat.Ir

/-! image.sound of a new tenant. -/
namespace Go.Proofs.YtieaipclioppkaaGreat.Sd
open Go Go.RowKit Go.Proofs.YtieaipclioppkaaGreatCore Go.Proofs.YtieaipclioppkaaGreat.Fr Go.Proofs.YtieaipclioppkaaGreat.St Go.Proofs.YtieaipclioppkaaGreat.Nw Go.Proofs.YtieaipclioppkaaGreat.Rs

theorem wpList_load_rowG {P : Program} {ops : Array Oper} {rest : List Oper} {o : Oper} {a : Act} {w : World} {Q : Exit → Act → World → Prop} (hw : Region.wanted o (yielded ops a.tmps) = true) (ty : TypeId) (x : Operand) (ho : o.op = .load ty x)
    (g : Nat) (hx : a.eval x = .pointer (some ⟨g, 0, none⟩)) (t : TypeId) (cs : Array Value) (fr : Nat × Nat) (d : TypeDesc) (hg : w.heap[g]? = some (.cells cs t fr))
    (hu : P.underlying ty = some d) (hd : (match d with | .struct _ | .array _ _ => true | _ => false) = true) (hi : (P.info? ty).map (·.size) = some cs.size)
    (h : wpList P ops Q rest (a.put o.dst (.agg cs)) w) : wpList P ops Q (o :: rest) a w := by
  unfold wpList
  rw [if_pos hw]
  exact .inl (wp_load_row ty x ho g hx t cs fr d hg hu hd hi h)
theorem SAt.drew {w : World} {q : Nat} {s : TS} (h : SAt w q s) : SAt w.drew q s := h
set_option maxHeartbeats 8000000 in
set_option maxRecDepth 100000 in
theorem sound_new (w : World) : Calls Tryz.prog 27 #[.agg (TS.new 0).cs.toArray] w fun e w' => e = .returned (.bool true) ∧ Below w.heap.size w w' := by
  have hmf : ∀ (fn : Fn) (first cap : Array Value) (w : World), (Instr.makeFunc fn first cap).run Tryz.prog w = .ok (.func fn first cap) w := fun _ _ _ _ => rfl
  obtain ⟨w1, hw1⟩ : ∃ w1, w.alloc (.cells (TS.new 0).cs.toArray 42) = w1 := ⟨_, rfl⟩
  obtain ⟨q, hqq⟩ : ∃ q, w.heap.size = q := ⟨_, rfl⟩
  have hs1 : SAt w1 q (TS.new 0) := by rw [← hw1, ← hqq]; exact SAt.new w _
  have hb1 : Below w.heap.size w w1 := by rw [← hw1]; exact (Below.refl _ _).alloc (Nat.le_refl _) _
  have hc18 : w1.cell? ⟨q, 18, none⟩ = some (.slice none 0 0) := hs1.cell rfl
  have HS1 := Lib.hid hs1
  have HB1 := Lib.hid hb1
  clear hs1 hb1
  go_enter Tryz.func27, Tryz.ntmps27
  go_wp2_with (first | (rw [hw1]) | (rw [hqq]))
  refine (G0.new0 _).mono ?_
  rintro e w2 ⟨tb, rfl, ht, hb⟩
  have HB2 := Lib.hid (HB1.out.trans (hb.mono HB1.out.size))
  have HS2 := Lib.hid (HS1.out.below hb)
  have HT2 := Lib.hid ht
  clear ht hb hc18
  go_wp2_with fail
  refine wp_region_held_drew (S := fun W => SAt W q (TS.new 0)) (by kernel_rfl) (SAt.drew HS2.out) (fun hHeld => ?_)
  refine wpAnyH_take (i := 0) (v := ?mv1) rfl (by kernel_rfl) (by kernel_rfl) (by kernel_rfl) (fun _ _ _ h => h) (Or.inl ⟨by rfl, ?mh1⟩) (by assumption) ?mr1
  case mh1 => intro w hSw; clear hSw; go_simp; try with_reducible rfl
  (try simp only [Act.put]); (try simp only [List.getElem_toArray, List.getElem_cons_zero, List.getElem_cons_succ]); (try simp only [List.setIfInBounds_toArray]); (try simp only [List.set_cons_zero, List.set_cons_succ])
  refine wpAnyH_take (i := 1) (v := ?mv2) rfl (by kernel_rfl) (by kernel_rfl) (by kernel_rfl) (fun _ _ _ h => h) (Or.inl ⟨by rfl, ?mh2⟩) (by assumption) ?mr2
  case mh2 => intro w hSw; clear hSw; go_simp; try with_reducible rfl
  (try simp only [Act.put]); (try simp only [List.getElem_toArray, List.getElem_cons_zero, List.getElem_cons_succ]); (try simp only [List.setIfInBounds_toArray]); (try simp only [List.set_cons_zero, List.set_cons_succ])
  refine wpAnyH_take (i := 2) (v := ?mv3) rfl (by kernel_rfl) (by kernel_rfl) (by kernel_rfl) (fun _ _ _ h => h) (Or.inl ⟨by rfl, ?mh3⟩) (by assumption) ?mr3
  case mh3 => intro w hSw; clear hSw; go_simp; try with_reducible rfl
  (try simp only [Act.put]); (try simp only [List.getElem_toArray, List.getElem_cons_zero, List.getElem_cons_succ]); (try simp only [List.setIfInBounds_toArray]); (try simp only [List.set_cons_zero, List.set_cons_succ])
  refine wpAnyH_take (i := 3) (v := ?mv4) rfl (by kernel_rfl) (by kernel_rfl) (by kernel_rfl) (fun _ _ _ h => h) (Or.inl ⟨by rfl, ?mh4⟩) (by assumption) ?mr4
  case mh4 => intro w hSw; clear hSw; go_simp; try with_reducible rfl
  (try simp only [Act.put]); (try simp only [List.getElem_toArray, List.getElem_cons_zero, List.getElem_cons_succ]); (try simp only [List.setIfInBounds_toArray]); (try simp only [List.set_cons_zero, List.set_cons_succ])
  refine wpAnyH_take (i := 5) (v := ?mv5) rfl (by kernel_rfl) (by kernel_rfl) (by kernel_rfl) (fun _ _ _ h => h) (Or.inl ⟨by rfl, ?mh5⟩) (by assumption) ?mr5
  case mh5 => intro w hSw; clear hSw; go_simp; try with_reducible rfl
  (try simp only [Act.put]); (try simp only [List.getElem_toArray, List.getElem_cons_zero, List.getElem_cons_succ]); (try simp only [List.setIfInBounds_toArray]); (try simp only [List.set_cons_zero, List.set_cons_succ])
  refine wpAnyH_take (i := 6) (v := ?mv6) rfl (by kernel_rfl) (by kernel_rfl) (by kernel_rfl) (fun _ _ _ h => h) (Or.inl ⟨by rfl, ?mh6⟩) (by assumption) ?mr6
  case mh6 => intro w hSw; have hcS := SAt.cell hSw (j := 18) (v := .slice none 0 0) rfl; clear hSw; go_simp; try with_reducible rfl
  (try simp only [Act.put]); (try simp only [List.getElem_toArray, List.getElem_cons_zero, List.getElem_cons_succ]); (try simp only [List.setIfInBounds_toArray]); (try simp only [List.set_cons_zero, List.set_cons_succ])
  have HB2d : Hid (Below w.heap.size w w2.drew) := Lib.hid HB2.out.drew
  have hT2d : G0.Tab0 w2.drew tb := HT2.out.below (below_drewN (w := w2) 1)
  refine wpAnyH_ready (rs := [4]) (by kernel_rfl) (by simp) ?_
  refine AllReadyH.cons rfl (fun K hK => ?_) AllReadyH.nil
  go_simp
  refine (G0.list0 tb _ hT2d).mono ?_
  rintro e w3 ⟨A3, c3, rfl, hb⟩
  have hS : SAt w3 q (TS.new 0) := SAt.below hHeld hb
  have HB3 := Lib.hid (HB2d.out.trans (hb.mono HB2d.out.size))
  clear hb hHeld hT2d
  refine hK.out _ _ hS (fun hHeld => ?_)
  clear hK K
  (try simp only [Act.put]); (try simp only [List.getElem_toArray, List.getElem_cons_zero, List.getElem_cons_succ]); (try simp only [List.setIfInBounds_toArray]); (try simp only [List.set_cons_zero, List.set_cons_succ])
  clear hS
  refine wpAnyH_ready (rs := [7]) (by kernel_rfl) (by simp) ?_
  refine AllReadyH.cons rfl (fun K hK => ?_) AllReadyH.nil
  go_simp
  refine (eq_nil A3 c3 _).mono ?_
  rintro e w4 ⟨rfl, hb⟩
  have hS : SAt w4 q (TS.new 0) := SAt.below hHeld hb
  have HB4 := Lib.hid (HB3.out.trans (hb.mono HB3.out.size))
  clear hb hHeld
  refine hK.out _ _ hS (fun hHeld => ?_)
  clear hK K
  (try simp only [Act.put]); (try simp only [List.getElem_toArray, List.getElem_cons_zero, List.getElem_cons_succ]); (try simp only [List.setIfInBounds_toArray]); (try simp only [List.set_cons_zero, List.set_cons_succ])
  clear hS
  refine wpAnyH_take (i := 8) (v := ?mv7) rfl (by kernel_rfl) (by kernel_rfl) (by kernel_rfl) (fun _ _ _ h => h) (Or.inl ⟨by rfl, ?mh7⟩) (by assumption) ?mr7
  case mh7 => intro w hSw; clear hSw; go_simp; try with_reducible rfl
  (try simp only [Act.put]); (try simp only [List.getElem_toArray, List.getElem_cons_zero, List.getElem_cons_succ]); (try simp only [List.setIfInBounds_toArray]); (try simp only [List.set_cons_zero, List.set_cons_succ])
  refine wpAnyH_take (i := 9) (v := ?mv8) rfl (by kernel_rfl) (by kernel_rfl) (by kernel_rfl) (fun _ _ _ h => h) (Or.inl ⟨by rfl, ?mh8⟩) (by assumption) ?mr8
  case mh8 => intro w hSw; clear hSw; go_simp; try with_reducible rfl
  (try simp only [Act.put]); (try simp only [List.getElem_toArray, List.getElem_cons_zero, List.getElem_cons_succ]); (try simp only [List.setIfInBounds_toArray]); (try simp only [List.set_cons_zero, List.set_cons_succ])
  refine wpAnyH_take (i := 10) (v := ?mv9) rfl (by kernel_rfl) (by kernel_rfl) (by kernel_rfl) (fun _ _ _ h => h) (Or.inl ⟨by rfl, ?mh9⟩) (by assumption) ?mr9
  case mh9 => intro w hSw; clear hSw; go_simp; try with_reducible rfl
  (try simp only [Act.put]); (try simp only [List.getElem_toArray, List.getElem_cons_zero, List.getElem_cons_succ]); (try simp only [List.setIfInBounds_toArray]); (try simp only [List.set_cons_zero, List.set_cons_succ])
  refine wpAnyH_take (i := 11) (v := ?mv10) rfl (by kernel_rfl) (by kernel_rfl) (by kernel_rfl) (fun _ _ _ h => h) (Or.inl ⟨by rfl, ?mh10⟩) (by assumption) ?mr10
  case mh10 => intro w hSw; clear hSw; go_simp; try with_reducible rfl
  (try simp only [Act.put]); (try simp only [List.getElem_toArray, List.getElem_cons_zero, List.getElem_cons_succ]); (try simp only [List.setIfInBounds_toArray]); (try simp only [List.set_cons_zero, List.set_cons_succ])
  refine wpAnyH_take (i := 12) (v := ?mv11) rfl (by kernel_rfl) (by kernel_rfl) (by kernel_rfl) (fun _ _ _ h => h) (Or.inl ⟨by rfl, ?mh11⟩) (by assumption) ?mr11
  case mh11 => intro w hSw; have hcS := SAt.cell hSw (j := 18) (v := .slice none 0 0) rfl; clear hSw; go_simp; try with_reducible rfl
  (try simp only [Act.put]); (try simp only [List.getElem_toArray, List.getElem_cons_zero, List.getElem_cons_succ]); (try simp only [List.setIfInBounds_toArray]); (try simp only [List.set_cons_zero, List.set_cons_succ])
  refine wpAnyH_take (i := 13) (v := ?mv12) rfl (by kernel_rfl) (by kernel_rfl) (by kernel_rfl) (fun _ _ _ h => h) (Or.inl ⟨by rfl, ?mh12⟩) (by assumption) ?mr12
  case mh12 => intro w hSw; clear hSw; go_simp; try with_reducible rfl
  (try simp only [Act.put]); (try simp only [List.getElem_toArray, List.getElem_cons_zero, List.getElem_cons_succ]); (try simp only [List.setIfInBounds_toArray]); (try simp only [List.set_cons_zero, List.set_cons_succ])
  refine wpAnyH_ready (rs := [14]) (by kernel_rfl) (by simp) ?_
  refine AllReadyH.cons rfl (fun K hK => ?_) AllReadyH.nil
  go_simp
  refine (cont_nil _ _).mono ?_
  rintro e w5 ⟨rfl, hb⟩
  have hS : SAt w5 q (TS.new 0) := SAt.below hHeld hb
  have HB5 := Lib.hid (HB4.out.trans (hb.mono HB4.out.size))
  clear hb hHeld
  refine hK.out _ _ hS (fun hHeld => ?_)
  clear hK K
  (try simp only [Act.put]); (try simp only [List.getElem_toArray, List.getElem_cons_zero, List.getElem_cons_succ]); (try simp only [List.setIfInBounds_toArray]); (try simp only [List.set_cons_zero, List.set_cons_succ])
  clear hS
  refine wpAnyH_take (i := 15) (v := ?mv13) rfl (by kernel_rfl) (by kernel_rfl) (by kernel_rfl) (fun _ _ _ h => h) (Or.inl ⟨by rfl, ?mh13⟩) (by assumption) ?mr13
  case mh13 => intro w hSw; clear hSw; go_simp; try with_reducible rfl
  (try simp only [Act.put]); (try simp only [List.getElem_toArray, List.getElem_cons_zero, List.getElem_cons_succ]); (try simp only [List.setIfInBounds_toArray]); (try simp only [List.set_cons_zero, List.set_cons_succ])
  refine wpAnyH_done (by kernel_rfl) ?_ _
  have HS5 := Lib.hid hHeld
  have c19 : w5.cell? ⟨q, 19, none⟩ = some (.slice none 0 0) := SAt.cell hHeld rfl
  clear hHeld
  go_wp2_with fail
  go_loopg [34] 1 (fun gk v wr => Z2 w5 v wr)
  case atStart => exact ⟨rfl, rfl⟩
  case round =>
    obtain ⟨rfl, rfl⟩ := hrel
    have c20 : w5.cell? ⟨q, 20, none⟩ = some (.slice none 0 0) := HS5.out.cell rfl
    have c21 : w5.cell? ⟨q, 21, none⟩ = some (.int .i64 1) := HS5.out.cell rfl
    go_wp2_with fail
    refine (risr_nil _ _ _).mono ?_
    rintro e w6 ⟨rfl, hb⟩
    have HS6 := Lib.hid (HS5.out.below hb)
    have HB6 := Lib.hid (HB5.out.trans (hb.mono HB5.out.size))
    have c25 : w6.cell? ⟨q, 25, none⟩ = some (.slice none 0 0) := HS6.out.cell rfl
    have c26 : w6.cell? ⟨q, 26, none⟩ = some (.int .i64 1) := HS6.out.cell rfl
    clear hb c20 c21 c19
    go_wp2_with fail
    refine (risc_nil _ _ _).mono ?_
    rintro e w7 ⟨rfl, hb⟩
    have HS7 := Lib.hid (HS6.out.below hb)
    have HB7 := Lib.hid (HB6.out.trans (hb.mono HB6.out.size))
    clear hb c25 c26
    go_wp2_with (first | (refine wpList_load_rowG (by rfl) 42 _ rfl q rfl 42 (TS.new 0).cs.toArray (0, 0) _ HS7.out Tryz.underlying42 rfl (SAt.size (new_ok 0)) ?_))
    refine (nodes_bare _ (new_ok 0) rfl rfl rfl w7).mono ?_
    rintro e w8 ⟨rfl, hb⟩
    have HB8 := Lib.hid (HB7.out.trans (hb.mono HB7.out.size))
    clear hb
    go_wp2_with fail
    go_ret
    exact ⟨rfl, HB8.out⟩

end Go.Proofs.YtieaipclioppkaaGreat.Sd

/-! image.Get of a new tenant's bytes. -/
namespace Go.Proofs.YtieaipclioppkaaGreat.Ig
open Go Go.RowKit Go.Joins Go.Proofs.YtieaipclioppkaaGreatCore Go.Proofs.YtieaipclioppkaaGreat.PLeaf Go.Proofs.YtieaipclioppkaaGreat.Fr Go.Proofs.YtieaipclioppkaaGreat.Pk Go.Proofs.YtieaipclioppkaaGreat.Rd Go.Proofs.YtieaipclioppkaaGreat.Vl Go.Proofs.YtieaipclioppkaaGreat.Pg Go.Proofs.YtieaipclioppkaaGreat.St Go.Proofs.YtieaipclioppkaaGreat.Nw Go.Proofs.YtieaipclioppkaaGreat.Iv Go.Proofs.YtieaipclioppkaaGreat.Ip Go.Proofs.YtieaipclioppkaaGreat.Ir Go.Proofs.YtieaipclioppkaaGreatW.PrintWords Go.Proofs.YtieaipclioppkaaGreatW.PrintLast Go.Proofs.YtieaipclioppkaaGreatW.PrintMore

set_option maxHeartbeats 4000000 in
set_option maxRecDepth 100000 in
theorem get1_idle (p1 p2 : Addr) (w : World) :
    CallsD Tryz.prog 23 #[.pointer (some p1), .pointer (some p2)] .returning w fun e u' w' => e = .returned (.tuple #[]) ∧ u' = .returning ∧ w' = w := by
  have hta := fun w => ta_nil (P := Tryz.prog) (asserted := 60) (z := .int .i64 0) Tryz.underlying60 (by kernel_rfl) 20 w
  refine callsD_of_wpS Tryz.func23 rfl fun c₀ cs hu => ?_
  apply wpS_seq
  apply wpS_region
  simp [wpOpsS, go_sem, recoverD, hu, hta, Tryz.ntmps23, Exit.thenS]
  apply wpS_seq
  apply wpS_region
  simp [wpOpsS, go_sem, Exit.thenS]
  refine wpS_cond (t := false) (by simp [Act.eval, Array.replicate]) ?_
  simp only [Bool.false_eq_true, if_false]
  refine wpS_of_wp (wp_skip ?_)
  cases c₀
  simp_all [bodyPostS, results, Tryz.results23]

def GetNew (w : World) (e : Ending) (w' : World) : Prop := e = .returned (.tuple #[.agg (TS.new 0).cs.toArray, .int .i64 0]) ∧ Below w.heap.size w w'

set_option maxHeartbeats 8000000 in
set_option maxRecDepth 100000 in
theorem get_new (w : World) : Calls Tryz.prog 15 #[.string nb] w (GetNew w) := by
  have hmf : ∀ (fn : Fn) (first cap : Array Value) (w : World), (Instr.makeFunc fn first cap).run Tryz.prog w = .ok (.func fn first cap) w := fun _ _ _ _ => rfl
  have hz := zlit_eq
  unfold zlit at hz
  dsimp only at hz
  obtain ⟨w1, hw1⟩ : ∃ w1, w.alloc (.cells TS.zero.cs.toArray 42) = w1 := ⟨_, rfl⟩
  obtain ⟨q0, hq0⟩ : ∃ q, w.heap.size = q := ⟨_, rfl⟩
  obtain ⟨w2, hw2⟩ : ∃ w2, w1.alloc (.cells #[.int .i64 0] 44) = w2 := ⟨_, rfl⟩
  obtain ⟨q1, hq1⟩ : ∃ q, w1.heap.size = q := ⟨_, rfl⟩
  have hb1 : Below w.heap.size w w1 := by rw [← hw1]; exact (Below.refl _ _).alloc (Nat.le_refl _) _
  have hb2 : Below w1.heap.size w1 w2 := by rw [← hw2]; exact (Below.refl _ _).alloc (Nat.le_refl _) _
  have s1 : w1.heap.size = w.heap.size + 1 := by rw [← hw1]; simp
  have b0 : SAt w2 q0 TS.zero := by
    have h1 : SAt w1 q0 TS.zero := by rw [← hw1, ← hq0]; exact SAt.new w _
    exact h1.below hb2
  have b1 : w2.heap[q1]? = some (.cells #[.int .i64 0] 44 (0, 0)) := by rw [← hw2, ← hq1]; exact heap_alloc_new _ _
  have hn3 : q0 + 1 = q1 := by omega
  have HB2 := Lib.hid (hb1.trans (hb2.mono hb1.size))
  have B0 := Lib.hid b0
  have B1 := Lib.hid b1
  have HQ := Lib.hid (show q0 + 1 = q1 ∧ q0 = w.heap.size by omega)
  clear hb1 hb2 s1 b0 b1
  go_enter_defers Tryz.func15, Tryz.ntmps15
  go_wp2_with (first | (rw [hz]) | (rw [hw1]) | (rw [hw2]) | (rw [hq0]) | (rw [hq1]) | (rw [hn3]))
  refine (pget_ok nv nv_can (by have := nv_len; omega) w2).mono ?_
  rintro e w3 ⟨cs, rfl, hM, hb⟩
  have HM := Lib.hid hM
  have hl13 : ∃ A c, cs = [.int .i64 2, .int .i64 0, .string ⟨#[]⟩, .slice A 13 c] := by
    obtain ⟨A, c, h1, _⟩ := M_list hM
    exact ⟨A, c, h1⟩
  obtain ⟨A3, c3, rfl⟩ := hl13
  have HB3 := Lib.hid (HB2.out.trans (hb.mono HB2.out.size))
  have B03 := Lib.hid (B0.out.below hb)
  have hb13 := (hb.block q1 (YtieaipclioppkaaGreatCore.heap_lt B1.out)).trans B1.out
  have B13 := Lib.hid hb13
  have HLT3 : Hid (q0 < w3.heap.size ∧ q1 < w3.heap.size) := Lib.hid ⟨YtieaipclioppkaaGreatCore.heap_lt B03.out, YtieaipclioppkaaGreatCore.heap_lt hb13⟩
  clear hM hb
  have k1 : w3.cell? ⟨q1, 0, none⟩ = some (.int .i64 0) := by rw [cell_of_row w3 q1 0 _ _ _ hb13]; rfl
  have f1 : w3.frozen? ⟨q1, 0, none⟩ = false := Lib.frozen_of_heap hb13 0
  obtain ⟨qv, hqv⟩ : ∃ q, w3.heap.size = q := ⟨_, rfl⟩
  obtain ⟨w4, hw4⟩ : ∃ w4, w3.alloc (.cells #[.int .i64 2, .int .i64 0, .string ⟨#[]⟩, .slice A3 13 c3] 65) = w4 := ⟨_, rfl⟩
  have hb4 : Below w3.heap.size w3 w4 := by rw [← hw4]; exact (Below.refl _ _).alloc (Nat.le_refl _) _
  have hv4 : w4.heap[qv]? = some (.cells #[.int .i64 2, .int .i64 0, .string ⟨#[]⟩, .slice A3 13 c3] 65 (0, 0)) := by rw [← hw4, ← hqv]; exact heap_alloc_new _ _
  have hb14 := (hb4.block q1 (HLT3.out.2)).trans hb13
  have k14 : w4.cell? ⟨q1, 0, none⟩ = some (.int .i64 0) := by rw [cell_of_row w4 q1 0 _ _ _ hb14]; rfl
  have f14 : w4.frozen? ⟨q1, 0, none⟩ = false := Lib.frozen_of_heap hb14 0
  have hs04 := B03.out.below hb4
  have hb15 : (w4.setCell ⟨q1, 0, none⟩ (.int .i64 0)).heap[q1]? = some (.cells #[.int .i64 0] 44 (0, 0)) := heap_setCell_same w4 q1 0 _ _ (.int .i64 0) hb14
  have hf5 : Fr (fun j => j = q1) w4 (w4.setCell ⟨q1, 0, none⟩ (.int .i64 0)) := (Fr.refl _ _).setAt rfl
  obtain ⟨w5, hw5⟩ : ∃ w5, w4.setCell ⟨q1, 0, none⟩ (.int .i64 0) = w5 := ⟨_, rfl⟩
  rw [hw5] at hb15 hf5
  have hv5 := hf5.at_ hv4 (by have := HLT3.out; omega)
  have hs05 : SAt w5 q0 TS.zero := hs04.fr hf5 (by have := HQ.out; omega)
  have k15 : w5.cell? ⟨q1, 0, none⟩ = some (.int .i64 0) := by rw [cell_of_row w5 q1 0 _ _ _ hb15]; rfl
  have v0 := cell_of_block hv5 0
  have v1 := cell_of_block hv5 1
  have v2 := cell_of_block hv5 2
  have v3 := cell_of_block hv5 3
  have HM5 : Hid (k65.M w5 w2.heap.size (fun _ => True) nv [.int .i64 2, .int .i64 0, .string ⟨#[]⟩, .slice A3 13 c3]) := Lib.hid (k65.M_mono (fun _ _ => trivial) (Kd.M_step (k65.M_bound (Kd.M_below HM.out hb4)) (fun j hj hlt => hf5.block j hlt (by have := hj.2.1; have := YtieaipclioppkaaGreatCore.heap_lt B1.out; omega))))
  have HB5 : Hid (Below w.heap.size w w5) := Lib.hid ((Fr.of_below (S := fun j => j = q1) (HB3.out.trans (hb4.mono HB3.out.size))).trans hf5 |>.below (Nat.le_refl _) (fun j hj h => by have := HQ.out; omega))
  have HS5 := Lib.hid hs05
  have HE5 := Lib.hid hb15
  have HQV := Lib.hid (show q1 < qv ∧ q0 < qv by have := HLT3.out; omega)
  clear hb13 hb4 hv4 hb14 hs04 hb15 hf5 hv5 hs05
  go_wp2_with (first | (rw [hqv]) | (rw [hw4]) | (rw [hw5]))
  refine (read_new w2.heap.size (fun _ => True) [.int .i64 2, .int .i64 0, .string ⟨#[]⟩, .slice A3 13 c3] w5 HM5.out).mono ?_
  rintro e w6 ⟨rfl, hb⟩
  have hs6 := HS5.out.below hb
  have hE6 := (hb.block q1 (YtieaipclioppkaaGreatCore.heap_lt HE5.out)).trans HE5.out
  have hs7 : SAt (w6.setRow q0 ns.cs.toArray) q0 ns := hs6.row
  have hf7 : Fr (fun j => j = q0) w6 (w6.setRow q0 ns.cs.toArray) := row_fr _ _ _
  obtain ⟨w7, hw7⟩ : ∃ W, w6.setRow q0 ns.cs.toArray = W := ⟨_, rfl⟩
  rw [hw7] at hs7 hf7
  have hE7 := hf7.at_ hE6 (by have := HQ.out; omega)
  have HS6 := Lib.hid hs6
  have HS7 := Lib.hid hs7
  have HE7 := Lib.hid hE7
  have HB7 : Hid (Below w.heap.size w w7) := Lib.hid ((Fr.of_below (S := fun j => j = q0) (HB5.out.trans (hb.mono HB5.out.size))).trans hf7 |>.below (Nat.le_refl _) (fun j hj h => by have := HQ.out; omega))
  clear hs6 hE6 hs7 hf7 hE7 hb v0 v1 v2 v3 k15 k1 f1 k14 f14 hw4 hw5
  go_wp2_with (first | (refine wpList_store_rowTo rfl 42 _ _ rfl rfl q0 ns.cs.toArray rfl rfl 42 TS.zero.cs.toArray HS6.out (SAt.size (new_ok 0)) rfl (TS.oneCell (new_ok 0)) ?_) | (rw [hw7]) | (refine wpList_load_row rfl 42 _ rfl q0 rfl 42 ns.cs.toArray (0, 0) _ HS7.out Tryz.underlying42 rfl (SAt.size (new_ok 0)) ?_))
  refine (Sd.sound_new w7).mono ?_
  rintro e w8 ⟨rfl, hb⟩
  have HS8 := Lib.hid (HS7.out.below hb)
  have hE8 := (hb.block q1 (YtieaipclioppkaaGreatCore.heap_lt HE7.out)).trans HE7.out
  have HE8 := Lib.hid hE8
  have HB8 := Lib.hid (HB7.out.trans (hb.mono HB7.out.size))
  clear hb hE8 hw7
  go_wp2_with fail
  refine (Ih.must_ok w8).mono ?_
  rintro e w8' ⟨rfl, rfl⟩
  have hs9 : SAt (w8'.setRow q0 ns.cs.toArray) q0 ns := HS8.out.row
  have hf9 : Fr (fun j => j = q0) w8' (w8'.setRow q0 ns.cs.toArray) := row_fr _ _ _
  obtain ⟨w9, hw9⟩ : ∃ W, w8'.setRow q0 ns.cs.toArray = W := ⟨_, rfl⟩
  rw [hw9] at hs9 hf9
  have hE9 := hf9.at_ HE8.out (by have := HQ.out; omega)
  have k19 : w9.cell? ⟨q1, 0, none⟩ = some (.int .i64 0) := by rw [cell_of_row w9 q1 0 _ _ _ hE9]; rfl
  have f19 : w9.frozen? ⟨q1, 0, none⟩ = false := Lib.frozen_of_heap hE9 0
  have hE10 : (w9.setCell ⟨q1, 0, none⟩ (.int .i64 0)).heap[q1]? = some (.cells #[.int .i64 0] 44 (0, 0)) := heap_setCell_same w9 q1 0 _ _ (.int .i64 0) hE9
  have hf10 : Fr (fun j => j = q1) w9 (w9.setCell ⟨q1, 0, none⟩ (.int .i64 0)) := (Fr.refl _ _).setAt rfl
  obtain ⟨w10, hw10⟩ : ∃ W, w9.setCell ⟨q1, 0, none⟩ (.int .i64 0) = W := ⟨_, rfl⟩
  rw [hw10] at hE10 hf10
  have hs10 := hs9.fr hf10 (by have := HQ.out; omega)
  have HS10 := Lib.hid hs10
  have HB10 : Hid (Below w.heap.size w w10) := Lib.hid (((Fr.of_below (S := fun j => j = q0 ∨ j = q1) HB8.out).trans ((hf9.mono (fun _ h => .inl h)).trans (hf10.mono (fun _ h => .inr h)))).below (Nat.le_refl _) (fun j hj h => by have := HQ.out; omega))
  have HE10 := Lib.hid hE10
  clear hs9 hf9 hE9 hE10 hf10 hs10
  go_wp2_with (first | (refine wpList_load_row rfl 42 _ rfl q0 rfl 42 ns.cs.toArray (0, 0) _ HS8.out Tryz.underlying42 rfl (SAt.size (new_ok 0)) ?_) | (refine wpList_store_rowTo rfl 42 _ _ rfl rfl q0 ns.cs.toArray rfl rfl 42 ns.cs.toArray HS8.out (SAt.size (new_ok 0)) rfl (TS.oneCell (new_ok 0)) ?_) | (rw [hw9]) | (rw [hw10]))
  refine leaves_cons (f := 23) (args := #[.pointer (some ⟨q0, 0, none⟩), .pointer (some ⟨q1, 0, none⟩)]) (by simp) (by simp [go_sem]) ?_
  refine (get1_idle ⟨q0, 0, none⟩ ⟨q1, 0, none⟩ _).mono ?_
  rintro e u' w'' ⟨rfl, rfl, rfl⟩
  have i0 : w''.cell? ⟨q1, 0, none⟩ = some (.int .i64 0) := by rw [cell_of_row w'' q1 0 _ _ _ HE10.out]; rfl
  have hl := run_loadVar_row (P := Tryz.prog) w'' q0 42 42 ns.cs.toArray (0, 0) _ HS10.out Tryz.underlying42 rfl (SAt.size (new_ok 0))
  have hG : GetNew w (.returned (.tuple #[.agg ns.cs.toArray, .int .i64 0])) w'' := ⟨rfl, HB10.out⟩
  simp [Leaves, settle, results, Tryz.results15, hl, asAddr]
  refine ⟨.tuple #[.agg ns.cs.toArray, .int .i64 0], ?_, hG⟩
  simp [go_sem, i0]

end Go.Proofs.YtieaipclioppkaaGreat.Ig

/-! The law's wakes: a new tenant is put, read back and weighed. -/
namespace Go.Proofs.YtieaipclioppkaaGreat.Wk
open Go Go.RowKit Go.Joins Go.Proofs.YtieaipclioppkaaGreatCore Go.Proofs.YtieaipclioppkaaGreat.Fr Go.Proofs.YtieaipclioppkaaGreat.St Go.Proofs.YtieaipclioppkaaGreat.Nw

set_option maxHeartbeats 8000000 in
set_option maxRecDepth 100000 in
theorem wakes_any (w : World) : Calls Tryz.prog 6 #[] w fun e w' => e = .returned (.bool true) ∧ Below w.heap.size w w' := by
  have hz := zlit_eq
  unfold zlit at hz
  dsimp only at hz
  go_enter Tryz.func6, Tryz.ntmps6
  go_wp2_with fail
  refine (new_any 0 w).mono ?_
  rintro e w1 ⟨rfl, hb1⟩
  obtain ⟨wa, hwa⟩ : ∃ W, w1.alloc (.cells TS.zero.cs.toArray 42) = W := ⟨_, rfl⟩
  obtain ⟨q, hq⟩ : ∃ q, w1.heap.size = q := ⟨_, rfl⟩
  have hba : Below w1.heap.size w1 wa := by rw [← hwa]; exact (Below.refl _ _).alloc (Nat.le_refl _) _
  have hsa : SAt wa q TS.zero := by rw [← hwa, ← hq]; exact SAt.new w1 _
  have hs2 : SAt (wa.setRow q (TS.new 0).cs.toArray) q (TS.new 0) := hsa.row
  have hf2 : Fr (fun j => j = q) wa (wa.setRow q (TS.new 0).cs.toArray) := row_fr _ _ _
  obtain ⟨w2, hw2⟩ : ∃ W, wa.setRow q (TS.new 0).cs.toArray = W := ⟨_, rfl⟩
  rw [hw2] at hs2 hf2
  have HSA := Lib.hid hsa
  have HS2 := Lib.hid hs2
  have HB2 : Hid (Below w.heap.size w w2) := Lib.hid ((Fr.of_below (S := fun j => j = q) (hb1.trans (hba.mono hb1.size))).trans hf2 |>.below (Nat.le_refl _) (fun j hj h => by have := hb1.size; omega))
  clear hba hsa hs2 hf2
  have hqw := Lib.hid (show w.heap.size ≤ q by rw [← hq]; exact hb1.size)
  clear hb1
  go_wp2_with (first | (rw [hz]) | (rw [hwa]) | (rw [hq]) | (refine wpList_store_rowTo rfl 42 _ _ rfl rfl q (TS.new 0).cs.toArray rfl rfl 42 TS.zero.cs.toArray HSA.out (SAt.size (new_ok 0)) rfl (TS.oneCell (new_ok 0)) ?_) | (rw [hw2]) | (refine wpList_load_row rfl 42 _ rfl q rfl 42 (TS.new 0).cs.toArray (0, 0) _ HS2.out Tryz.underlying42 rfl (SAt.size (new_ok 0)) ?_))
  clear hwa hw2 hq
  refine (Ip.put_new w2).mono ?_
  rintro e w3 ⟨rfl, hb⟩
  have HS3 := Lib.hid (HS2.out.below hb)
  have HB3 := Lib.hid (HB2.out.trans (hb.mono HB2.out.size))
  clear hb
  go_wp2_with fail
  refine (Ig.get_new w3).mono ?_
  rintro e w4 ⟨rfl, hb⟩
  have HS4 := Lib.hid (HS3.out.below hb)
  have HB4 := Lib.hid (HB3.out.trans (hb.mono HB3.out.size))
  clear hb
  obtain ⟨wb, hwb⟩ : ∃ W, w4.alloc (.cells TS.zero.cs.toArray 42) = W := ⟨_, rfl⟩
  obtain ⟨p, hp⟩ : ∃ q, w4.heap.size = q := ⟨_, rfl⟩
  have hbb : Below w4.heap.size w4 wb := by rw [← hwb]; exact (Below.refl _ _).alloc (Nat.le_refl _) _
  have hsb : SAt wb p TS.zero := by rw [← hwb, ← hp]; exact SAt.new w4 _
  have hs5 : SAt (wb.setRow p (TS.new 0).cs.toArray) p (TS.new 0) := hsb.row
  have hf5 : Fr (fun j => j = p) wb (wb.setRow p (TS.new 0).cs.toArray) := row_fr _ _ _
  obtain ⟨w5, hw5⟩ : ∃ W, wb.setRow p (TS.new 0).cs.toArray = W := ⟨_, rfl⟩
  rw [hw5] at hs5 hf5
  have hqp : q < p := by rw [← hp]; exact heap_lt HS4.out
  have HSB := Lib.hid hsb
  have HP5 := Lib.hid hs5
  have HS5 := Lib.hid ((HS4.out.below hbb).fr hf5 (by omega))
  have HB5 : Hid (Below w.heap.size w w5) := Lib.hid ((Fr.of_below (S := fun j => j = p) (HB4.out.trans (hbb.mono HB4.out.size))).trans hf5 |>.below (Nat.le_refl _) (fun j hj h => by have := hqw.out; omega))
  clear hbb hsb hs5 hf5
  go_wp2_with (first | (rw [hz]) | (rw [hwb]) | (rw [hp]) | (refine wpList_store_rowTo rfl 42 _ _ rfl rfl p (TS.new 0).cs.toArray rfl rfl 42 TS.zero.cs.toArray HSB.out (SAt.size (new_ok 0)) rfl (TS.oneCell (new_ok 0)) ?_) | (rw [hw5]) | (refine wpList_load_row rfl 42 _ rfl q rfl 42 (TS.new 0).cs.toArray (0, 0) _ HS5.out Tryz.underlying42 rfl (SAt.size (new_ok 0)) ?_))
  clear hwb hw5 hp
  refine (Rs.weight_bare (TS.new 0) (new_ok 0) rfl rfl rfl w5).mono ?_
  rintro e w6 ⟨rfl, hb⟩
  have HP6 := Lib.hid (HP5.out.below hb)
  have HB6 := Lib.hid (HB5.out.trans (hb.mono HB5.out.size))
  have c21 : w6.cell? ⟨p, 21, none⟩ = some (.int .i64 1) := HP6.out.cell rfl
  have c2 : w6.cell? ⟨p, 2, none⟩ = some (.int .i64 4) := HP6.out.cell rfl
  clear hb
  go_wp2_with fail
  go_ret
  exact ⟨rfl, HB6.out⟩

end Go.Proofs.YtieaipclioppkaaGreat.Wk
