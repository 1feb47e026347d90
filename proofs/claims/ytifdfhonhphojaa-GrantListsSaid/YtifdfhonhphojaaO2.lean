/- Rows of elements of two cells that a call makes for itself: one more, for the walk; how they are read. -/
import Derived.Test.YtifdfhonhphojaaOi
namespace Go.Proofs.Ytifdfhonhphojaa.O2
open Go Go.RowKit Go.Proofs.YtifdfhonhphojaaCore Go.Proofs.Ytifdfhonhphojaa.Fr Go.Proofs.Ytifdfhonhphojaa.Oi

section
variable {α : Type} (e1 e2 : α → Value)
def flat2 (xs : List α) : List Value := xs.flatMap fun x => [e1 x, e2 x]
theorem flat2_len : ∀ xs : List α, (flat2 e1 e2 xs).length = xs.length * 2
  | [] => rfl
  | x :: r => by
    have h := flat2_len r
    unfold flat2 at h ⊢
    rw [List.flatMap_cons, List.length_append, h, List.length_cons]
    simp only [List.length_cons, List.length_nil]
    omega
theorem flat2_at : ∀ (xs : List α) (i : Nat) (x : α), xs[i]? = some x → (flat2 e1 e2 xs)[i * 2]? = some (e1 x) ∧ (flat2 e1 e2 xs)[i * 2 + 1]? = some (e2 x)
  | [], i, x, h => by simp at h
  | y :: r, 0, x, h => by
    have : y = x := by simpa using h
    subst this
    exact ⟨rfl, rfl⟩
  | y :: r, i + 1, x, h => by
    rw [List.getElem?_cons_succ] at h
    have h2 := flat2_at r i x h
    unfold flat2 at h2 ⊢
    rw [List.flatMap_cons, show (i + 1) * 2 = i * 2 + 2 from by omega]
    exact ⟨h2.1, h2.2⟩
def Own2 (T : Nat) (w : World) (base : Nat) (v : Value) (xs : List α) : Prop := w.ownsRow base T 2 v xs.length (flat2 e1 e2 xs)
/-- Two cells each, in line. -/
def At2 (w : World) (v : Value) (xs : List α) : Prop := ∃ A c, v = .slice A xs.length c ∧ xs.length ≤ c ∧
  ∀ (i : Nat) (x : α), xs[i]? = some x → ∃ ad, A = some ad ∧ w.cell? (ad.add (i * 2)) = some (e1 x) ∧ w.cell? ⟨(ad.add (i * 2)).block, (ad.add (i * 2)).off + 1, none⟩ = some (e2 x)
end
section
variable {α : Type} {e1 e2 : α → Value} {T base : Nat} {w w' : World} {v : Value} {xs : List α}
theorem Own2.nil : Own2 e1 e2 T w base (.slice none 0 0) [] := World.ownsRow_nil w base T 2
theorem Own2.below (h : Own2 e1 e2 T w base v xs) (hb : Below w.heap.size w w') : Own2 e1 e2 T w' base v xs := by
  refine ⟨h.1, h.2.imp id ?_⟩
  rintro ⟨g, cap, cur, h1, h2, h3, h4⟩
  exact ⟨g, cap, cur, h1, h2, (hb.block g (heap_lt h3)).trans h3, h4⟩
theorem Own2.mono {base' : Nat} (h : Own2 e1 e2 T w base v xs) (hb : base' ≤ base) : Own2 e1 e2 T w base' v xs :=
  ⟨h.1, h.2.imp id fun ⟨g, cap, cur, h1, h2, h3⟩ => ⟨g, cap, cur, h1, Nat.le_trans hb h2, h3⟩⟩
theorem Own2.at2 (h : Own2 e1 e2 T w base v xs) : At2 e1 e2 w v xs := by
  rcases h.2 with ⟨rfl, h0⟩ | ⟨g, cap, cur, rfl, hg, hb, hn, hm, hs, ht⟩
  · refine ⟨none, 0, by rw [h0], by omega, fun i x hi => ?_⟩
    have := (List.getElem?_eq_some_iff.1 hi).1
    omega
  · refine ⟨_, cap, rfl, hn, fun i x hi => ?_⟩
    have hil := (List.getElem?_eq_some_iff.1 hi).1
    obtain ⟨h1, h2⟩ := flat2_at e1 e2 xs i x hi
    rw [← ht, List.getElem?_take_of_lt (by omega), Array.getElem?_toList] at h1 h2
    refine ⟨_, rfl, ?_, ?_⟩
    · rw [Addr.add_plain0]; unfold World.cell?; rw [hb]; exact h1
    · rw [Addr.add_plain0]; unfold World.cell?; rw [hb]; exact h2
theorem At2.below (h : At2 e1 e2 w v xs) (hb : Below w.heap.size w w') : At2 e1 e2 w' v xs := by
  obtain ⟨A, c, h1, h2, h3⟩ := h
  refine ⟨A, c, h1, h2, fun i x hi => ?_⟩
  obtain ⟨ad, h4, h5, h6⟩ := h3 i x hi
  exact ⟨ad, h4, (hb.cell (World.block_lt_of_cell? w _ h5)).trans h5, (hb.cell (World.block_lt_of_cell? w _ h6)).trans h6⟩
/-- Rows of other types stay. -/
theorem OwnI.grown {T' base' : Nat} {v' : Value} {l : List Int} (h : OwnI T' w base' v' l) (h2 : Own2 e1 e2 T w base v xs) (hne : T' ≠ T) (hg : w.grownBy w' v.ownBlock) : OwnI T' w' base' v' l := by
  refine ⟨h.1, h.2.imp id ?_⟩
  rintro ⟨g, cap, cur, h3, h4, h5, h6⟩
  refine ⟨g, cap, cur, h3, h4, (hg.block g (heap_lt h5) (fun e => ?_)).trans h5, h6⟩
  rcases h2.2 with ⟨rfl, _⟩ | ⟨g', cap', cur', rfl, _, hb, _⟩
  · cases e
  · injection e with e
    have e' : g = g' := e
    rw [e', hb] at h5
    injection h5 with h5
    injection h5 with _ h5 _
    exact hne h5.symm
theorem cells_two (w : World) (x y : Value) (t : TypeId) : (w.alloc (.cells #[x, y] t)).cell? ⟨w.heap.size, 0, none⟩ = some x ∧ (w.alloc (.cells #[x, y] t)).cell? ⟨w.heap.size, 1, none⟩ = some y := by
  constructor <;> (unfold World.cell?; rw [heap_alloc_new]; rfl)

theorem wpList_append_o2 {P : Program} {t : Nat} {i : TypeInfo} {z : Value} {bytes : Nat} (ht : P.underlying t = some (.slice T)) (hi : P.info? T = some i) (hz : i.zero = some z) (hsize : i.size = 2) (hby : i.bytes = bytes) (hzs : z.cells.size = 2)
    {ops : Array Oper} {rest : List Oper} {o : Oper} {a : Act} {Q : Exit → Act → World → Prop} (hg : o.guard = none) (sl x : Operand) (hop : o.op = Op.call { callee := Callee.builtin Builtin.append, args := #[sl, x], argTypes := #[t, t] })
    (h : Own2 e1 e2 T w base v xs) (hB : base ≤ w.heap.size) (hl : xs.length ≤ 1000000) (hbb : bytes ≤ 100) (hs : a.eval sl = v) (g : Nat) (c : Nat) (s : α) (hx : a.eval x = .slice (some ⟨g, 0, none⟩) 1 c) (hc0 : w.cell? ⟨g, 0, none⟩ = some (e1 s)) (hc1 : w.cell? ⟨g, 1, none⟩ = some (e2 s)) (ho1 : (e1 s).oneCell' = true) (ho2 : (e2 s).oneCell' = true)
    (hK : ∀ v' w', Own2 e1 e2 T w' base v' (xs ++ [s]) → Below base w w' → w.grownBy w' v.ownBlock → wpList P ops Q rest (a.put o.dst v') w') : wpList P ops Q (o :: rest) a w := by
  have hbytes : (xs.length + 1) * bytes ≤ 1000001 * 100 := Nat.mul_le_mul (by omega) hbb
  refine wpList_append_own w hg sl x t hop base T i z 2 bytes ht hi hz hsize hby hzs (by decide) v xs.length (flat2 e1 e2 xs) hs h ⟨g, 0, none⟩ 1 c [e1 s, e2 s] hx rfl (fun j u hj => by
    rw [Addr.add_plain0]
    match j with
    | 0 => simp at hj; subst hj; exact hc0
    | 1 => simp at hj; subst hj; exact hc1
    | j + 2 => simp at hj) (fun u hu => by
      simp at hu
      rcases hu with rfl | rfl
      · exact ho1
      · exact ho2) (by unfold maxLen; omega) (by omega) hB ?_
  intro v' w' h1 h2 _
  refine hK v' w' ?_ (grown_below hB h h2) h2
  unfold Own2
  rw [List.length_append, List.length_singleton]
  have : flat2 e1 e2 (xs ++ [s]) = flat2 e1 e2 xs ++ [e1 s, e2 s] := by simp [flat2]
  rw [this]
  exact h1
end

end Go.Proofs.Ytifdfhonhphojaa.O2
