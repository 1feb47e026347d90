/- A queue of numbers that is cut at the front and appended to. -/
import Derived.Test.YtifdfhonhphojaaFr
import Derived.ArgAppend
import Derived.Lib.SmallJoins
namespace Go.Proofs.Ytifdfhonhphojaa.Qu
open Go Go.RowKit Go.Proofs.YtifdfhonhphojaaCore Go.Proofs.Ytifdfhonhphojaa.Fr

/-- Numbers in a block, from a place on, and room behind them. -/
def Txq (T : Nat) (w : World) (v : Value) (g : Nat) (xs : List Int) : Prop :=
  ∃ (off cap : Nat) (cur : Array Value), v = .slice (some ⟨g, off, none⟩) xs.length cap ∧ xs.length ≤ cap ∧ w.heap[g]? = some (.cells cur T (0, 0)) ∧ off + cap ≤ cur.size ∧ cur.size ≤ maxLen ∧
    ∀ (j : Nat) (x : Int), xs[j]? = some x → cur[off + j]? = some (.int .i64 x)
theorem Txq.at_ {T : Nat} {w w' : World} {v : Value} {g : Nat} {xs : List Int} (h : Txq T w v g xs) (hb : w'.heap[g]? = w.heap[g]?) : Txq T w' v g xs := by
  obtain ⟨off, cap, cur, h1, h2, h3, h4⟩ := h
  exact ⟨off, cap, cur, h1, h2, hb.trans h3, h4⟩
theorem Txq.lt {T : Nat} {w : World} {v : Value} {g : Nat} {xs : List Int} (h : Txq T w v g xs) : g < w.heap.size := by
  obtain ⟨off, cap, cur, h1, h2, h3, h4⟩ := h
  exact heap_lt h3
theorem Txq.fr {S : Nat → Prop} {T : Nat} {w w' : World} {v : Value} {g : Nat} {xs : List Int} (h : Txq T w v g xs) (f : Fr S w w') (hs : ¬ S g) : Txq T w' v g xs := h.at_ (f.block g h.lt hs)
theorem Txq.one (T : Nat) (w : World) (x : Int) : Txq T (w.alloc (.cells #[.int .i64 x] T)) (.slice (some ⟨w.heap.size, 0, none⟩) 1 1) w.heap.size [x] :=
  ⟨0, 1, _, rfl, Nat.le_refl _, heap_alloc_new _ _, by simp, by simp [maxLen], fun j y h => by
    match j with
    | 0 => simpa using h
    | j + 1 => simp at h⟩
/-- The first, and the others. -/
theorem Txq.next {T : Nat} {w : World} {v : Value} {g : Nat} {x : Int} {xs : List Int} (h : Txq T w v g (x :: xs)) :
    ∃ off cap : Nat, v = .slice (some ⟨g, off, none⟩) (xs.length + 1) (cap + 1) ∧ xs.length ≤ cap ∧ cap + 1 ≤ maxLen ∧ w.cell? ⟨g, off, none⟩ = some (.int .i64 x) ∧
      Txq T w (.slice (some ⟨g, if cap = 0 then off else off + 1, none⟩) xs.length cap) g xs := by
  obtain ⟨off, cap, cur, rfl, h2, h3, h4, h5, h6⟩ := h
  rw [List.length_cons] at h2
  obtain ⟨c, rfl⟩ : ∃ c, cap = c + 1 := ⟨cap - 1, by omega⟩
  refine ⟨off, c, rfl, by omega, by omega, ?_, _, c, cur, rfl, by omega, h3, by split <;> omega, h5, fun j y hj => ?_⟩
  · unfold World.cell?
    rw [h3]
    have := h6 0 x rfl
    simpa using this
  · have hjl := (List.getElem?_eq_some_iff.1 hj).1
    rw [if_neg (by omega)]
    have := h6 (j + 1) y hj
    rwa [show off + (j + 1) = off + 1 + j from by omega] at this
/-- One more. -/
theorem Txq.append {P : Program} {T t : Nat} {i : TypeInfo} {z : Value} (ht : P.underlying t = some (.slice T)) (hi : P.info? T = some i) (hz : i.zero = some z) (hsize : i.size = 1) (hby : i.bytes = 8) (hzs : z.cells.size = 1)
    {w : World} {v : Value} {g : Nat} {xs : List Int} (h : Txq T w v g xs) (hl : xs.length ≤ 100000000) (ty : TypeId) (ad : Addr) (c : Nat) (s : Int) (hs : w.cell? ad = some (.int .i64 s)) :
    ∃ v' w' g', (Builtin.append_ #[t, t] ty #[v, .slice (some ad) 1 c]).run P w = .ok v' w' ∧ Txq T w' v' g' (xs ++ [s]) ∧ Fr (fun k => k = g) w w' ∧ (g' = g ∨ w.heap.size ≤ g') := by
  obtain ⟨off, cap, cur, rfl, h2, h3, h4, h5, h6⟩ := h
  have hml : maxLen = 9223372036854775807 := rfl
  have hnews : ∀ j u, [Value.int .i64 s][j]? = some u → w.cell? (ad.add j) = some u := fun j u hj => by
    match j with
    | 0 => simp at hj; subst hj; rw [show ad.add 0 = ad from by unfold Addr.add; split <;> simp_all]; exact hs
    | j + 1 => simp at hj
  have hcell : ∀ j, w.cell? ⟨g, j, none⟩ = cur[j]? := fun j => by unfold World.cell?; rw [h3]; rfl
  by_cases hr : cap < xs.length + 1
  · obtain ⟨v', w', hrun, hown, hgr⟩ := run_append_arg_grows (P := P) w t ty T i z 1 8 ht hi hz hsize hby hzs (by decide) ⟨g, off, none⟩ xs.length cap (xs.map (Value.int .i64)) (by simp) (fun j u hj => by
      rw [Addr.add_lit, hcell]
      rw [List.getElem?_map] at hj
      cases hx : xs[j]? with
      | none => rw [hx] at hj; cases hj
      | some y => rw [hx] at hj; injection hj with hj; rw [← hj]; exact h6 j y hx) ad 1 c [.int .i64 s] (by simp) hnews (by omega) (by omega) (by omega)
    rcases hown.2 with ⟨_, h0⟩ | ⟨g', cap', cur', rfl, hg', hb, hn, hc, hcs, htk⟩
    · omega
    · refine ⟨_, w', g', hrun, ⟨0, cap', cur', by simp, by simpa using hn, hb, by omega, by omega, fun j y hj => ?_⟩, Fr.of_grown hgr (fun _ h => by cases h), .inr hg'⟩
      have e : cur'.toList.take (xs.length + 1) = (xs ++ [s]).map (Value.int .i64) := by rw [← show cur'.toList.take ((xs.length + 1) * 1) = cur'.toList.take (xs.length + 1) from by rw [Nat.mul_one], htk]; simp
      have hjl := (List.getElem?_eq_some_iff.1 hj).1
      have h7 : ((xs ++ [s]).map (Value.int .i64))[j]? = some (.int .i64 y) := by rw [List.getElem?_map, hj]; rfl
      rw [List.length_append, List.length_singleton] at hjl
      rw [← e, List.getElem?_take_of_lt hjl, Array.getElem?_toList] at h7
      rw [Nat.zero_add]
      exact h7
  · have hlt : off + xs.length < cur.size := by omega
    have hrun := run_append_room_cells (P := P) w t ty T i ht hi g off xs.length cap ad 1 c [.int .i64 s] (by simp [hsize]) hnews (fun u hu => by simp at hu; subst hu; rfl) (by omega) (fun j hj => by
      obtain rfl : j = 0 := by simpa using hj
      rw [hsize, Nat.mul_one, Nat.add_zero, hcell, Array.getElem?_eq_getElem hlt]
      rfl) (fun j _ => by
      unfold World.frozen?
      rw [h3]
      simp)
    rw [hsize, Nat.mul_one] at hrun
    refine ⟨_, _, g, hrun, ⟨off, cap, cur.setIfInBounds (off + xs.length) (.int .i64 s), by simp, by simp; omega, ?_, by simpa using h4, by simpa using h5, fun j y hj => ?_⟩, ?_, .inl rfl⟩
    · show (w.setCell ⟨g, off + xs.length, none⟩ (.int .i64 s)).heap[g]? = _
      have hg := heap_lt h3
      have e2 : w.heap[g] = .cells cur T (0, 0) := by
        rw [Array.getElem?_eq_getElem hg] at h3
        injection h3
      simp [World.setCell, Array.getElem?_modify, h3]
    · have hjl := (List.getElem?_eq_some_iff.1 hj).1
      rw [List.length_append, List.length_singleton] at hjl
      rw [Array.getElem?_setIfInBounds]
      by_cases hjx : j = xs.length
      · subst hjx
        rw [if_pos rfl, if_pos hlt]
        have : s = y := by simpa using hj
        rw [this]
      · rw [if_neg (by omega)]
        rw [List.getElem?_append_left (by omega)] at hj
        exact h6 j y hj
    · exact (Fr.refl _ _).setAt rfl
/-- .. for the walk. -/
theorem wpList_append_q {P : Program} {T t : Nat} {i : TypeInfo} {z : Value} (ht : P.underlying t = some (.slice T)) (hi : P.info? T = some i) (hz : i.zero = some z) (hsize : i.size = 1) (hby : i.bytes = 8) (hzs : z.cells.size = 1)
    {ops : Array Oper} {rest : List Oper} {o : Oper} {a : Act} {Q : Exit → Act → World → Prop} (hg : o.guard = none) (sl x : Operand) (hop : o.op = Op.call { callee := Callee.builtin Builtin.append, args := #[sl, x], argTypes := #[t, t] })
    {w : World} {v : Value} {g : Nat} {xs : List Int} (h : Txq T w v g xs) {n : Nat} (hn : xs.length = n) (hl : n ≤ 100000000) (hs : a.eval sl = v) (ad : Addr) (c : Nat) (s : Int) (hx : a.eval x = .slice (some ad) 1 c) (hc : w.cell? ad = some (.int .i64 s))
    (hK : ∀ off' cap' g' w', Txq T w' (.slice (some ⟨g', off', none⟩) (n + 1) cap') g' (xs ++ [s]) → Fr (fun k => k = g) w w' → (g' = g ∨ w.heap.size ≤ g') → wpList P ops Q rest (a.put o.dst (.slice (some ⟨g', off', none⟩) (n + 1) cap')) w') : wpList P ops Q (o :: rest) a w := by
  subst hn
  refine wpList_plain hg fun K hK' => ?_
  obtain ⟨v', w', g', hrun, r1, r2, r3⟩ := Txq.append ht hi hz hsize hby hzs h hl o.type ad c s hc
  unfold Oper.wp
  simp [execOp, hop, resolve, invoke, builtin, hs, hx, hrun, Result.andThen]
  obtain ⟨off', cap', cur', rfl, _⟩ := id r1
  rw [List.length_append] at r1 ⊢
  exact hK' _ _ (hK _ _ g' w' r1 r2 r3)

end Go.Proofs.Ytifdfhonhphojaa.Qu
