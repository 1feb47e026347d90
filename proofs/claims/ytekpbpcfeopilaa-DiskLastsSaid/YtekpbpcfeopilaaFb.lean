/- Rows of texts that a call made for itself and cuts at the front: their cells. -/
import Derived.Test.YtekpbpcfeopilaaFa
import Derived.Test.YtekpbpcfeopilaaSys
import Derived.ArgAppend
namespace Go.Proofs.Ytekpbpcfeopilaa.Fb
open Go Go.RowKit Go.Joins Go.Proofs.YtekpbpcfeopilaaCore Go.Proofs.Ytekpbpcfeopilaa.Dm Go.Proofs.Ytekpbpcfeopilaa.Dr Go.Proofs.Ytekpbpcfeopilaa.Da Go.Proofs.Ytekpbpcfeopilaa.Df Go.Proofs.Ytekpbpcfeopilaa.Dg Go.Proofs.Ytekpbpcfeopilaa.Dh Go.Proofs.Ytekpbpcfeopilaa.Di Go.Proofs.Ytekpbpcfeopilaa.Dj Go.Proofs.Ytekpbpcfeopilaa.Dk Go.Proofs.Ytekpbpcfeopilaa.Dl Go.Proofs.Ytekpbpcfeopilaa.Sys Go.Proofs.YtekpbpcfeopilaaW.PrintWords Go.Proofs.YtekpbpcfeopilaaW.PrintLast Go.Proofs.YtekpbpcfeopilaaW.PrintMore

/-- Texts in a block, what stands ahead of them and behind them. -/
def Txs (T : Nat) (w : World) (v : Value) (g : Nat) (xs : List ByteArray) : Prop :=
  ∃ pre spare : List Value, v = .slice (some ⟨g, pre.length, none⟩) xs.length (xs.length + spare.length) ∧ w.heap[g]? = some (.cells (pre ++ xs.map Value.string ++ spare).toArray T (0, 0)) ∧ pre.length + xs.length + spare.length ≤ maxLen
theorem Txs.at_ {T : Nat} {w w' : World} {v : Value} {g : Nat} {xs : List ByteArray} (h : Txs T w v g xs) (hb : w'.heap[g]? = w.heap[g]?) : Txs T w' v g xs := by
  obtain ⟨pre, spare, h1, h2, h3⟩ := h
  exact ⟨pre, spare, h1, hb.trans h2, h3⟩
theorem Txs.lt {T : Nat} {w : World} {v : Value} {g : Nat} {xs : List ByteArray} (h : Txs T w v g xs) : g < w.heap.size := by
  obtain ⟨pre, spare, h1, h2, h3⟩ := h
  exact heap_lt h2
/-- One text that was typed out. -/
theorem Txs.one (T : Nat) (w : World) (x : ByteArray) : Txs T (w.alloc (.cells #[.string x] T)) (.slice (some ⟨w.heap.size, 0, none⟩) 1 1) w.heap.size [x] :=
  ⟨[], [], rfl, heap_alloc_new _ _, by simp [maxLen]⟩
/-- The last one alone. -/
theorem Txs.last {T : Nat} {w : World} {v : Value} {g : Nat} {xs : List ByteArray} (h : Txs T w v g xs) (h0 : 0 < xs.length) :
    ∃ off cap : Nat, v = .slice (some ⟨g, off, none⟩) xs.length cap ∧ xs.length ≤ cap ∧ cap ≤ maxLen ∧ off + cap ≤ maxLen ∧ (∀ j x, xs[j]? = some x → w.cell? ⟨g, off + j, none⟩ = some (.string x)) ∧
      Txs T w (.slice (some ⟨g, off + (xs.length - 1), none⟩) 1 (cap - (xs.length - 1))) g (xs.drop (xs.length - 1)) := by
  obtain ⟨pre, spare, h1, h2, h3⟩ := h
  refine ⟨pre.length, xs.length + spare.length, h1, by omega, by omega, by omega, fun j x hj => ?_, ?_⟩
  · rw [cell_of_row w g _ _ _ _ h2]
    have hjl := (List.getElem?_eq_some_iff.1 hj).1
    rw [List.getElem?_toArray, List.append_assoc, List.getElem?_append_right (by omega), List.getElem?_append_left (by simp; omega)]
    rw [show pre.length + j - pre.length = j from by omega, List.getElem?_map, hj]
    rfl
  · refine ⟨pre ++ (xs.take (xs.length - 1)).map Value.string, spare, ?_, ?_, ?_⟩
    · have e1 : (xs.drop (xs.length - 1)).length = 1 := by rw [List.length_drop]; omega
      have e2 : (pre ++ (xs.take (xs.length - 1)).map Value.string).length = pre.length + (xs.length - 1) := by simp
      rw [e1, e2]
      congr 1
      omega
    · rw [h2]
      have e : xs.map Value.string = (xs.take (xs.length - 1)).map Value.string ++ (xs.drop (xs.length - 1)).map Value.string := by rw [← List.map_append, List.take_append_drop]
      rw [e]
      simp only [List.append_assoc]
    · simp; omega
/-- One text more. -/
theorem Txs.append {P : Program} {T t : Nat} {i : TypeInfo} {z : Value} (ht : P.underlying t = some (.slice T)) (hi : P.info? T = some i) (hz : i.zero = some z) (hsize : i.size = 1) (hby : i.bytes = 16) (hzs : z.cells.size = 1)
    {w : World} {v : Value} {g : Nat} {xs : List ByteArray} (h : Txs T w v g xs) (hl : xs.length ≤ 1000000) (ty : TypeId) (ad : Addr) (c : Nat) (s : ByteArray) (hs : w.cell? ad = some (.string s)) :
    ∃ v' w' g', (Builtin.append_ #[t, t] ty #[v, .slice (some ad) 1 c]).run P w = .ok v' w' ∧ Txs T w' v' g' (xs ++ [s]) ∧ Fr (fun k => k = g) w w' ∧ (g' = g ∨ w.heap.size ≤ g') ∧ g' < w'.heap.size := by
  obtain ⟨pre, spare, h1, h2, h3⟩ := h
  subst h1
  have hml : maxLen = 9223372036854775807 := rfl
  have hnews : ∀ j u, [Value.string s][j]? = some u → w.cell? (ad.add j) = some u := fun j u hj => by
    match j with
    | 0 => simp at hj; subst hj; rw [show ad.add 0 = ad from by unfold Addr.add; split <;> simp_all]; exact hs
    | j + 1 => simp at hj
  by_cases hr : spare = []
  · subst hr
    obtain ⟨v', w', hrun, hown, hgr⟩ := run_append_arg_grows (P := P) w t ty T i z 1 16 ht hi hz hsize hby hzs (by decide) ⟨g, pre.length, none⟩ xs.length (xs.length + 0) (xs.map Value.string) (by simp) (fun j u hj => by
      rw [Addr.add_lit, cell_of_row w g _ _ _ _ h2, List.getElem?_toArray, List.append_assoc, List.getElem?_append_right (by omega), List.append_nil, show pre.length + j - pre.length = j from by omega]
      exact hj) ad 1 c [.string s] (by simp) hnews (by omega) (by omega) (by omega)
    refine ⟨v', w', (v'.ownBlock).getD 0, by simpa using hrun, ?_⟩
    rcases hown.2 with ⟨_, h0⟩ | ⟨g', cap, cur, rfl, hg', hb, hn, hc, hcs, htk⟩
    · omega
    · refine ⟨⟨[], cur.toList.drop (xs.length + 1), ?_, ?_, ?_⟩, Fr.of_grown hgr (fun _ h => by cases h), .inr hg', ?_⟩
      · simp only [List.length_nil, List.length_append, List.length_singleton, List.length_drop, Array.length_toList, hcs]
        show Value.slice _ _ _ = Value.slice (some ⟨g', 0, none⟩) _ _
        congr 1
        omega
      · show w'.heap[g']? = _
        rw [hb]
        have e : List.map Value.string (xs ++ [s]) = cur.toList.take (xs.length + 1) := by rw [← show cur.toList.take ((xs.length + 1) * 1) = cur.toList.take (xs.length + 1) from by rw [Nat.mul_one], htk]; simp
        rw [List.nil_append, e, List.take_append_drop]
      · simp; omega
      · exact heap_lt hb
  · have hp : 0 < spare.length := List.length_pos_iff.2 hr
    obtain ⟨s0, sp, rfl⟩ : ∃ s0 sp, spare = s0 :: sp := by
      cases spare with
      | nil => exact absurd rfl hr
      | cons a b => exact ⟨a, b, rfl⟩
    have hcell : ∀ j, j < [Value.string s].length → w.cell? ⟨g, pre.length + xs.length * i.size + j, none⟩ = some s0 := fun j hj => by
      obtain rfl : j = 0 := by simpa using hj
      rw [hsize, Nat.mul_one, Nat.add_zero, cell_of_row w g _ _ _ _ h2, List.getElem?_toArray, List.getElem?_append_right (by simp)]
      simp
    have hrun := run_append_room_cells (P := P) w t ty T i ht hi g pre.length xs.length (xs.length + (s0 :: sp).length) ad 1 c [.string s] (by simp [hsize]) hnews (fun u hu => by simp at hu; subst hu; rfl) (by simp) (fun j hj => by rw [hcell j hj]; rfl) (fun j hj => by
      show w.frozen? ⟨g, _, none⟩ = false
      unfold World.frozen?
      rw [h2]
      simp)
    rw [hsize, Nat.mul_one] at hrun
    refine ⟨_, _, g, hrun, ⟨pre, sp, ?_, ?_, ?_⟩, ?_, .inl rfl, ?_⟩
    · simp only [List.length_append, List.length_cons, List.length_nil]
      congr 1
      omega
    · show (w.setCell ⟨g, pre.length + xs.length, none⟩ (.string s)).heap[g]? = _
      rw [blk_set h2]
      simp
    · simp at h3 ⊢; omega
    · exact (Fr.refl _ _).setAt rfl
    · show g < (w.setCell _ _).heap.size
      have := heap_lt h2
      simpa [World.setCell] using this

/-- .. for the walk. -/
theorem wpList_append_txs {P : Program} {T t : Nat} {i : TypeInfo} {z : Value} (ht : P.underlying t = some (.slice T)) (hi : P.info? T = some i) (hz : i.zero = some z) (hsize : i.size = 1) (hby : i.bytes = 16) (hzs : z.cells.size = 1)
    {ops : Array Oper} {rest : List Oper} {o : Oper} {a : Act} {Q : Exit → Act → World → Prop} (hg : o.guard = none) (sl x : Operand) (hop : o.op = Op.call { callee := Callee.builtin Builtin.append, args := #[sl, x], argTypes := #[t, t] })
    {w : World} {v : Value} {g : Nat} {xs : List ByteArray} (h : Txs T w v g xs) (hl : xs.length ≤ 1000000) (hs : a.eval sl = v) (ad : Addr) (c : Nat) (s : ByteArray) (hx : a.eval x = .slice (some ad) 1 c) (hc : w.cell? ad = some (.string s))
    (hK : ∀ off' cap' g' w', Txs T w' (.slice (some ⟨g', off', none⟩) (xs.length + 1) cap') g' (xs ++ [s]) → Fr (fun k => k = g) w w' → (g' = g ∨ w.heap.size ≤ g') → wpList P ops Q rest (a.put o.dst (.slice (some ⟨g', off', none⟩) (xs.length + 1) cap')) w') : wpList P ops Q (o :: rest) a w := by
  refine wpList_plain hg fun K hK' => ?_
  obtain ⟨v', w', g', hrun, r1, r2, r3, _⟩ := Txs.append ht hi hz hsize hby hzs h hl o.type ad c s hc
  unfold Oper.wp
  simp [execOp, hop, resolve, invoke, builtin, hs, hx, hrun, Result.andThen]
  obtain ⟨pre, spare, rfl, _, _⟩ := id r1
  rw [List.length_append] at r1 ⊢
  exact hK' _ _ (hK _ _ g' w' r1 r2 r3)

/-- A row of rows: its own block, the values in it, the blocks of the rows, what they read. -/
structure Rws (T1 T2 : Nat) (w : World) (Z : Nat → Prop) (mb : Nat) (vs : List Value) (gs : List Nat) (xss : List (List ByteArray)) : Prop where
  block : w.heap[mb]? = some (.cells vs.toArray T2 (0, 0))
  v4 : vs.length = 4
  len : gs.length = xss.length
  le : xss.length ≤ 4
  mbz : Z mb
  gz : ∀ g ∈ gs, Z g
  mbn : ¬ mb ∈ gs
  nd : gs.Nodup
  at_ : ∀ (i : Nat) (xs : List ByteArray), xss[i]? = some xs → ∃ (v : Value) (g : Nat), vs[i]? = some v ∧ gs[i]? = some g ∧ Txs T1 w v g xs
theorem Rws.fr {T1 T2 : Nat} {w w' : World} {Z S : Nat → Prop} {mb : Nat} {vs : List Value} {gs : List Nat} {xss : List (List ByteArray)} (h : Rws T1 T2 w Z mb vs gs xss) (f : Fr S w w') (hS : ∀ k, Z k → ¬ S k) : Rws T1 T2 w' Z mb vs gs xss :=
  ⟨f.at_ h.block (hS _ h.mbz), h.v4, h.len, h.le, h.mbz, h.gz, h.mbn, h.nd, fun i xs hx => by
    obtain ⟨v, g, h1, h2, h3⟩ := h.at_ i xs hx
    exact ⟨v, g, h1, h2, h3.at_ (f.block g h3.lt (hS _ (h.gz g (List.mem_of_getElem? h2))))⟩⟩
theorem Rws.z {T1 T2 : Nat} {w : World} {Z Z' : Nat → Prop} {mb : Nat} {vs : List Value} {gs : List Nat} {xss : List (List ByteArray)} (h : Rws T1 T2 w Z mb vs gs xss) (hz : ∀ k, k < w.heap.size → Z k → Z' k) : Rws T1 T2 w Z' mb vs gs xss :=
  ⟨h.block, h.v4, h.len, h.le, hz _ (heap_lt h.block) h.mbz, fun g hg => by
    obtain ⟨i, hi, rfl⟩ := List.mem_iff_getElem.1 hg
    obtain ⟨v, g, h1, h2, h3⟩ := h.at_ i (xss[i]'(by rw [← h.len]; exact hi)) (List.getElem?_eq_getElem _)
    rw [List.getElem?_eq_getElem hi] at h2
    injection h2 with h2
    subst h2
    exact hz _ h3.lt (h.gz _ hg), h.mbn, h.nd, h.at_⟩
theorem nodup_set {gs : List Nat} {i g' : Nat} (h : gs.Nodup) (hg : ∀ j g, gs[j]? = some g → j ≠ i → g ≠ g') : (gs.set i g').Nodup := by
  rw [List.nodup_iff_pairwise_ne, List.pairwise_iff_getElem] at h ⊢
  intro a b ha hb hab
  rw [List.length_set] at ha hb
  rw [List.getElem_set, List.getElem_set]
  split
  · rename_i e1
    split
    · omega
    · exact fun e => hg b _ (List.getElem?_eq_getElem hb) (by omega) e.symm
  · split
    · exact hg a _ (List.getElem?_eq_getElem ha) (by omega)
    · exact h a b ha hb hab
/-- One row turns. -/
theorem Rws.put {T1 T2 : Nat} {w w1 : World} {Z : Nat → Prop} {mb : Nat} {vs : List Value} {gs : List Nat} {xss : List (List ByteArray)} (h : Rws T1 T2 w Z mb vs gs xss) {i g : Nat} {xs' : List ByteArray} (hg : gs[i]? = some g)
    (f : Fr (fun k => k = g) w w1) {v' : Value} {g' : Nat} (ht : Txs T1 w1 v' g' xs') (hg' : g' = g ∨ w.heap.size ≤ g') :
    Rws T1 T2 (w1.setCell ⟨mb, i, none⟩ v') (more Z w w1) mb (vs.set i v') (gs.set i g') (xss.set i xs') := by
  have hil : i < gs.length := (List.getElem?_eq_some_iff.1 hg).1
  have hgm : g ∈ gs := List.mem_of_getElem? hg
  have hlt : ∀ j g2, gs[j]? = some g2 → g2 < w.heap.size := fun j g2 hj => by
    have hjl := (List.getElem?_eq_some_iff.1 hj).1
    obtain ⟨v, g3, h1, h2, h3⟩ := h.at_ j (xss[j]'(by rw [← h.len]; exact hjl)) (List.getElem?_eq_getElem _)
    rw [hj] at h2
    injection h2 with h2
    rw [h2]
    exact h3.lt
  have hmg : mb ≠ g := fun e => h.mbn (e ▸ hgm)
  have hb1 : w1.heap[mb]? = some (.cells vs.toArray T2 (0, 0)) := f.at_ h.block hmg
  have hmg' : mb ≠ g' := by
    rcases hg' with rfl | hg'
    · exact hmg
    · have := heap_lt h.block; omega
  have hne : ∀ j g2, gs[j]? = some g2 → j ≠ i → g2 ≠ g := fun j g2 hj hji e => by
    subst e
    have hjl := (List.getElem?_eq_some_iff.1 hj).1
    have e1 : gs[j] = gs[i] := by
      rw [List.getElem?_eq_getElem hjl] at hj
      rw [List.getElem?_eq_getElem hil] at hg
      injection hj with hj
      injection hg with hg
      rw [hj, hg]
    exact hji ((List.getElem_inj h.nd).1 e1)
  have hne' : ∀ j g2, gs[j]? = some g2 → j ≠ i → g2 ≠ g' := fun j g2 hj hji => by
    rcases hg' with rfl | hg'
    · exact hne j g2 hj hji
    · have := hlt j g2 hj; omega
  refine ⟨?_, by rw [List.length_set]; exact h.v4, by rw [List.length_set, List.length_set]; exact h.len, by rw [List.length_set]; exact h.le, .inl h.mbz, ?_, ?_, nodup_set h.nd hne', ?_⟩
  · rw [blk_set hb1]
    simp
  · intro x hxm
    rcases List.mem_or_eq_of_mem_set hxm with hm | rfl
    · exact .inl (h.gz x hm)
    · rcases hg' with rfl | hg'
      · exact .inl (h.gz _ hgm)
      · exact .inr ⟨hg', ht.lt⟩
  · intro hm
    rcases List.mem_or_eq_of_mem_set hm with hm | hm
    · exact h.mbn hm
    · exact hmg' hm
  · intro j ys hj
    by_cases hij : i = j
    · subst hij
      have hixl : i < xss.length := by rw [← h.len]; exact hil
      rw [List.getElem?_set_self hixl] at hj
      injection hj with hj
      subst hj
      refine ⟨v', g', List.getElem?_set_self (by rw [h.v4]; have := h.le; omega), List.getElem?_set_self hil, ht.at_ ?_⟩
      exact Below.heap_setCell _ _ _ _ (fun e => hmg' e.symm)
    · rw [List.getElem?_set_ne hij] at hj
      obtain ⟨v, g2, h1, h2, h3⟩ := h.at_ j ys hj
      refine ⟨v, g2, by rw [List.getElem?_set_ne hij]; exact h1, by rw [List.getElem?_set_ne hij]; exact h2, h3.at_ ?_⟩
      have hg2m : g2 ∈ gs := List.mem_of_getElem? h2
      rw [Below.heap_setCell _ _ _ _ (fun e => h.mbn (by have e' : g2 = mb := e; rw [← e']; exact hg2m))]
      exact f.block g2 h3.lt (hne j g2 h2 (fun e => hij e.symm))
/-- A row more. -/
theorem Rws.add {T1 T2 : Nat} {w w1 : World} {Z : Nat → Prop} {mb : Nat} {vs : List Value} {gs : List Nat} {xss : List (List ByteArray)} (h : Rws T1 T2 w Z mb vs gs xss) (hl : xss.length < 4) {xs' : List ByteArray}
    (f : Below w.heap.size w w1) {v' : Value} {g' : Nat} (ht : Txs T1 w1 v' g' xs') (hg' : w.heap.size ≤ g') :
    Rws T1 T2 (w1.setCell ⟨mb, xss.length, none⟩ v') (more Z w w1) mb (vs.set xss.length v') (gs ++ [g']) (xss ++ [xs']) := by
  have hlt : ∀ j g2, gs[j]? = some g2 → g2 < w.heap.size := fun j g2 hj => by
    have hjl := (List.getElem?_eq_some_iff.1 hj).1
    obtain ⟨v, g3, h1, h2, h3⟩ := h.at_ j (xss[j]'(by rw [← h.len]; exact hjl)) (List.getElem?_eq_getElem _)
    rw [hj] at h2
    injection h2 with h2
    rw [h2]
    exact h3.lt
  have hmg' : mb ≠ g' := by have := heap_lt h.block; omega
  have hnm : ¬ g' ∈ gs := fun hm => by
    obtain ⟨j, hj, e⟩ := List.mem_iff_getElem.1 hm
    have := hlt j _ (List.getElem?_eq_getElem hj)
    omega
  have hb1 : w1.heap[mb]? = some (.cells vs.toArray T2 (0, 0)) := (f.block _ (heap_lt h.block)).trans h.block
  refine ⟨?_, by rw [List.length_set]; exact h.v4, by simp [h.len], by simp; omega, .inl h.mbz, ?_, ?_, ?_, ?_⟩
  · rw [blk_set hb1]
    simp
  · intro x hxm
    rcases List.mem_append.1 hxm with hm | hm
    · exact .inl (h.gz x hm)
    · rw [List.mem_singleton.1 hm]
      exact .inr ⟨hg', ht.lt⟩
  · intro hm
    rcases List.mem_append.1 hm with hm | hm
    · exact h.mbn hm
    · exact hmg' (List.mem_singleton.1 hm)
  · rw [List.nodup_append]
    refine ⟨h.nd, by simp, fun a ha b hb e => ?_⟩
    rw [List.mem_singleton.1 hb] at e
    exact hnm (e ▸ ha)
  · intro j ys hj
    by_cases hij : j < xss.length
    · rw [List.getElem?_append_left hij] at hj
      obtain ⟨v, g2, h1, h2, h3⟩ := h.at_ j ys hj
      refine ⟨v, g2, by rw [List.getElem?_set_ne (by omega)]; exact h1, by rw [List.getElem?_append_left (by rw [h.len]; exact hij)]; exact h2, h3.at_ ?_⟩
      have hg2m : g2 ∈ gs := List.mem_of_getElem? h2
      rw [Below.heap_setCell _ _ _ _ (fun e => h.mbn (by have e' : g2 = mb := e; rw [← e']; exact hg2m))]
      exact f.block g2 h3.lt
    · have hjl := (List.getElem?_eq_some_iff.1 hj).1
      simp only [List.length_append, List.length_singleton] at hjl
      obtain rfl : j = xss.length := by omega
      have e : xs' = ys := by simpa using hj
      subst e
      refine ⟨v', g', List.getElem?_set_self (by rw [h.v4]; omega), by rw [← h.len]; simp, ht.at_ ?_⟩
      exact Below.heap_setCell _ _ _ _ (fun e => hmg' e.symm)

/-- All of it: two disks, a row of rows, a block of ours. -/
structure LS (T1 T2 : Nat) (w0 w : World) (b1 b2 : Nat) (m1 m2 : MDisk) (n1 n2 : Nat) (kp : List (Nat × Obj)) (mb : Nat) (vs : List Value) (gs : List Nat) (xss : List (List ByteArray)) (Z : Nat → Prop) : Prop where
  sys : Dks Z w [⟨b1, m1, n1⟩, ⟨b2, m2, n2⟩]
  old : ∀ k, k < w0.heap.size → Z k
  rows : Rws T1 T2 w Z mb vs gs xss
  new : w0.heap.size ≤ mb ∧ ∀ g ∈ gs, w0.heap.size ≤ g
  kept : ∀ p ∈ kp, Z p.1 ∧ p.1 ≠ mb ∧ ¬ p.1 ∈ gs ∧ w.heap[p.1]? = some p.2
  bel : Below w0.heap.size w0 w
section
variable {T1 T2 : Nat} {w0 w w' : World} {b1 b2 : Nat} {m1 m2 : MDisk} {n1 n2 : Nat} {kp : List (Nat × Obj)} {mb : Nat} {vs : List Value} {gs : List Nat} {xss : List (List ByteArray)} {Z : Nat → Prop}
theorem LS.keep (h : LS T1 T2 w0 w b1 b2 m1 m2 n1 n2 kp mb vs gs xss Z) (hb : Below w.heap.size w w') : LS T1 T2 w0 w' b1 b2 m1 m2 n1 n2 kp mb vs gs xss Z :=
  ⟨h.sys.keep hb, h.old, h.rows.fr (S := fun _ => False) (Fr.of_below hb) (fun _ _ h => h), h.new, fun p hp => by
    obtain ⟨h1, h2, h3, h4⟩ := h.kept p hp
    exact ⟨h1, h2, h3, (hb.block _ (heap_lt h4)).trans h4⟩, h.bel.trans (hb.mono h.bel.size)⟩
/-- A block more is ours. -/
theorem LS.box (h : LS T1 T2 w0 w b1 b2 m1 m2 n1 n2 kp mb vs gs xss Z) (o : Obj) : LS T1 T2 w0 (w.alloc o) b1 b2 m1 m2 n1 n2 ((w.heap.size, o) :: kp) mb vs gs xss (more Z w (w.alloc o)) := by
  have hb : Below w.heap.size w (w.alloc o) := (Below.refl _ _).alloc (Nat.le_refl _) o
  have h2 := h.keep hb
  refine ⟨h.sys.below hb, fun k hk => .inl (h.old k hk), h2.rows.z (fun k _ hk => .inl hk), h.new, fun p hp => ?_, h2.bel⟩
  rcases List.mem_cons.1 hp with rfl | hp
  · refine ⟨.inr ⟨Nat.le_refl _, by simp⟩, ?_, ?_, heap_alloc_new _ _⟩
    · have := heap_lt h.rows.block
      show w.heap.size ≠ mb
      omega
    · intro hm
      obtain ⟨j, hj, e⟩ := List.mem_iff_getElem.1 hm
      obtain ⟨v, g3, h1, h2, h3⟩ := h.rows.at_ j (xss[j]'(by rw [← h.rows.len]; exact hj)) (List.getElem?_eq_getElem _)
      rw [List.getElem?_eq_getElem hj] at h2
      injection h2 with h2
      have := h3.lt
      have e' : gs[j] = w.heap.size := e
      omega
  · obtain ⟨h1, h3, h4, h5⟩ := h2.kept p hp
    exact ⟨.inl h1, h3, h4, h5⟩
theorem LS.cell (h : LS T1 T2 w0 w b1 b2 m1 m2 n1 n2 kp mb vs gs xss Z) (i : Nat) {v : Value} (hv : vs[i]? = some v) : w.cell? ⟨mb, i, none⟩ = some v := by
  rw [cell_of_row w mb i _ _ _ h.rows.block]
  simpa using hv
theorem LS.free (h : LS T1 T2 w0 w b1 b2 m1 m2 n1 n2 kp mb vs gs xss Z) (i : Nat) : w.frozen? ⟨mb, i, none⟩ = false := by
  unfold World.frozen?
  rw [h.rows.block]
  simp
theorem LS.kcell (h : LS T1 T2 w0 w b1 b2 m1 m2 n1 n2 kp mb vs gs xss Z) {q : Nat} {cs : Array Value} {t : TypeId} (hk : (q, Obj.cells cs t (0, 0)) ∈ kp) (i : Nat) {v : Value} (hv : cs[i]? = some v) : w.cell? ⟨q, i, none⟩ = some v := by
  obtain ⟨_, _, _, h4⟩ := h.kept _ hk
  rw [cell_of_row w q i _ _ _ h4]
  exact hv
theorem LS.text (h : LS T1 T2 w0 w b1 b2 m1 m2 n1 n2 kp mb vs gs xss Z) {i : Nat} {ys : List ByteArray} (hys : xss[i]? = some ys) {g off n cap : Nat} (hv : vs[i]? = some (.slice (some ⟨g, off, none⟩) n cap)) {p : Nat} {t : ByteArray} (hp : ys[p]? = some t) : w.cell? ⟨g, off + p, none⟩ = some (.string t) := by
  obtain ⟨v, g', h1, _, h3⟩ := h.rows.at_ i ys hys
  rw [hv] at h1
  injection h1 with h1
  subst h1
  have hpl := (List.getElem?_eq_some_iff.1 hp).1
  obtain ⟨off', cap', he, _, _, _, hc, _⟩ := h3.last (by omega)
  injection he with e1 e2 e3
  injection e1 with e1
  injection e1 with e4 e5
  rw [e4, e5]
  exact hc p t hp
theorem LS.drop (h : LS T1 T2 w0 w b1 b2 m1 m2 n1 n2 kp mb vs gs xss Z) : LS T1 T2 w0 w b1 b2 m1 m2 n1 n2 [] mb vs gs xss Z := ⟨h.sys, h.old, h.rows, h.new, fun p hp => (by cases hp), h.bel⟩
theorem LS.op {n1' n2' : Nat} {m1' m2' : MDisk} (h : LS T1 T2 w0 w b1 b2 m1 m2 n1 n2 kp mb vs gs xss Z) (hs : Dks Z w' [⟨b1, m1', n1'⟩, ⟨b2, m2', n2'⟩]) (hf : Fr (fun k => ¬ Z k) w w') : LS T1 T2 w0 w' b1 b2 m1' m2' n1' n2' kp mb vs gs xss Z :=
  ⟨hs, h.old, h.rows.fr hf (fun _ hk hn => hn hk), h.new, fun p hp => by
    obtain ⟨h1, h2, h3, h4⟩ := h.kept p hp
    exact ⟨h1, h2, h3, hf.at_ h4 (fun hn => hn h1)⟩, h.bel.trans (fr_below hf h.bel.size h.old)⟩
/-- One row turns. -/
theorem LS.put {w1 : World} (h : LS T1 T2 w0 w b1 b2 m1 m2 n1 n2 kp mb vs gs xss Z) {i g : Nat} {xs' : List ByteArray} (hg : gs[i]? = some g)
    (f : Fr (fun k => k = g) w w1) {v' : Value} {g' : Nat} (ht : Txs T1 w1 v' g' xs') (hg' : g' = g ∨ w.heap.size ≤ g') :
    LS T1 T2 w0 (w1.setCell ⟨mb, i, none⟩ v') b1 b2 m1 m2 n1 n2 kp mb (vs.set i v') (gs.set i g') (xss.set i xs') (more Z w w1) := by
  have hgm : g ∈ gs := List.mem_of_getElem? hg
  have hf2 : Fr (fun k => k = g ∨ k = mb) w (w1.setCell ⟨mb, i, none⟩ v') := (f.mono (fun k hk => .inl hk)).setAt (.inr rfl)
  have hsz : (w1.setCell ⟨mb, i, none⟩ v').heap.size = w1.heap.size := by simp [World.setCell]
  refine ⟨?_, fun k hk => .inl (h.old k hk), h.rows.put hg f ht hg', ⟨h.new.1, fun x hxm => ?_⟩, fun p hp => ?_, h.bel.trans (hf2.below h.bel.size (fun k hk hkk => ?_))⟩
  · refine (h.sys.own hf2 (fun k _ hk => ?_)).mono (fun k hk => ?_)
    · rcases hk with rfl | rfl
      · exact h.rows.gz _ hgm
      · exact h.rows.mbz
    · unfold more at hk ⊢
      rw [hsz]
      exact hk
  · rcases List.mem_or_eq_of_mem_set hxm with hm | rfl
    · exact h.new.2 x hm
    · rcases hg' with rfl | hg'
      · exact h.new.2 _ hgm
      · exact Nat.le_trans h.bel.size hg'
  · obtain ⟨h1, h2, h3, h4⟩ := h.kept p hp
    refine ⟨.inl h1, h2, fun hm => ?_, hf2.at_ h4 (fun hk => ?_)⟩
    · rcases List.mem_or_eq_of_mem_set hm with hm | hm
      · exact h3 hm
      · rcases hg' with rfl | hg'
        · exact h3 (hm ▸ hgm)
        · have := heap_lt h4; omega
    · rcases hk with hk | hk
      · exact h3 (hk ▸ hgm)
      · exact h2 hk
  · rcases hkk with rfl | rfl
    · have := h.new.2 _ hgm; omega
    · have := h.new.1; omega
theorem LS.add {w1 : World} (h : LS T1 T2 w0 w b1 b2 m1 m2 n1 n2 [] mb vs gs xss Z) (hl : xss.length < 4) {xs' : List ByteArray}
    (f : Below w.heap.size w w1) {v' : Value} {g' : Nat} (ht : Txs T1 w1 v' g' xs') (hg' : w.heap.size ≤ g') :
    LS T1 T2 w0 (w1.setCell ⟨mb, xss.length, none⟩ v') b1 b2 m1 m2 n1 n2 [] mb (vs.set xss.length v') (gs ++ [g']) (xss ++ [xs']) (more Z w w1) := by
  have hf2 : Fr (fun k => k = mb) w (w1.setCell ⟨mb, xss.length, none⟩ v') := (Fr.of_below f).setAt rfl
  have hsz : (w1.setCell ⟨mb, xss.length, none⟩ v').heap.size = w1.heap.size := by simp [World.setCell]
  refine ⟨?_, fun k hk => .inl (h.old k hk), h.rows.add hl f ht hg', ⟨h.new.1, fun x hxm => ?_⟩, fun p hp => (by cases hp), h.bel.trans (hf2.below h.bel.size (fun k hk hkk => ?_))⟩
  · refine (h.sys.own hf2 (fun k _ hk => ?_)).mono (fun k hk => ?_)
    · rw [hk]; exact h.rows.mbz
    · unfold more at hk ⊢
      rw [hsz]
      exact hk
  · rcases List.mem_append.1 hxm with hm | hm
    · exact h.new.2 x hm
    · rw [List.mem_singleton.1 hm]; exact Nat.le_trans h.bel.size hg'
  · have := h.new.1; omega

theorem ls_write1 (h : LS T1 T2 w0 w b1 b2 m1 m2 n1 n2 kp mb vs gs xss Z) (hN : n1 < 1000000) (n s : Int) (x : ByteArray) :
    Calls Try.prog 25 #[.pointer (some ⟨b1, 0, none⟩), .int .i64 n, .int .i64 s, .string x] w fun e w' => e = .returned (.int .i64 (writeE m1 n s x)) ∧ LS T1 T2 w0 w' b1 b2 (writeM m1 n s x) m2 (n1 + 1) n2 kp mb vs gs xss Z :=
  (write_z h.sys 0 (d := ⟨b1, m1, n1⟩) rfl hN n s x).mono fun _ _ ⟨he, h1, h2⟩ => ⟨he, h.op h1 h2⟩
theorem ls_write2 (h : LS T1 T2 w0 w b1 b2 m1 m2 n1 n2 kp mb vs gs xss Z) (hN : n2 < 1000000) (n s : Int) (x : ByteArray) :
    Calls Try.prog 25 #[.pointer (some ⟨b2, 0, none⟩), .int .i64 n, .int .i64 s, .string x] w fun e w' => e = .returned (.int .i64 (writeE m2 n s x)) ∧ LS T1 T2 w0 w' b1 b2 m1 (writeM m2 n s x) n1 (n2 + 1) kp mb vs gs xss Z :=
  (write_z h.sys 1 (d := ⟨b2, m2, n2⟩) rfl hN n s x).mono fun _ _ ⟨he, h1, h2⟩ => ⟨he, h.op h1 h2⟩
theorem ls_flush1 (h : LS T1 T2 w0 w b1 b2 m1 m2 n1 n2 kp mb vs gs xss Z) (hN : n1 ≤ 1000000) (n : Int) :
    Calls Try.prog 30 #[.pointer (some ⟨b1, 0, none⟩), .int .i64 n] w fun e w' => e = .returned (.int .i64 (flushE m1 n)) ∧ LS T1 T2 w0 w' b1 b2 (flushM m1 n) m2 n1 n2 kp mb vs gs xss Z :=
  (flush_z h.sys 0 (d := ⟨b1, m1, n1⟩) rfl hN n).mono fun _ _ ⟨he, h1, h2⟩ => ⟨he, h.op h1 h2⟩
theorem ls_flush2 (h : LS T1 T2 w0 w b1 b2 m1 m2 n1 n2 kp mb vs gs xss Z) (hN : n2 ≤ 1000000) (n : Int) :
    Calls Try.prog 30 #[.pointer (some ⟨b2, 0, none⟩), .int .i64 n] w fun e w' => e = .returned (.int .i64 (flushE m2 n)) ∧ LS T1 T2 w0 w' b1 b2 m1 (flushM m2 n) n1 n2 kp mb vs gs xss Z :=
  (flush_z h.sys 1 (d := ⟨b2, m2, n2⟩) rfl hN n).mono fun _ _ ⟨he, h1, h2⟩ => ⟨he, h.op h1 h2⟩
theorem ls_read1 (h : LS T1 T2 w0 w b1 b2 m1 m2 n1 n2 kp mb vs gs xss Z) (n s : Int) :
    Calls Try.prog 28 #[.pointer (some ⟨b1, 0, none⟩), .int .i64 n, .int .i64 s] w fun e w' => e = .returned (.tuple #[.string (readM m1 n s), .int .i64 (findM m1 n s)]) ∧ LS T1 T2 w0 w' b1 b2 m1 m2 n1 n2 kp mb vs gs xss Z :=
  (read_z h.sys 0 (d := ⟨b1, m1, n1⟩) rfl n s).mono fun _ _ ⟨he, h1⟩ => ⟨he, h.keep h1⟩
theorem ls_read2 (h : LS T1 T2 w0 w b1 b2 m1 m2 n1 n2 kp mb vs gs xss Z) (n s : Int) :
    Calls Try.prog 28 #[.pointer (some ⟨b2, 0, none⟩), .int .i64 n, .int .i64 s] w fun e w' => e = .returned (.tuple #[.string (readM m2 n s), .int .i64 (findM m2 n s)]) ∧ LS T1 T2 w0 w' b1 b2 m1 m2 n1 n2 kp mb vs gs xss Z :=
  (read_z h.sys 1 (d := ⟨b2, m2, n2⟩) rfl n s).mono fun _ _ ⟨he, h1⟩ => ⟨he, h.keep h1⟩
theorem ls_crash1 (h : LS T1 T2 w0 w b1 b2 m1 m2 n1 n2 kp mb vs gs xss Z) (hN : n1 ≤ 1000000) (e cc : Nat) (x : Int) (hx : 0 ≤ x ∧ x ≤ 18446744073709551615) :
    Calls Try.prog 29 #[.pointer (some ⟨b1, 0, none⟩), .slice (some ⟨w.heap.size, 0, none⟩) 1 cc] (w.alloc (.cells #[.int .u64 x] e)) fun e w' => e = .returned (.tuple #[]) ∧ LS T1 T2 w0 w' b1 b2 (crashM [x] m1) m2 n1 n2 kp mb vs gs xss Z :=
  (crash_lit_z h.sys 0 (d := ⟨b1, m1, n1⟩) rfl hN e cc [x] (by simpa using hx) (by simp)).mono fun _ _ ⟨he, h1, h2⟩ => ⟨he, h.op h1 h2⟩
theorem ls_crash2 (h : LS T1 T2 w0 w b1 b2 m1 m2 n1 n2 kp mb vs gs xss Z) (hN : n2 ≤ 1000000) (e cc : Nat) (x : Int) (hx : 0 ≤ x ∧ x ≤ 18446744073709551615) :
    Calls Try.prog 29 #[.pointer (some ⟨b2, 0, none⟩), .slice (some ⟨w.heap.size, 0, none⟩) 1 cc] (w.alloc (.cells #[.int .u64 x] e)) fun e w' => e = .returned (.tuple #[]) ∧ LS T1 T2 w0 w' b1 b2 m1 (crashM [x] m2) n1 n2 kp mb vs gs xss Z :=
  (crash_lit_z h.sys 1 (d := ⟨b2, m2, n2⟩) rfl hN e cc [x] (by simpa using hx) (by simp)).mono fun _ _ ⟨he, h1, h2⟩ => ⟨he, h.op h1 h2⟩
end

end Go.Proofs.Ytekpbpcfeopilaa.Fb
