/- What the bound on all that comes in gives: a slice of texts, its length and all its bytes; a text's length. -/
import Derived.Test.YtieaipclioppkaaGreatRows
import Derived.Test.YtieaipclioppkaaGreatOpens
import Derived.Test.YtieaipclioppkaaGreatN9
namespace Go.Proofs.YtieaipclioppkaaGreat.Opu
open Go Go.RowKit Go.Deep Go.Proofs.YtieaipclioppkaaGreat.Wh Go.Proofs.YtieaipclioppkaaGreatW.PrintWords Go.Proofs.YtieaipclioppkaaGreatW.PrintLast Go.Proofs.YtieaipclioppkaaGreatW.PrintMore

theorem bulk_app {H : Type} (l r : List (DataW H)) : Rows.uptoBulkAll (l ++ r) = Rows.uptoBulkAll l + Rows.uptoBulkAll r := by
  induction l with
  | nil => simp [Rows.uptoBulkAll]
  | cons x l ih => simp only [List.cons_append, Rows.uptoBulkAll, ih]; omega
theorem tot_app (a b : List ByteArray) : totL (a ++ b) = totL a + totL b := by unfold totL; rw [List.map_append, List.sum_append]
theorem bulk_strs {H : Type} (D : Nat → DataW H) (f : Nat → ByteArray) : ∀ n, (∀ i, i < n → D i = .lit (.string (f i).data.toList)) → Rows.uptoBulkAll ((List.range n).map D) = totL ((List.range n).map f) + n := by
  intro n
  induction n with
  | zero => intro _; simp [Rows.uptoBulkAll, totL]
  | succ n ih =>
    intro h
    rw [List.range_succ, List.map_append, List.map_append, bulk_app, tot_app, ih (fun i hi => h i (by omega))]
    simp only [List.map_cons, List.map_nil, h n (by omega), Rows.uptoBulkAll, Rows.uptoBulk]
    have e : (f n).data.toList.length = (f n).size := by rw [Array.length_toList]; rfl
    have e2 : totL [f n] = (f n).size := by simp [totL]
    rw [e, e2]
    omega
/-- A slice of texts that came in. -/
theorem open_strs {P : Program} {W : World} {t e : TypeId} {H : Type} {enc : TypeId × Value → H} {fuel : Nat} {cs : List Value} {x : DataW H × List MemPlace} (ht : P.underlying t = some (.slice e)) (he : P.underlying e = some .string) (hc : P.cellsOf e = 1)
    (hx : DataW.trod enc P W 0 (fun _ => true) true fuel t cs = some x) :
    ∃ (l : List ByteArray) (A : Option Addr) (c : Nat), cs = [.slice A l.length c] ∧ l.length ≤ c ∧ Kd.string.C W A l.length l ∧ totL l + l.length ≤ Rows.uptoBulk x.1 := by
  rcases open_slice1 ht hc hx with ⟨rfl, rfl⟩ | ⟨a, len, cap, m, n, V, D, Pl, rfl, _, hl, hm, hmm, rfl, hi⟩
  · exact ⟨[], none, 0, rfl, Nat.le_refl _, Kd.C_nil _ _, by simp [totL, Rows.uptoBulk]⟩
  · simp only [if_true] at hmm
    subst hmm
    have hex : ∀ i, i < len → ∃ s : ByteArray, W.cell? (a.add i) = some (.string s) ∧ D i = .lit (.string s.data.toList) := fun i hil => by
      obtain ⟨h1, h2⟩ := hi i (by omega)
      obtain ⟨s, hs, hd, _⟩ := DataW.trod_string he h2
      simp only [List.cons.injEq, and_true] at hs
      refine ⟨s, by rw [h1, hs], ?_⟩
      have := congrArg Prod.fst hd
      exact this
    obtain ⟨f, hf⟩ := choose_lt hex
    refine ⟨(List.range len).map f, some a, m, by simp, by simpa using hl, ?_, ?_⟩
    · refine ⟨by simp, ?_, fun _ => ⟨a, rfl, fun j p hj => ?_⟩⟩
      · simp only [List.length_map, List.length_range]
        unfold maxLen at hm
        omega
      · rw [List.getElem?_map] at hj
        have hjl : j < len := by
          rcases Nat.lt_or_ge j len with h | h
          · exact h
          · rw [List.getElem?_eq_none (by simpa using h)] at hj
            cases hj
        rw [List.getElem?_range hjl] at hj
        simp only [Option.map_some, Option.some.injEq] at hj
        subst hj
        refine ⟨[.string (f j)], rfl, rfl, fun i u hu => ?_⟩
        cases i with
        | zero =>
          simp only [List.getElem?_cons_zero, Option.some.injEq] at hu
          subst hu
          show W.cell? (a.add (j * 1 + 0)) = _
          rw [Nat.mul_one, Nat.add_zero]
          exact (hf j hjl).1
        | succ i => simp at hu
    · have hb := bulk_strs D f len (fun i hi => (hf i hi).2)
      simp only [Rows.uptoBulk, hb, List.length_map, List.length_range]
      omega

end Go.Proofs.YtieaipclioppkaaGreat.Opu
