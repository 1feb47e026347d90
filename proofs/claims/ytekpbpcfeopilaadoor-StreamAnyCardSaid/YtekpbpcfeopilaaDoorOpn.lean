/- A list of texts that came in, as the printed words read it. -/
import Derived.Test.YtekpbpcfeopilaaDoorWMore
namespace Go.Proofs.YtekpbpcfeopilaaDoor.Opn
open Go Go.RowKit Go.Proofs.YtekpbpcfeopilaaDoorW.PrintWords Go.Proofs.YtekpbpcfeopilaaDoorW.PrintLast Go.Proofs.YtekpbpcfeopilaaDoorW.PrintMore

def RowS (W : World) (a : Option Addr) (len cap : Nat) (ss : List ByteArray) : Prop :=
  (a = none ∧ len = 0 ∧ cap = 0 ∧ ss = []) ∨
  ∃ x, a = some x ∧ len ≤ cap ∧ cap ≤ maxLen ∧ ss.length = cap ∧ (∀ i, i < ss.length → W.cell? (x.add i) = some (.string (ss.getD i ByteArray.empty))) ∧ ∀ s ∈ ss, s.size ≤ maxLen

theorem rowS_list {W : World} {a : Option Addr} {len cap : Nat} {ss : List ByteArray} (h : RowS W a len cap ss) : ∃ l : List ByteArray, Kd.C Kd.string W a l.length l ∧ l.length ≤ cap ∧ len = l.length := by
  rcases h with ⟨rfl, rfl, rfl, rfl⟩ | ⟨x, rfl, h1, h2, h3, h4, _⟩
  · exact ⟨[], Kd.C_of_reads (d := ByteArray.empty) (h1 := fun _ => rfl) ⟨rfl, by simp, fun h => absurd h (by simp)⟩, Nat.le_refl _, rfl⟩
  · have hl : (ss.take len).length = len := by rw [List.length_take]; omega
    refine ⟨ss.take len, Kd.C_of_reads (d := ByteArray.empty) (h1 := fun _ => rfl) ⟨rfl, by unfold maxLen at h2; omega, fun _ => ⟨x, rfl, fun j hj => ?_⟩⟩, by omega, hl.symm⟩
    rw [h4 j (by omega)]
    congr 2
    rw [List.getD_eq_getElem?_getD, List.getD_eq_getElem?_getD, List.getElem?_take, if_pos (by omega)]

end Go.Proofs.YtekpbpcfeopilaaDoor.Opn
