/- A list of texts that came in, as the printed words read it. -/
import Derived.Test.YtekpbpcfeopilaaDoorWMore
import Derived.WideKeyArr2
import Derived.OpenShut
namespace Go.Proofs.YtekpbpcfeopilaaDoor.Opn
open Go Go.RowKit Go.Proofs.YtekpbpcfeopilaaDoorW.PrintWords Go.Proofs.YtekpbpcfeopilaaDoorW.PrintLast Go.Proofs.YtekpbpcfeopilaaDoorW.PrintMore

def RowS (W : World) (a : Option Addr) (len cap : Nat) (ss : List ByteArray) : Prop :=
  (a = none ∧ len = 0 ∧ cap = 0 ∧ ss = []) ∨
  ∃ x, a = some x ∧ len ≤ cap ∧ cap ≤ maxLen ∧ ss.length = cap ∧ (∀ i, i < ss.length → W.cell? (x.add i) = some (.string (ss.getD i ByteArray.empty))) ∧ ∀ s ∈ ss, s.size ≤ maxLen

theorem rowS_list {W : World} {a : Option Addr} {len cap : Nat} {ss : List ByteArray} (h : RowS W a len cap ss) : ∃ l : List ByteArray, Kd.C Kd.string W a l.length l ∧ l.length ≤ cap ∧ len = l.length := by
  rcases h with ⟨rfl, rfl, rfl, rfl⟩ | ⟨x, rfl, h1, h2, h3, h4, _⟩
  · exact ⟨[], Kd.C_of_reads (d := ByteArray.empty) (h1 := fun _ => rfl) ⟨rfl, by simp, fun h => absurd h (by simp)⟩, Nat.le_refl _, rfl⟩
  · have hl : (ss.take len).length = len := by rw [List.length_take]; omega
    refine ⟨ss.take len, Kd.C_of_reads (d := ByteArray.empty) (h1 := fun _ => rfl) ⟨rfl, by unfold maxLen at h2; omega, fun _ => ⟨x, rfl, fun j hj => ?_⟩⟩, by omega, hl.symm⟩
    rw [h4 j (by omega)]
    congr 2
    rw [List.getD_eq_getElem?_getD, List.getD_eq_getElem?_getD, List.getElem?_take, if_pos (by omega)]

def RowI (k : IntKind) (W : World) (a : Option Addr) (len cap : Nat) (ss : List Int) : Prop :=
  (a = none ∧ len = 0 ∧ cap = 0 ∧ ss = []) ∨
  ∃ x, a = some x ∧ len ≤ cap ∧ cap ≤ maxLen ∧ len ≤ ss.length ∧ (∀ i, i < ss.length → W.cell? (x.add i) = some (.int k (ss.getD i 0))) ∧ ∀ n ∈ ss, (Lit.int k n).wf = true

theorem rowI_list {k : IntKind} {W : World} {a : Option Addr} {len cap : Nat} {ss : List Int} (h : RowI k W a len cap ss) : ∃ l : List Int, Kd.C (Kd.int k) W a l.length l ∧ l.length ≤ cap ∧ len = l.length ∧ ∀ n ∈ l, (Lit.int k n).wf = true := by
  rcases h with ⟨rfl, rfl, rfl, rfl⟩ | ⟨x, rfl, h1, h2, h3, h4, h5⟩
  · exact ⟨[], Kd.C_of_reads (d := (0 : Int)) (h1 := fun _ => rfl) ⟨rfl, by simp, fun h => absurd h (by simp)⟩, Nat.le_refl _, rfl, fun n h => by cases h⟩
  · have hl : (ss.take len).length = len := by rw [List.length_take]; omega
    refine ⟨ss.take len, Kd.C_of_reads (d := (0 : Int)) (h1 := fun _ => rfl) ⟨rfl, by unfold maxLen at h2; omega, fun _ => ⟨x, rfl, fun j hj => ?_⟩⟩, by omega, hl.symm, fun n hn => h5 n (List.mem_of_mem_take hn)⟩
    rw [h4 j (by omega)]
    congr 2
    rw [List.getD_eq_getElem?_getD, List.getD_eq_getElem?_getD, List.getElem?_take, if_pos (by omega)]

theorem arr2_int {H : Type} {enc : TypeId × Value → H} {P : Program} {w : World} {base : Nat} {spare : Nat → Bool} {held : Bool} {r : Reach} {b0 : Nat} {t e : TypeId} {k : IntKind} {v : Value} {d : DataW H} {p : List MemPlace}
    (ht : P.underlying t = some (.array 2 e)) (he : P.underlying e = some (.int k)) (hc : P.cellsOf t = 2) (hce : P.cellsOf e = 1) (hv : Value.okWide P w r b0 t v) (h : DataW.Trod enc P w base spare held t v d p) :
    ∃ x y : Int, v = .agg #[.int k x, .int k y] := by
  simp only [Value.okWide, ht] at hv
  obtain ⟨cs, rfl, hn, _⟩ := hv
  obtain ⟨fuel, hf⟩ := h
  have e0 : (Value.agg cs).cells = cs := rfl
  rw [e0] at hf
  obtain ⟨xs, m, rfl, _, hlen, hxl, hget⟩ := DataW.trod_array ht hf
  have hsz : cs.toList.length = 2 := by rw [hlen, hc]
  have h0 := hget 0 (by omega)
  have h1 := hget 1 (by omega)
  rw [hce] at h0 h1
  obtain ⟨c0, c1, hcs⟩ : ∃ a b, cs.toList = [a, b] := by
    match hq : cs.toList, hsz with
    | [a, b], _ => exact ⟨a, b, rfl⟩
  rw [hcs] at h0 h1
  simp only [Nat.zero_mul, List.drop_zero, List.take_succ_cons, List.take_zero, Nat.one_mul, List.drop_succ_cons] at h0 h1
  rw [List.getElem?_eq_getElem (by omega)] at h0 h1
  obtain ⟨x, hx, _, _⟩ := DataW.trod_int he h0
  obtain ⟨y, hy, _, _⟩ := DataW.trod_int he h1
  refine ⟨x, y, ?_⟩
  have : cs = [c0, c1].toArray := by rw [← hcs]
  rw [this]
  simp at hx hy
  rw [hx, hy]

end Go.Proofs.YtekpbpcfeopilaaDoor.Opn
