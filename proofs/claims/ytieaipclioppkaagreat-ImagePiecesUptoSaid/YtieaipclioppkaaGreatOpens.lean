/- From the reading of a parameter (the judge's words) to what our kinds read. Whatever program. -/
import Derived.Test.YtieaipclioppkaaGreatWMore
import Derived.Deep.Slices
import Derived.Deep.Fields
import Derived.SizedLaws
import Derived.WideShapes
import Derived.OpenShut
namespace Go.Proofs.YtieaipclioppkaaGreat.Opens
open Go Go.RowKit Go.Deep Go.Proofs.YtieaipclioppkaaGreatW.PrintWords Go.Proofs.YtieaipclioppkaaGreatW.PrintLast Go.Proofs.YtieaipclioppkaaGreatW.PrintMore

/-- Whatever is well formed of type t reads as a value of kind d, which is good; its weights are borne. -/
def Opens (P : Program) (W : World) (t : TypeId) {α : Type} (d : Kd α) (Good : α → Prop) : Prop :=
  ∀ (H : Type) (enc : TypeId × Value → H) (fuel : Nat) (cs : List Value) (x : DataW H × List MemPlace), DataW.trod enc P W 0 (fun _ => true) true fuel t cs = some x → (∀ n ∈ x.1.weights P t, n ≤ reachBytes) → ∃ a, d.K W a cs ∧ Good a

theorem opens_int {P : Program} {W : World} {t : TypeId} {k : IntKind} (ht : P.underlying t = some (.int k)) : Opens P W t (Kd.int k) (fun n => (Lit.int k n).wf = true) := by
  intro H enc fuel cs x h _
  obtain ⟨n, rfl, _, hw⟩ := DataW.trod_int ht h
  exact ⟨n, rfl, hw⟩
theorem opens_bool {P : Program} {W : World} {t : TypeId} (ht : P.underlying t = some .bool) : Opens P W t Kd.bool (fun _ => True) := by
  intro H enc fuel cs x h _
  obtain ⟨n, rfl, _⟩ := DataW.trod_bool ht h
  exact ⟨n, rfl, trivial⟩
theorem opens_string {P : Program} {W : World} {t : TypeId} (ht : P.underlying t = some .string) : Opens P W t Kd.string (fun s => s.size ≤ 140737488351232) := by
  intro H enc fuel cs x h hw
  obtain ⟨s, rfl, rfl, _⟩ := DataW.trod_string ht h
  refine ⟨s, rfl, ?_⟩
  have := hw s.data.toList.length (by simp [DataW.weights])
  rw [data_length] at this
  exact this

theorem mem_weightsAll {H : Type} {P : Program} {e : TypeId} : ∀ {ds : List (DataW H)} {d : DataW H}, d ∈ ds → ∀ n ∈ d.weights P e, n ∈ DataW.weightsAll P e ds
  | d0 :: ds, d, hd, n, hn => by
    simp only [DataW.weightsAll, List.mem_append]
    rcases List.mem_cons.1 hd with rfl | hd
    · exact .inl hn
    · exact .inr (mem_weightsAll hd n hn)

theorem opens_slice {P : Program} {W : World} {t e : TypeId} {α : Type} [Inhabited α] {d : Kd α} {Good : α → Prop} (e' : Nat) (ht : P.underlying t = some (.slice e)) (hc : P.cellsOf e = d.sz) (h : Opens P W e d Good) :
    Opens P W t (Kd.slice e' d) (fun xs => xs.length * P.bytesOf e ≤ 140737488351232 ∧ ∀ x ∈ xs, Good x) := by
  intro H enc fuel cs x hx hw
  rcases open_slice ht hx with ⟨rfl, rfl⟩ | ⟨a, len, cap, m, n, D, Pl, rfl, _, hl, hm, hmm, rfl, hi⟩
  · exact ⟨[], ⟨none, 0, rfl, Nat.le_refl _, Kd.C_nil _ _⟩, by simp, by simp⟩
  · simp only [if_true] at hmm
    subst hmm
    simp only [DataW.weights, ht, List.length_map, List.length_range] at hw
    have hwe : ∀ i, i < len → ∀ q ∈ (D i).weights P e, q ≤ reachBytes := fun i hi q hq => hw q (by
      refine List.mem_cons_of_mem _ (List.mem_append_left _ (mem_weightsAll (d := D i) ?_ q hq))
      exact List.mem_map.2 ⟨i, by simpa using hi, rfl⟩)
    have hex : ∀ i, i < len → ∃ y : α, ∃ cs', (∀ j u, cs'[j]? = some u → W.cell? (a.add (i * d.sz + j)) = some u) ∧ cs'.length = d.sz ∧ d.K W y cs' ∧ Good y := fun i hil => by
      obtain ⟨cs', h1, h2⟩ := hi i (by omega)
      obtain ⟨_, h4, h5⟩ := World.cells?_some h1
      obtain ⟨y, hy, hg⟩ := h H enc _ _ _ h2 (hwe i hil)
      refine ⟨y, cs', fun j u hj => ?_, by rw [h4, hc], hy, hg⟩
      have hjl := (List.getElem?_eq_some_iff.1 hj).1
      have h6 := h5 j (by omega)
      rw [hc, Go.Deep.add_add] at h6
      rw [h6, hj]
    obtain ⟨f, hf⟩ := choose_lt hex
    refine ⟨(List.range len).map f, ⟨some a, m, by simp, by simpa using hl, ?_⟩, ?_, ?_⟩
    · refine ⟨by simp, ?_, fun _ => ⟨a, rfl, fun j p hj => ?_⟩⟩
      · simp only [List.length_map, List.length_range]
        unfold maxLen at hm
        omega
      · have hjl : j < len := by have := (List.getElem?_eq_some_iff.1 hj).1; simpa using this
        have e : f j = p := by simpa [hjl] using hj
        obtain ⟨cs', h1, h2, h3, _⟩ := hf j hjl
        rw [← e]
        exact ⟨cs', h2, h3, fun i u hu => h1 i u hu⟩
    · simp only [List.length_map, List.length_range]
      have h1 := hw _ (List.mem_cons_self ..)
      have h2 : len * P.bytesOf e ≤ (len + (m - len)) * P.bytesOf e := Nat.mul_le_mul_right _ (by omega)
      have h3 : reachBytes = 140737488351232 := rfl
      omega
    · intro x hx
      simp only [List.mem_map, List.mem_range] at hx
      obtain ⟨i, hi, rfl⟩ := hx
      obtain ⟨_, _, _, _, hg⟩ := hf i hi
      exact hg

/-- Fields in line, from a place on. -/
def OpensF (P : Program) (W : World) (fs : List Field) (o : Nat) {α : Type} (d : Kd α) (Good : α → Prop) : Prop :=
  ∀ (H : Type) (enc : TypeId × Value → H) (n : Nat) (cs : List Value) (ys : List (DataW H × List MemPlace)), ys.length = fs.length →
    (∀ (j : Nat) (f : Field), fs[j]? = some f → DataW.trod enc P W 0 (fun _ => true) true n f.type ((cs.drop f.offset).take (P.cellsOf f.type)) = ys[j]?) →
    (∀ q ∈ DataW.weightsEach P (fs.map (·.type)) (ys.map (·.1)), q ≤ reachBytes) → ∃ a, d.K W a ((cs.drop o).take d.sz) ∧ Good a

theorem opensF_one {P : Program} {W : World} {f : Field} {o : Nat} {α : Type} {d : Kd α} {Good : α → Prop} (ho : f.offset = o) (hc : P.cellsOf f.type = d.sz) (h : Opens P W f.type d Good) : OpensF P W [f] o d Good := by
  intro H enc n cs ys hl ht hw
  match ys, hl with
  | [y], _ =>
    have h1 := ht 0 f rfl
    rw [ho, hc] at h1
    exact h H enc n _ y h1 (fun q hq => hw q (by simp [DataW.weightsEach, hq]))
theorem opensF_cons {P : Program} {W : World} {f : Field} {fs : List Field} {o : Nat} {α β : Type} {d : Kd α} {d2 : Kd β} {Good : α → Prop} {Good2 : β → Prop} (ho : f.offset = o) (hc : P.cellsOf f.type = d.sz) (h : Opens P W f.type d Good) (h2 : OpensF P W fs (o + d.sz) d2 Good2) :
    OpensF P W (f :: fs) o (Kd.pair d d2) (fun p => Good p.1 ∧ Good2 p.2) := by
  intro H enc n cs ys hl ht hw
  match ys, hl with
  | y :: ys, hl =>
    have h1 := ht 0 f rfl
    rw [ho, hc] at h1
    obtain ⟨a, hk, hg⟩ := h H enc n _ y h1 (fun q hq => hw q (by simp [DataW.weightsEach, hq]))
    obtain ⟨b, hk2, hg2⟩ := h2 H enc n cs ys (by simpa using hl) (fun j g hj => by
      have := ht (j + 1) g (by simpa using hj)
      simpa using this) (fun q hq => hw q (by simp [DataW.weightsEach, hq]))
    refine ⟨(a, b), ⟨_, _, ?_, hk, hk2⟩, hg, hg2⟩
    show (cs.drop o).take (d.sz + d2.sz) = _
    rw [List.take_add, List.drop_drop]
theorem opens_struct {P : Program} {W : World} {t : TypeId} {fs : Array Field} {α : Type} {d : Kd α} {Good : α → Prop} (ht : P.underlying t = some (.struct fs)) (hc : P.cellsOf t = d.sz) (h : OpensF P W fs.toList 0 d Good) : Opens P W t d Good := by
  intro H enc fuel cs x hx hw
  obtain ⟨xs, n, _, rfl, hl, hlen, hf⟩ := DataW.trod_struct ht hx
  obtain ⟨a, hk, hg⟩ := h H enc n cs xs (by simpa using hlen) (fun j f hj => hf j f (by simpa using hj)) (fun q hq => hw q (by simp only [DataW.weights, ht]; exact hq))
  rw [List.drop_zero, List.take_of_length_le (by rw [hl, hc]; exact Nat.le_refl _)] at hk
  exact ⟨a, hk, hg⟩

theorem opens_arr2 {P : Program} {W : World} {t e : TypeId} {α : Type} {d : Kd α} {Good : α → Prop} (ht : P.underlying t = some (.array 2 e)) (hc : P.cellsOf e = d.sz) (hct : P.cellsOf t = d.sz + d.sz) (h : Opens P W e d Good) :
    Opens P W t (Kd.pair d d) (fun p => Good p.1 ∧ Good p.2) := by
  intro H enc fuel cs x hx hw
  obtain ⟨xs, m, _, rfl, hl, hlen, hf⟩ := DataW.trod_array ht hx
  match xs, hlen with
  | [y0, y1], _ =>
    simp only [DataW.weights, ht] at hw
    have h0 := hf 0 (by omega)
    have h1 := hf 1 (by omega)
    rw [Nat.zero_mul, List.drop_zero, hc] at h0
    rw [Nat.one_mul, hc] at h1
    obtain ⟨a, ha, ga⟩ := h H enc _ _ y0 h0 (fun n hn => hw n (by simp [DataW.weightsAll, hn]))
    obtain ⟨b, hb, gb⟩ := h H enc _ _ y1 h1 (fun n hn => hw n (by simp [DataW.weightsAll, hn]))
    refine ⟨(a, b), ⟨_, _, ?_, ha, hb⟩, ga, gb⟩
    rw [hct] at hl
    rw [← List.take_add, List.take_of_length_le (by omega)]

theorem arr2_val {H : Type} {enc : TypeId × Value → H} {P : Program} {w : World} {base : Nat} {spare : Nat → Bool} {held : Bool} {r : Reach} {b0 : Nat} {t e : TypeId} {k : IntKind} {v : Value} {d : DataW H} {p : List MemPlace}
    (ht : P.underlying t = some (.array 2 e)) (he : P.underlying e = some (.int k)) (hc : P.cellsOf t = 2) (hce : P.cellsOf e = 1) (hv : Value.okWide P w r b0 t v) (h : DataW.Trod enc P w base spare held t v d p) :
    ∃ x y : Int, v = .agg #[.int k x, .int k y] ∧ (Lit.int k x).wf = true ∧ (Lit.int k y).wf = true := by
  simp only [Value.okWide, ht] at hv
  obtain ⟨cs, rfl, hn, _⟩ := hv
  obtain ⟨fuel, hf⟩ := h
  have e0 : (Value.agg cs).cells = cs := rfl
  rw [e0] at hf
  obtain ⟨xs, m, rfl, _, hlen, hxl, hget⟩ := DataW.trod_array ht hf
  have hsz : cs.toList.length = 2 := by rw [hlen, hc]
  have h0 := hget 0 (by omega)
  have h1 := hget 1 (by omega)
  rw [hce] at h0 h1
  obtain ⟨c0, c1, hcs⟩ : ∃ a b, cs.toList = [a, b] := by
    match hq : cs.toList, hsz with
    | [a, b], _ => exact ⟨a, b, rfl⟩
  rw [hcs] at h0 h1
  simp only [Nat.zero_mul, List.drop_zero, List.take_succ_cons, List.take_zero, Nat.one_mul, List.drop_succ_cons] at h0 h1
  rw [List.getElem?_eq_getElem (by omega)] at h0 h1
  obtain ⟨x, hx, _, wx⟩ := DataW.trod_int he h0
  obtain ⟨y, hy, _, wy⟩ := DataW.trod_int he h1
  refine ⟨x, y, ?_, wx, wy⟩
  have : cs = [c0, c1].toArray := by rw [← hcs]
  rw [this]
  simp at hx hy
  rw [hx, hy]

theorem weights_of {H : Type} {P : Program} {ts : List TypeId} {ds : List (DataW H)} {j : Nat} {t : TypeId} {d : DataW H} (h : (DataW.weightsEach P ts ds).all (· ≤ reachBytes) = true) (ht : ts[j]? = some t) (hd : ds[j]? = some d) : ∀ n ∈ d.weights P t, n ≤ reachBytes := fun n hn => by
  have := List.all_eq_true.1 h n (DataW.weights_mem_each ht hd n hn)
  simpa using this
end Go.Proofs.YtieaipclioppkaaGreat.Opens
