/- Maps, as lists of what they hold: look-up, store, delete, length, range. Over whatever program; keys of whatever type that has the library's law on keys. -/
import Derived.Test.YtifdfhonhphojaaFr
import Derived.Maps.Keyed
import Derived.Maps.RangeRun
import Derived.Maps.Own
import Derived.OwnWalkIn
import Derived.RangeFuncSeq
namespace Go.Proofs.Ytifdfhonhphojaa.Mp
open Go Go.RowKit Go.Maps Go.MapKept Go.Proofs.YtifdfhonhphojaaCore Go.Proofs.Ytifdfhonhphojaa.Fr
open Go.ChangeMaps (setBlock heap_setBlock_same heap_setBlock_other)

section
variable {K V : Type} [DecidableEq K]
def look : List (K × V) → K → Option V
  | [], _ => none
  | p :: r, k => if p.1 = k then some p.2 else look r k
def put : List (K × V) → K → V → List (K × V)
  | [], k, v => [(k, v)]
  | p :: r, k, v => if p.1 = k then (k, v) :: r else p :: put r k v
def del : List (K × V) → K → List (K × V)
  | [], _ => []
  | p :: r, k => if p.1 = k then r else p :: del r k
theorem look_none {l : List (K × V)} {k : K} (h : ∀ p ∈ l, p.1 ≠ k) : look l k = none ∧ (∀ v, put l k v = l ++ [(k, v)]) ∧ del l k = l := by
  induction l with
  | nil => exact ⟨rfl, fun _ => rfl, rfl⟩
  | cons p r ih =>
    obtain ⟨h1, h2, h3⟩ := ih (fun q hq => h q (List.mem_cons_of_mem _ hq))
    have hp := h p (List.mem_cons_self ..)
    refine ⟨by rw [look, if_neg hp, h1], fun v => by rw [put, if_neg hp, h2]; rfl, by rw [del, if_neg hp, h3]⟩
theorem look_some {l : List (K × V)} {k : K} {v0 : V} {j : Nat} (hn : (l.map Prod.fst).Nodup) (h : l[j]? = some (k, v0)) : look l k = some v0 ∧ (∀ v, put l k v = l.set j (k, v)) ∧ del l k = l.eraseIdx j := by
  induction l generalizing j with
  | nil => simp at h
  | cons p r ih =>
    rw [List.map_cons, List.nodup_cons] at hn
    cases j with
    | zero =>
      simp only [List.getElem?_cons_zero, Option.some.injEq] at h
      subst h
      exact ⟨by rw [look, if_pos rfl], fun v => by rw [put, if_pos rfl]; rfl, by rw [del, if_pos rfl]; rfl⟩
    | succ j =>
      rw [List.getElem?_cons_succ] at h
      have hp : p.1 ≠ k := fun e => hn.1 (e ▸ List.mem_map.2 ⟨_, List.mem_of_getElem? h, rfl⟩)
      obtain ⟨h1, h2, h3⟩ := ih hn.2 h
      exact ⟨by rw [look, if_neg hp, h1], fun v => by rw [put, if_neg hp, h2]; rfl, by rw [del, if_neg hp, h3]; rfl⟩
theorem look_iff {l : List (K × V)} {k : K} : (look l k).isSome = true ↔ k ∈ l.map Prod.fst := by
  induction l with
  | nil => simp [look]
  | cons p r ih =>
    rw [look, List.map_cons, List.mem_cons]
    by_cases h : p.1 = k
    · rw [if_pos h]; simp [h]
    · rw [if_neg h, ih]
      constructor
      · exact fun h => .inr h
      · rintro (h2 | h2)
        · exact absurd h2.symm h
        · exact h2
end

/-- How keys and elements lie. -/
structure MapEnc (P : Program) (T : TypeId) {K : Type} (enc : K → Value) (ok : K → Prop) : Prop where
  keyed : Keyed P T
  key : ∀ k, ok k → ∃ l, keyOf P T (enc k) = some l
  inj : ∀ a b, enc a = enc b → a = b

def MapIs {K V : Type} (enc : K → Value) (ev : V → Value) (ok : K → Prop) (w : World) (b : Nat) (l : List (K × V)) : Prop :=
  ∃ es clock, w.heap[b]? = some (.map es clock) ∧ Stamped es clock ∧ es.toList.map (fun e => (e.key, e.val)) = l.map (fun p => (enc p.1, ev p.2)) ∧ ∀ p ∈ l, ok p.1

section
variable {P : Program} {T MT E : TypeId} {K V : Type} {enc : K → Value} {ev : V → Value} {ok : K → Prop} {w w' : World} {b : Nat} {l : List (K × V)}

theorem MapIs.made (enc : K → Value) (ev : V → Value) (ok : K → Prop) (w : World) : MapIs enc ev ok (w.alloc (.map #[] 0)) w.heap.size ([] : List (K × V)) := ⟨#[], 0, heap_alloc_new _ _, stamped_empty 0, rfl, by simp⟩
theorem MapIs.lt (h : MapIs enc ev ok w b l) : b < w.heap.size := by obtain ⟨es, c, h1, _⟩ := h; exact heap_lt h1
theorem MapIs.at_ (h : MapIs enc ev ok w b l) (hb : w'.heap[b]? = w.heap[b]?) : MapIs enc ev ok w' b l := by obtain ⟨es, c, h1, h2⟩ := h; exact ⟨es, c, hb.trans h1, h2⟩
theorem MapIs.fr {S : Nat → Prop} (h : MapIs enc ev ok w b l) (f : Fr S w w') (hs : ¬ S b) : MapIs enc ev ok w' b l := h.at_ (f.block b h.lt hs)
theorem MapIs.oks (h : MapIs enc ev ok w b l) : ∀ p ∈ l, ok p.1 := by obtain ⟨es, c, h1, h2, h3, h4⟩ := h; exact h4
theorem MapIs.nodup (h : MapIs enc ev ok w b l) : (l.map Prod.fst).Nodup := by
  obtain ⟨es, c, h1, h2, h3, _⟩ := h
  have hn := ((stamped_iff es c).1 h2).2.2
  have e : es.toList.map (·.key) = l.map (fun p => enc p.1) := by
    have := congrArg (List.map Prod.fst) h3
    simpa [List.map_map, Function.comp_def] using this
  have h5 : (l.map (fun p => enc p.1)).Pairwise (· ≠ ·) := by rw [← e, List.pairwise_map]; exact hn
  rw [List.pairwise_map] at h5
  rw [List.nodup_iff_pairwise_ne, List.pairwise_map]
  exact h5.imp (fun h e => h (by rw [e]))

/-- What a search for a key comes to. -/
theorem MapIs.find (M : MapEnc P T enc ok) {es : Array MapEntry} (hl : es.toList.map (fun e => (e.key, e.val)) = l.map (fun p => (enc p.1, ev p.2))) (ho : ∀ p ∈ l, ok p.1) {k : K} (hk : ok k) (w : World) :
    ((Instr.findKey T (enc k) es.toList).run P w = .ok none w ∧ (∀ x ∈ es.toList, x.key ≠ enc k) ∧ ∀ p ∈ l, p.1 ≠ k) ∨
    ∃ j e v0, (Instr.findKey T (enc k) es.toList).run P w = .ok (some (j, e.val)) w ∧ es.toList[j]? = some e ∧ e.key = enc k ∧ l[j]? = some (k, v0) ∧ e.val = ev v0 := by
  obtain ⟨lk, hlk⟩ := M.key k hk
  have hes : ∀ e ∈ es.toList, ∃ lx, keyOf P T e.key = some lx := fun e he => by
    have : (e.key, e.val) ∈ l.map (fun p => (enc p.1, ev p.2)) := by rw [← hl]; exact List.mem_map.2 ⟨e, he, rfl⟩
    obtain ⟨p, hp, e1⟩ := List.mem_map.1 this
    injection e1 with e1 e2
    rw [← e1]
    exact M.key _ (ho p hp)
  rcases M.keyed.find w hlk es.toList hes with ⟨h1, h2⟩ | ⟨j, e, h1, h2, h3⟩
  · refine .inl ⟨h1, h2, fun p hp e => ?_⟩
    have : (enc p.1, ev p.2) ∈ es.toList.map (fun e => (e.key, e.val)) := by rw [hl]; exact List.mem_map.2 ⟨p, hp, rfl⟩
    obtain ⟨x, hx, e1⟩ := List.mem_map.1 this
    injection e1 with e1 e2
    exact h2 x hx (by rw [e1, e])
  · have h4 : (l.map (fun p => (enc p.1, ev p.2)))[j]? = some (e.key, e.val) := by rw [← hl, List.getElem?_map, h2]; rfl
    rw [List.getElem?_map] at h4
    cases hj : l[j]? with
    | none => rw [hj] at h4; cases h4
    | some p =>
      rw [hj] at h4
      injection h4 with h4
      injection h4 with h5 h6
      have : p.1 = k := M.inj _ _ (by rw [h5, h3])
      exact .inr ⟨j, e, p.2, h1, h2, h3, by rw [← this]; exact hj, h6.symm⟩

variable [DecidableEq K]
theorem MapIs.lookup (M : MapEnc P T enc ok) (ht : P.underlying MT = some (.map T E)) {z : Value} (hz : (zeroValue E).run P w = .ok z w) (h : MapIs enc ev ok w b l) {k : K} (hk : ok k) :
    (Instr.lookup MT (.map (some b)) (enc k) false).run P w = .ok (((look l k).map ev).getD z) w := by
  have hn := h.nodup
  obtain ⟨es, clock, hb, hS, hl, ho⟩ := h
  obtain ⟨lk, hlk⟩ := M.key k hk
  rcases MapIs.find M hl ho hk w with ⟨h1, _, h3⟩ | ⟨j, e, v0, h1, h2, h3, h4, h5⟩
  · rw [(look_none h3).1]
    simp [Instr.lookup, run_underlying ht, MapKept.run_getObj_map hb, M.keyed.check w _ hlk, h1, hz, Result.andThen]
  · rw [(look_some hn h4).1]
    simp [Instr.lookup, run_underlying ht, MapKept.run_getObj_map hb, M.keyed.check w _ hlk, h1, h5, Result.andThen]

omit [DecidableEq K] in
theorem fr_setBlock {es : Array MapEntry} {clock : Nat} (hb : w.heap[b]? = some (.map es clock)) (o : Obj) : Fr (fun k => k = b) w (setBlock w b o) :=
  ⟨rfl, rfl, rfl, by simp [setBlock], fun i _ hi => heap_setBlock_other hb o hi⟩

theorem MapIs.store (M : MapEnc P T enc ok) (ht : P.underlying MT = some (.map T E)) (h : MapIs enc ev ok w b l) {k : K} (hk : ok k) (v : V) :
    ∃ w', (Instr.mapUpdate MT (.map (some b)) (enc k) (ev v)).run P w = .ok () w' ∧ MapIs enc ev ok w' b (put l k v) ∧ Fr (fun i => i = b) w w' ∧ w'.heap.size = w.heap.size := by
  have hn := h.nodup
  obtain ⟨es, clock, hb, hS, hl, ho⟩ := h
  obtain ⟨lk, hlk⟩ := M.key k hk
  rcases MapIs.find M hl ho hk w with ⟨h1, h2, h3⟩ | ⟨j, e, v0, h1, h2, h3, h4, h5⟩
  · refine ⟨setBlock w b (.map (es.push ⟨enc k, ev v, clock⟩) (clock + 1)), ?_, ⟨_, _, heap_setBlock_same hb _, stamped_push hS h2, ?_, ?_⟩, fr_setBlock hb _, by simp [setBlock]⟩
    · simp [Instr.mapUpdate, run_underlying ht, MapKept.run_getObj_map hb, M.keyed.check w false hlk, h1, MapKept.run_setObj_map _ hb, Result.andThen, setBlock]
    · rw [(look_none h3).2.1, Array.toList_push, List.map_append, hl]
      simp
    · rw [(look_none h3).2.1]
      intro p hp
      rcases List.mem_append.1 hp with hp | hp
      · exact ho p hp
      · rw [List.mem_singleton.1 hp]; exact hk
  · have hj : es[j]? = some e := by simpa using h2
    refine ⟨setBlock w b (.map (es.modify j fun e' => { e' with key := enc k, val := ev v }) clock), ?_, ⟨_, _, heap_setBlock_same hb _, stamped_modify hS _ _ (fun _ _ => rfl) (fun e' _ he' => by rw [hj] at he'; injection he' with he'; rw [← he']; exact h3.symm), ?_, ?_⟩, fr_setBlock hb _, by simp [setBlock]⟩
    · simp [Instr.mapUpdate, run_underlying ht, MapKept.run_getObj_map hb, M.keyed.check w false hlk, h1, hj, h3, M.keyed.stays w hlk, MapKept.run_setObj_map _ hb, Result.andThen, setBlock]
    · rw [(look_some hn h4).2.1, Array.toList_modify, List.map_set, ← hl]
      apply List.ext_getElem?
      intro i
      rw [List.getElem?_map, List.getElem?_modify, List.getElem?_set, List.getElem?_map, List.length_map]
      by_cases hij : j = i
      · subst hij
        have hjl := (List.getElem?_eq_some_iff.1 h2).1
        rw [if_pos rfl, if_pos hjl, h2]
        simp
      · rw [if_neg hij]
        cases es.toList[i]? <;> simp [hij]
    · rw [(look_some hn h4).2.1]
      intro p hp
      rcases List.mem_or_eq_of_mem_set hp with hp | rfl
      · exact ho p hp
      · exact hk

theorem MapIs.delete (M : MapEnc P T enc ok) (ht : P.underlying MT = some (.map T E)) (h : MapIs enc ev ok w b l) {k : K} (hk : ok k) (ty : TypeId) :
    ∃ w', (Builtin.delete_ #[MT, T] ty #[.map (some b), enc k]).run P w = .ok (.tuple #[]) w' ∧ MapIs enc ev ok w' b (del l k) ∧ Fr (fun i => i = b) w w' ∧ w'.heap.size = w.heap.size := by
  have hn := h.nodup
  obtain ⟨es, clock, hb, hS, hl, ho⟩ := h
  obtain ⟨lk, hlk⟩ := M.key k hk
  rcases MapIs.find M hl ho hk w with ⟨h1, h2, h3⟩ | ⟨j, e, v0, h1, h2, h3, h4, h5⟩
  · refine ⟨setBlock w b (.map es clock), ?_, ⟨_, _, heap_setBlock_same hb _, hS, ?_, ?_⟩, fr_setBlock hb _, by simp [setBlock]⟩
    · simp [Builtin.delete_, run_underlying ht, MapKept.run_getObj_map hb, M.keyed.check w _ hlk, h1, MapKept.run_setObj_map _ hb, Result.andThen, setBlock]
    · rw [(look_none h3).2.2, hl]
    · rw [(look_none h3).2.2]; exact ho
  · have hjl := (List.getElem?_eq_some_iff.1 h2).1
    refine ⟨setBlock w b (.map (es.eraseIdxIfInBounds j) clock), ?_, ⟨_, _, heap_setBlock_same hb _, stamped_erase hS j, ?_, ?_⟩, fr_setBlock hb _, by simp [setBlock]⟩
    · simp [Builtin.delete_, run_underlying ht, MapKept.run_getObj_map hb, M.keyed.check w _ hlk, h1, MapKept.run_setObj_map _ hb, Result.andThen, setBlock]
    · rw [(look_some hn h4).2.2]
      have e1 : (es.eraseIdxIfInBounds j).toList = es.toList.eraseIdx j := by
        unfold Array.eraseIdxIfInBounds
        rw [dif_pos (by simpa using hjl), Array.toList_eraseIdx]
      rw [e1]
      rw [ChangeMaps.map_eraseIdx, ChangeMaps.map_eraseIdx, hl]
    · rw [(look_some hn h4).2.2]
      intro p hp
      exact ho p (List.mem_of_mem_eraseIdx hp)

omit [DecidableEq K] in
theorem MapIs.len (ht : P.underlying MT = some (.map T E)) (h : MapIs enc ev ok w b l) (ty : TypeId) : (Builtin.len_ #[MT] ty #[.map (some b)]).run P w = .ok (goInt l.length) w := by
  obtain ⟨es, clock, hb, hS, hl, ho⟩ := h
  have e : es.size = l.length := by
    have := congrArg List.length hl
    simpa using this
  simp [Builtin.len_, run_underlying ht, MapKept.run_getObj_map hb, Result.andThen, e]
end

end Go.Proofs.Ytifdfhonhphojaa.Mp
