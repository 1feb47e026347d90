/- Maps, as lists of what they hold: look-up, store, delete, length, range. Over whatever program; keys of whatever type that has the library's law on keys; Ranges over maps, as lists. Over whatever program; The keys of this program's maps; maps.Keys and its iterator: the keys come, each once, in some order; slices.Collect at our keys. (After the shape of the library's proof at keys of one cell.). -/
import Derived.Test.YtieaipclioppkaaGreatFr
import Derived.Maps.Keyed
import Derived.Maps.RangeRun
import Derived.Maps.Own
import Derived.OwnWalkIn
import Derived.RangeFuncSeq
import Derived.Sort.MapsRangeIn
import Derived.Test.YtieaipclioppkaaGreatProg
import Derived.DeepKeys4
import Derived.KernelRfl
import Derived.RangeFuncGives
import Derived.WalkKit
import Derived.TacticsInMore
import Derived.RegionIn
import Derived.LoopNIn
import Derived.LoopIn
import Derived.Shelf.SlIter.Collect
import Derived.Maps.AppendAt
set_option linter.unusedSimpArgs false
set_option linter.unusedVariables false

/-! Maps, as lists of what they hold: look-up, store, delete, length, range. Over whatever program; keys of whatever type that has the library's law on keys. -/
namespace Go.Proofs.YtieaipclioppkaaGreat.Mp
open Go Go.RowKit Go.Maps Go.MapKept Go.Proofs.YtieaipclioppkaaGreatCore Go.Proofs.YtieaipclioppkaaGreat.Fr
open Go.ChangeMaps (setBlock heap_setBlock_same heap_setBlock_other)

section
variable {K V : Type} [DecidableEq K]
def look : List (K × V) → K → Option V
  | [], _ => none
  | p :: r, k => if p.1 = k then some p.2 else look r k
def put : List (K × V) → K → V → List (K × V)
  | [], k, v => [(k, v)]
  | p :: r, k, v => if p.1 = k then (k, v) :: r else p :: put r k v
def del : List (K × V) → K → List (K × V)
  | [], _ => []
  | p :: r, k => if p.1 = k then r else p :: del r k
theorem look_none {l : List (K × V)} {k : K} (h : ∀ p ∈ l, p.1 ≠ k) : look l k = none ∧ (∀ v, put l k v = l ++ [(k, v)]) ∧ del l k = l := by
  induction l with
  | nil => exact ⟨rfl, fun _ => rfl, rfl⟩
  | cons p r ih =>
    obtain ⟨h1, h2, h3⟩ := ih (fun q hq => h q (List.mem_cons_of_mem _ hq))
    have hp := h p (List.mem_cons_self ..)
    refine ⟨by rw [look, if_neg hp, h1], fun v => by rw [put, if_neg hp, h2]; rfl, by rw [del, if_neg hp, h3]⟩
theorem look_some {l : List (K × V)} {k : K} {v0 : V} {j : Nat} (hn : (l.map Prod.fst).Nodup) (h : l[j]? = some (k, v0)) : look l k = some v0 ∧ (∀ v, put l k v = l.set j (k, v)) ∧ del l k = l.eraseIdx j := by
  induction l generalizing j with
  | nil => simp at h
  | cons p r ih =>
    rw [List.map_cons, List.nodup_cons] at hn
    cases j with
    | zero =>
      simp only [List.getElem?_cons_zero, Option.some.injEq] at h
      subst h
      exact ⟨by rw [look, if_pos rfl], fun v => by rw [put, if_pos rfl]; rfl, by rw [del, if_pos rfl]; rfl⟩
    | succ j =>
      rw [List.getElem?_cons_succ] at h
      have hp : p.1 ≠ k := fun e => hn.1 (e ▸ List.mem_map.2 ⟨_, List.mem_of_getElem? h, rfl⟩)
      obtain ⟨h1, h2, h3⟩ := ih hn.2 h
      exact ⟨by rw [look, if_neg hp, h1], fun v => by rw [put, if_neg hp, h2]; rfl, by rw [del, if_neg hp, h3]; rfl⟩
theorem look_iff {l : List (K × V)} {k : K} : (look l k).isSome = true ↔ k ∈ l.map Prod.fst := by
  induction l with
  | nil => simp [look]
  | cons p r ih =>
    rw [look, List.map_cons, List.mem_cons]
    by_cases h : p.1 = k
    · rw [if_pos h]; simp [h]
    · rw [if_neg h, ih]
      constructor
      · exact fun h => .inr h
      · rintro (h2 | h2)
        · exact absurd h2.symm h
        · exact h2
end

/-- How keys and elements lie. -/
structure MapEnc (P : Program) (T : TypeId) {K : Type} (enc : K → Value) (ok : K → Prop) : Prop where
  keyed : Keyed P T
  key : ∀ k, ok k → ∃ l, keyOf P T (enc k) = some l
  inj : ∀ a b, enc a = enc b → a = b

def MapIs {K V : Type} (enc : K → Value) (ev : V → Value) (ok : K → Prop) (w : World) (b : Nat) (l : List (K × V)) : Prop :=
  ∃ es clock, w.heap[b]? = some (.map es clock) ∧ Stamped es clock ∧ es.toList.map (fun e => (e.key, e.val)) = l.map (fun p => (enc p.1, ev p.2)) ∧ ∀ p ∈ l, ok p.1

section
variable {P : Program} {T MT E : TypeId} {K V : Type} {enc : K → Value} {ev : V → Value} {ok : K → Prop} {w w' : World} {b : Nat} {l : List (K × V)}

theorem MapIs.made (enc : K → Value) (ev : V → Value) (ok : K → Prop) (w : World) : MapIs enc ev ok (w.alloc (.map #[] 0)) w.heap.size ([] : List (K × V)) := ⟨#[], 0, heap_alloc_new _ _, stamped_empty 0, rfl, by simp⟩
theorem MapIs.lt (h : MapIs enc ev ok w b l) : b < w.heap.size := by obtain ⟨es, c, h1, _⟩ := h; exact heap_lt h1
theorem MapIs.at_ (h : MapIs enc ev ok w b l) (hb : w'.heap[b]? = w.heap[b]?) : MapIs enc ev ok w' b l := by obtain ⟨es, c, h1, h2⟩ := h; exact ⟨es, c, hb.trans h1, h2⟩
theorem MapIs.fr {S : Nat → Prop} (h : MapIs enc ev ok w b l) (f : Fr S w w') (hs : ¬ S b) : MapIs enc ev ok w' b l := h.at_ (f.block b h.lt hs)
theorem MapIs.oks (h : MapIs enc ev ok w b l) : ∀ p ∈ l, ok p.1 := by obtain ⟨es, c, h1, h2, h3, h4⟩ := h; exact h4
theorem MapIs.nodup (h : MapIs enc ev ok w b l) : (l.map Prod.fst).Nodup := by
  obtain ⟨es, c, h1, h2, h3, _⟩ := h
  have hn := ((stamped_iff es c).1 h2).2.2
  have e : es.toList.map (·.key) = l.map (fun p => enc p.1) := by
    have := congrArg (List.map Prod.fst) h3
    simpa [List.map_map, Function.comp_def] using this
  have h5 : (l.map (fun p => enc p.1)).Pairwise (· ≠ ·) := by rw [← e, List.pairwise_map]; exact hn
  rw [List.pairwise_map] at h5
  rw [List.nodup_iff_pairwise_ne, List.pairwise_map]
  exact h5.imp (fun h e => h (by rw [e]))

/-- What a search for a key comes to. -/
theorem MapIs.find (M : MapEnc P T enc ok) {es : Array MapEntry} (hl : es.toList.map (fun e => (e.key, e.val)) = l.map (fun p => (enc p.1, ev p.2))) (ho : ∀ p ∈ l, ok p.1) {k : K} (hk : ok k) (w : World) :
    ((Instr.findKey T (enc k) es.toList).run P w = .ok none w ∧ (∀ x ∈ es.toList, x.key ≠ enc k) ∧ ∀ p ∈ l, p.1 ≠ k) ∨
    ∃ j e v0, (Instr.findKey T (enc k) es.toList).run P w = .ok (some (j, e.val)) w ∧ es.toList[j]? = some e ∧ e.key = enc k ∧ l[j]? = some (k, v0) ∧ e.val = ev v0 := by
  obtain ⟨lk, hlk⟩ := M.key k hk
  have hes : ∀ e ∈ es.toList, ∃ lx, keyOf P T e.key = some lx := fun e he => by
    have : (e.key, e.val) ∈ l.map (fun p => (enc p.1, ev p.2)) := by rw [← hl]; exact List.mem_map.2 ⟨e, he, rfl⟩
    obtain ⟨p, hp, e1⟩ := List.mem_map.1 this
    injection e1 with e1 e2
    rw [← e1]
    exact M.key _ (ho p hp)
  rcases M.keyed.find w hlk es.toList hes with ⟨h1, h2⟩ | ⟨j, e, h1, h2, h3⟩
  · refine .inl ⟨h1, h2, fun p hp e => ?_⟩
    have : (enc p.1, ev p.2) ∈ es.toList.map (fun e => (e.key, e.val)) := by rw [hl]; exact List.mem_map.2 ⟨p, hp, rfl⟩
    obtain ⟨x, hx, e1⟩ := List.mem_map.1 this
    injection e1 with e1 e2
    exact h2 x hx (by rw [e1, e])
  · have h4 : (l.map (fun p => (enc p.1, ev p.2)))[j]? = some (e.key, e.val) := by rw [← hl, List.getElem?_map, h2]; rfl
    rw [List.getElem?_map] at h4
    cases hj : l[j]? with
    | none => rw [hj] at h4; cases h4
    | some p =>
      rw [hj] at h4
      injection h4 with h4
      injection h4 with h5 h6
      have : p.1 = k := M.inj _ _ (by rw [h5, h3])
      exact .inr ⟨j, e, p.2, h1, h2, h3, by rw [← this]; exact hj, h6.symm⟩

variable [DecidableEq K]
theorem MapIs.lookup (M : MapEnc P T enc ok) (ht : P.underlying MT = some (.map T E)) {z : Value} (hz : (zeroValue E).run P w = .ok z w) (h : MapIs enc ev ok w b l) {k : K} (hk : ok k) :
    (Instr.lookup MT (.map (some b)) (enc k) false).run P w = .ok (((look l k).map ev).getD z) w := by
  have hn := h.nodup
  obtain ⟨es, clock, hb, hS, hl, ho⟩ := h
  obtain ⟨lk, hlk⟩ := M.key k hk
  rcases MapIs.find M hl ho hk w with ⟨h1, _, h3⟩ | ⟨j, e, v0, h1, h2, h3, h4, h5⟩
  · rw [(look_none h3).1]
    simp [Instr.lookup, run_underlying ht, MapKept.run_getObj_map hb, M.keyed.check w _ hlk, h1, hz, Result.andThen]
  · rw [(look_some hn h4).1]
    simp [Instr.lookup, run_underlying ht, MapKept.run_getObj_map hb, M.keyed.check w _ hlk, h1, h5, Result.andThen]

omit [DecidableEq K] in
theorem fr_setBlock {es : Array MapEntry} {clock : Nat} (hb : w.heap[b]? = some (.map es clock)) (o : Obj) : Fr (fun k => k = b) w (setBlock w b o) :=
  ⟨rfl, rfl, rfl, by simp [setBlock], fun i _ hi => heap_setBlock_other hb o hi⟩

theorem MapIs.store (M : MapEnc P T enc ok) (ht : P.underlying MT = some (.map T E)) (h : MapIs enc ev ok w b l) {k : K} (hk : ok k) (v : V) :
    ∃ w', (Instr.mapUpdate MT (.map (some b)) (enc k) (ev v)).run P w = .ok () w' ∧ MapIs enc ev ok w' b (put l k v) ∧ Fr (fun i => i = b) w w' ∧ w'.heap.size = w.heap.size := by
  have hn := h.nodup
  obtain ⟨es, clock, hb, hS, hl, ho⟩ := h
  obtain ⟨lk, hlk⟩ := M.key k hk
  rcases MapIs.find M hl ho hk w with ⟨h1, h2, h3⟩ | ⟨j, e, v0, h1, h2, h3, h4, h5⟩
  · refine ⟨setBlock w b (.map (es.push ⟨enc k, ev v, clock⟩) (clock + 1)), ?_, ⟨_, _, heap_setBlock_same hb _, stamped_push hS h2, ?_, ?_⟩, fr_setBlock hb _, by simp [setBlock]⟩
    · simp [Instr.mapUpdate, run_underlying ht, MapKept.run_getObj_map hb, M.keyed.check w false hlk, h1, MapKept.run_setObj_map _ hb, Result.andThen, setBlock]
    · rw [(look_none h3).2.1, Array.toList_push, List.map_append, hl]
      simp
    · rw [(look_none h3).2.1]
      intro p hp
      rcases List.mem_append.1 hp with hp | hp
      · exact ho p hp
      · rw [List.mem_singleton.1 hp]; exact hk
  · have hj : es[j]? = some e := by simpa using h2
    refine ⟨setBlock w b (.map (es.modify j fun e' => { e' with key := enc k, val := ev v }) clock), ?_, ⟨_, _, heap_setBlock_same hb _, stamped_modify hS _ _ (fun _ _ => rfl) (fun e' _ he' => by rw [hj] at he'; injection he' with he'; rw [← he']; exact h3.symm), ?_, ?_⟩, fr_setBlock hb _, by simp [setBlock]⟩
    · simp [Instr.mapUpdate, run_underlying ht, MapKept.run_getObj_map hb, M.keyed.check w false hlk, h1, hj, h3, M.keyed.stays w hlk, MapKept.run_setObj_map _ hb, Result.andThen, setBlock]
    · rw [(look_some hn h4).2.1, Array.toList_modify, List.map_set, ← hl]
      apply List.ext_getElem?
      intro i
      rw [List.getElem?_map, List.getElem?_modify, List.getElem?_set, List.getElem?_map, List.length_map]
      by_cases hij : j = i
      · subst hij
        have hjl := (List.getElem?_eq_some_iff.1 h2).1
        rw [if_pos rfl, if_pos hjl, h2]
        simp
      · rw [if_neg hij]
        cases es.toList[i]? <;> simp [hij]
    · rw [(look_some hn h4).2.1]
      intro p hp
      rcases List.mem_or_eq_of_mem_set hp with hp | rfl
      · exact ho p hp
      · exact hk

theorem MapIs.delete (M : MapEnc P T enc ok) (ht : P.underlying MT = some (.map T E)) (h : MapIs enc ev ok w b l) {k : K} (hk : ok k) (ty : TypeId) :
    ∃ w', (Builtin.delete_ #[MT, T] ty #[.map (some b), enc k]).run P w = .ok (.tuple #[]) w' ∧ MapIs enc ev ok w' b (del l k) ∧ Fr (fun i => i = b) w w' ∧ w'.heap.size = w.heap.size := by
  have hn := h.nodup
  obtain ⟨es, clock, hb, hS, hl, ho⟩ := h
  obtain ⟨lk, hlk⟩ := M.key k hk
  rcases MapIs.find M hl ho hk w with ⟨h1, h2, h3⟩ | ⟨j, e, v0, h1, h2, h3, h4, h5⟩
  · refine ⟨setBlock w b (.map es clock), ?_, ⟨_, _, heap_setBlock_same hb _, hS, ?_, ?_⟩, fr_setBlock hb _, by simp [setBlock]⟩
    · simp [Builtin.delete_, run_underlying ht, MapKept.run_getObj_map hb, M.keyed.check w _ hlk, h1, MapKept.run_setObj_map _ hb, Result.andThen, setBlock]
    · rw [(look_none h3).2.2, hl]
    · rw [(look_none h3).2.2]; exact ho
  · have hjl := (List.getElem?_eq_some_iff.1 h2).1
    refine ⟨setBlock w b (.map (es.eraseIdxIfInBounds j) clock), ?_, ⟨_, _, heap_setBlock_same hb _, stamped_erase hS j, ?_, ?_⟩, fr_setBlock hb _, by simp [setBlock]⟩
    · simp [Builtin.delete_, run_underlying ht, MapKept.run_getObj_map hb, M.keyed.check w _ hlk, h1, MapKept.run_setObj_map _ hb, Result.andThen, setBlock]
    · rw [(look_some hn h4).2.2]
      have e1 : (es.eraseIdxIfInBounds j).toList = es.toList.eraseIdx j := by
        unfold Array.eraseIdxIfInBounds
        rw [dif_pos (by simpa using hjl), Array.toList_eraseIdx]
      rw [e1]
      rw [ChangeMaps.map_eraseIdx, ChangeMaps.map_eraseIdx, hl]
    · rw [(look_some hn h4).2.2]
      intro p hp
      exact ho p (List.mem_of_mem_eraseIdx hp)

omit [DecidableEq K] in
theorem MapIs.len (ht : P.underlying MT = some (.map T E)) (h : MapIs enc ev ok w b l) (ty : TypeId) : (Builtin.len_ #[MT] ty #[.map (some b)]).run P w = .ok (goInt l.length) w := by
  obtain ⟨es, clock, hb, hS, hl, ho⟩ := h
  have e : es.size = l.length := by
    have := congrArg List.length hl
    simpa using this
  simp [Builtin.len_, run_underlying ht, MapKept.run_getObj_map hb, Result.andThen, e]
end

end Go.Proofs.YtieaipclioppkaaGreat.Mp

/-! Ranges over maps, as lists. Over whatever program. -/
namespace Go.Proofs.YtieaipclioppkaaGreat.Rgm
open Go Go.RowKit Go.Maps Go.MapKept Go.Proofs.YtieaipclioppkaaGreatCore Go.Proofs.YtieaipclioppkaaGreat.Fr Go.Proofs.YtieaipclioppkaaGreat.Mp
open Go.ChangeMaps (setBlock)

/-- A range under way; done: the keys that have come. -/
def RangeIs {K V : Type} (enc : K → Value) (ev : V → Value) (ok : K → Prop) (w : World) (b r : Nat) (l : List (K × V)) (done : List K) : Prop :=
  ∃ es clock since seen c0, w.heap[b]? = some (.map es clock) ∧ Stamped es clock ∧ es.toList.map (fun e => (e.key, e.val)) = l.map (fun p => (enc p.1, ev p.2)) ∧ (∀ p ∈ l, ok p.1) ∧
    w.heap[r]? = some (.mapIter (some b) since seen c0) ∧ (∀ x ∈ es.toList, x.born < since) ∧ since ≤ c0 ∧ since ≤ clock ∧ done.Nodup ∧ (∀ k ∈ done, k ∈ l.map Prod.fst) ∧
    ∀ x ∈ es.toList, ∀ k, x.key = enc k → (seen.contains x.born = true ↔ k ∈ done)

section
variable {P : Program} {T MT E : TypeId} {K V : Type} {enc : K → Value} {ev : V → Value} {ok : K → Prop} {w w' : World} {b r : Nat} {l : List (K × V)} {done : List K}

theorem RangeIs.iter (h : RangeIs enc ev ok w b r l done) : ∃ o : Obj, w.heap[r]? = some o ∧ o.isWalk = true := by
  obtain ⟨es, clock, since, seen, c0, _, _, _, _, hr, _⟩ := h
  exact ⟨_, hr, rfl⟩
theorem RangeIs.map (h : RangeIs enc ev ok w b r l done) : MapIs enc ev ok w b l := by
  obtain ⟨es, clock, since, seen, c0, h1, h2, h3, h4, _⟩ := h
  exact ⟨es, clock, h1, h2, h3, h4⟩
theorem RangeIs.of_walks (h : RangeIs enc ev ok w b r l done) (hk : KeepsWalks w w') : RangeIs enc ev ok w' b r l done := by
  obtain ⟨es, clock, since, seen, c0, h1, h2, h3, h4, h5, h6⟩ := h
  exact ⟨es, clock, since, seen, c0, hk.same _ _ h1 rfl, h2, h3, h4, hk.same _ _ h5 rfl, h6⟩
theorem left_eq (h' : w'.heap[b]? = w.heap[b]?) (h2 : w'.heap[r]? = w.heap[r]?) : w'.rangeLeft b r = w.rangeLeft b r := by
  unfold World.rangeLeft
  rw [h', h2]

theorem range_is (ht : P.underlying MT = some (.map T E)) (h : MapIs enc ev ok w b l) :
    ∃ w', (Instr.range MT (.map (some b))).run P w = .ok (.pointer (some ⟨w.heap.size, 0, none⟩)) w' ∧ RangeIs enc ev ok w' b w.heap.size l [] ∧ w.grownBy w' none ∧ w'.heap.size = w.heap.size + 1 := by
  obtain ⟨es, clock, hb, hS, hl, ho⟩ := h
  have hbl := heap_lt hb
  refine ⟨w.alloc (.mapIter (some b) clock #[] clock), ?_, ⟨es, clock, clock, #[], clock, ?_, hS, hl, ho, heap_alloc_new _ _, ((stamped_iff es clock).1 hS).1, Nat.le_refl _, Nat.le_refl _, by simp, by simp, by simp⟩, ?_, by simp⟩
  · simp [Instr.range, run_underlying ht, MapKept.run_getObj_map hb, Result.andThen, go_sem]
  · exact Go.Proofs.YtieaipclioppkaaGreatCore.heap_alloc_old _ _ _ _ hb
  · exact ⟨rfl, rfl, rfl, by simp, fun i hi _ => Below.heap_alloc _ _ _ hi⟩

theorem RangeIs.next (M : MapEnc P T enc ok) (h : RangeIs enc ev ok w b r l done) (ty : TypeId) :
    (done.Perm (l.map Prod.fst) ∧ (Instr.next (.pointer (some ⟨r, 0, none⟩)) false ty).run P w = .ok (.tuple #[.bool false]) w) ∨
    ∃ k v w', (k, v) ∈ l ∧ ¬ k ∈ done ∧ (Instr.next (.pointer (some ⟨r, 0, none⟩)) false ty).run P w = .ok (.tuple #[.bool true, enc k, ev v]) w' ∧
      RangeIs enc ev ok w' b r l (done ++ [k]) ∧ w.grownBy w' (some r) ∧ w'.heap.size = w.heap.size ∧ w'.rangeLeft b r < w.rangeLeft b r ∧ (Instr.entry (.pointer (some ⟨r, 0, none⟩))).run P w' = .ok (.tuple #[enc k, ev v]) w' := by
  have hn := h.map.nodup
  obtain ⟨es, clock, since, seen, c0, hb, hS, hl, ho, hr, hold, hsc, hsk, hdn, hdl, hseen⟩ := h
  have hne : r ≠ b := fun e => by rw [e, hb] at hr; cases hr
  have hent : ∀ x ∈ es.toList, ∃ p ∈ l, x.key = enc p.1 ∧ x.val = ev p.2 := fun x hx => by
    have : (x.key, x.val) ∈ l.map (fun p => (enc p.1, ev p.2)) := by rw [← hl]; exact List.mem_map.2 ⟨x, hx, rfl⟩
    obtain ⟨p, hp, e⟩ := List.mem_map.1 this
    injection e with e1 e2
    exact ⟨p, hp, e1.symm, e2.symm⟩
  have hent2 : ∀ p ∈ l, ∃ x ∈ es.toList, x.key = enc p.1 := fun p hp => by
    have : (enc p.1, ev p.2) ∈ es.toList.map (fun e => (e.key, e.val)) := by rw [hl]; exact List.mem_map.2 ⟨p, hp, rfl⟩
    obtain ⟨x, hx, e⟩ := List.mem_map.1 this
    injection e with e1 e2
    exact ⟨x, hx, e1⟩
  rcases run_next_at (P := P) w ty r b since c0 seen es clock hr hb hold hsc with ⟨h0, hrun⟩ | ⟨e, he, w1, hal, hrun⟩
  · refine .inl ⟨?_, hrun⟩
    rw [List.perm_ext_iff_of_nodup hdn hn]
    intro k
    refine ⟨hdl k, fun hk => ?_⟩
    obtain ⟨p, hp, rfl⟩ := List.mem_map.1 hk
    obtain ⟨x, hx, hxk⟩ := hent2 p hp
    exact (hseen x hx _ hxk).1 (all_seen es seen h0 x hx)
  · obtain ⟨hem, hes⟩ := mem_left he
    obtain ⟨p, hp, hpk, hpv⟩ := hent e hem
    have hr1 : w1.heap[r]? = some (.mapIter (some b) since seen c0) := by rcases hal with rfl | rfl <;> exact hr
    have hb1 : w1.heap[b]? = some (.map es clock) := by rcases hal with rfl | rfl <;> exact hb
    have hset := heap_set (o' := .mapIter (some b) since (seen.push e.born) clock) hr1
    have hb' : (setBlock w1 r (.mapIter (some b) since (seen.push e.born) clock)).heap[b]? = some (.map es clock) := (hset.2 b (fun e1 => hne e1.symm)).trans hb1
    have hnot : ¬ p.1 ∈ done := fun hd => by
      have := (hseen e hem _ hpk).2 hd
      rw [hes] at this
      cases this
    refine .inr ⟨p.1, p.2, _, hp, hnot, by rw [← hpk, ← hpv]; exact hrun,
      ⟨es, clock, since, seen.push e.born, clock, hb', hS, hl, ho, hset.1, hold, hsk, hsk, ?_, ?_, ?_⟩, ?_, ?_, ?_, ?_⟩
    · rw [List.nodup_append]
      exact ⟨hdn, by simp, fun a ha b' hb' e' => hnot (by rw [List.mem_singleton.1 hb'] at e'; exact e' ▸ ha)⟩
    · intro k hk
      rcases List.mem_append.1 hk with hk | hk
      · exact hdl k hk
      · rw [List.mem_singleton.1 hk]; exact List.mem_map.2 ⟨p, hp, rfl⟩
    · intro x hx k hxk
      rw [contains_push, List.mem_append, List.mem_singleton, Bool.or_eq_true, hseen x hx k hxk]
      refine or_congr Iff.rfl ?_
      have hnodup := ((stamped_iff es clock).1 hS)
      constructor
      · intro hb2
        rw [beq_iff_eq] at hb2
        have : x = e := by
          obtain ⟨i, hi, rfl⟩ := List.mem_iff_getElem.1 hx
          obtain ⟨j, hj, rfl⟩ := List.mem_iff_getElem.1 hem
          have h2 := hnodup.2.1
          have : i = j := by
            exact (List.getElem_inj h2 (h₀ := by simpa using hi) (h₁ := by simpa using hj)).1 (by simpa using hb2)
          subst this
          rfl
        rw [this, hpk] at hxk
        exact (M.inj _ _ hxk).symm
      · intro hk
        subst hk
        have hxe : x.key = e.key := by rw [hxk, hpk]
        have h3 := hnodup.2.2
        rw [List.pairwise_iff_getElem] at h3
        obtain ⟨i, hi, rfl⟩ := List.mem_iff_getElem.1 hx
        obtain ⟨j, hj, rfl⟩ := List.mem_iff_getElem.1 hem
        rcases Nat.lt_trichotomy i j with h | h | h
        · exact absurd hxe (h3 i j hi hj h)
        · subst h; simp
        · exact absurd hxe.symm (h3 j i hj hi h)
    · rcases hal with rfl | rfl <;> exact ⟨rfl, rfl, rfl, by simp [setBlock], fun i _ hi => hset.2 i (fun e1 => hi (by rw [e1]))⟩
    · rcases hal with rfl | rfl <;> simp [setBlock]
    · unfold World.rangeLeft
      have e1 : (setBlock w1 r (.mapIter (some b) since (seen.push e.born) clock)).heap[r]? = some (.mapIter (some b) since (seen.push e.born) clock) := hset.1
      rw [hb', e1, hb, hr]
      exact left_shrinks es seen e he
    · rw [← hpk, ← hpv]
      exact run_entry_at _ r b since seen es clock e hset.1 hb' hem ((stamped_iff es clock).1 hS).2.1
end

section
variable {P : Program} {F : Fence} {n : Nat} {ops : Array Oper} {rest : List Oper} {o : Oper} {a : Act} {w : World} {Q : Exit → Act → World → Prop}
variable {T MT E : TypeId} {K V : Type} {enc : K → Value} {ev : V → Value} {ok : K → Prop} {b r : Nat} {l : List (K × V)} {done : List K}
theorem wpListIn_range_is (hg : o.guard = none) (m : Operand) (hop : o.op = Op.range MT m) (ht : P.underlying MT = some (.map T E)) (hm : a.eval m = .map (some b)) (h : MapIs enc ev ok w b l)
    (hK : ∀ w', RangeIs enc ev ok w' b w.heap.size l [] → w.grownBy w' none → w'.heap.size = w.heap.size + 1 → wpListIn F n P ops Q rest (a.put o.dst (.pointer (some ⟨w.heap.size, 0, none⟩))) w') :
    wpListIn F n P ops Q (o :: rest) a w := by
  refine wpListIn_plain hg fun K' hK' => ?_
  obtain ⟨w', hrun, r1, r2, r3⟩ := range_is ht h
  unfold Oper.wpIn
  refine ⟨?_, ?_⟩
  · simp [Oper.about, hop]
  · rw [Oper.semAt_plain F _ _ (by rw [hop]; intro c hc'; cases hc')]
    simp [execOp, hop, hm, hrun, Result.andThen]
    exact hK' _ _ (hK w' r1 r2 r3)
theorem wpListIn_next_is (M : MapEnc P T enc ok) (hg : o.guard = none) (it : Operand) (hop : o.op = Op.next it false) (hit : a.eval it = .pointer (some ⟨r, 0, none⟩)) (h : RangeIs enc ev ok w b r l done)
    (hDone : done.Perm (l.map Prod.fst) → wpListIn F n P ops Q rest (a.put o.dst (.tuple #[.bool false])) w)
    (hMore : ∀ k v w', (k, v) ∈ l → ¬ k ∈ done → RangeIs enc ev ok w' b r l (done ++ [k]) → w.grownBy w' (some r) → w'.heap.size = w.heap.size → w'.rangeLeft b r < w.rangeLeft b r → (Instr.entry (.pointer (some ⟨r, 0, none⟩))).run P w' = .ok (.tuple #[enc k, ev v]) w' → wpListIn F n P ops Q rest (a.put o.dst (.tuple #[.bool true, enc k, ev v])) w') :
    wpListIn F n P ops Q (o :: rest) a w := by
  refine wpListIn_plain hg fun K' hK' => ?_
  unfold Oper.wpIn
  refine ⟨by simp [Oper.about, hop], ?_⟩
  rw [Oper.semAt_plain F _ _ (by rw [hop]; intro c hc'; cases hc')]
  rcases h.next M o.type with ⟨h0, hrun⟩ | ⟨k, v, w', h1, h2, hrun, h3, h4, h5, h6, h7⟩
  · simp [execOp, hop, hit, hrun, Result.andThen]
    exact hK' _ _ (hDone h0)
  · simp [execOp, hop, hit, hrun, Result.andThen]
    exact hK' _ _ (hMore k v w' h1 h2 h3 h4 h5 h6 h7)
end

end Go.Proofs.YtieaipclioppkaaGreat.Rgm

/-! The keys of this program's maps. -/
namespace Go.Proofs.YtieaipclioppkaaGreat.Ky
open Go Go.RowKit Go.Maps Go.Proofs.YtieaipclioppkaaGreatCore Go.Proofs.YtieaipclioppkaaGreat.Fr Go.Proofs.YtieaipclioppkaaGreat.Mp Go.Proofs.YtieaipclioppkaaGreat.Rgm

/-- Who may call what. -/
structure GKey where
  c : Int
  f : ByteArray
instance : DecidableEq GKey := fun a b => decidable_of_iff (a.c = b.c ∧ a.f = b.f) ⟨fun h => by obtain ⟨a1, a2⟩ := a; obtain ⟨b1, b2⟩ := b; obtain ⟨h1, h2⟩ := h; simp only at h1 h2; rw [h1, h2], fun h => by rw [h]; exact ⟨rfl, rfl⟩⟩
instance : Inhabited GKey := ⟨⟨0, ByteArray.empty⟩⟩
def encK (k : GKey) : Value := .agg #[.int .i64 k.c, .string k.f]
def okK (k : GKey) : Prop := (Lit.int .i64 k.c).wf = true ∧ k.f.size ≤ maxLen
def encI (n : Int) : Value := .int .i64 n
def okI (n : Int) : Prop := (Lit.int .i64 n).wf = true

theorem encI_M : MapEnc Tryz.prog 3 encI okI :=
  ⟨int_keyed Tryz.underlying3, fun k hk => ⟨_, keyOf_int_mk Tryz.underlying3 hk⟩, fun a b h => by injection h⟩
theorem laidOut : laidOutB Tryz.prog = true := by kernel_rfl
theorem keyK : Keyed Tryz.prog 95 := Keyed.of_law (Go.deep_law_laid (m := 4) laidOut (by decide) (of_decide_eq_true (by kernel_rfl)) (by kernel_rfl) (by kernel_rfl))
theorem encK_some (k : GKey) (hk : okK k) : ∃ l, keyOf Tryz.prog 95 (encK k) = some l := by
  obtain ⟨c, f⟩ := k
  obtain ⟨h1, h2⟩ := hk
  have hf : (encK ⟨c, f⟩).formed Tryz.prog 95 = true := by kernel_rfl
  have hkt : Tryz.prog.keyType 95 = true := by kernel_rfl
  have hk1 := Tryz.underlying95
  have hk2 := Tryz.underlying3
  have hk3 := Tryz.underlying9
  have hc1 : Tryz.prog.cellsOf 95 = 2 := by kernel_rfl
  have hc2 : Tryz.prog.cellsOf 3 = 1 := by kernel_rfl
  have hc3 : Tryz.prog.cellsOf 9 = 1 := by kernel_rfl
  obtain ⟨n, hn⟩ : ∃ n, Tryz.prog.types.size = n + 1 := ⟨Tryz.prog.types.size - 1, by kernel_rfl⟩
  have hl : Tryz.prog.keyLits (Tryz.prog.types.size + 1) 95 (encK ⟨c, f⟩).cells.toList = some [.int .i64 c, .string f.data.toList] := by
    rw [hn]
    simp [Program.keyLits, hk1, hk2, hk3, hc1, hc2, hc3, encK, Value.cells, h1, h2]
  refine ⟨.string (keyBytes [.int .i64 c, .string f.data.toList]), ?_⟩
  unfold keyOf
  rw [hk1]
  simp only [hkt, hf, hl]
  simp
theorem encK_inj (a b : GKey) (h : encK a = encK b) : a = b := by
  obtain ⟨a1, a2⟩ := a
  obtain ⟨b1, b2⟩ := b
  simp [encK] at h
  obtain ⟨rfl, rfl⟩ := h
  rfl
theorem encK_M : MapEnc Tryz.prog 95 encK okK := ⟨keyK, encK_some, encK_inj⟩

end Go.Proofs.YtieaipclioppkaaGreat.Ky

/-! maps.Keys and its iterator: the keys come, each once, in some order. -/
namespace Go.Proofs.YtieaipclioppkaaGreat.Ks
open Go Go.RowKit Go.Maps Go.Proofs.YtieaipclioppkaaGreatCore Go.Proofs.YtieaipclioppkaaGreat.Fr Go.Proofs.YtieaipclioppkaaGreat.Mp Go.Proofs.YtieaipclioppkaaGreat.Rgm Go.Proofs.YtieaipclioppkaaGreat.Ky

theorem nodup_len {α : Type} [DecidableEq α] : ∀ {a b : List α}, a.Nodup → (∀ x ∈ a, x ∈ b) → a.length ≤ b.length
  | [], _, _, _ => Nat.zero_le _
  | x :: a, b, h, hs => by
    rw [List.nodup_cons] at h
    have hx := hs x (List.mem_cons_self ..)
    have h1 := nodup_len (a := a) (b := b.erase x) h.2 (fun y hy => (List.mem_erase_of_ne (fun e => h.1 (by rw [← e]; exact hy))).2 (hs y (List.mem_cons_of_mem _ hy)))
    rw [List.length_erase_of_mem hx] at h1
    have := List.length_pos_of_mem hx
    simp only [List.length_cons]
    omega

set_option maxRecDepth 100000 in
set_option maxHeartbeats 1000000 in
theorem key_keys1 {V : Type} {ev : V → Value} (F : Fence) (n : Nat) (h10 : F.fn 106) (hro : F.round = none) (hn : 1 ≤ n) (lp Bm b : Nat) (l : List (GKey × V)) (J : List GKey → World → Prop)
    (hY : ∀ pre x W, J pre W → pre.length < l.length → YieldAt F (n - 1) Tryz.prog lp #[encK x] W fun e W' => e = .returned (.bool true) ∧ J (pre ++ [x]) W' ∧ KeepsWalks W W')
    (W : World) (hJ : AbidesFrom W.heap.size J) (hm : W.cell? ⟨Bm, 0, none⟩ = some (.map (some b))) (hown : MapIs encK ev okK W b l) (h0 : J [] W) :
    CallsIn F n Tryz.prog 106 #[.func (.yield lp) #[] #[], .pointer (some ⟨Bm, 0, none⟩)] W fun e W' => (∃ v, e = .returned v) ∧ ∃ ss : List GKey, ss.Perm (l.map Prod.fst) ∧ J ss W' := by
  refine callsIn_of_wp Tryz.func106 rfl h10 ?_ hro
  simp only [Tryz.ntmps106, List.size_toArray, List.length_cons, List.length_nil, Nat.reduceAdd, Nat.reduceSub, Array.replicate_succ, Array.replicate_zero, List.push_toArray, List.append_toArray, List.nil_append, List.cons_append]
  gi_wp2_with (first
    | (gi_at_range; refine wpListIn_range_is rfl _ rfl Tryz.underlying157 rfl hown ?_; intro w0 hrg0 hg0 hs0)
    | gi_in)
  go_frame
  gi_loopw [3] (fun _ wr => ∃ (ss : List GKey), RangeIs encK ev okK wr b W.heap.size l ss ∧ J ss wr)
    (fun _ wr => wr.rangeLeft b W.heap.size)
  case atStart =>
    exact ⟨[], hrg0, hJ [] W w0 none h0 hg0 (fun r e => by cases e)⟩
  case round =>
    obtain ⟨ss, hrg, hJs⟩ := hrel
    gi_wp2_with (first
      | (gi_at_next; refine wpListIn_next_is encK_M rfl _ rfl rfl hrg ?_ ?_)
      | gi_in)
    · intro hp
      gi_wp2
      go_end0
      exact ⟨⟨_, rfl⟩, ss, hp, hJs⟩
    · intro x v w2 hmem hnot hrg2 hg2 hs2 hlt hen
      have hJ2 : J ss w2 := hJ ss wr w2 (some W.heap.size) hJs hg2 (fun r e => by cases e; exact ⟨Nat.le_refl _, hrg.iter⟩)
      have hlen : ss.length < l.length := by
        obtain ⟨es, clock, since, seen, c0, _, _, _, _, _, _, _, _, hd, hsub, _⟩ := hrg2
        have := nodup_len hd hsub
        simp at this
        omega
      obtain ⟨xc, xf⟩ := x
      simp only [encK] at hen
      obtain ⟨wb, hwb⟩ : ∃ wb, w2.alloc (.cells #[.int .i64 xc, .string xf] 95) = wb := ⟨_, rfl⟩
      have hcb0 : wb.cell? ⟨w2.heap.size, 0, none⟩ = some (.int .i64 xc) := by rw [← hwb]; unfold World.cell?; rw [heap_alloc_new]; rfl
      have hcb1 : wb.cell? ⟨w2.heap.size, 1, none⟩ = some (.string xf) := by rw [← hwb]; unfold World.cell?; rw [heap_alloc_new]; rfl
      have hgb : w2.grownBy wb none := by rw [← hwb]; exact ⟨rfl, rfl, rfl, by simp, fun i hi _ => Below.heap_alloc _ _ _ hi⟩
      have hkb : KeepsWalks w2 wb := by rw [← hwb]; exact KeepsWalks.alloc _ _
      have hJb : J ss wb := hJ ss w2 wb none hJ2 hgb (fun r e => by cases e)
      obtain ⟨fn, tmps, assign, body, hy, hR⟩ := hY ss ⟨xc, xf⟩ wb hJb hlen
      simp only [encK] at hy
      clear hs2
      simp only [encK]
      gi_wp2_with (rw [hwb])
      refine hR.mono ?_
      rintro e W3 ⟨rfl, hJ3, hk3⟩
      clear hwb
      gi_wp2
      have hk3' := hkb.trans hk3
      have hrg3 := hrg2.of_walks hk3'
      go_roundw
      case rel => exact ⟨ss ++ [_], hrg3, hJ3⟩
      case measure =>
        obtain ⟨o1, ho1, hw1⟩ := hrg2.iter
        obtain ⟨es2, c2, hm2, _⟩ := hrg2.map
        rw [left_eq (w := w2) (w' := W3) (by rw [hk3'.same _ _ hm2 rfl, hm2]) (by rw [hk3'.same _ _ ho1 hw1, ho1])]
        exact hlt

/-- What maps.Keys hands back, in the world behind the call, gives the keys. -/
theorem key_gives {V : Type} {ev : V → Value} (F : Fence) (n : Nat) (h10 : F.fn 106) (hro : F.round = none) (hn : 1 ≤ n) (Bm b : Nat) (l : List (GKey × V)) (w : World) (hBm : Bm < w.heap.size)
    (hm : w.cell? ⟨Bm, 0, none⟩ = some (.map (some b))) (hown : MapIs encK ev okK w b l) :
    SeqGives F n Tryz.prog 106 #[.pointer (some ⟨Bm, 0, none⟩)] encK (fun ss => ss.Perm (l.map Prod.fst)) l.length w := fun lp J W hW hJ hY h0 =>
  key_keys1 F n h10 hro hn lp Bm b l J hY W hJ ((hW.cell (p := ⟨Bm, 0, none⟩) hBm).trans hm) (hown.at_ (hW.block b hown.lt)) h0

set_option maxHeartbeats 1000000 in
theorem key_keys (mb : Option Nat) (w : World) : Calls Tryz.prog 83 #[.map mb] w fun e w' => e = .returned (.func (.func 106) #[] #[.pointer (some ⟨w.heap.size, 0, none⟩)]) ∧ w' = w.alloc (.cells #[.map mb] 157) := by
  go_enter Tryz.func83, Tryz.ntmps83
  go_wp2_with fail
  go_ret
  exact ⟨rfl, rfl⟩

end Go.Proofs.YtieaipclioppkaaGreat.Ks

/-! slices.Collect at our keys. (After the shape of the library's proof at keys of one cell.) -/
namespace Go.Proofs.YtieaipclioppkaaGreat.Co
open Go Go.RowKit Go.Maps Go.Sort Go.Proofs Go.Proofs.YtieaipclioppkaaGreatCore Go.Proofs.YtieaipclioppkaaGreat.Fr Go.Proofs.YtieaipclioppkaaGreat.Mp Go.Proofs.YtieaipclioppkaaGreat.Rgm Go.Proofs.YtieaipclioppkaaGreat.Ky Go.Proofs.YtieaipclioppkaaGreat.Ks

def cellsK (k : GKey) : List Value := [.int .i64 k.c, .string k.f]
theorem cellsK_len : ∀ ss : List GKey, (ss.flatMap cellsK).length = ss.length * 2
  | [] => rfl
  | k :: r => by rw [List.flatMap_cons, List.length_append, cellsK_len r, List.length_cons]; show 2 + _ = _; omega
theorem infoKey : (Tryz.prog.info? 95).map (fun i => (i.zero, i.size, i.bytes)) = some (some (.agg #[.int .i64 0, .string ⟨#[]⟩]), 2, 24) := by kernel_rfl

def apAssign : Code := Code.region 2
  #[{ dst := some 5, op := Op.alloc 95, type := 0, pos := "iter.go:51", after := #[], guard := none },
    { dst := none, op := Op.store 95 (Operand.tmp 5) (Operand.tmp 7), type := 0, pos := "iter.go:51", after := #[{ on := 0, ground := Ground.data }, { on := 0, ground := Ground.phase }], guard := none }] false
def apBody : Code := Code.block 1 (Code.region 3
  #[{ dst := some 8, op := Op.load 33 (Operand.tmp 2), type := 33, pos := "iter.go:52", after := #[], guard := none },
    { dst := some 9, op := Op.load 95 (Operand.tmp 5), type := 95, pos := "iter.go:52", after := #[], guard := none },
    { dst := some 10, op := Op.buildSlice 33 1 #[(0, Operand.tmp 9)], type := 33, pos := "iter.go:52", after := #[{ on := 1, ground := Ground.data }], guard := none },
    { dst := some 11, op := Op.call { callee := Callee.builtin Builtin.append, args := #[Operand.tmp 8, Operand.tmp 10], argTypes := #[33, 33] }, type := 33, pos := "iter.go:52", after := #[{ on := 0, ground := Ground.data }, { on := 2, ground := Ground.data }], guard := none },
    { dst := none, op := Op.store 33 (Operand.tmp 2) (Operand.tmp 11), type := 0, pos := "iter.go:52", after := #[{ on := 3, ground := Ground.data }, { on := 3, ground := Ground.chain }, { on := 0, ground := Ground.phase }, { on := 1, ground := Ground.phase }, { on := 2, ground := Ground.phase }, { on := 3, ground := Ground.phase }], guard := none }] false)

theorem cell_two_new (w : World) (x y : Value) (t : TypeId) : ∀ j u, [x, y][j]? = some u → (w.alloc (.cells #[x, y] t)).cell? ((⟨w.heap.size, 0, none⟩ : Addr).add j) = some u := by
  intro j u h
  rw [Addr.add_plain0]
  unfold World.cell?
  rw [heap_alloc_new]
  simpa using h

/-- The loop's record: AppendSeq's temporaries as they stood at the entering: 's' boxed in block Bs; sv: the iterator's value. -/
def apRec (fn : FuncId) (sv : Value) (Bs D : Nat) (st : LoopState) (pend : Option Code) : Loop :=
  { state := st, pending := pend, fn, tmps := #[.slice none 0 0, sv, .pointer (some ⟨Bs, 0, none⟩), undef, .slice none 0 0, undef, sv, undef, undef, undef, undef, undef, undef], params := #[7], assign := apAssign, body := apBody, defers := D }

/-- BETWEEN TWO ROUNDS: the box holds a slice that owns, in a block of the call's own, what has come so far; IT IS nil JUST AS LONG AS NOTHING HAS COME; nothing that lay before the call has turned. -/
structure ApAt (w0 : World) (fn : FuncId) (sv : Value) (Bs l D : Nat) (ss : List GKey) (W : World) : Prop where
  box : ∃ v, W.heap[Bs]? = some (.cells #[v] 33 (0, 0)) ∧ W.ownsRow w0.heap.size 95 2 v ss.length (ss.flatMap cellsK) ∧ (v = .slice none 0 0 ↔ ss = [])
  L : W.heap[l]? = some (.loop (apRec fn sv Bs D .ready none))
  K : W.heap[D]? = some (.deferred (some []))
  below : Below w0.heap.size w0 W

theorem ap_abides (w0 : World) (fn : FuncId) (sv : Value) (Bs l D B : Nat) (hB : w0.heap.size ≤ B) : AbidesFrom B (ApAt w0 fn sv Bs l D) := fun s W W' row h hg hrow => by
  have hrow' : ∀ r, row = some r → ∃ o : Obj, W.heap[r]? = some o ∧ o.isWalk = true := fun r e => (hrow r e).2
  obtain ⟨v, hv, hr, hn⟩ := h.box
  exact ⟨⟨v, (grownBy_keeps hg hrow' hv rfl).trans hv, ownsRow_abides_a hr hg hrow', hn⟩, (grownBy_keeps hg hrow' h.L rfl).trans h.L, (grownBy_keeps hg hrow' h.K rfl).trans h.K,
    h.below.grown hg h.below.size (fun k e => Nat.le_trans hB (hrow k e).1)⟩

set_option maxRecDepth 100000 in
set_option maxHeartbeats 2000000 in
theorem apYield (F : Fence) (m : Nat) (w0 : World) (fn : FuncId) (hfn : F.fn fn) (sv : Value) (Bs l D : Nat) (hBl : Bs ≠ l) (hDl : D ≠ l) (hDB : D ≠ Bs) (h0B : w0.heap.size ≤ Bs) (h0l : w0.heap.size ≤ l)
    (N : Nat) (hN : N ≤ maxLen) (hNb : N * 24 ≤ 140737488355328) (ss : List GKey) (x : GKey) (W : World) (h : ApAt w0 fn sv Bs l D ss W) (hlen : ss.length < N) :
    YieldAt F m Tryz.prog l #[encK x] W fun e W' => e = .returned (.bool true) ∧ ApAt w0 fn sv Bs l D (ss ++ [x]) W' ∧ KeepsWalks W W' := by
  have hne : (33 : Nat) ≠ 95 := by decide
  obtain ⟨i0, hi, hz0, hz1, hz2⟩ := info_parts infoKey
  obtain ⟨v, hv, hrow, _⟩ := h.box
  refine ⟨fn, #[.slice none 0 0, sv, .pointer (some ⟨Bs, 0, none⟩), undef, .slice none 0 0, undef, sv, encK x, undef, undef, undef, undef, undef], apAssign, apBody, by simpa [apRec] using run_yield (P := Tryz.prog) (args := #[encK x]) h.L rfl, roundIn_of_wpIn hfn ?_⟩
  have hl : l < W.heap.size := (Array.getElem?_eq_some_iff.1 h.L).1
  obtain ⟨xc, xf⟩ := x
  simp only [encK]
  obtain ⟨Wv, hWv⟩ : ∃ Wv, W.alloc (.cells #[.int .i64 xc, .string xf] 95) = Wv := ⟨_, rfl⟩
  have hgv : W.grownBy Wv none := by rw [← hWv]; exact ⟨rfl, rfl, rfl, by simp, fun i hi _ => Below.heap_alloc _ _ _ hi⟩
  have hkv : KeepsWalks W Wv := by rw [← hWv]; exact KeepsWalks.alloc _ _
  have hcv : Wv.heap[W.heap.size]? = some (.cells #[.int .i64 xc, .string xf] 95 (0, 0)) := by rw [← hWv]; exact heap_alloc_new _ _
  have hrowv : Wv.ownsRow w0.heap.size 95 2 v ss.length (ss.flatMap cellsK) := by rw [← hWv]; exact hrow.alloc _
  have hbv : Below w0.heap.size w0 Wv := h.below.grown hgv h.below.size (fun k e => by cases e)
  have hszv : Wv.heap.size = W.heap.size + 1 := by rw [← hWv]; simp
  have hBltW : Bs < W.heap.size := (Array.getElem?_eq_some_iff.1 hv).1
  have hDltW : D < W.heap.size := (Array.getElem?_eq_some_iff.1 h.K).1
  have hvv : Wv.heap[Bs]? = some (.cells #[v] 33 (0, 0)) := (hgv.block Bs hBltW (by simp)).trans hv
  have hLv : Wv.heap[l]? = some (.loop (apRec fn sv Bs D .ready none)) := (hgv.block l hl (by simp)).trans h.L
  have hKv : Wv.heap[D]? = some (.deferred (some [])) := (hgv.block D hDltW (by simp)).trans h.K
  have hbr := run_beginRound (P := Tryz.prog) hLv rfl
  obtain ⟨W2, hW2⟩ : ∃ W2, Wv.putObj l (.loop { apRec fn sv Bs D .ready none with state := .busy }) = W2 := ⟨_, rfl⟩
  rw [hW2] at hbr
  have hg2 : Wv.grownBy W2 (some l) := by rw [← hW2]; exact grownBy_putObj_a _ _ _
  have hk2 : KeepsWalks Wv W2 := by rw [← hW2]; exact KeepsWalks.putObj _ hLv rfl
  have hv2 : W2.heap[Bs]? = some (.cells #[v] 33 (0, 0)) := by rw [← hW2]; exact (World.putObj_heap_other hBl).trans hvv
  have hx2 : W2.heap[W.heap.size]? = some (.cells #[.int .i64 xc, .string xf] 95 (0, 0)) := by rw [← hW2]; exact (World.putObj_heap_other (by omega)).trans hcv
  have hK2 : W2.heap[D]? = some (.deferred (some [])) := by rw [← hW2]; exact (World.putObj_heap_other hDl).trans hKv
  have hL2 : W2.heap[l]? = some (.loop { apRec fn sv Bs D .ready none with state := .busy }) := by rw [← hW2]; exact World.putObj_heap_same (by omega)
  have hrow2 : W2.ownsRow w0.heap.size 95 2 v ss.length (ss.flatMap cellsK) := hrowv.kept hg2 (ownsRow_ne_a hrowv hLv (fun cur e => by first | cases e | exact hne (Obj.cells.inj e).2.1))
  have hb2 : Below w0.heap.size w0 W2 := hbv.grown hg2 hbv.size (fun k e => by cases e; exact h0l)
  obtain ⟨hc2, hf2⟩ := cell_of_box_a hv2
  have hcv0 : W2.cell? ⟨W.heap.size, 0, none⟩ = some (.int .i64 xc) := by unfold World.cell?; rw [hx2]; rfl
  have hcv1 : W2.cell? ⟨W.heap.size, 1, none⟩ = some (.string xf) := by unfold World.cell?; rw [hx2]; rfl
  have hBlt : Bs < W2.heap.size := (Array.getElem?_eq_some_iff.1 hv2).1
  have hl2 : l < W2.heap.size := (Array.getElem?_eq_some_iff.1 hL2).1
  have hDlt : D < W2.heap.size := (Array.getElem?_eq_some_iff.1 hK2).1
  have ne_of : ∀ {j : Nat} {o : Obj}, W2.heap[j]? = some o → (∀ cur, o ≠ .cells cur 95 (0, 0)) → some j ≠ v.ownBlock := fun hj hno => by
    rcases ownsRow_ne_a hrow2 hj hno with e | e
    · rw [e]; simp
    · exact fun e' => e e'.symm
  clear hW2
  unfold apAssign
  gi_wp2_with (first | (rw [hWv]) | gi_round_op_a)
  unfold apBody
  gi_wp2_with (first
    | (gi_at_builtin; refine wpListIn_append_own _ rfl _ _ 33 rfl w0.heap.size 95 i0 (.agg #[.int .i64 0, .string ⟨#[]⟩]) 2 24 Tryz.underlying33 hi hz0 hz1 hz2 rfl (by decide) _ _ _ rfl (hrow2.alloc _) ⟨W2.heap.size, 0, none⟩ 1 1 [.int .i64 xc, .string xf] rfl rfl (cell_two_new _ _ _ _) (by simp [Value.oneCell']) (by omega) (by omega) (by have := hb2.size; simp; omega) ?_; intro v' w3 hown' hg3 hnil3
       have hv3 : w3.heap[Bs]? = some (.cells #[v] 33 (0, 0)) := (hg3.block Bs (by simp; omega) (ne_of hv2 (fun cur e => by first | cases e | exact hne (Obj.cells.inj e).2.1))).trans ((Below.heap_alloc _ _ Bs hBlt).trans hv2)
       obtain ⟨hc3, hf3⟩ := cell_of_box_a hv3
       obtain ⟨g', cap', cur', rfl, hbase', hgb', hr1, hr2, hr3, hr4⟩ : ∃ g' cap' cur', v' = .slice (some ⟨g', 0, none⟩) (ss.length + 1) cap' ∧ w0.heap.size ≤ g' ∧ w3.heap[g']? = some (.cells cur' 95 (0, 0)) ∧ ss.length + 1 ≤ cap' ∧ cap' ≤ maxLen ∧ cur'.size = cap' * 2 ∧ cur'.toList.take ((ss.length + 1) * 2) = ss.flatMap cellsK ++ [.int .i64 xc, .string xf] := by
         rcases hown'.2 with ⟨_, h0⟩ | h'
         · exact absurd h0 (by omega)
         · exact h'
       go_frame)
    | gi_round_op_a)
  have hg3' : (W2.alloc (.cells #[.int .i64 xc, .string xf] 95)).grownBy w3 v.ownBlock := hg3
  have hL3 : w3.heap[l]? = some (.loop { apRec fn sv Bs D .ready none with state := .busy }) := (hg3'.block l (by simp; omega) (ne_of hL2 (fun cur e => by first | cases e | exact hne (Obj.cells.inj e).2.1))).trans ((Below.heap_alloc _ _ l hl2).trans hL2)
  have hK3 : w3.heap[D]? = some (.deferred (some [])) := (hg3'.block D (by simp; omega) (ne_of hK2 (fun cur e => by first | cases e | exact hne (Obj.cells.inj e).2.1))).trans ((Below.heap_alloc _ _ D hDlt).trans hK2)
  obtain ⟨w4, hw4⟩ : ∃ w4, w3.setCell ⟨Bs, 0, none⟩ (.slice (some ⟨g', 0, none⟩) (ss.length + 1) cap') = w4 := ⟨_, rfl⟩
  rw [hw4]
  have hg4 : w3.grownBy w4 (some Bs) := by rw [← hw4]; exact grownBy_setCell0_a _ _ _
  have hv4 : w4.heap[Bs]? = some (.cells #[.slice (some ⟨g', 0, none⟩) (ss.length + 1) cap'] 33 (0, 0)) := by rw [← hw4]; exact heap_setCell_box_a _ hv3
  have hL4 : w4.heap[l]? = some (.loop { apRec fn sv Bs D .ready none with state := .busy }) := (hg4.block l (Array.getElem?_eq_some_iff.1 hL3).1 (fun e => hBl (by cases e; rfl))).trans hL3
  have hK4 : w4.heap[D]? = some (.deferred (some [])) := (hg4.block D (Array.getElem?_eq_some_iff.1 hK3).1 (fun e => hDB (by cases e; rfl))).trans hK3
  have hrow4 := hown'.kept hg4 (ownsRow_ne_a hown' hv3 (fun cur e => by first | cases e | exact hne (Obj.cells.inj e).2.1))
  have hl4 : l < w4.heap.size := (Array.getElem?_eq_some_iff.1 hL4).1
  have hb3 : Below w0.heap.size w0 w3 := (hb2.alloc hb2.size _).grown hg3' (by have := hb2.size; simp; omega) (fun k e => (hrow2.lt k e).1)
  have hb4 : Below w0.heap.size w0 w4 := hb3.grown hg4 hb3.size (fun k e => by cases e; exact h0B)
  have hk4 : KeepsWalks W w4 := (((hkv.trans hk2).trans (KeepsWalks.alloc _ _)).trans (KeepsWalks.of_grownBy hg3' (ownsRow_not_walk_a (hrow2.alloc _)))).trans (by rw [← hw4]; exact KeepsWalks.setCell _ _ _)
  clear hw4
  refine ⟨_, _, run_endRound none hL4, rfl, ⟨⟨_, (World.putObj_heap_other hBl).trans hv4, ?_, by simp⟩, World.putObj_heap_same hl4, (World.putObj_heap_other hDl).trans hK4, hb4.grown (grownBy_putObj_a _ _ _) hb4.size (fun k e => by cases e; exact h0l)⟩, hk4.trans (KeepsWalks.putObj _ hL4 rfl)⟩
  have := hrow4.kept (grownBy_putObj_a w4 l (.loop { { apRec fn sv Bs D .ready none with state := .busy } with state := if (none : Option Code).isNone then .ready else .done, pending := none })) (ownsRow_ne_a hrow4 hL4 (fun cur e => by first | cases e | exact hne (Obj.cells.inj e).2.1))
  simpa [List.flatMap_append, cellsK] using this


set_option maxRecDepth 100000 in
set_option maxHeartbeats 2000000 in
/-- **slices.AppendSeq(nil, seq), AGAINST WHATEVER ITERATOR VALUE THAT 'SeqGives'**: it hands back a slice that owns, in a block of the call's own, JUST WHAT THE ITERATOR GAVE, IN THAT ORDER; nil JUST WHERE IT GAVE NOTHING (as Go: 'slices.Collect' of nothing is nil); nothing that lay before the call has turned. -/
theorem appendSeq_in (F : Fence) (n : Nat) (h11 : F.fn 111) (hro : F.round = none) (hn : 2 ≤ n) (g : Nat) (lb : Array Value) (hFg : F.fn g) (eg : ∀ args w, (callFunc g args).run Tryz.prog w = .ok (.enter g args) w)
    (S : List GKey → Prop) (N : Nat) (hN : N ≤ maxLen) (hNb : N * 24 ≤ 140737488355328) (w : World) (hseq : SeqGives F (n - 1) Tryz.prog g lb encK S N w) :
    CallsIn F n Tryz.prog 111 #[.slice none 0 0, .func (.func g) #[] lb] w fun e w' => ∃ (v : Value) (ss : List GKey), e = .returned v ∧ S ss ∧ w'.ownsRow w.heap.size 95 2 v ss.length (ss.flatMap cellsK) ∧ (v = .slice none 0 0 ↔ ss = []) ∧ Below w.heap.size w w' := by
  have h1 : 1 ≤ n := by omega
  have hne : (33 : Nat) ≠ 95 := by decide
  refine callsIn_of_wp_marks Tryz.func111 rfl h11 ?_ hro
  simp only [Tryz.ntmps111, List.size_toArray, List.length_cons, List.length_nil, Nat.reduceAdd, Nat.reduceSub, Array.replicate_succ, Array.replicate_zero, List.push_toArray, List.append_toArray, List.nil_append, List.cons_append]
  gi_wp2
  refine wpIn_rangeFunc ?_
  intro fn hfn
  rw [hro]
  obtain ⟨W0, hW0⟩ : ∃ W0, w.alloc (.cells #[.slice none 0 0] 33) = W0 := ⟨_, rfl⟩
  have hs0 : W0.heap.size = w.heap.size + 1 := by rw [← hW0]; simp
  have hv0 : W0.heap[w.heap.size]? = some (.cells #[.slice none 0 0] 33 (0, 0)) := by rw [← hW0]; exact World.alloc_heap_new w _
  have hb0 : Below w.heap.size w W0 := by rw [← hW0]; exact (Below.refl _ w).alloc (Nat.le_refl _) _
  rw [hW0]
  obtain ⟨W1, hW1⟩ : ∃ W1, (W0.alloc (.deferred (some []))).alloc (.loop (apRec fn (.func (.func g) #[] lb) w.heap.size W0.heap.size .ready none)) = W1 := ⟨_, rfl⟩
  have hold : ∀ k, k < W0.heap.size → W1.heap[k]? = W0.heap[k]? := fun k hk => by
    rw [← hW1]; exact (Below.heap_alloc _ _ k (by simp; omega)).trans (Below.heap_alloc _ _ k hk)
  have hb1 : Below w.heap.size w W1 := by rw [← hW1]; exact (hb0.alloc hb0.size _).alloc (by have := hb0.size; simp; omega) _
  have hs1 : W1.heap.size = W0.heap.size + 2 := by rw [← hW1]; simp
  have hM : ApAt w fn (.func (.func g) #[] lb) w.heap.size (W0.heap.size + 1) W0.heap.size [] W1 :=
    ⟨⟨_, (hold w.heap.size (by omega)).trans hv0, ⟨rfl, .inl ⟨rfl, rfl⟩⟩, by simp⟩,
     by rw [← hW1]; have := World.alloc_heap_new (W0.alloc (.deferred (some []))) (.loop (apRec fn (.func (.func g) #[] lb) w.heap.size W0.heap.size .ready none)); rwa [World.size_alloc] at this,
     by rw [← hW1]; exact (Below.heap_alloc _ _ _ (by simp)).trans (World.alloc_heap_new W0 _), hb1⟩
  refine ⟨W0.heap.size + 1, [{ target := .collected W0.heap.size, args := #[] }], W1, { target := .fn (.func g) lb, args := #[.func (.yield (W0.heap.size + 1)) #[] #[]] }, W1, g,
    #[.func (.yield (W0.heap.size + 1)) #[] #[]] ++ lb, W1, ?_, ?_, ?_, ?_, fun _ => h1, ?_⟩
  · rw [← hW1]; exact run_enterLoop_outer _ _ _ _ _
  · simp [resolve, go_sem]
  · intro f' hf'; simp [Target.leads] at hf'; subst hf'; exact hFg
  · simp [invoke, go_sem, eg]
  · refine (hseq (W0.heap.size + 1) (ApAt w fn (.func (.func g) #[] lb) w.heap.size (W0.heap.size + 1) W0.heap.size) W1 hb1 (ap_abides _ _ _ _ _ _ _ hb1.size)
      (fun pre x W hJ hl => apYield F (n - 1 - 1) w fn hfn _ w.heap.size (W0.heap.size + 1) W0.heap.size (by omega) (by omega) (by omega) (Nat.le_refl _) (by omega) N hN hNb pre x W hJ hl) hM).mono ?_
    rintro e W2 ⟨⟨v0, rfl⟩, ss, hS, h2⟩
    obtain ⟨v, hv, hrow, hnil⟩ := h2.box
    have hend := run_endLoop (P := Tryz.prog) h2.L (by simp [apRec])
    obtain ⟨W3, hW3⟩ : ∃ W3, W2.putObj (W0.heap.size + 1) (.loop { apRec fn (.func (.func g) #[] lb) w.heap.size W0.heap.size .ready none with state := .exhausted }) = W3 := ⟨_, rfl⟩
    rw [hW3] at hend
    have hg3 : W2.grownBy W3 (some (W0.heap.size + 1)) := by rw [← hW3]; exact grownBy_putObj_a _ _ _
    have hv3 : W3.heap[w.heap.size]? = some (.cells #[v] 33 (0, 0)) := by rw [← hW3]; exact (World.putObj_heap_other (by omega)).trans hv
    have hK3 : W3.heap[W0.heap.size]? = some (.deferred (some [])) := by rw [← hW3]; exact (World.putObj_heap_other (by omega)).trans h2.K
    have hrow3 := hrow.kept hg3 (ownsRow_ne_a hrow h2.L (fun cur e => by first | cases e | exact hne (Obj.cells.inj e).2.1))
    have hb3 : Below w.heap.size w W3 := h2.below.grown hg3 h2.below.size (fun k e => by cases e; omega)
    obtain ⟨hc3, hf3⟩ := cell_of_box_a hv3
    clear hW3
    refine ⟨none, W3, hend, ?_⟩
    gi_wp2
    rw [← hs0]
    refine ⟨by simp, .inl ⟨_, _, rfl, run_takeDeferred hK3, ?_⟩⟩
    exact ⟨_, results_tmp rfl _ _ _, v, ss, rfl, hS, hrow3.kept (grownBy_putObj_a _ _ _) (ownsRow_ne_a hrow3 hK3 (fun cur e => by first | cases e | exact hne (Obj.cells.inj e).2.1)), hnil, hb3.grown (grownBy_putObj_a _ _ _) hb3.size (fun k e => by cases e; omega)⟩



set_option maxHeartbeats 1000000 in
theorem collect_in (F : Fence) (n : Nat) (h8 : F.fn 104) (h11 : F.fn 111) (hro : F.round = none) (hn : 3 ≤ n) (g : Nat) (lb : Array Value) (hFg : F.fn g) (eg : ∀ args w, (callFunc g args).run Tryz.prog w = .ok (.enter g args) w)
    (S : List GKey → Prop) (N : Nat) (hN : N ≤ maxLen) (hNb : N * 24 ≤ 140737488355328) (w : World) (hseq : SeqGives F (n - 1 - 1) Tryz.prog g lb encK S N w) :
    CallsIn F n Tryz.prog 104 #[.func (.func g) #[] lb] w fun e w' => ∃ (v : Value) (ss : List GKey), e = .returned v ∧ S ss ∧ w'.ownsRow w.heap.size 95 2 v ss.length (ss.flatMap cellsK) ∧ (v = .slice none 0 0 ↔ ss = []) ∧ Below w.heap.size w w' := by
  have h1 : 1 ≤ n := by omega
  have e11 : ∀ args w, (callFunc 111 args).run Tryz.prog w = .ok (.enter 111 args) w := enters_of Tryz.func111 (by kernel_rfl) rfl
  refine callsIn_of_wp Tryz.func104 rfl h8 ?_ hro
  simp only [Tryz.ntmps104, List.size_toArray, List.length_cons, List.length_nil, Nat.reduceAdd, Nat.reduceSub, Array.replicate_succ, Array.replicate_zero, List.push_toArray, List.append_toArray, List.nil_append, List.cons_append]
  gi_wp2_with (gi_at_fn 111; refine (appendSeq_in F (n - 1) h11 hro (by omega) g lb hFg eg S N hN hNb _ hseq).mono ?_; rintro e w' ⟨v, ss, rfl, hS, hrow, hnil, hb⟩)
  go_ret
  exact ⟨v, ss, rfl, hS, hrow, hnil, hb⟩

end Go.Proofs.YtieaipclioppkaaGreat.Co
