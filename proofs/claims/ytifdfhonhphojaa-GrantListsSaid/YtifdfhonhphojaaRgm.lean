/- Ranges over maps, as lists. Over whatever program. -/
import Derived.Test.YtifdfhonhphojaaMp
import Derived.Sort.MapsRangeIn
namespace Go.Proofs.Ytifdfhonhphojaa.Rgm
open Go Go.RowKit Go.Maps Go.MapKept Go.Proofs.YtifdfhonhphojaaCore Go.Proofs.Ytifdfhonhphojaa.Fr Go.Proofs.Ytifdfhonhphojaa.Mp
open Go.ChangeMaps (setBlock)

/-- A range under way; done: the keys that have come. -/
def RangeIs {K V : Type} (enc : K → Value) (ev : V → Value) (ok : K → Prop) (w : World) (b r : Nat) (l : List (K × V)) (done : List K) : Prop :=
  ∃ es clock since seen c0, w.heap[b]? = some (.map es clock) ∧ Stamped es clock ∧ es.toList.map (fun e => (e.key, e.val)) = l.map (fun p => (enc p.1, ev p.2)) ∧ (∀ p ∈ l, ok p.1) ∧
    w.heap[r]? = some (.mapIter (some b) since seen c0) ∧ (∀ x ∈ es.toList, x.born < since) ∧ since ≤ c0 ∧ since ≤ clock ∧ done.Nodup ∧ (∀ k ∈ done, k ∈ l.map Prod.fst) ∧
    ∀ x ∈ es.toList, ∀ k, x.key = enc k → (seen.contains x.born = true ↔ k ∈ done)

section
variable {P : Program} {T MT E : TypeId} {K V : Type} {enc : K → Value} {ev : V → Value} {ok : K → Prop} {w w' : World} {b r : Nat} {l : List (K × V)} {done : List K}

theorem RangeIs.iter (h : RangeIs enc ev ok w b r l done) : ∃ o : Obj, w.heap[r]? = some o ∧ o.isWalk = true := by
  obtain ⟨es, clock, since, seen, c0, _, _, _, _, hr, _⟩ := h
  exact ⟨_, hr, rfl⟩
theorem RangeIs.map (h : RangeIs enc ev ok w b r l done) : MapIs enc ev ok w b l := by
  obtain ⟨es, clock, since, seen, c0, h1, h2, h3, h4, _⟩ := h
  exact ⟨es, clock, h1, h2, h3, h4⟩
theorem RangeIs.of_walks (h : RangeIs enc ev ok w b r l done) (hk : KeepsWalks w w') : RangeIs enc ev ok w' b r l done := by
  obtain ⟨es, clock, since, seen, c0, h1, h2, h3, h4, h5, h6⟩ := h
  exact ⟨es, clock, since, seen, c0, hk.same _ _ h1 rfl, h2, h3, h4, hk.same _ _ h5 rfl, h6⟩
theorem left_eq (h' : w'.heap[b]? = w.heap[b]?) (h2 : w'.heap[r]? = w.heap[r]?) : w'.rangeLeft b r = w.rangeLeft b r := by
  unfold World.rangeLeft
  rw [h', h2]

theorem range_is (ht : P.underlying MT = some (.map T E)) (h : MapIs enc ev ok w b l) :
    ∃ w', (Instr.range MT (.map (some b))).run P w = .ok (.pointer (some ⟨w.heap.size, 0, none⟩)) w' ∧ RangeIs enc ev ok w' b w.heap.size l [] ∧ w.grownBy w' none ∧ w'.heap.size = w.heap.size + 1 := by
  obtain ⟨es, clock, hb, hS, hl, ho⟩ := h
  have hbl := heap_lt hb
  refine ⟨w.alloc (.mapIter (some b) clock #[] clock), ?_, ⟨es, clock, clock, #[], clock, ?_, hS, hl, ho, heap_alloc_new _ _, ((stamped_iff es clock).1 hS).1, Nat.le_refl _, Nat.le_refl _, by simp, by simp, by simp⟩, ?_, by simp⟩
  · simp [Instr.range, run_underlying ht, MapKept.run_getObj_map hb, Result.andThen, go_sem]
  · exact Go.Proofs.YtifdfhonhphojaaCore.heap_alloc_old _ _ _ _ hb
  · exact ⟨rfl, rfl, rfl, by simp, fun i hi _ => Below.heap_alloc _ _ _ hi⟩

theorem RangeIs.next (M : MapEnc P T enc ok) (h : RangeIs enc ev ok w b r l done) (ty : TypeId) :
    (done.Perm (l.map Prod.fst) ∧ (Instr.next (.pointer (some ⟨r, 0, none⟩)) false ty).run P w = .ok (.tuple #[.bool false]) w) ∨
    ∃ k v w', (k, v) ∈ l ∧ ¬ k ∈ done ∧ (Instr.next (.pointer (some ⟨r, 0, none⟩)) false ty).run P w = .ok (.tuple #[.bool true, enc k, ev v]) w' ∧
      RangeIs enc ev ok w' b r l (done ++ [k]) ∧ w.grownBy w' (some r) ∧ w'.heap.size = w.heap.size ∧ w'.rangeLeft b r < w.rangeLeft b r ∧ (Instr.entry (.pointer (some ⟨r, 0, none⟩))).run P w' = .ok (.tuple #[enc k, ev v]) w' := by
  have hn := h.map.nodup
  obtain ⟨es, clock, since, seen, c0, hb, hS, hl, ho, hr, hold, hsc, hsk, hdn, hdl, hseen⟩ := h
  have hne : r ≠ b := fun e => by rw [e, hb] at hr; cases hr
  have hent : ∀ x ∈ es.toList, ∃ p ∈ l, x.key = enc p.1 ∧ x.val = ev p.2 := fun x hx => by
    have : (x.key, x.val) ∈ l.map (fun p => (enc p.1, ev p.2)) := by rw [← hl]; exact List.mem_map.2 ⟨x, hx, rfl⟩
    obtain ⟨p, hp, e⟩ := List.mem_map.1 this
    injection e with e1 e2
    exact ⟨p, hp, e1.symm, e2.symm⟩
  have hent2 : ∀ p ∈ l, ∃ x ∈ es.toList, x.key = enc p.1 := fun p hp => by
    have : (enc p.1, ev p.2) ∈ es.toList.map (fun e => (e.key, e.val)) := by rw [hl]; exact List.mem_map.2 ⟨p, hp, rfl⟩
    obtain ⟨x, hx, e⟩ := List.mem_map.1 this
    injection e with e1 e2
    exact ⟨x, hx, e1⟩
  rcases run_next_at (P := P) w ty r b since c0 seen es clock hr hb hold hsc with ⟨h0, hrun⟩ | ⟨e, he, w1, hal, hrun⟩
  · refine .inl ⟨?_, hrun⟩
    rw [List.perm_ext_iff_of_nodup hdn hn]
    intro k
    refine ⟨hdl k, fun hk => ?_⟩
    obtain ⟨p, hp, rfl⟩ := List.mem_map.1 hk
    obtain ⟨x, hx, hxk⟩ := hent2 p hp
    exact (hseen x hx _ hxk).1 (all_seen es seen h0 x hx)
  · obtain ⟨hem, hes⟩ := mem_left he
    obtain ⟨p, hp, hpk, hpv⟩ := hent e hem
    have hr1 : w1.heap[r]? = some (.mapIter (some b) since seen c0) := by rcases hal with rfl | rfl <;> exact hr
    have hb1 : w1.heap[b]? = some (.map es clock) := by rcases hal with rfl | rfl <;> exact hb
    have hset := heap_set (o' := .mapIter (some b) since (seen.push e.born) clock) hr1
    have hb' : (setBlock w1 r (.mapIter (some b) since (seen.push e.born) clock)).heap[b]? = some (.map es clock) := (hset.2 b (fun e1 => hne e1.symm)).trans hb1
    have hnot : ¬ p.1 ∈ done := fun hd => by
      have := (hseen e hem _ hpk).2 hd
      rw [hes] at this
      cases this
    refine .inr ⟨p.1, p.2, _, hp, hnot, by rw [← hpk, ← hpv]; exact hrun,
      ⟨es, clock, since, seen.push e.born, clock, hb', hS, hl, ho, hset.1, hold, hsk, hsk, ?_, ?_, ?_⟩, ?_, ?_, ?_, ?_⟩
    · rw [List.nodup_append]
      exact ⟨hdn, by simp, fun a ha b' hb' e' => hnot (by rw [List.mem_singleton.1 hb'] at e'; exact e' ▸ ha)⟩
    · intro k hk
      rcases List.mem_append.1 hk with hk | hk
      · exact hdl k hk
      · rw [List.mem_singleton.1 hk]; exact List.mem_map.2 ⟨p, hp, rfl⟩
    · intro x hx k hxk
      rw [contains_push, List.mem_append, List.mem_singleton, Bool.or_eq_true, hseen x hx k hxk]
      refine or_congr Iff.rfl ?_
      have hnodup := ((stamped_iff es clock).1 hS)
      constructor
      · intro hb2
        rw [beq_iff_eq] at hb2
        have : x = e := by
          obtain ⟨i, hi, rfl⟩ := List.mem_iff_getElem.1 hx
          obtain ⟨j, hj, rfl⟩ := List.mem_iff_getElem.1 hem
          have h2 := hnodup.2.1
          have : i = j := by
            exact (List.getElem_inj h2 (h₀ := by simpa using hi) (h₁ := by simpa using hj)).1 (by simpa using hb2)
          subst this
          rfl
        rw [this, hpk] at hxk
        exact (M.inj _ _ hxk).symm
      · intro hk
        subst hk
        have hxe : x.key = e.key := by rw [hxk, hpk]
        have h3 := hnodup.2.2
        rw [List.pairwise_iff_getElem] at h3
        obtain ⟨i, hi, rfl⟩ := List.mem_iff_getElem.1 hx
        obtain ⟨j, hj, rfl⟩ := List.mem_iff_getElem.1 hem
        rcases Nat.lt_trichotomy i j with h | h | h
        · exact absurd hxe (h3 i j hi hj h)
        · subst h; simp
        · exact absurd hxe.symm (h3 j i hj hi h)
    · rcases hal with rfl | rfl <;> exact ⟨rfl, rfl, rfl, by simp [setBlock], fun i _ hi => hset.2 i (fun e1 => hi (by rw [e1]))⟩
    · rcases hal with rfl | rfl <;> simp [setBlock]
    · unfold World.rangeLeft
      have e1 : (setBlock w1 r (.mapIter (some b) since (seen.push e.born) clock)).heap[r]? = some (.mapIter (some b) since (seen.push e.born) clock) := hset.1
      rw [hb', e1, hb, hr]
      exact left_shrinks es seen e he
    · rw [← hpk, ← hpv]
      exact run_entry_at _ r b since seen es clock e hset.1 hb' hem ((stamped_iff es clock).1 hS).2.1
end

section
variable {P : Program} {F : Fence} {n : Nat} {ops : Array Oper} {rest : List Oper} {o : Oper} {a : Act} {w : World} {Q : Exit → Act → World → Prop}
variable {T MT E : TypeId} {K V : Type} {enc : K → Value} {ev : V → Value} {ok : K → Prop} {b r : Nat} {l : List (K × V)} {done : List K}
theorem wpListIn_range_is (hg : o.guard = none) (m : Operand) (hop : o.op = Op.range MT m) (ht : P.underlying MT = some (.map T E)) (hm : a.eval m = .map (some b)) (h : MapIs enc ev ok w b l)
    (hK : ∀ w', RangeIs enc ev ok w' b w.heap.size l [] → w.grownBy w' none → w'.heap.size = w.heap.size + 1 → wpListIn F n P ops Q rest (a.put o.dst (.pointer (some ⟨w.heap.size, 0, none⟩))) w') :
    wpListIn F n P ops Q (o :: rest) a w := by
  refine wpListIn_plain hg fun K' hK' => ?_
  obtain ⟨w', hrun, r1, r2, r3⟩ := range_is ht h
  unfold Oper.wpIn
  refine ⟨?_, ?_⟩
  · simp [Oper.about, hop]
  · rw [Oper.semAt_plain F _ _ (by rw [hop]; intro c hc'; cases hc')]
    simp [execOp, hop, hm, hrun, Result.andThen]
    exact hK' _ _ (hK w' r1 r2 r3)
theorem wpListIn_next_is (M : MapEnc P T enc ok) (hg : o.guard = none) (it : Operand) (hop : o.op = Op.next it false) (hit : a.eval it = .pointer (some ⟨r, 0, none⟩)) (h : RangeIs enc ev ok w b r l done)
    (hDone : done.Perm (l.map Prod.fst) → wpListIn F n P ops Q rest (a.put o.dst (.tuple #[.bool false])) w)
    (hMore : ∀ k v w', (k, v) ∈ l → ¬ k ∈ done → RangeIs enc ev ok w' b r l (done ++ [k]) → w.grownBy w' (some r) → w'.heap.size = w.heap.size → w'.rangeLeft b r < w.rangeLeft b r → (Instr.entry (.pointer (some ⟨r, 0, none⟩))).run P w' = .ok (.tuple #[enc k, ev v]) w' → wpListIn F n P ops Q rest (a.put o.dst (.tuple #[.bool true, enc k, ev v])) w') :
    wpListIn F n P ops Q (o :: rest) a w := by
  refine wpListIn_plain hg fun K' hK' => ?_
  unfold Oper.wpIn
  refine ⟨by simp [Oper.about, hop], ?_⟩
  rw [Oper.semAt_plain F _ _ (by rw [hop]; intro c hc'; cases hc')]
  rcases h.next M o.type with ⟨h0, hrun⟩ | ⟨k, v, w', h1, h2, hrun, h3, h4, h5, h6, h7⟩
  · simp [execOp, hop, hit, hrun, Result.andThen]
    exact hK' _ _ (hDone h0)
  · simp [execOp, hop, hit, hrun, Result.andThen]
    exact hK' _ _ (hMore k v w' h1 h2 h3 h4 h5 h6 h7)
end

end Go.Proofs.Ytifdfhonhphojaa.Rgm
