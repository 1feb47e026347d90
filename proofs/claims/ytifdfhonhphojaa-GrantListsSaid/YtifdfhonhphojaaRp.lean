/- Who can be come to over edges: the plain law. No program in sight. -/
import Derived.Test.YtifdfhonhphojaaCore
namespace Go.Proofs.Ytifdfhonhphojaa.Rp

abbrev Edges := List (Int × Int)
inductive Conn (es : Edges) (a : Int) : Int → Prop
  | refl : Conn es a a
  | step {b c : Int} : Conn es a b → ((b, c) ∈ es ∨ (c, b) ∈ es) → Conn es a c
theorem Conn.trans {es : Edges} {a b c : Int} (h : Conn es a b) (k : Conn es b c) : Conn es a c := by
  induction k with
  | refl => exact h
  | step _ e ih => exact ih.step e
theorem Conn.symm {es : Edges} {a b : Int} (h : Conn es a b) : Conn es b a := by
  induction h with
  | refl => exact .refl
  | step _ e ih => exact (Conn.step .refl (e.symm)).trans ih
theorem Conn.mono {es es' : Edges} (hs : ∀ e ∈ es, e ∈ es') {a b : Int} (h : Conn es a b) : Conn es' a b := by
  induction h with
  | refl => exact .refl
  | step _ e ih => exact ih.step (e.imp (hs _) (hs _))

/-- Rising, and just those that can be come to. -/
structure IsReach (es : Edges) (a : Int) (l : List Int) : Prop where
  up : l.Pairwise (· < ·)
  mem : ∀ x, x ∈ l ↔ Conn es a x
theorem eq_of_up : ∀ {a b : List Int}, (∀ x, x ∈ a ↔ x ∈ b) → a.Pairwise (· < ·) → b.Pairwise (· < ·) → a = b
  | [], [], _, _, _ => rfl
  | [], y :: b, h, _, _ => by have := (h y).2 (List.mem_cons_self ..); cases this
  | x :: a, [], h, _, _ => by have := (h x).1 (List.mem_cons_self ..); cases this
  | x :: a, y :: b, h, ha, hb => by
    rw [List.pairwise_cons] at ha hb
    have hxy : x = y := by
      rcases List.mem_cons.1 ((h x).1 (List.mem_cons_self ..)) with e | e
      · exact e
      · rcases List.mem_cons.1 ((h y).2 (List.mem_cons_self ..)) with k | k
        · exact k.symm
        · have := hb.1 x e; have := ha.1 y k; omega
    subst hxy
    rw [eq_of_up (a := a) (b := b) (fun z => ⟨fun hz => by
      rcases List.mem_cons.1 ((h z).1 (List.mem_cons_of_mem _ hz)) with e | e
      · have := ha.1 z hz; omega
      · exact e, fun hz => by
      rcases List.mem_cons.1 ((h z).2 (List.mem_cons_of_mem _ hz)) with e | e
      · have := hb.1 z hz; omega
      · exact e⟩) ha.2 hb.2]
theorem IsReach.unique {es : Edges} {a : Int} {l l' : List Int} (h : IsReach es a l) (h' : IsReach es a l') : l = l' := eq_of_up (fun x => (h.mem x).trans (h'.mem x).symm) h.up h'.up
theorem IsReach.of {es : Edges} {a b : Int} {l : List Int} (h : IsReach es a l) (hb : Conn es a b) : IsReach es b l := ⟨h.up, fun x => (h.mem x).trans ⟨fun k => hb.symm.trans k, fun k => hb.trans k⟩⟩

/-! ### By a queue -/
def nbrs (n : Int) (es : Edges) : List Int := es.flatMap fun e => (if e.1 = n then [e.2] else []) ++ (if e.2 = n then [e.1] else [])
theorem mem_nbrs {n m : Int} {es : Edges} : m ∈ nbrs n es ↔ (n, m) ∈ es ∨ (m, n) ∈ es := by
  unfold nbrs
  rw [List.mem_flatMap]
  constructor
  · rintro ⟨⟨a, b⟩, he, h⟩
    rcases List.mem_append.1 h with h | h
    · simp only at h
      split at h
      · rename_i e; rw [List.mem_singleton.1 h]; subst e; exact .inl he
      · cases h
    · simp only at h
      split at h
      · rename_i e; rw [List.mem_singleton.1 h]; subst e; exact .inr he
      · cases h
  · rintro (h | h)
    · exact ⟨_, h, List.mem_append.2 (.inl (by simp))⟩
    · exact ⟨_, h, List.mem_append.2 (.inr (by simp))⟩
theorem nbrs_len (n : Int) (es : Edges) : (nbrs n es).length ≤ 2 * es.length := by
  induction es with
  | nil => simp [nbrs]
  | cons e es ih =>
    unfold nbrs at ih ⊢
    rw [List.flatMap_cons, List.length_append, List.length_cons]
    have : ((if e.1 = n then [e.2] else []) ++ (if e.2 = n then [e.1] else [])).length ≤ 2 := by
      rw [List.length_append]
      split <;> split <;> simp
    omega
/-- All that stand anywhere. -/
def univ (a : Int) (es : Edges) : List Int := a :: es.flatMap fun e => [e.1, e.2]
theorem univ_len (a : Int) (es : Edges) : (univ a es).length = 1 + 2 * es.length := by
  unfold univ
  rw [List.length_cons]
  have : (es.flatMap fun e => [e.1, e.2]).length = 2 * es.length := by
    induction es with
    | nil => rfl
    | cons e es ih => rw [List.flatMap_cons, List.length_append, ih, List.length_cons]; simp; omega
  omega
theorem univ_l {a : Int} {es : Edges} {e : Int × Int} (h : e ∈ es) : e.1 ∈ univ a es := List.mem_cons_of_mem _ (List.mem_flatMap.2 ⟨e, h, by simp⟩)
theorem univ_r {a : Int} {es : Edges} {e : Int × Int} (h : e ∈ es) : e.2 ∈ univ a es := List.mem_cons_of_mem _ (List.mem_flatMap.2 ⟨e, h, by simp⟩)
theorem nodup_len : ∀ {a b : List Int}, a.Nodup → (∀ x ∈ a, x ∈ b) → a.length ≤ b.length
  | [], _, _, _ => Nat.zero_le _
  | x :: a, b, h, hs => by
    rw [List.nodup_cons] at h
    have hx := hs x (List.mem_cons_self ..)
    have h1 := nodup_len (a := a) (b := b.erase x) h.2 (fun y hy => (List.mem_erase_of_ne (fun e => h.1 (by rw [← e]; exact hy))).2 (hs y (List.mem_cons_of_mem _ hy)))
    rw [List.length_erase_of_mem hx] at h1
    have := List.length_pos_of_mem hx
    simp only [List.length_cons]
    omega

theorem conn_univ {es : Edges} {a x : Int} (h : Conn es a x) : x ∈ univ a es := by
  induction h with
  | refl => exact List.mem_cons_self ..
  | step _ e _ =>
    rcases e with e | e
    · exact univ_r e
    · exact univ_l e
theorem IsReach.len {es : Edges} {a : Int} {l : List Int} (h : IsReach es a l) : l.length ≤ 1 + 2 * es.length := by
  rw [← univ_len a es]
  refine nodup_len ?_ (fun x hx => conn_univ ((h.mem x).1 hx))
  rw [List.nodup_iff_pairwise_ne]
  exact h.up.imp (fun h => by omega)

structure Bfs (es : Edges) (a : Int) (met q : List Int) : Prop where
  nd : met.Nodup
  inM : ∀ x ∈ met, x ∈ univ a es
  inQ : ∀ x ∈ q, x ∈ univ a es
  root : a ∈ met ∨ a ∈ q
  near : ∀ n ∈ met, ∀ m ∈ nbrs n es, m ∈ met ∨ m ∈ q
  conM : ∀ x ∈ met, Conn es a x
  conQ : ∀ x ∈ q, Conn es a x
/-- What is still to be done, at most. -/
def todo (es : Edges) (met q : List Int) : Nat := (1 + 2 * es.length - met.length) * (2 * es.length + 1) + q.length
theorem Bfs.start (es : Edges) (a : Int) : Bfs es a [] [a] :=
  ⟨by simp, by simp, fun x hx => by rw [List.mem_singleton.1 hx]; exact List.mem_cons_self .., .inr (by simp), by simp, by simp, fun x hx => by rw [List.mem_singleton.1 hx]; exact .refl⟩
theorem Bfs.len {es : Edges} {a : Int} {met q : List Int} (h : Bfs es a met q) : met.length ≤ 1 + 2 * es.length := by rw [← univ_len a es]; exact nodup_len h.nd h.inM
theorem Bfs.skip {es : Edges} {a n : Int} {met q : List Int} (h : Bfs es a met (n :: q)) (hn : n ∈ met) : Bfs es a met q := by
  have hr : ∀ x, x ∈ met ∨ x ∈ n :: q → x ∈ met ∨ x ∈ q := by
    rintro x (k | k)
    · exact .inl k
    · rcases List.mem_cons.1 k with e | k
      · exact .inl (e ▸ hn)
      · exact .inr k
  exact ⟨h.nd, h.inM, fun x hx => h.inQ x (List.mem_cons_of_mem _ hx), hr a h.root, fun m hm x hx => hr x (h.near m hm x hx), h.conM, fun x hx => h.conQ x (List.mem_cons_of_mem _ hx)⟩
theorem Bfs.meet {es : Edges} {a n : Int} {met q : List Int} (h : Bfs es a met (n :: q)) (hn : ¬ n ∈ met) : Bfs es a (met ++ [n]) (q ++ nbrs n es) := by
  have hr : ∀ x, x ∈ met ∨ x ∈ n :: q → x ∈ met ++ [n] ∨ x ∈ q ++ nbrs n es := by
    rintro x (k | k)
    · exact .inl (List.mem_append_left _ k)
    · rcases List.mem_cons.1 k with e | k
      · exact .inl (List.mem_append_right _ (by simp [e]))
      · exact .inr (List.mem_append_left _ k)
  have hcn := h.conQ n (List.mem_cons_self ..)
  refine ⟨?_, ?_, ?_, hr a h.root, ?_, ?_, ?_⟩
  · rw [List.nodup_append]
    exact ⟨h.nd, by simp, fun x hx y hy e => hn (by rw [List.mem_singleton.1 hy] at e; exact e ▸ hx)⟩
  · intro x hx
    rcases List.mem_append.1 hx with k | k
    · exact h.inM x k
    · rw [List.mem_singleton.1 k]; exact h.inQ n (List.mem_cons_self ..)
  · intro x hx
    rcases List.mem_append.1 hx with k | k
    · exact h.inQ x (List.mem_cons_of_mem _ k)
    · rcases mem_nbrs.1 k with k | k
      · exact univ_r k
      · exact univ_l k
  · intro m hm x hx
    rcases List.mem_append.1 hm with k | k
    · exact hr x (h.near m k x hx)
    · rw [List.mem_singleton.1 k] at hx
      exact .inr (List.mem_append_right _ hx)
  · intro x hx
    rcases List.mem_append.1 hx with k | k
    · exact h.conM x k
    · rw [List.mem_singleton.1 k]; exact hcn
  · intro x hx
    rcases List.mem_append.1 hx with k | k
    · exact h.conQ x (List.mem_cons_of_mem _ k)
    · exact hcn.step (mem_nbrs.1 k)
theorem todo_skip {es : Edges} {n : Int} {met q : List Int} : todo es met q + 1 = todo es met (n :: q) := by unfold todo; rw [List.length_cons]; omega
theorem todo_meet {es : Edges} {a n : Int} {met q : List Int} (h : Bfs es a met (n :: q)) (hn : ¬ n ∈ met) : todo es (met ++ [n]) (q ++ nbrs n es) < todo es met (n :: q) := by
  have h1 := (h.meet hn).len
  have h2 := nbrs_len n es
  unfold todo
  rw [List.length_append, List.length_singleton] at h1 ⊢
  rw [List.length_append, List.length_cons]
  obtain ⟨d, hd⟩ : ∃ d, 1 + 2 * es.length - met.length = d + 1 := ⟨1 + 2 * es.length - met.length - 1, by omega⟩
  rw [hd, show 1 + 2 * es.length - (met.length + 1) = d from by omega, Nat.add_mul, Nat.one_mul]
  omega
theorem Bfs.done {es : Edges} {a : Int} {met : List Int} (h : Bfs es a met []) : ∀ x, x ∈ met ↔ Conn es a x := by
  intro x
  refine ⟨h.conM x, fun hc => ?_⟩
  induction hc with
  | refl =>
    rcases h.root with k | k
    · exact k
    · cases k
  | step _ e ih =>
    rcases h.near _ ih _ (mem_nbrs.2 e) with k | k
    · exact k
    · cases k
def upL (l : List Int) : List Int := l.mergeSort fun x y => decide (x ≤ y)
theorem upL_perm (l : List Int) : (upL l).Perm l := List.mergeSort_perm _ _
theorem upL_up {l : List Int} (hn : l.Nodup) : (upL l).Pairwise (· < ·) := by
  have h := List.pairwise_mergeSort (le := fun x y : Int => decide (x ≤ y)) (fun a b c h k => by simp at h k ⊢; omega) (fun a b => by simp; omega) l
  have hn2 : (upL l).Nodup := (upL_perm l).nodup_iff.2 hn
  rw [List.nodup_iff_pairwise_ne] at hn2
  exact (hn2.and h).imp (fun {a b} ⟨h1, h2⟩ => by simp at h2; omega)
theorem Bfs.reach {es : Edges} {a : Int} {met ss : List Int} (h : Bfs es a met []) (hp : ss.Perm met) : IsReach es a (upL ss) :=
  ⟨upL_up (hp.nodup_iff.2 h.nd), fun x => ((upL_perm ss).mem_iff.trans hp.mem_iff).trans (h.done x)⟩

/-! ### By rounds over all edges -/
def ins (l : List Int) (n : Int) : List Int := match l with | [] => [n] | x :: r => if n < x then n :: x :: r else x :: ins r n
theorem mem_ins {l : List Int} {n x : Int} : x ∈ ins l n ↔ x = n ∨ x ∈ l := by
  induction l with
  | nil => simp [ins]
  | cons y r ih =>
    unfold ins
    split
    · simp
    · rw [List.mem_cons, ih, List.mem_cons]
      constructor
      · rintro (h | h | h)
        · exact .inr (.inl h)
        · exact .inl h
        · exact .inr (.inr h)
      · rintro (h | h | h)
        · exact .inr (.inl h)
        · exact .inl h
        · exact .inr (.inr h)
theorem ins_up {l : List Int} {n : Int} (h : l.Pairwise (· < ·)) (hn : ¬ n ∈ l) : (ins l n).Pairwise (· < ·) := by
  induction l with
  | nil => simp [ins]
  | cons y r ih =>
    rw [List.pairwise_cons] at h
    rw [List.mem_cons, not_or] at hn
    unfold ins
    split
    · rename_i hlt
      rw [List.pairwise_cons]
      refine ⟨fun z hz => ?_, List.pairwise_cons.2 h⟩
      rcases List.mem_cons.1 hz with e | hz
      · rw [e]; exact hlt
      · have := h.1 z hz; omega
    · rename_i hlt
      rw [List.pairwise_cons]
      refine ⟨fun z hz => ?_, ih h.2 hn.2⟩
      rcases mem_ins.1 hz with e | hz
      · rw [e]; have := hn.1; omega
      · exact h.1 z hz
def stepR (out : List Int) (e : Int × Int) : List Int :=
  if e.1 ∈ out ∧ ¬ e.2 ∈ out then ins out e.2 else if e.2 ∈ out ∧ ¬ e.1 ∈ out then ins out e.1 else out
def roundR (es : Edges) (out : List Int) : List Int := es.foldl stepR out
def rounds (es : Edges) : Nat → List Int → List Int
  | 0, out => out
  | k + 1, out => rounds es k (roundR es out)
structure Okr (es : Edges) (a : Int) (out : List Int) : Prop where
  up : out.Pairwise (· < ·)
  root : a ∈ out
  con : ∀ x ∈ out, Conn es a x
theorem step_ok {es : Edges} {a : Int} {out : List Int} {e : Int × Int} (h : Okr es a out) (he : e ∈ es) : Okr es a (stepR out e) := by
  unfold stepR
  split
  · rename_i hc
    refine ⟨ins_up h.up hc.2, mem_ins.2 (.inr h.root), fun x hx => ?_⟩
    rcases mem_ins.1 hx with rfl | hx
    · exact (h.con _ hc.1).step (.inl he)
    · exact h.con x hx
  · split
    · rename_i hc
      refine ⟨ins_up h.up hc.2, mem_ins.2 (.inr h.root), fun x hx => ?_⟩
      rcases mem_ins.1 hx with rfl | hx
      · exact (h.con _ hc.1).step (.inr he)
      · exact h.con x hx
    · exact h
theorem step_sub (out : List Int) (e : Int × Int) : ∀ x ∈ out, x ∈ stepR out e := by
  intro x hx
  unfold stepR
  split
  · exact mem_ins.2 (.inr hx)
  · split
    · exact mem_ins.2 (.inr hx)
    · exact hx
theorem fold_sub (es : Edges) : ∀ (out : List Int), ∀ x ∈ out, x ∈ es.foldl stepR out := by
  induction es with
  | nil => intro out x hx; exact hx
  | cons e es ih => intro out x hx; exact ih _ x (step_sub out e x hx)
theorem fold_ok {es : Edges} {a : Int} : ∀ (l : Edges) (out : List Int), (∀ e ∈ l, e ∈ es) → Okr es a out → Okr es a (l.foldl stepR out) := by
  intro l
  induction l with
  | nil => intro out _ h; exact h
  | cons e l ih => intro out hl h; exact ih _ (fun x hx => hl x (List.mem_cons_of_mem _ hx)) (step_ok h (hl e (List.mem_cons_self ..)))
/-- An edge both of whose ends are there. -/
def dead (out : List Int) (e : Int × Int) : Bool := decide (e.1 ∈ out) && decide (e.2 ∈ out)
def cross (out : List Int) (e : Int × Int) : Prop := (e.1 ∈ out ∧ ¬ e.2 ∈ out) ∨ (e.2 ∈ out ∧ ¬ e.1 ∈ out)
theorem step_same {out : List Int} {e : Int × Int} (h : ¬ cross out e) : stepR out e = out := by
  unfold stepR
  rw [if_neg (fun hc => h (.inl hc)), if_neg (fun hc => h (.inr hc))]
theorem step_dead {out : List Int} {e : Int × Int} (h : cross out e) : dead (stepR out e) e = true ∧ dead out e = false := by
  rcases h with h | h
  · have e1 : stepR out e = ins out e.2 := by unfold stepR; rw [if_pos h]
    rw [e1]
    unfold dead
    simp [mem_ins, h.1, h.2]
  · have e1 : stepR out e = ins out e.1 := by unfold stepR; rw [if_neg (fun hc => h.2 hc.1), if_pos h]
    rw [e1]
    unfold dead
    simp [mem_ins, h.1, h.2]
theorem dead_mono {out out' : List Int} (hs : ∀ x ∈ out, x ∈ out') (e : Int × Int) (h : dead out e = true) : dead out' e = true := by
  unfold dead at h ⊢
  simp at h ⊢
  exact ⟨hs _ h.1, hs _ h.2⟩
theorem fold_grow : ∀ (l : Edges) (out : List Int), (∀ e ∈ l, ¬ cross out e) ∨ ∃ e ∈ l, dead (l.foldl stepR out) e = true ∧ dead out e = false := by
  intro l
  induction l with
  | nil => intro out; exact .inl (by simp)
  | cons e l ih =>
    intro out
    by_cases hc : cross out e
    · obtain ⟨h1, h2⟩ := step_dead hc
      exact .inr ⟨e, List.mem_cons_self .., dead_mono (fold_sub l _) e h1, h2⟩
    · rw [List.foldl_cons, step_same hc]
      rcases ih out with h | ⟨x, hx, h1, h2⟩
      · refine .inl (fun x hx => ?_)
        rcases List.mem_cons.1 hx with rfl | hx
        · exact hc
        · exact h x hx
      · exact .inr ⟨x, List.mem_cons_of_mem _ hx, h1, h2⟩
theorem count_lt {p q : Int × Int → Bool} : ∀ (l : Edges), (∀ e, p e = true → q e = true) → (∃ e ∈ l, q e = true ∧ p e = false) → l.countP p < l.countP q
  | [], _, ⟨_, h, _⟩ => by cases h
  | x :: l, hpq, ⟨e, he, h1, h2⟩ => by
    have hle : l.countP p ≤ l.countP q := List.countP_mono_left (fun e _ h => hpq e h)
    rw [List.countP_cons, List.countP_cons]
    rcases List.mem_cons.1 he with rfl | he
    · rw [h1, h2]; simp; omega
    · have ih := count_lt l hpq ⟨e, he, h1, h2⟩
      cases hp : p x with
      | true => rw [hpq x hp]; simp; omega
      | false => simp; omega
def closed (es : Edges) (out : List Int) : Prop := ∀ e ∈ es, ¬ cross out e
theorem fold_closed {out : List Int} : ∀ (l : Edges), (∀ e ∈ l, ¬ cross out e) → l.foldl stepR out = out
  | [], _ => rfl
  | e :: l, h => by rw [List.foldl_cons, step_same (h e (List.mem_cons_self ..))]; exact fold_closed l (fun x hx => h x (List.mem_cons_of_mem _ hx))
theorem rounds_closed {es : Edges} : ∀ (k : Nat) (out : List Int), closed es out ∨ es.length < es.countP (dead out) + k → closed es (rounds es k out)
  | 0, out, h => by
    rcases h with h | h
    · exact h
    · have := List.countP_le_length (p := dead out) (l := es); omega
  | k + 1, out, h => by
    unfold rounds
    rcases h with h | h
    · refine rounds_closed k _ (.inl ?_)
      unfold roundR
      rw [fold_closed es h]
      exact h
    · rcases fold_grow es out with hc | hx
      · refine rounds_closed k _ (.inl ?_)
        unfold roundR
        rw [fold_closed es hc]
        exact hc
      · have := count_lt es (fun e h => dead_mono (fold_sub es out) e h) hx
        exact rounds_closed k _ (.inr (by unfold roundR; omega))
theorem rounds_ok {es : Edges} {a : Int} : ∀ (k : Nat) (out : List Int), Okr es a out → Okr es a (rounds es k out)
  | 0, _, h => h
  | k + 1, out, h => rounds_ok k _ (fold_ok es out (fun _ he => he) h)
theorem rounds_reach (es : Edges) (a : Int) : IsReach es a (rounds es (es.length + 1) [a]) := by
  have h1 : Okr es a (rounds es (es.length + 1) [a]) := rounds_ok _ _ ⟨by simp, by simp, fun x hx => by rw [List.mem_singleton.1 hx]; exact .refl⟩
  have h2 : closed es (rounds es (es.length + 1) [a]) := rounds_closed _ _ (.inr (by omega))
  refine ⟨h1.up, fun x => ⟨h1.con x, fun hc => ?_⟩⟩
  induction hc with
  | refl => exact h1.root
  | step _ e ih =>
    rename_i b c _
    exact Classical.byContradiction fun hn => by
      rcases e with e | e
      · exact h2 _ e (.inl ⟨ih, hn⟩)
      · exact h2 _ e (.inr ⟨ih, hn⟩)
theorem rounds_succ (es : Edges) : ∀ (k : Nat) (out : List Int), rounds es (k + 1) out = roundR es (rounds es k out)
  | 0, _ => rfl
  | k + 1, out => by
    rw [rounds, rounds_succ es k, rounds]

end Go.Proofs.Ytifdfhonhphojaa.Rp
