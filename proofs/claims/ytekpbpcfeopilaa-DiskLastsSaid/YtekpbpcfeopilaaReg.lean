/- A region that draws its order, whose last operations write what its loads read: a condition S on the world is kept till operation t comes up. Over no program. (After the shape of the library's law for regions whose loads are held.) -/
import Derived.OrdersHeld
import Derived.Deep.RegionHeld
namespace Go.Proofs.Ytekpbpcfeopilaa.Reg
open Go

section
variable {P : Program} {ops : Array Oper} {Q : Exit → Act → World → Prop} {md : Region.Mode} {S : World → Prop} {t : Nat}

def wpAnyT (P : Program) (md : Region.Mode) (ops : Array Oper) (Q : Exit → Act → World → Prop) (S : World → Prop) (t : Nat) : Nat → Array Bool → Act → World → Prop
  | 0, listed, a, w => Region.ready md ops listed = [] ∧ Q .normal a w
  | fuel + 1, listed, a, w =>
    (Region.ready md ops listed = [] → Q .normal a w) ∧
    ∀ i ∈ Region.ready md ops listed, wpOp P ops Q i (fun a' w' => ((listed.setIfInBounds i true).getD t true = false → S w') ∧ wpAnyT P md ops Q S t fuel (listed.setIfInBounds i true) a' w') a w

theorem wpAny_of_T : ∀ (fuel : Nat) (listed : Array Bool) (a : Act) (w : World), wpAnyT P md ops Q S t fuel listed a w → wpAny P md ops Q fuel listed a w
  | 0, _, _, _, h => h
  | fuel + 1, _, _, _, h => ⟨h.1, fun i hi => wpOp_mono (fun a' w' h' => wpAny_of_T fuel _ a' w' h'.2) (h.2 i hi)⟩

theorem wpAnyT_first {i : Nat} {oi : Oper} {v : Value} (hi : ops[i]? = some oi) (hsel : ∀ (j : Nat) (o : Oper) cs b, ops[j]? = some o → o.op ≠ .select cs b)
    (hit : i ≠ t) {ot : Oper} (ht : ops[t]? = some ot) (hwait : ∃ e ∈ ot.after, Region.binds md e = true ∧ e.on = i)
    (hQ : ∀ c a w, Q (.panic c) (a.put oi.dst v) w → Q (.panic c) a w) :
    ∀ (fuel : Nat) (listed : Array Bool) (a : Act) (w : World),
      (∀ j oj, ops[j]? = some oj → j ≠ i → listed.getD j true = false → (∀ e ∈ oj.after, Region.binds md e = true → e.on ≠ i) → oi.apart ops oj = true) →
      i ∈ Region.ready md ops listed → YieldsIf P ops S oi v a → listed.getD t true = false → S w →
      wpAnyT P md ops Q S t fuel (listed.setIfInBounds i true) (a.put oi.dst v) w → wpAnyT P md ops Q S t (fuel + 1) listed a w := by
  intro fuel
  induction fuel with
  | zero =>
    intro listed a w _ hr hy _ hS H
    refine ⟨fun h => (by rw [h] at hr; cases hr), fun j hj => ?_⟩
    by_cases hji : j = i
    · subst hji; exact hy.wpOp hi hS ⟨fun _ => hS, H⟩
    · have := ready_mono hj hji
      rw [H.1] at this
      cases this
  | succ fuel ih =>
    intro listed a w hfree hr hy htl hS H
    refine ⟨fun h => (by rw [h] at hr; cases hr), fun j hj => ?_⟩
    by_cases hji : j = i
    · subst hji; exact hy.wpOp hi hS ⟨fun _ => hS, H⟩
    · have h1 := H.2 j (ready_mono hj hji)
      obtain ⟨hjun, oj, hoj, hall⟩ := mem_ready.1 hj
      have hnot : ∀ e ∈ oj.after, Region.binds md e = true → e.on ≠ i := fun e he hb heq => by
        have h1 := hall e he hb
        have h0 := (mem_ready.1 hr).1
        rw [heq] at h1
        rcases Nat.lt_or_ge i listed.size with h' | h'
        · simp [h'] at h0 h1; rw [h0] at h1; cases h1
        · simp [Array.getElem?_eq_none h'] at h1
      have hjt : j ≠ t := fun e => by
        subst e
        rw [ht] at hoj
        injection hoj with hoj
        subst hoj
        obtain ⟨e, he, hb, heq⟩ := hwait
        exact hnot e he hb heq
      have h2 := wpOp_putIf hoj (hfree j oj hoj hji hjun hnot) (fun cs b => hsel i oi cs b hi) (fun cs b => hsel j oj cs b hoj) hQ hy h1
      have hfree' : ∀ k ok, ops[k]? = some ok → k ≠ i → (listed.setIfInBounds j true).getD k true = false →
          (∀ e ∈ ok.after, Region.binds md e = true → e.on ≠ i) → oi.apart ops ok = true := fun k ok hk hki hun hno => by
        refine hfree k ok hk hki ?_ hno
        by_cases hjk : j = k
        · subst hjk; exact hjun
        · rw [getD_set_ne true hjk] at hun; exact hun
      have c1 : (listed.setIfInBounds j true).getD t true = false := by rw [getD_set_ne true hjt]; exact htl
      have c2 : ((listed.setIfInBounds i true).setIfInBounds j true).getD t true = false := by rw [getD_set_ne true hjt, getD_set_ne true hit]; exact htl
      refine wpOp_mono (fun a' w' h3 => ⟨fun _ => h3.2.1 c2, ih (listed.setIfInBounds j true) a' w' hfree' (ready_mono hr (Ne.symm hji)) h3.1 c1 (h3.2.1 c2) ?_⟩) h2
      rw [Array.setIfInBounds_comm _ _ hji]
      exact h3.2.2

/-- Does t wait for i? -/
def waitsB (md : Region.Mode) (ot : Oper) (i : Nat) : Bool := ot.after.any fun e => Region.binds md e && e.on == i

theorem wpAnyT_take {i : Nat} {oi ot : Oper} {v : Value} {fuel : Nat} {listed : Array Bool} {a : Act} {w : World} (hi : ops[i]? = some oi)
    (hs : Region.noSelect ops = true) (hf : Region.free md ops listed i = true) (hr : (Region.ready md ops listed).contains i = true)
    (ht : ops[t]? = some ot) (hit : (i == t) = false) (hwait : waitsB md ot i = true) (htl : listed.getD t true = false)
    (hQ : ∀ c a w, Q (.panic c) (a.put oi.dst v) w → Q (.panic c) a w) (hy : YieldsIf P ops S oi v a) (hS : S w)
    (h : wpAnyT P md ops Q S t fuel (listed.setIfInBounds i true) (a.put oi.dst v) w) : wpAnyT P md ops Q S t (fuel + 1) listed a w := by
  refine wpAnyT_first hi (Region.noSelect_spec hs) (by simpa using hit) ht ?_ hQ fuel listed a w (Region.free_spec hi hf) (by simpa using hr) hy htl hS h
  unfold waitsB at hwait
  rw [Array.any_eq_true] at hwait
  obtain ⟨k, hk, he⟩ := hwait
  rw [Bool.and_eq_true, beq_iff_eq] at he
  exact ⟨ot.after[k], Array.getElem_mem hk, he.1, he.2⟩

/-- One operation alone may come up. -/
theorem wpAnyT_one {j : Nat} {o : Oper} {fuel : Nat} {listed : Array Bool} {a : Act} {w : World} (hj : ops[j]? = some o) (hr : Region.ready md ops listed = [j])
    (h : ∀ K : Act → World → Prop, Shut (∀ a' w', ((listed.setIfInBounds j true).getD t true = false → S w') → wpAnyT P md ops Q S t fuel (listed.setIfInBounds j true) a' w' → K a' w') →
      if Region.wanted o (yielded ops a.tmps) = true then Oper.wp P o a w K Q else K (a.put o.dst undef) w) : wpAnyT P md ops Q S t (fuel + 1) listed a w := by
  refine ⟨fun h0 => (by rw [hr] at h0; cases h0), fun i hi => ?_⟩
  rw [hr] at hi
  rw [List.mem_singleton.1 hi]
  exact wpOp_step hj (fun K' hK => h K' (fun a w h1 h2 => hK a w ⟨h1, h2⟩))

theorem wpAnyT_done {listed : Array Bool} {a : Act} {w : World} (hr : Region.ready md ops listed = []) (h : Q .normal a w) : ∀ fuel, wpAnyT P md ops Q S t fuel listed a w
  | 0 => ⟨hr, h⟩
  | _ + 1 => ⟨fun _ => h, by rw [hr]; simp⟩

theorem getD_self (listed : Array Bool) (t : Nat) : (listed.setIfInBounds t true).getD t true = true := by
  by_cases h : t < listed.size
  · simp [h]
  · simp [h]
theorem past_t {p : Prop} {listed : Array Bool} {t : Nat} (h : (listed.setIfInBounds t true).getD t true = false) : p := by
  rw [getD_self] at h
  cases h

theorem wp_region_T (t : Nat) (S : World → Prop) {id : Nat} {a : Act} {w : World} (hm : P.follows .mixedOrders = true)
    (h : wpAnyT P .any ops Q S t ops.size (Array.replicate ops.size false) a w.drew) : (Code.region id ops true).wp P Q a w :=
  wp_region_any hm (wpAny_of_T _ _ _ _ h)
end

end Go.Proofs.Ytekpbpcfeopilaa.Reg
