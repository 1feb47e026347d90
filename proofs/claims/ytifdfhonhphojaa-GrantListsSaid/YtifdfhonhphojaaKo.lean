/- The order of our keys; plain. -/
import Derived.Test.YtifdfhonhphojaaSo
import Derived.Shelf.SlSortCmp.NoneTotal
namespace Go.Proofs.Ytifdfhonhphojaa.Ko
open Go Go.Lib Go.Sort Go.Proofs Go.Proofs.Ytifdfhonhphojaa.Ky Go.Proofs.Ytifdfhonhphojaa.So

theorem cb_self : ∀ a : List UInt8, compareBytes a a = 0
  | [] => rfl
  | x :: a => by
    unfold compareBytes
    rw [if_neg (UInt8.lt_irrefl x), if_neg (UInt8.lt_irrefl x)]
    exact cb_self a
theorem cb_eq : ∀ {a b : List UInt8}, compareBytes a b = 0 → a = b
  | [], [], _ => rfl
  | [], _ :: _, h => by simp [compareBytes] at h
  | _ :: _, [], h => by simp [compareBytes] at h
  | x :: a, y :: b, h => by
    unfold compareBytes at h
    split at h
    · omega
    · split at h
      · omega
      · rename_i h1 h2
        have : x = y := by
          rw [UInt8.not_lt] at h1 h2
          exact UInt8.le_antisymm h2 h1
        rw [this, cb_eq h]
theorem cb_swap : ∀ a b : List UInt8, compareBytes b a = - compareBytes a b
  | [], [] => rfl
  | [], _ :: _ => rfl
  | _ :: _, [] => rfl
  | x :: a, y :: b => by
    unfold compareBytes
    by_cases h1 : x < y
    · rw [if_pos h1, if_neg (UInt8.lt_asymm h1), if_pos h1]
      rfl
    · rw [if_neg h1]
      by_cases h2 : y < x
      · simp [h1, h2]
      · simp [h1, h2, cb_swap a b]
theorem cb_trans : ∀ {a b c : List UInt8}, compareBytes a b < 0 → compareBytes b c < 0 → compareBytes a c < 0
  | [], [], _, h, _ => by simp [compareBytes] at h
  | [], _ :: _, [], _, h => by simp [compareBytes] at h
  | [], _ :: _, _ :: _, _, _ => by simp [compareBytes]
  | _ :: _, [], _, h, _ => by simp [compareBytes] at h
  | _ :: _, _ :: _, [], _, h => by simp [compareBytes] at h
  | x :: a, y :: b, z :: c, h, k => by
    unfold compareBytes at h k ⊢
    by_cases h1 : x < y
    · by_cases k1 : y < z
      · rw [if_pos (UInt8.lt_trans h1 k1)]; omega
      · rw [if_neg k1] at k
        by_cases k2 : z < y
        · rw [if_pos k2] at k; omega
        · have : y = z := UInt8.le_antisymm (UInt8.not_lt.1 k2) (UInt8.not_lt.1 k1)
          rw [← this, if_pos h1]; omega
    · rw [if_neg h1] at h
      by_cases h2 : y < x
      · rw [if_pos h2] at h; omega
      · rw [if_neg h2] at h
        have : x = y := UInt8.le_antisymm (UInt8.not_lt.1 h2) (UInt8.not_lt.1 h1)
        subst this
        by_cases k1 : x < z
        · rw [if_pos k1]; omega
        · rw [if_neg k1] at k ⊢
          by_cases k2 : z < x
          · rw [if_pos k2] at k; omega
          · rw [if_neg k2] at k ⊢
            exact cb_trans h k

theorem ci_cases (x y : Int) : (x < y ∧ compareInt x y = -1) ∨ (y < x ∧ compareInt x y = 1) ∨ (x = y ∧ compareInt x y = 0) := by
  unfold compareInt
  by_cases h1 : x < y
  · exact .inl ⟨h1, if_pos h1⟩
  · by_cases h2 : x > y
    · exact .inr (.inl ⟨h2, by rw [if_neg h1, if_pos h2]⟩)
    · exact .inr (.inr ⟨by omega, by rw [if_neg h1, if_neg h2]⟩)
theorem cmp_neg (a b : GKey) : cmpK a b < 0 ↔ a.c < b.c ∨ (a.c = b.c ∧ compareBytes a.f.data.toList b.f.data.toList < 0) := by
  unfold cmpK orI
  rcases ci_cases a.c b.c with ⟨h, e⟩ | ⟨h, e⟩ | ⟨h, e⟩ <;> rw [e]
  · simp [h]
  · simp; omega
  · simp [h]
/-- One stands ahead of the other. -/
def ltK (a b : GKey) : Bool := decide (cmpK a b < 0)
theorem ltK_iff (a b : GKey) : ltK a b = true ↔ a.c < b.c ∨ (a.c = b.c ∧ compareBytes a.f.data.toList b.f.data.toList < 0) := by unfold ltK; rw [decide_eq_true_iff]; exact cmp_neg a b
theorem ltK_irrefl (a : GKey) : ltK a a = false := by
  rw [Bool.eq_false_iff]
  intro h
  rcases (ltK_iff a a).1 h with h | ⟨_, h⟩
  · omega
  · rw [cb_self] at h; omega
theorem ltK_trans {a b c : GKey} (h : ltK a b = true) (k : ltK b c = true) : ltK a c = true := by
  rw [ltK_iff] at h k ⊢
  rcases h with h | ⟨h, h2⟩ <;> rcases k with k | ⟨k, k2⟩
  · exact .inl (by omega)
  · exact .inl (by omega)
  · exact .inl (by omega)
  · exact .inr ⟨by omega, cb_trans h2 k2⟩
theorem ltK_total {a b : GKey} (h : ltK a b = false) (k : ltK b a = false) : a = b := by
  obtain ⟨ac, af⟩ := a
  obtain ⟨bc, bf⟩ := b
  have h1 : ¬ (ltK ⟨ac, af⟩ ⟨bc, bf⟩ = true) := by rw [h]; simp
  have k1 : ¬ (ltK ⟨bc, bf⟩ ⟨ac, af⟩ = true) := by rw [k]; simp
  rw [ltK_iff] at h1 k1
  simp only at h1 k1
  have hc : ac = bc := by omega
  subst hc
  have e1 : compareBytes af.data.toList bf.data.toList = 0 := by
    have := cb_swap af.data.toList bf.data.toList
    omega
  have e2 := cb_eq e1
  have : af = bf := by
    obtain ⟨⟨x⟩⟩ := af
    obtain ⟨⟨y⟩⟩ := bf
    simp at e2
    rw [e2]
  rw [this]
theorem ltK_ntrans {a b c : GKey} (h : ltK a b = false) (k : ltK b c = false) : ltK a c = false := by
  rw [Bool.eq_false_iff]
  intro hac
  cases hba : ltK b a with
  | true =>
    have := ltK_trans hba hac
    rw [k] at this
    cases this
  | false =>
    have := ltK_total h hba
    subst this
    rw [k] at hac
    cases hac
theorem lt_of : ltOf cmpK = ltK := rfl
theorem swoK : SWO (ltOf cmpK) := ⟨fun x => ltK_irrefl x, fun _ _ _ => ltK_trans, fun _ _ _ => ltK_ntrans⟩

/-- In order. -/
def sortK (l : List GKey) : List GKey := l.mergeSort fun x y => !ltK y x
theorem sortK_perm (l : List GKey) : (sortK l).Perm l := List.mergeSort_perm _ _
theorem sortK_sorted (l : List GKey) : (sortK l).Pairwise (fun a b => ltK b a = false) := by
  have h := List.pairwise_mergeSort (le := fun x y => !ltK y x) (fun a b c h k => by
    simp only [Bool.not_eq_true'] at h k ⊢
    exact ltK_ntrans k h) (fun a b => by
    cases h1 : ltK b a <;> cases h2 : ltK a b <;> simp
    have := ltK_trans h1 h2
    rw [ltK_irrefl] at this
    cases this) l
  exact h.imp (fun h => by simpa using h)
/-- Two lists in order of the same keys, each once, are one. -/
theorem eq_of_sorted : ∀ {a b : List GKey}, a.Perm b → a.Pairwise (fun x y => ltK x y = true) → b.Pairwise (fun x y => ltK x y = true) → a = b
  | [], b, hp, _, _ => (List.nil_perm.1 hp).symm
  | x :: a, [], hp, _, _ => by simp at hp
  | x :: a, y :: b, hp, ha, hb => by
    rw [List.pairwise_cons] at ha hb
    have hxy : x = y := by
      have hx : x ∈ y :: b := hp.mem_iff.1 (List.mem_cons_self ..)
      have hy : y ∈ x :: a := hp.mem_iff.2 (List.mem_cons_self ..)
      rcases List.mem_cons.1 hx with h | h
      · exact h
      · rcases List.mem_cons.1 hy with k | k
        · exact k.symm
        · have h1 := hb.1 x h
          have h2 := ha.1 y k
          have := ltK_trans h1 h2
          rw [ltK_irrefl] at this
          cases this
    subst hxy
    rw [eq_of_sorted (List.perm_cons _ |>.1 hp) ha.2 hb.2]
theorem strict_of {l : List GKey} (hn : l.Nodup) (hs : l.Pairwise (fun a b => ltK b a = false)) : l.Pairwise (fun x y => ltK x y = true) := by
  rw [List.nodup_iff_pairwise_ne] at hn
  exact (hn.and hs).imp (fun {a b} ⟨h1, h2⟩ => by
    cases h : ltK a b with
    | true => rfl
    | false => exact absurd (ltK_total h h2) h1)
theorem nodup_of_strict {l : List GKey} (hs : l.Pairwise (fun x y => ltK x y = true)) : l.Nodup := by
  rw [List.nodup_iff_pairwise_ne]
  exact hs.imp (fun {a b} h e => by rw [e, ltK_irrefl] at h; cases h)
theorem sortK_eq {a b : List GKey} (hn : a.Nodup) (hp : a.Perm b) (hb : b.Pairwise (fun x y => ltK x y = true)) : sortK a = b :=
  eq_of_sorted ((sortK_perm a).trans hp) (strict_of ((sortK_perm a).nodup_iff.2 hn) (sortK_sorted a)) hb

end Go.Proofs.Ytifdfhonhphojaa.Ko
