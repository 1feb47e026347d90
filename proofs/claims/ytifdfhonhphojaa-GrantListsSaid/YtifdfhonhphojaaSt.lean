/- Sets: maps all of whose elements are true. -/
import Derived.Test.YtifdfhonhphojaaMp
namespace Go.Proofs.Ytifdfhonhphojaa.St
open Go Go.RowKit Go.Proofs.YtifdfhonhphojaaCore Go.Proofs.Ytifdfhonhphojaa.Fr Go.Proofs.Ytifdfhonhphojaa.Mp
variable {K : Type} [DecidableEq K]
def tru (ks : List K) : List (K × Bool) := ks.map fun k => (k, true)
omit [DecidableEq K] in
theorem tru_fst (ks : List K) : (tru ks).map Prod.fst = ks := by simp [tru, List.map_map, Function.comp_def]
omit [DecidableEq K] in
theorem tru_len (ks : List K) : (tru ks).length = ks.length := by simp [tru]
theorem look_tru (ks : List K) (k : K) : ((Mp.look (tru ks) k).map Value.bool).getD (.bool false) = .bool (decide (k ∈ ks)) := by
  have h := look_iff (l := tru ks) (k := k)
  rw [tru_fst] at h
  cases hl : Mp.look (tru ks) k with
  | none =>
    rw [hl] at h
    have : ¬ k ∈ ks := fun hk => by have := h.2 hk; cases this
    simp [this]
  | some v =>
    rw [hl] at h
    have hk : k ∈ ks := h.1 rfl
    have hv : v = true := by
      have : ∀ l : List K, Mp.look (tru l) k = some v → v = true := by
        intro l
        induction l with
        | nil => intro h; cases h
        | cons a l ih =>
          intro h
          show v = true
          unfold tru at h
          rw [List.map_cons, Mp.look] at h
          split at h
          · injection h with h; exact h.symm
          · exact ih h
      exact this ks hl
    simp [hk, hv]
theorem put_tru {ks : List K} {k : K} (h : ¬ k ∈ ks) : put (tru ks) k true = tru (ks ++ [k]) := by
  rw [(look_none (l := tru ks) (k := k) (fun p hp e => by
    obtain ⟨x, hx, rfl⟩ := List.mem_map.1 hp
    exact h (e ▸ hx))).2.1]
  simp [tru]
theorem put_same {ks : List K} {k : K} (h : k ∈ ks) : put (tru ks) k true = tru ks := by
  induction ks with
  | nil => cases h
  | cons a ks ih =>
    unfold tru at ih ⊢
    rw [List.map_cons, put]
    by_cases e : a = k
    · rw [if_pos e, e]
    · rw [if_neg e]
      rcases List.mem_cons.1 h with h | h
      · exact absurd h.symm e
      · rw [ih h]
end Go.Proofs.Ytifdfhonhphojaa.St
