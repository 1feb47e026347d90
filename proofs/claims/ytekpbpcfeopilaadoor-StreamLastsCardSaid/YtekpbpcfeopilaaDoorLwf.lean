/- A loss of power that came in: its numbers are of their kinds. -/
import Derived.Test.YtekpbpcfeopilaaDoorOpens
namespace Go.Proofs.YtekpbpcfeopilaaDoor.Lwf
open Go
theorem loss_wf {x : Int × Int} (h : (Lit.int .i64 x.1).wf = true ∧ (Lit.int .u64 x.2).wf = true) : x.1 ≤ 9223372036854775807 ∧ 0 ≤ x.2 ∧ x.2 ≤ 18446744073709551615 := by
  obtain ⟨h1, h2⟩ := h
  unfold Lit.wf at h1 h2
  simp only [Bool.and_eq_true, decide_eq_true_eq] at h1 h2
  exact ⟨h1.2, h2.1, h2.2⟩
end Go.Proofs.YtekpbpcfeopilaaDoor.Lwf
