/- GrantNames: the law's walk. -/
import Derived.Test.YtifdfhonhphojaaNamed
namespace Go.Proofs.Ytifdfhonhphojaa.LawNames
open Go Go.RowKit Go.Proofs.YtifdfhonhphojaaCore Go.Proofs.Ytifdfhonhphojaa.Named Go.Proofs.YtifdfhonhphojaaW.PrintWords Go.Proofs.YtifdfhonhphojaaW.PrintLast

theorem pay_named : namedB ⟨#[112, 97, 121]⟩ = true := by decide +kernel

set_option maxHeartbeats 4000000 in
set_option maxRecDepth 100000 in
theorem law (s : ByteArray) (w : World) : Calls Try.prog 3 #[.string s] w fun e w' => e = .returned (.bool true) ∧ Below w.heap.size w w' := by
  go_enter Try.func3, Try.ntmps3
  go_wp2_with fail
  refine (named_any _ _).mono ?_
  rintro e w1 ⟨rfl, hb1⟩
  rw [pay_named]
  go_wp2_with fail
  refine (named_any _ _).mono ?_
  rintro e w2 ⟨rfl, hb2⟩
  go_wp2_with fail
  refine (ref_any _ _).mono ?_
  rintro e w3 ⟨rfl, hb3⟩
  go_wp2_with fail
  refine bodyPost_ret (v := .bool true) (by simp [results, Try.results3, go_sem]) rfl ⟨rfl, ?_⟩
  obtain ⟨⟨n, rfl⟩⟩ := hb3
  exact hb1.trans ((hb2.trans (below_drewN n)).mono hb1.size)

end Go.Proofs.Ytifdfhonhphojaa.LawNames
