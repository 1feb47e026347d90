/- StreamCapacity: for every int the program's capacity is the reference's number; no condition. -/
import Derived.Test.YtekpbpcfeopilaaPStreamCapacityx1
namespace Go.Proofs.Ytekpbpcfeopilaa.Pure
open Go.RowKit Go.Proofs.Ytekpbpcfeopilaa.PStreamCapacity Go.Proofs.YtekpbpcfeopilaaW.PrintWords Go.Proofs.YtekpbpcfeopilaaW.PrintLast

theorem half_bd (a : Int) : 0 ≤ ((mx 1 (mn a 4096)) - 1) / 2 ∧ ((mx 1 (mn a 4096)) - 1) / 2 ≤ 2047 := by
  unfold mx mn
  constructor <;> (repeat' split) <;> omega

theorem capacity_at (a : Int) : stream_Capacity.f a = some (mx 0 (((mx 1 (mn a 4096)) - 1) / 2 * 55 - 1)) := by
  unfold stream_Capacity.f stream_size.f
  have hb := half_bd a
  generalize ((mx 1 (mn a 4096)) - 1) / 2 = t at hb ⊢
  simp only [Option.bind_some, Option.some.injEq]
  have e1 : wrap64 (t * 55) = t * 55 := by unfold wrap64; omega
  have e2 : wrap64 (t * 55 - 1) = t * 55 - 1 := by unfold wrap64; omega
  rw [e1, e2]

theorem ref_at (a : Int) (h : ¬ a < 3) (h2 : ¬ a > 4096) : precinctref08_Capacity.f a = some ((a - 1) / 2 * 55 - 1) := by
  unfold precinctref08_Capacity.f
  rw [if_neg h, if_neg h2]
  have e : wrap64 (a - 1) = a - 1 := by unfold wrap64; omega
  rw [e, Int.tdiv_eq_ediv_of_nonneg (by omega)]
  unfold wrap64
  simp only [Option.some.injEq]
  omega

theorem StreamCapacity : precinctlaw08_StreamCapacity.Pure := by
  intro a ha
  unfold precinctlaw08_StreamCapacity.f
  rw [capacity_at 5, capacity_at a]
  have h5 : mx 0 (((mx 1 (mn 5 4096)) - 1) / 2 * 55 - 1) = 109 := by decide
  rw [h5]
  simp only [Option.bind_some, if_true]
  by_cases h : a < 3
  · unfold precinctref08_Capacity.f
    rw [if_pos h]
    have e : mx 0 (((mx 1 (mn a 4096)) - 1) / 2 * 55 - 1) = 0 := by
      unfold mx mn
      (repeat' split) <;> omega
    rw [e]; rfl
  · by_cases h2 : a > 4096
    · unfold precinctref08_Capacity.f
      rw [if_neg h, if_pos h2]
      have e : mx 0 (((mx 1 (mn a 4096)) - 1) / 2 * 55 - 1) = (4096 - 1) / 2 * 55 - 1 := by
        unfold mx mn
        (repeat' split) <;> omega
      rw [e]; simp
    · rw [ref_at a h h2]
      have e : mx 0 (((mx 1 (mn a 4096)) - 1) / 2 * 55 - 1) = (a - 1) / 2 * 55 - 1 := by
        unfold mx mn
        (repeat' split) <;> omega
      rw [e]; simp

end Go.Proofs.Ytekpbpcfeopilaa.Pure
