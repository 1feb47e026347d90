/- AreaSplits: the program's sectors of every data are the reference's, from every index on, or both have the same error. -/
import Derived.Test.YtekpbpcfeopilaaPAreaSpx3
import Derived.Test.YtekpbpcfeopilaaAwk
namespace Go.Proofs.Ytekpbpcfeopilaa.Pure
open Go.RowKit Go.Proofs.Ytekpbpcfeopilaa.PAreaSp Go.Proofs.YtekpbpcfeopilaaW.PrintWords Go.Proofs.YtekpbpcfeopilaaW.PrintLast
open Go.Proofs.Ytekpbpcfeopilaa.Amk (makeS makeE goodB cellS cellL good_true)

theorem wakes_true : precinctlaw07_wakes.f = some true := by
  unfold precinctlaw07_wakes.f area_Make.f
  decide +kernel

theorem good_f (g i : Int) : area_good.f g i = some (goodB g i) := by
  unfold area_good.f goodB
  by_cases h1 : g ≥ 1
  · rw [if_pos h1]
    by_cases h2 : g ≤ 281474976710655
    · rw [if_pos h2]
      by_cases h3 : i ≥ 0
      · rw [if_pos h3]; simp only [Option.some.injEq, decide_eq_decide]; omega
      · rw [if_neg h3, decide_eq_false (by omega)]
    · rw [if_neg h2, decide_eq_false (by omega)]
  · rw [if_neg h1, decide_eq_false (by omega)]

/-- The sectors of data, by definition. -/
def splitL (g : Int) : Nat → Int → ByteArray → List ByteArray
  | 0, _, _ => []
  | m + 1, i, d => if d.size < 55 then [makeS g i d] else makeS g i (d.extract 0 55) :: splitL g m (i + 1) (d.extract 55 d.size)

theorem splitL_length (g : Int) : ∀ (m : Nat) (i : Int) (d : ByteArray), (splitL g m i d).length ≤ m := by
  intro m
  induction m with
  | zero => intro i d; simp [splitL]
  | succ m ih =>
    intro i d
    unfold splitL
    split
    · simp
    · have := ih (i + 1) (d.extract 55 d.size)
      simp; omega

theorem wrap_id {x : Int} (h : -9223372036854775808 ≤ x) (h2 : x ≤ 9223372036854775807) : wrap64 x = x := by unfold wrap64; omega

theorem extract_all (d : ByteArray) : d.extract 0 d.size = d := by
  apply ByteArray.ext
  simp

theorem extract_size (d : ByteArray) (a b : Nat) (h : b ≤ d.size) : (d.extract a b).size = b - a := by
  simp [ByteArray.size_extract]; omega

theorem split_loop (g : Int) : ∀ (m k : Nat) (i : Int) (d : ByteArray) (acc : List ByteArray), d.size < 55 * m → m < k → 0 ≤ i → i + m ≤ 9223372036854775000 → acc.length + m ≤ 8796093022208 →
    area_Split.l0 (k + 1) g i d acc false = some (acc ++ splitL g m i d, 0) := by
  intro m
  induction m with
  | zero => intro k i d acc hd; omega
  | succ m ih =>
    intro k i d acc hd hk hi hi2 hl
    simp only [area_Split.l0, area_Make.f]
    rw [if_neg (by simp)]
    by_cases h : d.size < 55
    · have e : mn 55 (d.size : Int) = (d.size : Int) := by unfold mn; split <;> omega
      rw [e, if_pos (by omega), if_pos (by omega)]
      simp only [Option.bind_some]
      rw [if_pos (by omega)]
      have e2 : decide ((d.size : Int) < 55) = true := by simp; omega
      rw [e2, Int.toNat_natCast, extract_all]
      obtain ⟨k, rfl⟩ : ∃ j, k = j + 1 := ⟨k - 1, by omega⟩
      simp only [area_Split.l0]
      rw [if_pos trivial]
      simp [splitL, h]
    · have e : mn 55 (d.size : Int) = 55 := by unfold mn; split <;> omega
      rw [e, if_pos (by omega), if_pos (by omega)]
      simp only [Option.bind_some]
      rw [if_pos (by omega), wrap_id (by omega) (by omega)]
      have e2 : decide ((55 : Int) < 55) = false := by decide
      rw [e2]
      have e3 : (55 : Int).toNat = 55 := rfl
      rw [e3]
      obtain ⟨k, rfl⟩ : ∃ j, k = j + 1 := ⟨k - 1, by omega⟩
      rw [ih k (i + 1) (d.extract 55 d.size) _ (by rw [extract_size _ _ _ (Nat.le_refl _)]; omega) (by omega) (by omega) (by omega) (by simp; omega)]
      simp [splitL, h]

/-- What Split answers. -/
def splitS (g i : Int) (d : ByteArray) : List ByteArray × Int :=
  if goodB g i = true then (if ((d.size / 55 : Nat) : Int) > 65535 - i then ([], 5) else (splitL g (d.size / 55 + 1) i d, 0)) else ([], 2)

theorem split_f (g i : Int) (d : ByteArray) (hd : d.size ≤ 20000) : area_Split.f 1000 g i d = some (splitS g i d) := by
  unfold area_Split.f splitS
  rw [good_f]
  simp only [Option.bind_some]
  by_cases hg : goodB g i = true
  · obtain ⟨_, h1, h2, h3, h4⟩ := good_true hg
    rw [if_pos hg, if_pos hg, wrap_id (by omega) (by omega), wrap_id (by omega) (by omega)]
    by_cases hl : ((d.size / 55 : Nat) : Int) > 65535 - i
    · rw [if_pos hl, if_pos (by omega)]
    · rw [if_neg hl, if_neg (by omega)]
      rw [show (1000 : Nat) = 999 + 1 from rfl, split_loop g (d.size / 55 + 1) 999 i d [] (by omega) (by omega) h3 (by omega) (by simp; omega)]
      rfl
  · rw [if_neg hg, if_neg hg]

/-- The reference's Make, as it is told in the other print. -/
theorem refput_same : ∀ (k : Nat) (a b : Int) (c : ByteArray) (d : Int), precinctref01_Put.l0 k a b c d = Ytekpbpcfeopilaa.PAreaSplits.precinctref01_Put.l0 k a b c d := by
  intro k
  induction k with
  | zero => intro a b c d; rfl
  | succ k ih => intro a b c d; simp only [precinctref01_Put.l0, Ytekpbpcfeopilaa.PAreaSplits.precinctref01_Put.l0, ih]
theorem refpad_same : ∀ (k : Nat) (x : ByteArray), precinctref07_Make.l0 k x = Ytekpbpcfeopilaa.PAreaSplits.precinctref07_Make.l0 k x := by
  intro k
  induction k with
  | zero => intro x; rfl
  | succ k ih => intro x; simp only [precinctref07_Make.l0, Ytekpbpcfeopilaa.PAreaSplits.precinctref07_Make.l0, ih]
theorem refj_same (k : Nat) (b : Bool) (x y : Int) (z : ByteArray) : precinctref07_Make.j0 k b x y z = Ytekpbpcfeopilaa.PAreaSplits.precinctref07_Make.j0 k b x y z := by
  cases k with
  | zero => rfl
  | succ k => simp only [precinctref07_Make.j0, Ytekpbpcfeopilaa.PAreaSplits.precinctref07_Make.j0, precinctref01_Put.f, Ytekpbpcfeopilaa.PAreaSplits.precinctref01_Put.f, refput_same, refpad_same]
theorem ref_make (g i : Int) (d : ByteArray) : precinctref07_Make.f 100 g i d = some (makeS g i d, makeE g i d) := by
  rw [← Ytekpbpcfeopilaa.Awk.ref_make]
  unfold precinctref07_Make.f Ytekpbpcfeopilaa.PAreaSplits.precinctref07_Make.f
  simp only [refj_same]
theorem ref_make_k (k : Nat) (hk : 100 ≤ k) (g i : Int) (d : ByteArray) : precinctref07_Make.f k g i d = some (makeS g i d, makeE g i d) :=
  at_rounds (precinctref07_Make.mono g i d) hk (ref_make g i d)

theorem ref_loop (g : Int) : ∀ (m k : Nat) (i : Int) (d : ByteArray) (acc : List ByteArray), d.size < 55 * m → 55 * m ≤ d.size + 55 → m + 100 < k → 0 ≤ i → i ≤ 65535 → acc.length + m ≤ 8796093022208 →
    precinctref07_Split.l0 k g i d acc = some (if ((d.size / 55 : Nat) : Int) > 65535 - i then ([], 5) else (acc ++ splitL g m i d, 0)) := by
  intro m
  induction m with
  | zero => intro k i d acc hd; omega
  | succ m ih =>
    intro k i d acc hd hd2 hk hi hi2 hl
    obtain ⟨k, rfl⟩ : ∃ j, k = j + 1 := ⟨k - 1, by omega⟩
    simp only [precinctref07_Split.l0]
    rw [ref_make_k k (by omega), ref_make_k k (by omega)]
    simp only [Option.bind_some]
    by_cases h : d.size < 55
    · rw [if_neg (by omega), if_pos (by omega), if_neg (by omega)]
      simp [splitL, h]
    · rw [if_pos (by omega)]
      have hs : (d.extract 55 d.size).size = d.size - 55 := extract_size _ _ _ (Nat.le_refl _)
      by_cases h2 : i > 65534
      · rw [if_pos h2, if_pos (by omega)]
      · rw [if_neg h2, if_pos (by omega), if_pos (by omega), if_pos (by omega), wrap_id (by omega) (by omega)]
        rw [ih k (i + 1) (d.extract 55 d.size) _ (by rw [hs]; omega) (by rw [hs]; omega) (by omega) (by omega) (by omega) (by simp; omega), hs]
        have e : (((d.size - 55) / 55 : Nat) : Int) > 65535 - (i + 1) ↔ ((d.size / 55 : Nat) : Int) > 65535 - i := by omega
        simp only [e]
        simp [splitL, h]

theorem ref_j_true (k : Nat) (g i : Int) (d : ByteArray) : precinctref07_Split.j0 (k + 1) g i d true = some ([], 2) := by simp only [precinctref07_Split.j0]; rfl

theorem ref_split (g i : Int) (d : ByteArray) (hd : d.size ≤ 20000) : precinctref07_Split.f 1000 g i d = some (splitS g i d) := by
  unfold precinctref07_Split.f splitS
  by_cases h : goodB g i = true
  · obtain ⟨_, h2, h3, h4, h5⟩ := good_true h
    rw [if_neg (by omega), if_neg (by omega), if_neg (by omega), if_pos h]
    have e : decide (i > 65535) = false := by simp; omega
    rw [e]
    show precinctref07_Split.j0 (999 + 1) g i d false = _
    simp only [precinctref07_Split.j0]
    rw [if_neg (by simp), ref_loop g (d.size / 55 + 1) 999 i d [] (by omega) (by omega) (by omega) (by omega) (by omega) (by simp; omega)]
    rfl
  · rw [if_neg h]
    simp only [goodB, decide_eq_true_eq] at h
    by_cases a1 : g < 1
    · rw [if_pos a1]; exact ref_j_true 999 g i d
    · rw [if_neg a1]
      by_cases a2 : g > 281474976710655
      · rw [if_pos a2]; exact ref_j_true 999 g i d
      · rw [if_neg a2]
        by_cases a3 : i < 0
        · rw [if_pos a3]; exact ref_j_true 999 g i d
        · rw [if_neg a3]
          have e : decide (i > 65535) = true := by simp; omega
          rw [e]; exact ref_j_true 999 g i d

/-- A list is itself, cell by cell. -/
theorem same_loop (l : List ByteArray) : ∀ (m j k : Nat), j + m = l.length → l.length ≤ 1000 → m < k → precinctlaw07_AreaSplits.l0 k l l (l.length : Int) (j : Int) = some true := by
  intro m
  induction m with
  | zero =>
    intro j k hj hl hk
    obtain ⟨k, rfl⟩ : ∃ j, k = j + 1 := ⟨k - 1, by omega⟩
    simp only [precinctlaw07_AreaSplits.l0]
    rw [if_neg (by omega)]
  | succ m ih =>
    intro j k hj hl hk
    obtain ⟨k, rfl⟩ : ∃ j, k = j + 1 := ⟨k - 1, by omega⟩
    simp only [precinctlaw07_AreaSplits.l0]
    rw [if_pos (by omega), if_pos (by omega), if_pos (by omega), if_pos (by omega)]
    simp only [if_true]
    have e : wrap64 ((j : Int) + 1) = ((j + 1 : Nat) : Int) := by unfold wrap64; omega
    rw [e]
    exact ih (j + 1) k (by omega) hl (by omega)

theorem AreaSplits : precinctlaw07_AreaSplits.Pure := by
  intro g i d _ _ _
  refine ⟨1000, ?_⟩
  unfold precinctlaw07_AreaSplits.f
  have hm : mn (d.size : Int) 20000 = ((min d.size 20000 : Nat) : Int) := by unfold mn; split <;> omega
  rw [hm, if_pos (by omega), if_pos (by omega), Int.toNat_natCast]
  have hs : (d.extract 0 (min d.size 20000)).size ≤ 20000 := by rw [extract_size _ _ _ (by omega)]; omega
  generalize d.extract 0 (min d.size 20000) = x at hs ⊢
  rw [split_f g i x hs, ref_split g i x hs, wakes_true]
  simp only [Option.bind_some, if_true]
  have hl : (splitS g i x).1.length ≤ 900 := by
    unfold splitS
    have := splitL_length g (x.size / 55 + 1) i x
    (repeat' split) <;> simp <;> omega
  generalize splitS g i x = y at hl ⊢
  have e : ((y.1.length : Int) != (y.1.length : Int)) = false := by simp
  rw [e]
  show precinctlaw07_AreaSplits.j0 (999 + 1) _ _ _ = _
  simp only [precinctlaw07_AreaSplits.j0]
  rw [if_neg (by simp)]
  exact same_loop y.1 y.1.length 0 999 (by omega) (by omega) (by omega)

end Go.Proofs.Ytekpbpcfeopilaa.Pure
