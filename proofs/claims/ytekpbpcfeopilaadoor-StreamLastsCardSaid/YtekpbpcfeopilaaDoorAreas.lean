/- Newest, Join, Split: closed forms of what the program and the reference compute, for lists of at most a million sectors and data of at most 20000 bytes. -/
import Derived.Test.YtekpbpcfeopilaaDoorPAreasx
import Derived.Test.YtekpbpcfeopilaaDoorA0
namespace Go.Proofs.YtekpbpcfeopilaaDoor.Areas
open Go Go.RowKit Go.Proofs.YtekpbpcfeopilaaDoorCore Go.Proofs.YtekpbpcfeopilaaDoor.Pars Go.Proofs.YtekpbpcfeopilaaDoor.Join Go.Proofs.YtekpbpcfeopilaaDoor.PAreas Go.Proofs.YtekpbpcfeopilaaDoorW.PrintWords Go.Proofs.YtekpbpcfeopilaaDoorW.PrintLast Go.Proofs.YtekpbpcfeopilaaDoorW.PrintMore
open Go.Proofs.YtekpbpcfeopilaaDoor.Amk (makeS makeE goodB cellS cellL good_true)

/-- The greatest generation. -/
def newL : List ByteArray → Int → Int
  | [], a => a
  | s :: r, a => newL r (if (parseS s).2.2.2 = true then (if a < (parseS s).1 then (parseS s).1 else a) else a)

theorem newL_at (l : List ByteArray) (k : Nat) (h : k < l.length) (a : Int) : newL (l.drop k) a = newL (l.drop (k + 1)) (if (parseS l[k]).2.2.2 = true then (if a < (parseS l[k]).1 then (parseS l[k]).1 else a) else a) := by
  rw [List.drop_eq_getElem_cons h, newL]

theorem rd_at (l : List ByteArray) (k : Nat) (h : k < l.length) : rdOf ByteArray.empty l (k : Int) = l[k] := by simp [rdOf, h]

theorem newest_loop (l : List ByteArray) (hl : l.length ≤ 1000000) : ∀ (m j k : Nat) (a : Int), j + m = l.length → m < k → area_Newest.l0 k a l (l.length : Int) (j : Int) = some (newL (l.drop j) a) := by
  intro m
  induction m with
  | zero =>
    intro j k a hj hk
    obtain ⟨k, rfl⟩ : ∃ j, k = j + 1 := ⟨k - 1, by omega⟩
    simp only [area_Newest.l0]
    rw [if_neg (by omega), List.drop_eq_nil_of_le (by omega)]
    rfl
  | succ m ih =>
    intro j k a hj hk
    obtain ⟨k, rfl⟩ : ∃ j, k = j + 1 := ⟨k - 1, by omega⟩
    simp only [area_Newest.l0, area_Parse.f]
    rw [if_pos (by omega), if_pos (by omega), if_pos (by omega), rd_at l j (by omega)]
    simp only [Option.bind_some]
    have e : wrap64 ((j : Int) + 1) = ((j + 1 : Nat) : Int) := by unfold wrap64; omega
    rw [e, newL_at l j (by omega) a]
    by_cases h : (parseS l[j]).2.2.2 = true
    · rw [if_pos h, if_pos h, ih (j + 1) k _ (by omega) (by omega)]
      rfl
    · rw [if_neg h, if_neg h, ih (j + 1) k _ (by omega) (by omega)]
theorem newest_f (l : List ByteArray) (hl : l.length ≤ 1000000) : area_Newest.f (l.length + 1) l = some (newL l 0) := by
  have := newest_loop l hl l.length 0 (l.length + 1) 0 (by omega) (by omega)
  simpa [area_Newest.f] using this

/-! Split -/
theorem good_f (g i : Int) : area_good.f g i = some (goodB g i) := by
  unfold area_good.f goodB
  by_cases h1 : g ≥ 1
  · rw [if_pos h1]
    by_cases h2 : g ≤ 281474976710655
    · rw [if_pos h2]
      by_cases h3 : i ≥ 0
      · rw [if_pos h3]; simp only [Option.some.injEq, decide_eq_decide]; omega
      · rw [if_neg h3, decide_eq_false (by omega)]
    · rw [if_neg h2, decide_eq_false (by omega)]
  · rw [if_neg h1, decide_eq_false (by omega)]

/-- The sectors of data, by definition. -/
def splitL (g : Int) : Nat → Int → ByteArray → List ByteArray
  | 0, _, _ => []
  | m + 1, i, d => if d.size < 55 then [makeS g i d] else makeS g i (d.extract 0 55) :: splitL g m (i + 1) (d.extract 55 d.size)

theorem splitL_length (g : Int) : ∀ (m : Nat) (i : Int) (d : ByteArray), (splitL g m i d).length ≤ m := by
  intro m
  induction m with
  | zero => intro i d; simp [splitL]
  | succ m ih =>
    intro i d
    unfold splitL
    split
    · simp
    · have := ih (i + 1) (d.extract 55 d.size)
      simp; omega

theorem wrap_id {x : Int} (h : -9223372036854775808 ≤ x) (h2 : x ≤ 9223372036854775807) : wrap64 x = x := by unfold wrap64; omega

theorem extract_all (d : ByteArray) : d.extract 0 d.size = d := by
  apply ByteArray.ext
  simp

theorem extract_size (d : ByteArray) (a b : Nat) (h : b ≤ d.size) : (d.extract a b).size = b - a := by
  simp [ByteArray.size_extract]; omega

theorem split_loop (g : Int) : ∀ (m k : Nat) (i : Int) (d : ByteArray) (acc : List ByteArray), d.size < 55 * m → m < k → 0 ≤ i → i + m ≤ 9223372036854775000 → acc.length + m ≤ 8796093022208 →
    area_Split.l0 (k + 1) g i d acc false = some (acc ++ splitL g m i d, 0) := by
  intro m
  induction m with
  | zero => intro k i d acc hd; omega
  | succ m ih =>
    intro k i d acc hd hk hi hi2 hl
    simp only [area_Split.l0, area_Make.f]
    rw [if_neg (by simp)]
    by_cases h : d.size < 55
    · have e : mn 55 (d.size : Int) = (d.size : Int) := by unfold mn; split <;> omega
      rw [e, if_pos (by omega), if_pos (by omega)]
      simp only [Option.bind_some]
      rw [if_pos (by omega)]
      have e2 : decide ((d.size : Int) < 55) = true := by simp; omega
      rw [e2, Int.toNat_natCast, extract_all]
      obtain ⟨k, rfl⟩ : ∃ j, k = j + 1 := ⟨k - 1, by omega⟩
      simp only [area_Split.l0]
      rw [if_pos trivial]
      simp [splitL, h]
    · have e : mn 55 (d.size : Int) = 55 := by unfold mn; split <;> omega
      rw [e, if_pos (by omega), if_pos (by omega)]
      simp only [Option.bind_some]
      rw [if_pos (by omega), wrap_id (by omega) (by omega)]
      have e2 : decide ((55 : Int) < 55) = false := by decide
      rw [e2]
      have e3 : (55 : Int).toNat = 55 := rfl
      rw [e3]
      obtain ⟨k, rfl⟩ : ∃ j, k = j + 1 := ⟨k - 1, by omega⟩
      rw [ih k (i + 1) (d.extract 55 d.size) _ (by rw [extract_size _ _ _ (Nat.le_refl _)]; omega) (by omega) (by omega) (by omega) (by simp; omega)]
      simp [splitL, h]

/-- What Split answers. -/
def splitS (g i : Int) (d : ByteArray) : List ByteArray × Int :=
  if goodB g i = true then (if ((d.size / 55 : Nat) : Int) > 65535 - i then ([], 5) else (splitL g (d.size / 55 + 1) i d, 0)) else ([], 2)

theorem split_f (g i : Int) (d : ByteArray) (hd : d.size ≤ 20000) : area_Split.f 1000 g i d = some (splitS g i d) := by
  unfold area_Split.f splitS
  rw [good_f]
  simp only [Option.bind_some]
  by_cases hg : goodB g i = true
  · obtain ⟨_, h1, h2, h3, h4⟩ := good_true hg
    rw [if_pos hg, if_pos hg, wrap_id (by omega) (by omega), wrap_id (by omega) (by omega)]
    by_cases hl : ((d.size / 55 : Nat) : Int) > 65535 - i
    · rw [if_pos hl, if_pos (by omega)]
    · rw [if_neg hl, if_neg (by omega)]
      rw [show (1000 : Nat) = 999 + 1 from rfl, split_loop g (d.size / 55 + 1) 999 i d [] (by omega) (by omega) h3 (by omega) (by simp; omega)]
      rfl
  · rw [if_neg hg, if_neg hg]

end Go.Proofs.YtekpbpcfeopilaaDoor.Areas
