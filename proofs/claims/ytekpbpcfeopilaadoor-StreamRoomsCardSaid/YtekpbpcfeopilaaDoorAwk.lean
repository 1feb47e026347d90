/- What the reference's Make answers, and the document's one sector: for every cell. -/
import Derived.Test.YtekpbpcfeopilaaDoorAmk
namespace Go.Proofs.YtekpbpcfeopilaaDoor.Awk
open Go Go.RowKit Go.Proofs.YtekpbpcfeopilaaDoorCore Go.Proofs.YtekpbpcfeopilaaDoor.Puts Go.Proofs.YtekpbpcfeopilaaDoor.Amk Go.Proofs.YtekpbpcfeopilaaDoor.PLeaf Go.Proofs.YtekpbpcfeopilaaDoorW.PrintWords Go.Proofs.YtekpbpcfeopilaaDoorW.PrintLast Go.Proofs.YtekpbpcfeopilaaDoorW.PrintMore

def abS : ByteArray := ⟨#[0, 0, 0, 0, 0, 1, 0, 2, 2, 97, 98, 0, 0, 0, 0, 0, 0, 0, 0, 0, 0, 0, 0, 0, 0, 0, 0, 0, 0, 0, 0, 0, 0, 0, 0, 0, 0, 0, 0, 0, 0, 0, 0, 0, 0, 0, 0, 0, 0, 0, 0, 0, 0, 0, 0, 0, 0, 0, 0, 0, 0, 0, 0, 0]⟩
theorem make_ab (w : World) : Calls Tryd.prog 20 #[.agg #[.int .i64 1, .int .i64 2, .string ⟨#[97, 98]⟩]] w fun e w' => e = .returned (.tuple #[.string abS, .int .i64 0]) ∧ Below w.heap.size w w' := by
  have h := make_all 1 2 ⟨#[97, 98]⟩ w
  have e1 : makeS 1 2 ⟨#[97, 98]⟩ = abS := by decide +kernel
  have e2 : makeE 1 2 ⟨#[97, 98]⟩ = 0 := by decide +kernel
  rw [e1, e2] at h
  exact h

set_option maxHeartbeats 4000000 in
set_option maxRecDepth 100000 in
theorem wakes_any (w : World) : Calls Tryd.prog 14 #[] w fun e w' => e = .returned (.bool true) ∧ Below w.heap.size w w' := by
  have hsz : abS.size = 64 := by decide +kernel
  have hex : (abS.extract 0 11).toList = [0, 0, 0, 0, 0, 1, 0, 2, 2, 97, 98] := by decide +kernel
  go_enter Tryd.func14, Tryd.ntmps14
  go_wp2_with (first | (go_at_call 20; refine (make_ab _).mono ?_; rintro e w4 ⟨rfl, hb⟩))
  go_ret
  exact ⟨rfl, hb⟩

/-- The reference's loop of noughts. -/
theorem pad_loop : ∀ (m k : Nat) (l : List UInt8), l.length + m = 64 → m < k → precinctref07_Make.l0 k ⟨l.toArray⟩ = some (⟨(l ++ List.replicate m 0).toArray⟩, 0) := by
  intro m
  induction m with
  | zero =>
    intro k l hl hk
    obtain ⟨k, rfl⟩ : ∃ j, k = j + 1 := ⟨k - 1, by omega⟩
    simp only [precinctref07_Make.l0]
    rw [if_neg (by simp [ByteArray.size]; omega)]
    simp
  | succ m ih =>
    intro k l hl hk
    obtain ⟨k, rfl⟩ : ∃ j, k = j + 1 := ⟨k - 1, by omega⟩
    simp only [precinctref07_Make.l0]
    rw [if_pos (by simp [ByteArray.size]; omega), if_pos (by simp [ByteArray.size]; omega)]
    have e : (⟨l.toArray⟩ : ByteArray) ++ ⟨#[0]⟩ = ⟨(l ++ [0]).toArray⟩ := append_str l [0]
    rw [e, ih k _ (by simp; omega) (by omega)]
    simp [List.replicate_succ]

theorem ref_make_true (k : Nat) (g i : Int) (d : ByteArray) : precinctref07_Make.j0 (k + 1) true g i d = some (⟨#[]⟩, 2) := by simp only [precinctref07_Make.j0]; rfl

theorem cellL_length (g i : Int) (d : ByteArray) : (cellL g i d).length = 9 + d.size := by simp [cellL, beL_length]; omega

theorem len_byte (n : Nat) : strOfNums [(n : Int) % 256] = be 1 n := by
  have e : (n : Int) % 256 = ((n % 256 : Nat) : Int) := by omega
  rw [e, str_one]
  simp [be, beL]

theorem ref_make_good (g i : Int) (d : ByteArray) (h1 : 1 ≤ g) (h2 : g ≤ 281474976710655) (h3 : 0 ≤ i) (h4 : i ≤ 65535) (h5 : d.size ≤ 55) : precinctref07_Make.j0 100 false g i d = some (cellS g i d, 0) := by
  have eg : IntKind.u64.wrap g = g := IntWalk.u64_in g ⟨by omega, by omega⟩
  have ei : IntKind.u64.wrap i = i := IntWalk.u64_in i ⟨by omega, by omega⟩
  have p1 : precinctref01_Put.f 99 6 g = some (be 6 g.toNat) := at_rounds (precinctref01_Put.mono 6 g) (k := 10) (by omega) (ref_put_f 6 g (by omega) (by omega) (by omega) (by omega))
  have p2 : precinctref01_Put.f 99 2 i = some (be 2 i.toNat) := at_rounds (precinctref01_Put.mono 2 i) (k := 10) (by omega) (ref_put_f 2 i (by omega) (by omega) (by omega) (by omega))
  have hc := cellL_length g i d
  have ec : be 6 g.toNat ++ be 2 i.toNat ++ be 1 d.size ++ d = ⟨(cellL g i d).toArray⟩ := by
    apply ByteArray.ext
    apply Array.toList_inj.1
    simp [be, cellL]
  show precinctref07_Make.j0 (99 + 1) false g i d = _
  simp only [precinctref07_Make.j0]
  rw [if_neg (by simp), if_neg (by omega), eg, ei, p1, p2]
  simp only [Option.bind_some]
  rw [len_byte _, if_pos (by simp only [be_size]; omega), if_pos (by simp only [ByteArray.size_append, be_size]; omega), if_pos (by simp only [ByteArray.size_append, be_size]; omega), ec]
  exact pad_loop (64 - (cellL g i d).length) 99 _ (by omega) (by omega)

theorem ref_make (g i : Int) (d : ByteArray) : precinctref07_Make.f 100 g i d = some (makeS g i d, makeE g i d) := by
  unfold precinctref07_Make.f makeS makeE
  by_cases h : goodB g i = true
  · obtain ⟨_, h2, h3, h4, h5⟩ := good_true h
    rw [if_neg (by omega), if_neg (by omega), if_neg (by omega), if_pos h, if_pos h]
    have e : decide (i > 65535) = false := by simp; omega
    rw [e]
    by_cases hl : 55 < d.size
    · rw [if_pos hl, if_pos hl]
      show precinctref07_Make.j0 (99 + 1) false g i d = _
      simp only [precinctref07_Make.j0]
      rw [if_neg (by simp), if_pos (by omega)]
    · rw [if_neg hl, if_neg hl]; exact ref_make_good g i d h2 h3 h4 h5 (by omega)
  · rw [if_neg h, if_neg h]
    simp only [goodB, decide_eq_true_eq] at h
    by_cases a1 : g < 1
    · rw [if_pos a1]; exact ref_make_true 99 g i d
    · rw [if_neg a1]
      by_cases a2 : g > 281474976710655
      · rw [if_pos a2]; exact ref_make_true 99 g i d
      · rw [if_neg a2]
        by_cases a3 : i < 0
        · rw [if_pos a3]; exact ref_make_true 99 g i d
        · rw [if_neg a3]
          have e : decide (i > 65535) = true := by simp; omega
          rw [e]; exact ref_make_true 99 g i d

theorem ref_make_all (g i : Int) (d : ByteArray) (w : World) :
    Calls Tryd.prog 38 #[.agg #[.int .i64 g, .int .i64 i, .string d]] w fun e w' => e = .returned (.tuple #[.string (makeS g i d), .int .i64 (makeE g i d)]) ∧ Below w.heap.size w w' :=
  precinctref07_Make.calls 100 g i d _ _ w (ref_make g i d)

end Go.Proofs.YtekpbpcfeopilaaDoor.Awk
