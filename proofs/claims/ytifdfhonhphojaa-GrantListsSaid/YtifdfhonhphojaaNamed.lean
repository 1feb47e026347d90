/- grant.Named and the document's Named: what they answer, for every text. -/
import Derived.Test.YtifdfhonhphojaaCore
import Derived.Test.YtifdfhonhphojaaPNamedx
import Derived.Laws.RangeAny
import Derived.Laws.RangeString
import Derived.LoopTactic
namespace Go.Proofs.Ytifdfhonhphojaa.Named
open Go Go.RowKit Go.Proofs.YtifdfhonhphojaaCore Go.Proofs.Ytifdfhonhphojaa.PNamed Go.Proofs.YtifdfhonhphojaaW.PrintWords Go.Proofs.YtifdfhonhphojaaW.PrintLast

/-- A byte of a name. -/
def okB (b : UInt8) : Bool := (97 ≤ b.toNat && b.toNat ≤ 122) || (48 ≤ b.toNat && b.toNat ≤ 57)
def namedB (s : ByteArray) : Bool := s.data.toList.all okB && (decide (1 ≤ s.size) && decide (s.size ≤ 16))

theorem all_at (s : ByteArray) (k : Nat) (h : k < s.size) : (s.data.toList.drop k).all okB = (okB s[k] && (s.data.toList.drop (k + 1)).all okB) := by
  have h2 : k < s.data.toList.length := by simpa using h
  rw [List.drop_eq_getElem_cons h2, List.all_cons]
  simp
  rfl

theorem bt_at (s : ByteArray) (k : Nat) (h : k < s.size) : bt s (k : Int) = ((s[k].toNat : Nat) : Int) := by simp [bt, h]

theorem ref_loop (s : ByteArray) (hs : s.size ≤ 16) : ∀ (m j k : Nat), j + m = s.size → m < k → precinctref11_Named.l0 k s (j : Int) = some ((s.data.toList.drop j).all okB) := by
  intro m
  induction m with
  | zero =>
    intro j k hj hk
    obtain ⟨k, rfl⟩ : ∃ j, k = j + 1 := ⟨k - 1, by omega⟩
    simp only [precinctref11_Named.l0]
    rw [if_neg (by omega), List.drop_eq_nil_of_le (by simp; omega)]
    rfl
  | succ m ih =>
    intro j k hj hk
    obtain ⟨k, rfl⟩ : ∃ j, k = j + 1 := ⟨k - 1, by omega⟩
    simp only [precinctref11_Named.l0]
    have e : wrap64 ((j : Int) + 1) = ((j + 1 : Nat) : Int) := by unfold wrap64; omega
    rw [bt_at s j (by omega), all_at s j (by omega), e, ih (j + 1) k (by omega) (by omega)]
    generalize (s.data.toList.drop (j + 1)).all okB = t
    unfold okB
    generalize (s[j]'(by omega)).toNat = b
    rw [if_pos (by omega), if_pos (by omega)]
    have c1 : decide (97 ≤ b) = decide ((b : Int) ≥ 97) := by simp only [decide_eq_decide]; omega
    have c2 : decide (b ≤ 122) = decide ((b : Int) ≤ 122) := by simp only [decide_eq_decide]; omega
    have c3 : decide (48 ≤ b) = decide ((b : Int) ≥ 48) := by simp only [decide_eq_decide]; omega
    have c4 : decide (b ≤ 57) = decide ((b : Int) ≤ 57) := by simp only [decide_eq_decide]; omega
    rw [c1, c2, c3, c4]
    by_cases h1 : (b : Int) ≥ 97 <;> by_cases h2 : (b : Int) ≤ 122 <;> by_cases h3 : (b : Int) ≥ 48 <;> by_cases h4 : (b : Int) ≤ 57 <;> simp only [h1, h2, h3, h4, if_true, if_false, decide_true, decide_false, Bool.and_true, Bool.and_false, Bool.or_true, Bool.or_false, Bool.true_and, Bool.false_and]

theorem ref_f (s : ByteArray) : precinctref11_Named.f 100 s = some (namedB s) := by
  unfold precinctref11_Named.f namedB
  by_cases h1 : (s.size : Int) < 1
  · rw [if_pos h1]
    simp only [precinctref11_Named.j0]
    have : ¬ (1 ≤ s.size) := by omega
    simp [this]
  · rw [if_neg h1]
    by_cases h2 : s.size ≤ 16
    · have e : decide ((s.size : Int) > 16) = false := by simp; omega
      rw [e]
      simp only [precinctref11_Named.j0]
      rw [if_neg (by simp)]
      have := ref_loop s h2 s.size 0 99 (by omega) (by omega)
      rw [List.drop_zero] at this
      rw [show ((0 : Nat) : Int) = 0 from rfl] at this
      rw [this]
      have e2 : decide (1 ≤ s.size) = true := by simp; omega
      simp [e2, h2]
    · have e : decide ((s.size : Int) > 16) = true := by simp; omega
      rw [e]
      simp only [precinctref11_Named.j0]
      simp [h2]

theorem ref_any (s : ByteArray) (w : World) : Calls Try.prog 10 #[.string s] w fun e w' => e = .returned (.bool (namedB s)) ∧ Drawn0 w w' :=
  precinctref11_Named.calls 100 s _ w (ref_f s)

set_option maxHeartbeats 8000000 in
set_option maxRecDepth 100000 in
theorem named_any (s : ByteArray) (w : World) : Calls Try.prog 9 #[.string s] w fun e w' => e = .returned (.bool (namedB s)) ∧ Below w.heap.size w w' := by
  go_enter Try.func9, Try.ntmps9
  go_wp2
  go_loopg [] s.size (fun gk wr => ∃ pos, gk + pos = s.size ∧ wr = w.iter s pos ∧ Hid (s.data.toList.all okB = (s.data.toList.drop pos).all okB))
  case atStart => exact ⟨0, by omega, rfl, by show _ = _; rw [List.drop_zero]⟩
  case round =>
    obtain ⟨pos, hg, rfl, HA⟩ := hrel
    have HG := Lib.hid hg
    clear hg
    by_cases hp : pos < s.size
    · have hat := all_at s pos hp
      have hlt := (s[pos]'hp).toNat_lt
      by_cases hasc : (s[pos]'hp).toNat < 128
      · have hnx : ∀ ty, (Instr.next (.pointer (some ⟨w.heap.size, 0, none⟩)) true ty).run Try.prog (w.iter s pos) = _ := fun ty => run_next_ascii w s pos ty hp hasc
        obtain ⟨b, hb⟩ : ∃ b, (s[pos]'hp) = b := ⟨_, rfl⟩
        rw [hb] at hat hlt hasc hnx
        obtain ⟨c, hc⟩ : ∃ c, b.toNat = c := ⟨_, rfl⟩
        rw [hc] at hlt hasc hnx
        have hok : okB b = ((97 ≤ c && c ≤ 122) || (48 ≤ c && c ≤ 57)) := by rw [← hc]; rfl
        have HAT := Lib.hid hat
        have HOK := Lib.hid hok
        clear hat hb hok
        have ret : okB b = false → Hid (namedB s = false) := fun h => by
          show namedB s = false
          unfold namedB
          rw [HA.out, HAT.out, h]
          rfl
        have on : okB b = true → Hid (s.data.toList.all okB = (s.data.toList.drop (pos + 1)).all okB) := fun h => by
          show _ = _
          rw [HA.out, HAT.out, h]
          rfl
        by_cases hgood : okB b = true
        · have ON := on hgood
          rw [HOK.out] at hgood
          simp only [Bool.or_eq_true, Bool.and_eq_true, decide_eq_true_eq] at hgood
          clear ret on HOK HAT HA
          rcases hgood with ⟨g1, g2⟩ | ⟨g1, g2⟩
          · have f1 : decide ((c : Int) < 97) = false := by simp; omega
            have f2 : decide (122 < (c : Int)) = false := by simp; omega
            go_wp2_with fail
            go_roundg (gk - 1)
            case measure => have := HG.out; omega
            case rel => exact ⟨pos + 1, by have := HG.out; omega, rfl, ON⟩
          · have f1 : decide ((c : Int) < 97) = true := by simp; omega
            have f2 : decide ((c : Int) < 48) = false := by simp; omega
            have f3 : decide (57 < (c : Int)) = false := by simp; omega
            go_wp2_with fail
            go_roundg (gk - 1)
            case measure => have := HG.out; omega
            case rel => exact ⟨pos + 1, by have := HG.out; omega, rfl, ON⟩
        · have RET := ret (by simpa using hgood)
          rw [HOK.out] at hgood
          simp only [Bool.or_eq_true, Bool.and_eq_true, decide_eq_true_eq] at hgood
          clear ret on HOK HAT HA
          have g : (c < 48) ∨ (57 < c ∧ c < 97) ∨ 122 < c := by omega
          clear hgood
          rcases g with g | ⟨g1, g2⟩ | g
          · have f1 : decide ((c : Int) < 97) = true := by simp; omega
            have f2 : decide ((c : Int) < 48) = true := by simp; omega
            go_wp2_with fail
            exact bodyPost_ret (v := .bool false) (by simp [results, Try.results9, go_sem]) rfl ⟨by rw [RET.out], (Below.refl _ _).alloc (Nat.le_refl _) _⟩
          · have f1 : decide ((c : Int) < 97) = true := by simp; omega
            have f2 : decide ((c : Int) < 48) = false := by simp; omega
            have f3 : decide (57 < (c : Int)) = true := by simp; omega
            go_wp2_with fail
            exact bodyPost_ret (v := .bool false) (by simp [results, Try.results9, go_sem]) rfl ⟨by rw [RET.out], (Below.refl _ _).alloc (Nat.le_refl _) _⟩
          · have f0 : decide ((c : Int) < 97) = false := by simp; omega
            have f1 : decide (122 < (c : Int)) = true := by simp; omega
            have f2 : decide ((c : Int) < 48) = false := by simp; omega
            have f3 : decide (57 < (c : Int)) = true := by simp; omega
            go_wp2_with fail
            exact bodyPost_ret (v := .bool false) (by simp [results, Try.results9, go_sem]) rfl ⟨by rw [RET.out], (Below.refl _ _).alloc (Nat.le_refl _) _⟩
      · have hnx : ∀ ty, (Instr.next (.pointer (some ⟨w.heap.size, 0, none⟩)) true ty).run Try.prog (w.iter s pos) = _ := fun ty => run_next_any w s pos ty hp
        obtain ⟨hd, _⟩ := decode_high s pos hp (by omega)
        have RET : Hid (namedB s = false) := by
          show namedB s = false
          unfold namedB
          rw [HA.out, hat]
          have : okB (s[pos]'hp) = false := by unfold okB; simp; omega
          rw [this]
          rfl
        obtain ⟨⟨c, n⟩, hcn⟩ : ∃ q, Utf8.decode s pos = q := ⟨_, rfl⟩
        rw [hcn] at hd hnx
        clear hcn hat HA
        simp only at hd hnx
        have f0 : decide ((c : Int) < 97) = false := by simp; omega
        have f1 : decide (122 < (c : Int)) = true := by simp; omega
        have f2 : decide ((c : Int) < 48) = false := by simp; omega
        have f3 : decide (57 < (c : Int)) = true := by simp; omega
        go_wp2_with fail
        exact bodyPost_ret (v := .bool false) (by simp [results, Try.results9, go_sem]) rfl ⟨by rw [RET.out], (Below.refl _ _).alloc (Nat.le_refl _) _⟩
    · have hnx : ∀ ty, (Instr.next (.pointer (some ⟨w.heap.size, 0, none⟩)) true ty).run Try.prog (w.iter s pos) = _ := fun ty => run_next_end w s pos ty hp
      have RET : Hid (namedB s = (decide (1 ≤ s.size) && decide (s.size ≤ 16))) := by
        show _ = _
        unfold namedB
        rw [HA.out, List.drop_eq_nil_of_le (by simp; omega)]
        rfl
      clear HA
      by_cases h0 : s.size = 0
      · have hE : s.toList.isEmpty = true := by rw [List.isEmpty_iff, ← List.length_eq_zero_iff, Lib.toList_data]; simpa using h0
        have R2 : Hid (namedB s = false) := by show _ = _; rw [RET.out]; simp [h0]
        clear RET
        go_wp2_with fail
        exact bodyPost_ret (v := .bool false) (by simp [results, Try.results9, go_sem]) rfl ⟨by rw [R2.out], (Below.refl _ _).alloc (Nat.le_refl _) _⟩
      · have hE : s.toList.isEmpty = false := by
          rw [← Bool.not_eq_true, List.isEmpty_iff, ← List.length_eq_zero_iff, Lib.toList_data]; simpa using h0
        have R2 : Hid (namedB s = decide ((s.size : Int) ≤ 16)) := by
          show _ = _
          rw [RET.out]
          have e1 : 1 ≤ s.size := by omega
          by_cases h16 : s.size ≤ 16
          · have : (s.size : Int) ≤ 16 := by omega
            simp [e1, h16, this]
          · have : ¬ (s.size : Int) ≤ 16 := by omega
            simp [h16, this]
        clear RET
        go_wp2_with fail
        exact bodyPost_ret (v := .bool (decide ((s.size : Int) ≤ 16))) (by simp [results, Try.results9, go_sem]) rfl ⟨by rw [R2.out], (Below.refl _ _).alloc (Nat.le_refl _) _⟩

end Go.Proofs.Ytifdfhonhphojaa.Named
