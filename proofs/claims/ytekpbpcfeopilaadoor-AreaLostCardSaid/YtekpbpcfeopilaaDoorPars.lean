/- A sector read as a cell: what the program's and the reference's Parse answer, for all bytes. -/
import Derived.Test.YtekpbpcfeopilaaDoorPParsx
import Derived.Test.YtekpbpcfeopilaaDoorAwk
import Derived.Laws.Bits64b
namespace Go.Proofs.YtekpbpcfeopilaaDoor.Pars
open Go Go.RowKit Go.Proofs.YtekpbpcfeopilaaDoorCore Go.Proofs.YtekpbpcfeopilaaDoor.Puts Go.Proofs.YtekpbpcfeopilaaDoor.Amk Go.Proofs.YtekpbpcfeopilaaDoor.PPars Go.Proofs.YtekpbpcfeopilaaDoorW.PrintWords Go.Proofs.YtekpbpcfeopilaaDoorW.PrintLast Go.Proofs.YtekpbpcfeopilaaDoorW.PrintMore

theorem snoc_ind {α : Type} {p : List α → Prop} (h0 : p []) (h1 : ∀ l a, p l → p (l ++ [a])) (l : List α) : p l := by
  have : ∀ r : List α, p r.reverse := by
    intro r
    induction r with
    | nil => exact h0
    | cons a r ih => rw [List.reverse_cons]; exact h1 _ _ ih
  have := this l.reverse
  rwa [List.reverse_reverse] at this

/-- The number of bytes, the highest first. -/
def val : List UInt8 → Nat → Nat
  | [], a => a
  | b :: l, a => val l (a * 256 + b.toNat)
def num (l : List UInt8) : Nat := val l 0

theorem val_snoc (l : List UInt8) (b : UInt8) : ∀ a, val (l ++ [b]) a = val l a * 256 + b.toNat := by
  induction l with
  | nil => intro a; rfl
  | cons x l ih => intro a; simp [val, ih]
theorem num_snoc (l : List UInt8) (b : UInt8) : num (l ++ [b]) = num l * 256 + b.toNat := val_snoc l b 0
theorem num_lt (l : List UInt8) : num l < 256 ^ l.length := by
  refine snoc_ind (p := fun l => num l < 256 ^ l.length) (by simp [num, val]) (fun l b ih => ?_) l
  · rw [num_snoc, List.length_append, List.length_singleton, Nat.pow_succ]
    have := b.toNat_lt
    omega
theorem beL_num (l : List UInt8) : beL l.length (num l) = l := by
  refine snoc_ind (p := fun l => beL l.length (num l) = l) rfl (fun l b ih => ?_) l
  · rw [num_snoc, List.length_append, List.length_singleton, beL]
    have hb := b.toNat_lt
    have e1 : (num l * 256 + b.toNat) / 256 = num l := by omega
    have e2 : (num l * 256 + b.toNat) % 256 = b.toNat := by omega
    rw [e1, e2, ih]
    simp

theorem or_add (x : Nat) (b : UInt8) (hx : x < 72057594037927936) : Go.bits .or .u64 (IntKind.u64.wrap ((x : Int) * 256)) (IntKind.u64.wrap ((b.toNat : Nat) : Int)) = ((x * 256 + b.toNat : Nat) : Int) := by
  have hb := b.toNat_lt
  have e1 : IntKind.u64.wrap ((x : Int) * 256) = ((x * 256 : Nat) : Int) := by rw [IntKind.wrap_u64]; omega
  have e2 : IntKind.u64.wrap ((b.toNat : Nat) : Int) = ((b.toNat : Nat) : Int) := by rw [IntKind.wrap_u64]; omega
  rw [e1, e2, bits_or_u64_nat _ _ (by omega) (by omega)]
  congr 1
  have : x * 256 ||| b.toNat = x * 2 ^ 8 + b.toNat := by
    rw [show (256 : Nat) = 2 ^ 8 from rfl, Nat.mul_comm x, Nat.two_pow_add_eq_or_of_lt (by omega)]
  rw [this]

/-- The bytes of a text from a place on. -/
def cut (s : ByteArray) (a n : Nat) : List UInt8 := (s.data.toList.drop a).take n
theorem cut_length (s : ByteArray) (a n : Nat) (h : a + n ≤ s.size) : (cut s a n).length = n := by simp [cut]; omega
theorem cut_succ (s : ByteArray) (a n : Nat) (h : a + n < s.size) : cut s a (n + 1) = cut s a n ++ [s[a + n]] := by
  unfold cut
  rw [List.take_succ_eq_append_getElem (by simp; omega)]
  congr 1
  simp
  rfl
theorem bt_cut (s : ByteArray) (k : Nat) (h : k < s.size) : bt s (k : Int) = ((s[k].toNat : Nat) : Int) := by simp [bt, h]

theorem get_loop (s : ByteArray) (a n : Nat) (hn : n ≤ 8) (hs : a + n ≤ s.size) (hb : s.size ≤ 9223372036854775000) : ∀ (m j k : Nat), j + m = n → m < k →
    words_Get.l0 k s (a : Int) (n : Int) ((num (cut s a j) : Nat) : Int) (n : Int) (j : Int) = some (((num (cut s a n) : Nat) : Int), ((a + n : Nat) : Int), 0) := by
  intro m
  induction m with
  | zero =>
    intro j k hj hk
    obtain ⟨k, rfl⟩ : ∃ j, k = j + 1 := ⟨k - 1, by omega⟩
    obtain rfl : j = n := by omega
    simp only [words_Get.l0]
    rw [if_neg (by omega)]
    have : wrap64 ((a : Int) + (j : Int)) = ((a + j : Nat) : Int) := by unfold wrap64; omega
    rw [this]
  | succ m ih =>
    intro j k hj hk
    obtain ⟨k, rfl⟩ : ∃ j, k = j + 1 := ⟨k - 1, by omega⟩
    simp only [words_Get.l0]
    have e : wrap64 ((a : Int) + (j : Int)) = ((a + j : Nat) : Int) := by unfold wrap64; omega
    have e2 : wrap64 ((j : Int) + 1) = ((j + 1 : Nat) : Int) := by unfold wrap64; omega
    rw [if_pos (by omega), e, if_pos (by omega), if_pos (by omega), bt_cut s (a + j) (by omega)]
    have hlt := num_lt (cut s a j)
    rw [cut_length s a j (by omega)] at hlt
    have h7 : (256 : Nat) ^ j ≤ 256 ^ 7 := Nat.pow_le_pow_right (by decide) (by omega)
    rw [or_add _ _ (by have : (256 : Nat) ^ 7 = 72057594037927936 := by decide
                       omega), e2, ← num_snoc, ← cut_succ s a j (by omega)]
    exact ih (j + 1) k (by omega) (by omega)

theorem get_f (s : ByteArray) (a n : Nat) (h1 : 1 ≤ n) (hn : n ≤ 8) (hs : a + n ≤ s.size) (hb : s.size ≤ 9223372036854775000) : words_Get.f 100 s (a : Int) (n : Int) = some (((num (cut s a n) : Nat) : Int), ((a + n : Nat) : Int), 0) := by
  unfold words_Get.f
  rw [if_neg (by omega), if_neg (by omega), if_neg (by omega)]
  have e : decide ((a : Int) > (s.size : Int)) = false := by simp; omega
  rw [e]
  show words_Get.j0 (99 + 1) _ _ _ _ = _
  simp only [words_Get.j0]
  rw [if_neg (by simp), if_neg (by unfold wrap64; omega)]
  have := get_loop s a n hn hs hb n 0 99 (by omega) (by omega)
  simpa [cut, num, val] using this

theorem ref_get_loop (s : ByteArray) (a n : Nat) (hn : n ≤ 8) (hs : a + n ≤ s.size) (hb : s.size ≤ 9223372036854775000) : ∀ (m j k : Nat), j + m = n → m < k →
    precinctref01_Get.l0 k s (a : Int) (n : Int) ((num (cut s a j) : Nat) : Int) (j : Int) = some (((num (cut s a n) : Nat) : Int), ((a + n : Nat) : Int), 0) := by
  intro m
  induction m with
  | zero =>
    intro j k hj hk
    obtain ⟨k, rfl⟩ : ∃ j, k = j + 1 := ⟨k - 1, by omega⟩
    obtain rfl : j = n := by omega
    simp only [precinctref01_Get.l0]
    rw [if_neg (by omega)]
    have : wrap64 ((a : Int) + (j : Int)) = ((a + j : Nat) : Int) := by unfold wrap64; omega
    rw [this]
  | succ m ih =>
    intro j k hj hk
    obtain ⟨k, rfl⟩ : ∃ j, k = j + 1 := ⟨k - 1, by omega⟩
    simp only [precinctref01_Get.l0]
    have e : wrap64 ((a : Int) + (j : Int)) = ((a + j : Nat) : Int) := by unfold wrap64; omega
    have e2 : wrap64 ((j : Int) + 1) = ((j + 1 : Nat) : Int) := by unfold wrap64; omega
    rw [if_pos (by omega), e, if_pos (by omega), if_pos (by omega), bt_cut s (a + j) (by omega)]
    have hlt := num_lt (cut s a j)
    rw [cut_length s a j (by omega)] at hlt
    have h7 : (256 : Nat) ^ j ≤ 256 ^ 7 := Nat.pow_le_pow_right (by decide) (by omega)
    have hbl := (s[a + j]'(by omega)).toNat_lt
    have e3 : IntKind.u64.wrap (IntKind.u64.wrap (((num (cut s a j) : Nat) : Int) * 256) + IntKind.u64.wrap (((s[a + j]'(by omega)).toNat : Nat) : Int)) = ((num (cut s a j) * 256 + (s[a + j]'(by omega)).toNat : Nat) : Int) := by
      have : (256 : Nat) ^ 7 = 72057594037927936 := by decide
      simp only [IntKind.wrap_u64]
      omega
    rw [e3, e2, ← num_snoc, ← cut_succ s a j (by omega)]
    exact ih (j + 1) k (by omega) (by omega)

theorem ref_get_f (s : ByteArray) (a n : Nat) (h1 : 1 ≤ n) (hn : n ≤ 8) (hs : a + n ≤ s.size) (hb : s.size ≤ 9223372036854775000) : precinctref01_Get.f 100 s (a : Int) (n : Int) = some (((num (cut s a n) : Nat) : Int), ((a + n : Nat) : Int), 0) := by
  unfold precinctref01_Get.f
  rw [if_neg (by omega), if_neg (by omega), if_neg (by omega)]
  have e : decide ((a : Int) > (s.size : Int)) = false := by simp; omega
  rw [e]
  show precinctref01_Get.j0 (99 + 1) _ _ _ _ = _
  simp only [precinctref01_Get.j0]
  rw [if_neg (by simp), if_neg (by unfold wrap64; omega)]
  have := ref_get_loop s a n hn hs hb n 0 99 (by omega) (by omega)
  simpa [cut, num, val] using this

/-- How many bytes of data a sector tells. -/
def nb (s : ByteArray) : Nat := (s.data.toList.getD 8 0).toNat
def isCell (s : ByteArray) : Bool := decide (s.size = 64) && (decide (num (cut s 0 6) ≠ 0) && (decide (nb s ≤ 55) && (s.data.toList.drop (9 + nb s)).all (· == 0)))
/-- What Parse answers. -/
def parseS (s : ByteArray) : Int × Int × ByteArray × Bool :=
  if isCell s = true then (((num (cut s 0 6) : Nat) : Int), ((num (cut s 6 2) : Nat) : Int), s.extract 9 (9 + nb s), true) else (0, 0, ⟨#[]⟩, false)

theorem nb_bt (s : ByteArray) (h : s.size = 64) : bt s 8 = ((nb s : Nat) : Int) := by
  have h8 : 8 < s.size := by omega
  have h8' : 8 < s.data.toList.length := by simpa using h8
  have := bt_cut s 8 h8
  rw [show (8 : Int) = ((8 : Nat) : Int) from rfl, this]
  unfold nb
  rw [List.getD_eq_getElem?_getD, List.getElem?_eq_getElem h8']
  simp
  rfl

theorem dropWhile_nil {l : List UInt8} : l.dropWhile (· == 0) = [] ↔ l.all (· == 0) = true := by
  induction l with
  | nil => simp
  | cons a l ih =>
    by_cases h : a = 0
    · subst h; simpa using ih
    · have hb : (a == 0) = false := by simpa using h
      simp [List.dropWhile, hb]
theorem trim_nil {l : List UInt8} : Lib.trimB l 0 = [] ↔ l.all (· == 0) = true := by
  unfold Lib.trimB Lib.trimLeftB Lib.trimRightB
  rw [dropWhile_nil]
  constructor
  · intro h
    have h2 : (l.reverse.dropWhile (· == 0)).all (· == 0) = true := by simpa using h
    have h3 : l.reverse.dropWhile (· == 0) = [] := by
      cases hd : l.reverse.dropWhile (· == 0) with
      | nil => rfl
      | cons a r =>
        have hne := List.head?_dropWhile_not (· == (0 : UInt8)) l.reverse
        rw [hd] at hne h2
        simp at hne h2
        exact absurd h2.1 hne
    have h4 := dropWhile_nil.1 h3
    simpa using h4
  · intro h
    have : l.reverse.dropWhile (· == 0) = [] := dropWhile_nil.2 (by simpa using h)
    rw [this]; rfl

theorem wrap_id {x : Int} (h : -9223372036854775808 ≤ x) (h2 : x ≤ 9223372036854775807) : wrap64 x = x := by unfold wrap64; omega

theorem drop_all (s : ByteArray) (a : Nat) : (s.extract a s.size).data.toList = s.data.toList.drop a := by
  rw [Lib.extract_data, List.take_of_length_le (by simp)]

theorem parse_f (s : ByteArray) : area_Parse.f 100 s = some (parseS s) := by
  unfold area_Parse.f parseS isCell
  by_cases h : s.size = 64
  · have g1 : words_Get.f 100 s 0 6 = _ := get_f s 0 6 (by omega) (by omega) (by omega) (by omega)
    have g2 : words_Get.f 100 s 6 2 = _ := get_f s 6 2 (by omega) (by omega) (by omega) (by omega)
    have hn : nb s < 256 := by unfold nb; exact UInt8.toNat_lt _
    rw [if_pos (by omega), g1, g2]
    simp only [Option.bind_some]
    rw [if_pos (by omega), nb_bt s h]
    have l1 := num_lt (cut s 0 6)
    have l2 := num_lt (cut s 6 2)
    rw [cut_length s 0 6 (by omega)] at l1
    rw [cut_length s 6 2 (by omega)] at l2
    by_cases h2 : num (cut s 0 6) = 0
    · rw [if_pos (by omega), if_neg (by simp [h2])]
    · rw [if_neg (by omega), wrap_id (by omega) (by omega)]
      by_cases h3 : nb s ≤ 55
      · rw [if_neg (by omega), wrap_id (by omega) (by omega), if_pos (by omega), if_pos (by omega)]
        have e : ((9 : Int) + ((nb s : Nat) : Int)).toNat = 9 + nb s := by omega
        unfold strings_Trim.f
        rw [e, if_pos ⟨rfl, by rw [ByteArray.size_extract]; omega⟩]
        simp only [Option.bind_some, drop_all]
        have et : (⟨(Lib.trimB (s.data.toList.drop (9 + nb s)) 0).toArray⟩ : ByteArray).toList = Lib.trimB (s.data.toList.drop (9 + nb s)) 0 := by
          rw [Lib.toList_data]
        rw [et]
        by_cases h4 : (s.data.toList.drop (9 + nb s)).all (· == 0) = true
        · rw [if_pos (trim_nil.2 h4), if_pos (by omega), wrap_id (by omega) (by omega), wrap_id (by omega) (by omega), if_pos (by simp [h, h2, h3]; simpa using h4)]
        · rw [if_neg (fun hh => h4 (trim_nil.1 hh)), if_neg (by simp [h, h2, h3]; simpa using h4)]
      · rw [if_pos (by omega), if_neg (by simp [h3])]
  · rw [if_neg (by omega), if_neg (by simp [h])]

/-- The bytes of a sector, part by part. -/
theorem parts (s : ByteArray) (h : s.size = 64) : s.data.toList = cut s 0 6 ++ cut s 6 2 ++ [UInt8.ofNat (nb s)] ++ (s.extract 9 (9 + nb s)).data.toList ++ s.data.toList.drop (9 + nb s) := by
  have hl : s.data.toList.length = 64 := by simpa using h
  rw [Lib.extract_data]
  unfold cut nb
  generalize s.data.toList = l at hl ⊢
  have e8 : UInt8.ofNat (l.getD 8 0).toNat = l[8]'(by omega) := by
    rw [List.getD_eq_getElem?_getD, List.getElem?_eq_getElem (by omega)]
    simp
  have e1 : l = l.take 6 ++ l.drop 6 := (List.take_append_drop 6 l).symm
  have e2 : l.drop 6 = (l.drop 6).take 2 ++ l.drop 8 := by
    conv => lhs; rw [← List.take_append_drop 2 (l.drop 6)]
    rw [List.drop_drop]
  have e3 : l.drop 8 = l[8]'(by omega) :: l.drop 9 := List.drop_eq_getElem_cons (by omega)
  have e4 : l.drop 9 = (l.drop 9).take (9 + (l.getD 8 0).toNat - 9) ++ l.drop (9 + (l.getD 8 0).toNat) := by
    conv => lhs; rw [← List.take_append_drop (9 + (l.getD 8 0).toNat - 9) (l.drop 9)]
    rw [List.drop_drop]
    congr 2
    omega
  rw [e8]
  conv => lhs; rw [e1, e2, e3, e4]
  simp

theorem make_of (s : ByteArray) (h : s.size = 64) (h3 : nb s ≤ 55) : cellL ((num (cut s 0 6) : Nat) : Int) ((num (cut s 6 2) : Nat) : Int) (s.extract 9 (9 + nb s)) = cut s 0 6 ++ cut s 6 2 ++ [UInt8.ofNat (nb s)] ++ (s.extract 9 (9 + nb s)).data.toList := by
  unfold cellL
  have b1 := beL_num (cut s 0 6)
  have b2 := beL_num (cut s 6 2)
  rw [cut_length s 0 6 (by omega)] at b1
  rw [cut_length s 6 2 (by omega)] at b2
  have hs : (s.extract 9 (9 + nb s)).size = nb s := by rw [ByteArray.size_extract]; omega
  have hn : nb s < 256 := by unfold nb; exact UInt8.toNat_lt _
  rw [Int.toNat_natCast, Int.toNat_natCast, b1, b2, hs]
  simp [beL, Nat.mod_eq_of_lt hn]

theorem all_zero {l : List UInt8} (n : Nat) (hl : l.length = n) : l.all (· == 0) = true ↔ l = List.replicate n 0 := by
  subst hl
  rw [List.eq_replicate_iff]
  simp

theorem ref_parse_f (s : ByteArray) : precinctref07_Parse.f 100 s = some (parseS s) := by
  unfold precinctref07_Parse.f parseS isCell
  by_cases h : s.size = 64
  · have g1 : precinctref01_Get.f 100 s 0 6 = _ := ref_get_f s 0 6 (by omega) (by omega) (by omega) (by omega)
    have g2 : precinctref01_Get.f 100 s 6 2 = _ := ref_get_f s 6 2 (by omega) (by omega) (by omega) (by omega)
    have hn : nb s < 256 := by unfold nb; exact UInt8.toNat_lt _
    rw [if_pos (by omega), g1, g2]
    simp only [Option.bind_some]
    rw [if_pos (by omega), nb_bt s h]
    have l1 := num_lt (cut s 0 6)
    have l2 := num_lt (cut s 6 2)
    rw [cut_length s 0 6 (by omega)] at l1
    rw [cut_length s 6 2 (by omega)] at l2
    rw [wrap_id (by omega) (by omega)]
    by_cases h3 : nb s ≤ 55
    · rw [if_neg (by omega), wrap_id (by omega) (by omega), if_pos (by omega), if_pos (by omega), wrap_id (by omega) (by omega), wrap_id (by omega) (by omega)]
      have e : ((9 : Int) + ((nb s : Nat) : Int)).toNat = 9 + nb s := by omega
      rw [e]
      unfold precinctref07_Make.f
      simp only [Option.bind_some]
      have hs : (s.extract 9 (9 + nb s)).size = nb s := by rw [ByteArray.size_extract]; omega
      by_cases h2 : num (cut s 0 6) = 0
      · have hg : ¬ goodB ((num (cut s 0 6) : Nat) : Int) ((num (cut s 6 2) : Nat) : Int) = true := by simp only [goodB, decide_eq_true_eq]; omega
        have hE : makeE ((num (cut s 0 6) : Nat) : Int) ((num (cut s 6 2) : Nat) : Int) (s.extract 9 (9 + nb s)) = 2 := by unfold makeE; rw [if_neg hg]
        rw [hE, if_neg (by omega), if_neg (by simp [h2])]
      · have hg : goodB ((num (cut s 0 6) : Nat) : Int) ((num (cut s 6 2) : Nat) : Int) = true := by simp only [goodB, decide_eq_true_eq]; omega
        have hE : makeE ((num (cut s 0 6) : Nat) : Int) ((num (cut s 6 2) : Nat) : Int) (s.extract 9 (9 + nb s)) = 0 := by unfold makeE; rw [if_pos hg, if_neg (by omega)]
        have hS : makeS ((num (cut s 0 6) : Nat) : Int) ((num (cut s 6 2) : Nat) : Int) (s.extract 9 (9 + nb s)) = cellS ((num (cut s 0 6) : Nat) : Int) ((num (cut s 6 2) : Nat) : Int) (s.extract 9 (9 + nb s)) := by unfold makeS; rw [if_pos hg, if_neg (by omega)]
        rw [hE, hS, if_pos rfl]
        have ec : (cellS ((num (cut s 0 6) : Nat) : Int) ((num (cut s 6 2) : Nat) : Int) (s.extract 9 (9 + nb s))).toList = s.toList ↔ (s.data.toList.drop (9 + nb s)).all (· == 0) = true := by
          rw [Lib.toList_data, Lib.toList_data]
          unfold cellS
          have hlen := Go.Proofs.YtekpbpcfeopilaaDoor.Awk.cellL_length ((num (cut s 0 6) : Nat) : Int) ((num (cut s 6 2) : Nat) : Int) (s.extract 9 (9 + nb s))
          rw [hs] at hlen
          have hl : s.data.toList.length = 64 := by simpa using h
          rw [all_zero (64 - (9 + nb s)) (by rw [List.length_drop, hl])]
          conv => lhs; rhs; rw [parts s h]
          rw [hlen, ← make_of s h h3]
          simp only [List.append_cancel_left_eq]
          constructor
          · intro hh; exact hh.symm
          · intro hh; exact hh.symm
        by_cases h4 : (s.data.toList.drop (9 + nb s)).all (· == 0) = true
        · rw [if_pos (ec.2 h4), if_pos (by simp [h, h2, h3]; simpa using h4)]
        · rw [if_neg (fun hh => h4 (ec.1 hh)), if_neg (by simp [h, h2, h3]; simpa using h4)]
    · rw [if_pos (by omega), if_neg (by simp [h3])]
  · rw [if_neg (by omega), if_neg (by simp [h])]

end Go.Proofs.YtekpbpcfeopilaaDoor.Pars
