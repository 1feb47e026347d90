/- words.Get: what it answers, for every text, place and width; no condition but the text's length; frame.Sum: a number of 32 bits for every text; Frames and heads, as plain data. No program in sight; Cells that are written and flushed, or lost: plain. No program in sight; Sectors of a half, some of them lost: what they hold together. Plain; no program in sight; What a region tells of a stream; what a Reset and an Append, lost or not, leave. Plain; no program in sight; stream.head, frame.Put: by hand. -/
import Derived.Test.YtekpbpcfeopilaaDoorBack
import Derived.LoopTactic
import Derived.Test.YtekpbpcfeopilaaDoorK2
import Derived.Test.YtekpbpcfeopilaaDoorShelf
import Derived.Lib.Strings

set_option linter.unusedSimpArgs false
set_option linter.unusedVariables false

/-! words.Get: what it answers, for every text, place and width; no condition but the text's length. -/
namespace Go.Proofs.YtekpbpcfeopilaaDoor.Gw
open Go Go.RowKit Go.Proofs.YtekpbpcfeopilaaDoorCore Go.Proofs.YtekpbpcfeopilaaDoor.Puts Go.Proofs.YtekpbpcfeopilaaDoor.Pars Go.Proofs.YtekpbpcfeopilaaDoor.PPars Go.Proofs.YtekpbpcfeopilaaDoorW.PrintWords Go.Proofs.YtekpbpcfeopilaaDoorW.PrintLast Go.Proofs.YtekpbpcfeopilaaDoorW.PrintMore

def getS (s : ByteArray) (a n : Int) : Int × Int × Int :=
  if n < 1 ∨ 8 < n ∨ a < 0 ∨ (s.size : Int) < a then (0, 0, 2) else if (s.size : Int) - a < n then (0, 0, 3) else (((num (cut s a.toNat n.toNat) : Nat) : Int), a + n, 0)

theorem j_true (s : ByteArray) (a n : Int) : words_Get.j0 (99 + 1) s a n true = some (0, 0, 2) := by
  simp only [words_Get.j0]
  rfl
theorem getS_f (s : ByteArray) (a n : Int) (hb : s.size ≤ 9223372036854775000) : words_Get.f 100 s a n = some (getS s a n) := by
  unfold getS
  by_cases h1 : n < 1 ∨ 8 < n ∨ a < 0 ∨ (s.size : Int) < a
  · rw [if_pos h1]
    unfold words_Get.f
    by_cases c1 : n < 1
    · rw [if_pos c1]; exact j_true s a n
    · rw [if_neg c1]
      by_cases c2 : n > 8
      · rw [if_pos c2]; exact j_true s a n
      · rw [if_neg c2]
        by_cases c3 : a < 0
        · rw [if_pos c3]; exact j_true s a n
        · rw [if_neg c3, decide_eq_true (show a > (s.size : Int) by omega)]
          exact j_true s a n
  · rw [if_neg h1]
    by_cases h2 : (s.size : Int) - a < n
    · rw [if_pos h2]
      unfold words_Get.f
      rw [if_neg (by omega), if_neg (by omega), if_neg (by omega), decide_eq_false (show ¬ a > (s.size : Int) by omega)]
      show words_Get.j0 (99 + 1) _ _ _ _ = _
      simp only [words_Get.j0]
      rw [if_neg (by decide), wrap_id (by omega) (by omega), if_pos h2]
    · rw [if_neg h2]
      obtain ⟨x, rfl⟩ := Int.eq_ofNat_of_zero_le (show 0 ≤ a by omega)
      obtain ⟨y, rfl⟩ := Int.eq_ofNat_of_zero_le (show 0 ≤ n by omega)
      have := get_f s x y (by omega) (by omega) (by omega) hb
      simpa using this
theorem get_at (s : ByteArray) (a n : Int) (w : World) (hb : s.size ≤ 9223372036854775000) :
    Calls Tryd.prog 35 #[.string s, .int .i64 a, .int .i64 n] w fun e w' => e = .returned (.tuple #[.int .u64 (getS s a n).1, .int .i64 (getS s a n).2.1, .int .i64 (getS s a n).2.2]) ∧ Drawn0 w w' :=
  words_Get.calls 100 s a n _ _ _ w (getS_f s a n hb)

end Go.Proofs.YtekpbpcfeopilaaDoor.Gw

/-! frame.Sum: a number of 32 bits for every text. -/
namespace Go.Proofs.YtekpbpcfeopilaaDoor.Sm
open Go Go.RowKit Go.Proofs.YtekpbpcfeopilaaDoorCore Go.Proofs.YtekpbpcfeopilaaDoor.Puts Go.Proofs.YtekpbpcfeopilaaDoorW.PrintWords Go.Proofs.YtekpbpcfeopilaaDoorW.PrintLast Go.Proofs.YtekpbpcfeopilaaDoorW.PrintMore

def stepC (y : Int) : Int := bits BinOp.xor IntKind.u32 (y / 2) (bits BinOp.and IntKind.u32 2197175160 (-bits BinOp.and IntKind.u32 y 1 % 4294967296))
def stepsC : Nat → Int → Int
  | 0, y => y
  | n + 1, y => stepsC n (stepC y)
def mixC (c : Int) (b : UInt8) : Int := bits BinOp.xor IntKind.u32 c ((b.toNat : Int) % 4294967296)
def sumC : List UInt8 → Int → Int
  | [], c => c
  | b :: l, c => sumC l (stepsC 8 (mixC c b))
theorem xor_bd (a b : Int) : 0 ≤ bits BinOp.xor IntKind.u32 a b ∧ bits BinOp.xor IntKind.u32 a b < 4294967296 := by
  show 0 ≤ IntKind.u32.wrap (((BitVec.ofInt 32 a ^^^ BitVec.ofInt 32 b).toNat : Nat) : Int) ∧ IntKind.u32.wrap (((BitVec.ofInt 32 a ^^^ BitVec.ofInt 32 b).toNat : Nat) : Int) < 4294967296
  rw [IntKind.wrap_u32]
  omega
theorem sumC_at (s : ByteArray) (k : Nat) (h : k < s.size) (c : Int) : sumC (s.data.toList.drop k) c = sumC (s.data.toList.drop (k + 1)) (stepsC 8 (mixC c s[k])) := by
  have h2 : k < s.data.toList.length := by simpa using h
  rw [List.drop_eq_getElem_cons h2, sumC]
  simp
  rfl

/-- The check sum. -/
def sumN (l : List UInt8) : Nat := (bits BinOp.xor IntKind.u32 IntKind.u32.max (sumC l 4294967295)).toNat
theorem sumN_lt (l : List UInt8) : sumN l < 4294967296 := by
  have := xor_bd IntKind.u32.max (sumC l 4294967295)
  unfold sumN
  omega
theorem sumN_int (l : List UInt8) : bits BinOp.xor IntKind.u32 IntKind.u32.max (sumC l 4294967295) = ((sumN l : Nat) : Int) := by
  have := xor_bd IntKind.u32.max (sumC l 4294967295)
  unfold sumN
  omega
theorem ret_u32 {a b : Int} (h : a = b) : Ending.returned (.int .u32 a) = .returned (.int .u32 b) := by rw [h]
structure In1 (s : ByteArray) (c i : Value) (k : Nat) (x : Int) : Prop where
  le : k ≤ s.size
  slot : i = .int .i64 k
  val : c = .int .u32 x
  bd : 0 ≤ x ∧ x < 4294967296
  sum : sumC s.data.toList 4294967295 = sumC (s.data.toList.drop k) x
def Rel1 (s : ByteArray) (c i : Value) : Prop := ∃ k x, In1 s c i k x
structure In2 (x : Int) (c i : Value) (j : Nat) (y : Int) : Prop where
  le : j ≤ 8
  slot : i = .int .i64 j
  val : c = .int .u32 y
  bd : 0 ≤ y ∧ y < 4294967296
  sum : stepsC 8 x = stepsC (8 - j) y
def Rel2 (x : Int) (c i : Value) : Prop := ∃ j y, In2 x c i j y

set_option maxHeartbeats 4000000 in
set_option maxRecDepth 100000 in
theorem sum_any (s : ByteArray) (w : World) (hs : s.size ≤ 140737488355328) : Calls Tryd.prog 76 #[.string s] w fun e w' => e = .returned (.int .u32 ((sumN s.data.toList : Nat) : Int)) ∧ Drawn0 w w' := by
  go_enter Tryd.func76, Tryd.ntmps76
  go_wp2_with fail
  go_loop [3, 7] (fun c i => Rel1 s c i) (fun _ i => s.size - (intOf i).toNat)
  case atStart => exact ⟨0, _, Nat.zero_le _, rfl, rfl, ⟨by decide, by decide⟩, by rw [List.drop_zero]⟩
  case round =>
    obtain ⟨k, c, hk, rfl, rfl, hbd, hsum⟩ := hrel
    have HS := Lib.hid hsum
    obtain ⟨h0, h1⟩ := hbd
    clear hsum
    by_cases hlt : k < s.size
    · have HN := Lib.hid (sumC_at s k hlt c)
      go_wp2_with fail
      obtain ⟨x, hx⟩ : ∃ x, bits BinOp.xor IntKind.u32 c ((s[k].toNat : Int) % 4294967296) = x := ⟨_, rfl⟩
      have hxb := xor_bd c ((s[k].toNat : Int) % 4294967296)
      rw [hx] at hxb ⊢
      have HX : Hid (mixC c s[k] = x) := Lib.hid hx
      obtain ⟨x0, x1⟩ := hxb
      clear hx
      go_loop [3, 16] (fun c i => Rel2 x c i) (fun _ i => 8 - (intOf i).toNat)
      case atStart => exact ⟨0, x, Nat.zero_le _, rfl, rfl, ⟨x0, x1⟩, rfl⟩
      case round =>
        obtain ⟨j, y, hj, rfl, rfl, hyb, hst⟩ := hrel
        have HT := Lib.hid hst
        obtain ⟨k0, k1⟩ := hyb
        clear hst
        by_cases hlt2 : j < 8
        · have hj8 : 8 - j = (8 - (j + 1)) + 1 := by omega
          have HJ := Lib.hid hj8
          clear hj8
          go_wp2_with fail
          go_round
          case rel => exact ⟨j + 1, stepC y, by omega, by go_num, rfl, xor_bd _ _, by rw [HT.out, HJ.out]; rfl⟩
          case measure => simp [intOf]; omega
        · obtain rfl : j = 8 := by omega
          go_wp2_with fail
          go_round
          case rel => exact ⟨k + 1, y, by omega, by go_num, rfl, ⟨k0, k1⟩, by rw [HS.out, HN.out, HX.out, HT.out]; rfl⟩
          case measure => simp [intOf]; omega
    · obtain rfl : k = s.size := by omega
      go_wp2_with fail
      refine bodyPost_ret (v := .int .u32 (bits BinOp.xor IntKind.u32 IntKind.u32.max c)) (by simp [results, Tryd.results76, go_sem]) rfl ⟨ret_u32 ?_, Drawn0.refl _⟩
      rw [← sumN_int, HS.out, List.drop_of_length_le (by simp)]
      rfl

end Go.Proofs.YtekpbpcfeopilaaDoor.Sm

/-! Frames and heads, as plain data. No program in sight. -/
namespace Go.Proofs.YtekpbpcfeopilaaDoor.Fp
open Go Go.Proofs.YtekpbpcfeopilaaDoor.Puts Go.Proofs.YtekpbpcfeopilaaDoor.Pars Go.Proofs.YtekpbpcfeopilaaDoor.Join Go.Proofs.YtekpbpcfeopilaaDoor.Areas Go.Proofs.YtekpbpcfeopilaaDoor.Back

section
variable {sm : List UInt8 → Nat}
/-- A frame: the length, the check sum, the body. -/
def frameL (sm : List UInt8 → Nat) (b : List UInt8) : List UInt8 := beL 2 b.length ++ (beL 4 (sm (beL 2 b.length ++ b)) ++ b)
/-- The body of the frame that bytes begin with, and the rest. -/
def getL (sm : List UInt8 → Nat) (s : List UInt8) : Option (List UInt8 × List UInt8) :=
  if s.length < 2 then none
  else if num (s.take 2) = 0 ∨ 4096 < num (s.take 2) ∨ s.length < 6 + num (s.take 2) then none
  else if num ((s.drop 2).take 4) = sm (s.take 2 ++ (s.drop 6).take (num (s.take 2))) then some ((s.drop 6).take (num (s.take 2)), s.drop (6 + num (s.take 2)))
  else none
def fine (b : List UInt8) : Prop := 1 ≤ b.length ∧ b.length ≤ 4096

theorem frameL_length (b : List UInt8) : (frameL sm b).length = 6 + b.length := by simp [frameL, beL_length]; omega
theorem take2 (b r : List UInt8) : (frameL sm b ++ r).take 2 = beL 2 b.length := by
  unfold frameL
  rw [List.append_assoc, List.take_append_of_le_length (by rw [beL_length]; exact Nat.le_refl _), List.take_of_length_le (by rw [beL_length]; exact Nat.le_refl _)]
theorem num2 {b : List UInt8} (hb : fine b) : num (beL 2 b.length) = b.length := num_beL 2 _ (by have := hb.2; show _ < 65536; omega)

theorem getL_frame (hs : ∀ l, sm l < 4294967296) {b : List UInt8} (hb : fine b) (r : List UInt8) : getL sm (frameL sm b ++ r) = some (b, r) := by
  have h2 : num ((frameL sm b ++ r).take 2) = b.length := by rw [take2, num2 hb]
  have e6 : (frameL sm b ++ r).drop 6 = b ++ r := by
    unfold frameL
    rw [show beL 2 b.length ++ (beL 4 (sm (beL 2 b.length ++ b)) ++ b) ++ r = (beL 2 b.length ++ beL 4 (sm (beL 2 b.length ++ b))) ++ (b ++ r) by simp only [List.append_assoc]]
    have hl : (beL 2 b.length ++ beL 4 (sm (beL 2 b.length ++ b))).length = 6 := by simp [beL_length]
    rw [List.drop_append_of_le_length (by omega), List.drop_of_length_le (by omega), List.nil_append]
  have e24 : ((frameL sm b ++ r).drop 2).take 4 = beL 4 (sm (beL 2 b.length ++ b)) := by
    unfold frameL
    rw [List.append_assoc, List.drop_append_of_le_length (by rw [beL_length]; exact Nat.le_refl _), List.drop_of_length_le (by rw [beL_length]; exact Nat.le_refl _), List.nil_append, List.append_assoc,
      List.take_append_of_le_length (by rw [beL_length]; exact Nat.le_refl _), List.take_of_length_le (by rw [beL_length]; exact Nat.le_refl _)]
  have e7 : (frameL sm b ++ r).drop (6 + b.length) = r := by
    rw [← List.drop_drop, e6, List.drop_append_of_le_length (Nat.le_refl _), List.drop_of_length_le (Nat.le_refl _), List.nil_append]
  have hl : (frameL sm b ++ r).length = 6 + b.length + r.length := by rw [List.length_append, frameL_length]
  have h0 := hb.1
  have h1 := hb.2
  unfold getL
  rw [if_neg (by omega), h2, if_neg (by omega), e24, take2, e6, e7, List.take_append_of_le_length (Nat.le_refl _), List.take_of_length_le (Nat.le_refl _), num_beL 4 _ (by exact hs _), if_pos rfl]

theorem getL_some {s b r : List UInt8} (h : getL sm s = some (b, r)) : fine b ∧ s = frameL sm b ++ r := by
  unfold getL at h
  split at h
  · cases h
  · rename_i h1
    split at h
    · cases h
    · rename_i h2
      split at h
      · rename_i h3
        injection h with h
        injection h with hb hr
        obtain ⟨n, hn⟩ : ∃ n, num (s.take 2) = n := ⟨_, rfl⟩
        rw [hn] at h2 h3 hb hr
        have hlen : ((s.drop 6).take n).length = n := by rw [List.length_take, List.length_drop]; omega
        rw [hb] at hlen h3
        have e2 : s.take 2 = beL 2 n := by
          have := beL_num (s.take 2)
          rw [show (s.take 2).length = 2 by rw [List.length_take]; omega, hn] at this
          exact this.symm
        have e4 : (s.drop 2).take 4 = beL 4 (sm (s.take 2 ++ b)) := by
          have := beL_num ((s.drop 2).take 4)
          rw [show ((s.drop 2).take 4).length = 4 by rw [List.length_take, List.length_drop]; omega, h3] at this
          exact this.symm
        refine ⟨⟨by omega, by omega⟩, ?_⟩
        unfold frameL
        rw [hlen, ← e2, ← e4, ← hb, ← hr]
        have k1 : s = s.take 2 ++ s.drop 2 := (List.take_append_drop 2 s).symm
        have k2 : s.drop 2 = (s.drop 2).take 4 ++ s.drop 6 := by
          have := (List.take_append_drop 4 (s.drop 2)).symm
          rwa [List.drop_drop] at this
        have k3 : s.drop 6 = (s.drop 6).take n ++ s.drop (6 + n) := by
          have := (List.take_append_drop n (s.drop 6)).symm
          rwa [List.drop_drop] at this
        rw [List.append_assoc, List.append_assoc, ← k3, ← k2, ← k1]
      · cases h

/-- A frame that is cut off is none. -/
theorem getL_cut {b : List UInt8} (hb : fine b) {k : Nat} (hk : k < 6 + b.length) : getL sm ((frameL sm b).take k) = none := by
  have hl : ((frameL sm b).take k).length = k := by rw [List.length_take, frameL_length]; omega
  unfold getL
  by_cases h2 : k < 2
  · rw [if_pos (by omega)]
  · rw [if_neg (by omega)]
    have e : ((frameL sm b).take k).take 2 = beL 2 b.length := by
      rw [List.take_take, show min 2 k = 2 by omega]
      have := take2 (sm := sm) b []
      rwa [List.append_nil] at this
    rw [e, num2 hb, if_pos (.inr (.inr (by omega)))]
theorem getL_nil : getL sm [] = none := by unfold getL; rw [if_pos (by decide)]

/-- The bodies of the frames that bytes begin with. -/
def allL (sm : List UInt8 → Nat) : Nat → List UInt8 → List (List UInt8)
  | 0, _ => []
  | k + 1, s => match getL sm s with
    | none => []
    | some p => p.1 :: allL sm k p.2
def framesL (sm : List UInt8 → Nat) (l : List (List UInt8)) : List UInt8 := l.flatMap (frameL sm)
theorem framesL_cons (b : List UInt8) (l : List (List UInt8)) : framesL sm (b :: l) = frameL sm b ++ framesL sm l := rfl
theorem framesL_snoc (b : List UInt8) (l : List (List UInt8)) : framesL sm (l ++ [b]) = framesL sm l ++ frameL sm b := by simp [framesL]
theorem framesL_long (l : List (List UInt8)) : l.length ≤ (framesL sm l).length := by
  induction l with
  | nil => exact Nat.le_refl _
  | cons b l ih => rw [framesL_cons, List.length_append, frameL_length, List.length_cons]; omega

theorem allL_frames (hs : ∀ l, sm l < 4294967296) : ∀ (l : List (List UInt8)) (k : Nat) (p : List UInt8), (∀ b ∈ l, fine b) → l.length < k → getL sm p = none → allL sm k (framesL sm l ++ p) = l := by
  intro l
  induction l with
  | nil =>
    intro k p _ hk hp
    obtain ⟨k, rfl⟩ : ∃ j, k = j + 1 := ⟨k - 1, by simp at hk; omega⟩
    show allL sm (k + 1) p = []
    rw [allL, hp]
  | cons b l ih =>
    intro k p hf hk hp
    obtain ⟨k, rfl⟩ : ∃ j, k = j + 1 := ⟨k - 1, by simp at hk; omega⟩
    rw [framesL_cons, List.append_assoc, allL, getL_frame hs (hf b (List.mem_cons_self ..))]
    show b :: allL sm k (framesL sm l ++ p) = b :: l
    rw [ih k p (fun x hx => hf x (List.mem_cons_of_mem _ hx)) (by simp at hk; omega) hp]
theorem allL_spec : ∀ (k : Nat) (s : List UInt8), s.length < k → ∃ p, s = framesL sm (allL sm k s) ++ p ∧ getL sm p = none ∧ ∀ b ∈ allL sm k s, fine b := by
  intro k
  induction k with
  | zero => intro s h; omega
  | succ k ih =>
    intro s hk
    rw [allL]
    cases hg : getL sm s with
    | none => exact ⟨s, rfl, hg, fun b hb => by cases hb⟩
    | some x =>
      obtain ⟨b, r⟩ := x
      obtain ⟨hb, rfl⟩ := getL_some hg
      have hl : (frameL sm b ++ r).length = 6 + b.length + r.length := by rw [List.length_append, frameL_length]
      obtain ⟨p, h1, h2, h3⟩ := ih r (by omega)
      refine ⟨p, ?_, h2, fun x hx => ?_⟩
      · show frameL sm b ++ r = framesL sm (b :: allL sm k r) ++ p
        rw [framesL_cons, List.append_assoc, ← h1]
      · rcases List.mem_cons.1 hx with rfl | hx
        · exact hb
        · exact h3 x hx

def toL (b : ByteArray) : List UInt8 := b.data.toList
def mkB (l : List UInt8) : ByteArray := ⟨l.toArray⟩
theorem mk_to (b : ByteArray) : mkB (toL b) = b := by apply ByteArray.ext; simp [mkB, toL]
theorem to_mk (l : List UInt8) : toL (mkB l) = l := by simp [mkB, toL]
theorem toL_length (b : ByteArray) : (toL b).length = b.size := by simp [toL]

/-- The records of data. -/
def recs (sm : List UInt8 → Nat) (s : List UInt8) : List ByteArray := (allL sm (s.length + 1) s).map mkB
/-- The data of records. -/
def dataOf (sm : List UInt8 → Nat) (l : List ByteArray) : List UInt8 := framesL sm (l.map toL)
def okB (b : ByteArray) : Prop := 1 ≤ b.size ∧ b.size ≤ 4096
theorem okB_fine {b : ByteArray} : fine (toL b) ↔ okB b := by unfold fine okB; rw [toL_length]
theorem dataOf_snoc (l : List ByteArray) (b : ByteArray) : dataOf sm (l ++ [b]) = dataOf sm l ++ frameL sm (toL b) := by unfold dataOf; rw [List.map_append, List.map_singleton, framesL_snoc]
theorem map_mk_to (l : List ByteArray) : (l.map toL).map mkB = l := by
  rw [List.map_map]
  have : mkB ∘ toL = id := by funext b; exact mk_to b
  rw [this, List.map_id]
theorem map_to_mk (l : List (List UInt8)) : (l.map mkB).map toL = l := by
  rw [List.map_map]
  have : toL ∘ mkB = id := by funext b; exact to_mk b
  rw [this, List.map_id]
theorem recs_frames (hs : ∀ l, sm l < 4294967296) {l : List ByteArray} (hf : ∀ b ∈ l, okB b) {p : List UInt8} (hp : getL sm p = none) : recs sm (dataOf sm l ++ p) = l := by
  unfold recs dataOf
  rw [allL_frames hs (l.map toL) _ p (fun b hb => ?_) ?_ hp, map_mk_to]
  · have := framesL_long (sm := sm) (l.map toL)
    rw [List.length_append]
    omega
  · obtain ⟨x, hx, rfl⟩ := List.mem_map.1 hb
    exact okB_fine.2 (hf x hx)
theorem recs_spec (s : List UInt8) : (∃ p, s = dataOf sm (recs sm s) ++ p) ∧ ∀ b ∈ recs sm s, okB b := by
  obtain ⟨p, h1, _, h3⟩ := allL_spec (sm := sm) (s.length + 1) s (Nat.lt_succ_self _)
  refine ⟨⟨p, ?_⟩, fun b hb => ?_⟩
  · unfold dataOf recs
    rw [map_to_mk]
    exact h1
  · obtain ⟨x, hx, rfl⟩ := List.mem_map.1 hb
    rw [← okB_fine, to_mk]
    exact h3 x hx
/-- The records of data that is cut off within the last frame. -/
theorem recs_cut (hs : ∀ l, sm l < 4294967296) {l : List ByteArray} {x : ByteArray} (hf : ∀ b ∈ l, okB b) (hx : okB x) {k : Nat} (h1 : (dataOf sm l).length ≤ k) (h2 : k ≤ (dataOf sm (l ++ [x])).length) :
    recs sm ((dataOf sm (l ++ [x])).take k) = l ∨ recs sm ((dataOf sm (l ++ [x])).take k) = l ++ [x] := by
  have hfl := frameL_length (sm := sm) (toL x)
  by_cases h : k = (dataOf sm (l ++ [x])).length
  · right
    rw [h, List.take_of_length_le (Nat.le_refl _)]
    have := recs_frames hs (l := l ++ [x]) (fun b hb => by
      rcases List.mem_append.1 hb with hb | hb
      · exact hf b hb
      · rw [List.mem_singleton.1 hb]; exact hx) (getL_nil (sm := sm))
    rwa [List.append_nil] at this
  · left
    rw [dataOf_snoc] at h h2 ⊢
    rw [List.length_append, hfl] at h h2
    rw [List.take_append, List.take_of_length_le h1]
    exact recs_frames hs hf (getL_cut (okB_fine.2 hx) (by omega))
end

/-! Heads -/
def magicL : List UInt8 := [80, 82, 69, 67, 73, 78, 67, 84]
def headL (g k : Nat) : List UInt8 := magicL ++ (beL 6 g ++ (beL 1 k ++ List.replicate 49 0))
theorem headL_length (g k : Nat) : (headL g k).length = 64 := by simp [headL, magicL, beL_length]
def headS (g k : Nat) : ByteArray := ⟨(headL g k).toArray⟩
theorem headS_size (g k : Nat) : (headS g k).size = 64 := by show (headL g k).toArray.size = 64; simp [headL_length]
theorem head_gen (g k : Nat) : cut (headS g k) 8 6 = beL 6 g := by
  unfold cut headS headL
  simp only
  rw [List.drop_append_of_le_length (by simp [magicL]), List.drop_of_length_le (by simp [magicL]), List.nil_append, List.take_append_of_le_length (by rw [beL_length]; exact Nat.le_refl _), List.take_of_length_le (by rw [beL_length]; exact Nat.le_refl _)]
theorem head_half (g k : Nat) : cut (headS g k) 14 1 = beL 1 k := by
  unfold cut headS headL
  simp only
  rw [← List.append_assoc, List.drop_append_of_le_length (by simp [magicL, beL_length]), List.drop_of_length_le (by simp [magicL, beL_length]), List.nil_append, List.take_append_of_le_length (by rw [beL_length]; exact Nat.le_refl _), List.take_of_length_le (by rw [beL_length]; exact Nat.le_refl _)]
/-- The generation and the half that a sector tells. -/
def parseH (s : ByteArray) : Nat × Nat × Bool := if num (cut s 8 6) = 0 ∨ 1 < num (cut s 14 1) ∨ s ≠ headS (num (cut s 8 6)) (num (cut s 14 1)) then (0, 0, false) else (num (cut s 8 6), num (cut s 14 1), true)
theorem parseH_head {g k : Nat} (h1 : 1 ≤ g) (h2 : g ≤ 281474976710655) (hk : k ≤ 1) : parseH (headS g k) = (g, k, true) := by
  unfold parseH
  rw [head_gen, head_half, num_beL 6 g (by show _ < 281474976710656; omega), num_beL 1 k (by show _ < 256; omega), if_neg]
  rintro (h | h | h)
  · omega
  · omega
  · exact h rfl
theorem parseH_some {s : ByteArray} {g k : Nat} (h : parseH s = (g, k, true)) : 1 ≤ g ∧ g ≤ 281474976710655 ∧ k ≤ 1 ∧ s = headS g k := by
  unfold parseH at h
  split at h
  · cases h
  · rename_i hn
    injection h with h1 h2
    injection h2 with h2 _
    have hlt := num_lt (cut s 8 6)
    have hl : (cut s 8 6).length ≤ 6 := by unfold cut; rw [List.length_take]; omega
    have h7 : (256 : Nat) ^ (cut s 8 6).length ≤ 256 ^ 6 := Nat.pow_le_pow_right (by decide) hl
    have h8 : (256 : Nat) ^ 6 = 281474976710656 := by decide
    rw [h1, h2] at hn
    rw [h1] at hlt
    refine ⟨by omega, by omega, by omega, Classical.byContradiction fun hc => hn (.inr (.inr hc))⟩
theorem parseH_cases (s : ByteArray) : (∃ g k, parseH s = (g, k, true)) ∨ parseH s = (0, 0, false) := by
  unfold parseH
  split
  · exact .inr rfl
  · exact .inl ⟨_, _, rfl⟩

end Go.Proofs.YtekpbpcfeopilaaDoor.Fp

/-! Cells that are written and flushed, or lost: plain. No program in sight. -/
namespace Go.Proofs.YtekpbpcfeopilaaDoor.Lw
open Go Go.Proofs.YtekpbpcfeopilaaDoor.Dm Go.Proofs.YtekpbpcfeopilaaDoor.Da Go.Proofs.YtekpbpcfeopilaaDoor.Df Go.Proofs.YtekpbpcfeopilaaDoor.Dg Go.Proofs.YtekpbpcfeopilaaDoor.Dh Go.Proofs.YtekpbpcfeopilaaDoor.Di Go.Proofs.YtekpbpcfeopilaaDoor.Dj Go.Proofs.YtekpbpcfeopilaaDoor.Dk Go.Proofs.YtekpbpcfeopilaaDoor.Dl

/-- Cells are written, from a sector on; they last. -/
def layW (n : Int) : MDisk → Int → List ByteArray → Int × MDisk
  | m, _, [] => (flushE m n, flushM m n)
  | m, b, c :: r => if writeE m n b c = 0 then layW n (writeM m n b c) (b + 1) r else (writeE m n b c, writeM m n b c)

/-- A region of a disk whose power is on. -/
structure Live (m : MDisk) (k : Nat) (L : List ByteArray) (Q : List (Int × ByteArray)) : Prop where
  on : m.off = false
  reg : m.regs[k]? = some ⟨L, Q⟩
/-- A region of a disk whose power is off. -/
structure Dead (m : MDisk) (k : Nat) (L : List ByteArray) : Prop where
  off : m.off = true
  reg : m.regs[k]? = some ⟨L, []⟩

section
variable {m : MDisk} {k : Nat} {L : List ByteArray} {Q : List (Int × ByteArray)}
theorem sectors_of (h : m.regs[k]? = some ⟨L, Q⟩) : sectorsM m (k : Int) = L.length := by
  unfold sectorsM
  rw [if_pos (by omega)]
  simp [h]
theorem Live.find (h : Live m k L Q) {s : Nat} (hs : s < L.length) : findM m k s = 0 := by
  unfold findM
  rw [if_neg (by rw [h.on]; decide), if_pos ⟨by omega, by omega, by rw [sectors_of h.reg]; omega⟩]
theorem enq_reg (h : m.regs[k]? = some ⟨L, Q⟩) (p : Int × ByteArray) : (enqM m k p).regs[k]? = some ⟨L, Q ++ [p]⟩ := by
  unfold enqM
  simp [h]
theorem lose_reg (h : m.regs[k]? = some ⟨L, Q⟩) (keep : List Int) : (loseM keep m).regs[k]? = some ⟨putQ (bitK keep k) 0 Q L, []⟩ := by
  unfold loseM loseRs
  simp [h, lastR]
theorem Live.write (h : Live m k L Q) {s : Nat} (hs : s < L.length) {c : ByteArray} (h64 : c.size = 64) :
    (writeE m k s c = 0 ∧ Live (writeM m k s c) k L (Q ++ [((s : Int), c)])) ∨ (writeE m k s c = 11 ∧ ∃ kept, Dead (writeM m k s c) k (putQ kept 0 (Q ++ [((s : Int), c)]) L)) := by
  have hf := h.find hs
  have he := enq_reg h.reg ((s : Int), c)
  have ht : (k : Int).toNat = k := Int.toNat_natCast k
  have hfe : failsM (enqM m k ((s : Int), c)) k = failsM m k := rfl
  by_cases hc : failsM m k = true
  · right
    have hE : writeE m k s c = 11 := by unfold writeE; rw [if_pos hf, if_pos h64, if_pos hc]
    have hM : writeM m k s c = loseM (enqM m k ((s : Int), c)).keep (enqM m k ((s : Int), c)) := by
      unfold writeM
      rw [if_pos ⟨hf, h64⟩, ht]
      exact if_pos (hfe.trans hc)
    rw [hE, hM]
    exact ⟨rfl, _, rfl, lose_reg he _⟩
  · left
    have hE : writeE m k s c = 0 := by unfold writeE; rw [if_pos hf, if_pos h64, if_neg hc]
    have hM : writeM m k s c = tickM (enqM m k ((s : Int), c)) k := by
      unfold writeM
      rw [if_pos ⟨hf, h64⟩, ht]
      exact if_neg (fun h => hc (hfe.symm.trans h))
    rw [hE, hM]
    refine ⟨rfl, ?_, ?_⟩
    · unfold tickM
      split
      · exact h.on
      · exact h.on
    · rw [tick_regs]
      exact he
theorem Live.flush (h : Live m k L Q) :
    (flushE m k = 0 ∧ Live (flushM m k) k (putQ (fun _ => true) 0 Q L) []) ∨ (flushE m k = 11 ∧ ∃ kept, Dead (flushM m k) k (putQ kept 0 Q L)) := by
  have hk : k < m.regs.length := (List.getElem?_eq_some_iff.1 h.reg).1
  have hoff : ¬ m.off = true := by rw [h.on]; decide
  have hk2 : 0 ≤ (k : Int) ∧ (k : Int) < m.regs.length := by omega
  have ht : (k : Int).toNat = k := Int.toNat_natCast k
  by_cases hc : failsM m k = true
  · right
    have hE : flushE m k = 11 := by unfold flushE; rw [if_neg hoff, if_pos hk2, if_pos hc]
    have hM : flushM m k = loseM m.keep m := by unfold flushM; rw [if_neg hoff, if_pos hk2, if_pos hc]
    rw [hE, hM]
    exact ⟨rfl, _, rfl, lose_reg h.reg _⟩
  · left
    have hE : flushE m k = 0 := by unfold flushE; rw [if_neg hoff, if_pos hk2, if_neg hc]
    have hM : flushM m k = setM (tickM m k) k (lastR (fun _ => true) (m.regs.getD k ⟨[], []⟩)) := by unfold flushM; rw [if_neg hoff, if_pos hk2, if_neg hc, ht]
    rw [hE, hM]
    refine ⟨rfl, ?_, ?_⟩
    · unfold setM tickM
      split
      · exact h.on
      · exact h.on
    · have e : m.regs.getD k ⟨[], []⟩ = ⟨L, Q⟩ := by rw [List.getD_eq_getElem?_getD, h.reg]; rfl
      rw [e]
      unfold setM
      rw [tick_regs]
      simp [hk, lastR]
end

/-- The writes of cells from a sector on. -/
def pairs : Nat → List ByteArray → List (Int × ByteArray)
  | _, [] => []
  | b, c :: r => ((b : Int), c) :: pairs (b + 1) r
theorem mem_pairs : ∀ (cs : List ByteArray) (b : Nat) (p : Int × ByteArray), p ∈ pairs b cs → ∃ j, cs[j]? = some p.2 ∧ p.1 = ((b + j : Nat) : Int) := by
  intro cs
  induction cs with
  | nil => intro b p h; cases h
  | cons c r ih =>
    intro b p h
    rcases List.mem_cons.1 h with rfl | h
    · exact ⟨0, rfl, rfl⟩
    · obtain ⟨j, h1, h2⟩ := ih (b + 1) p h
      exact ⟨j + 1, h1, by rw [h2]; omega⟩

theorem layW_out {k : Nat} {L : List ByteArray} : ∀ (cs : List ByteArray) (m : MDisk) (b : Nat) (Q : List (Int × ByteArray)), Live m k L Q → b + cs.length ≤ L.length → (∀ c ∈ cs, c.size = 64) →
    ((layW k m b cs).1 = 0 ∧ Live (layW k m b cs).2 k (putQ (fun _ => true) 0 (Q ++ pairs b cs) L) []) ∨ ((layW k m b cs).1 = 11 ∧ ∃ kept Q', Dead (layW k m b cs).2 k (putQ kept 0 (Q ++ Q') L) ∧ ∀ p ∈ Q', p ∈ pairs b cs) := by
  intro cs
  induction cs with
  | nil =>
    intro m b Q h _ _
    show (flushE m k = 0 ∧ Live (flushM m k) k _ []) ∨ (flushE m k = 11 ∧ _)
    rcases h.flush with ⟨h1, h2⟩ | ⟨h1, kept, h2⟩
    · exact .inl ⟨h1, by rw [pairs, List.append_nil]; exact h2⟩
    · exact .inr ⟨h1, kept, [], by rw [List.append_nil]; exact h2, fun p hp => by cases hp⟩
  | cons c r ih =>
    intro m b Q h hb h64
    rw [List.length_cons] at hb
    rcases h.write (s := b) (by omega) (h64 c (List.mem_cons_self ..)) with ⟨h1, h2⟩ | ⟨h1, kept, h2⟩
    · have e : layW k m b (c :: r) = layW k (writeM m k b c) ((b + 1 : Nat) : Int) r := by
        rw [layW, if_pos h1]
        rfl
      rw [e]
      rcases ih (writeM m k b c) (b + 1) _ h2 (by omega) (fun x hx => h64 x (List.mem_cons_of_mem _ hx)) with ⟨h3, h4⟩ | ⟨h3, kept, Q', h4, h5⟩
      · refine .inl ⟨h3, ?_⟩
        rw [List.append_assoc] at h4
        exact h4
      · refine .inr ⟨h3, kept, ((b : Int), c) :: Q', ?_, fun p hp => ?_⟩
        · rw [List.append_assoc] at h4
          exact h4
        · rcases List.mem_cons.1 hp with rfl | hp
          · exact List.mem_cons_self ..
          · exact List.mem_cons_of_mem _ (h5 p hp)
    · have e : layW k m b (c :: r) = (writeE m k b c, writeM m k b c) := by rw [layW, if_neg (by rw [h1]; decide)]
      rw [e]
      exact .inr ⟨h1, kept, [((b : Int), c)], h2, fun p hp => by rw [List.mem_singleton.1 hp]; exact List.mem_cons_self ..⟩

/-- Cells stand in sectors, from one on; the others are as they were. -/
structure Wrote (L : List ByteArray) (b : Nat) (cs : List ByteArray) (L' : List ByteArray) : Prop where
  len : L'.length = L.length
  new : ∀ j c, cs[j]? = some c → L'[b + j]? = some c
  old : ∀ i, (i < b ∨ b + cs.length ≤ i) → L'[i]? = L[i]?
/-- Some of them do. -/
structure Torn (L : List ByteArray) (b : Nat) (cs : List ByteArray) (L' : List ByteArray) : Prop where
  len : L'.length = L.length
  at_ : ∀ i, L'[i]? = L[i]? ∨ ∃ j c, cs[j]? = some c ∧ i = b + j ∧ L'[i]? = some c

theorem putQ_torn (kept : Nat → Bool) (P : Nat → ByteArray → Prop) : ∀ (Q : List (Int × ByteArray)) (i0 : Nat) (L : List ByteArray), (∀ p ∈ Q, P p.1.toNat p.2) → ∀ i, (putQ kept i0 Q L)[i]? = L[i]? ∨ ∃ c, P i c ∧ (putQ kept i0 Q L)[i]? = some c := by
  intro Q
  induction Q with
  | nil => intro i0 L _ i; exact .inl rfl
  | cons p Q ih =>
    intro i0 L h i
    rw [putQ]
    rcases ih (i0 + 1) (if kept i0 = true then L.set p.1.toNat p.2 else L) (fun x hx => h x (List.mem_cons_of_mem _ hx)) i with e | ⟨c, hc, e⟩
    · rw [e]
      by_cases hk : kept i0 = true
      · rw [if_pos hk]
        by_cases hi : p.1.toNat = i
        · by_cases hl : i < L.length
          · right
            refine ⟨p.2, hi ▸ h p (List.mem_cons_self ..), ?_⟩
            subst hi
            rw [List.getElem?_set_self hl]
          · left
            rw [List.getElem?_eq_none (by rw [List.length_set]; omega), List.getElem?_eq_none (by omega)]
        · left
          rw [List.getElem?_set_ne hi]
      · rw [if_neg hk]
        exact .inl rfl
    · exact .inr ⟨c, hc, e⟩
theorem putQ_all : ∀ (cs : List ByteArray) (b i0 : Nat) (L : List ByteArray), b + cs.length ≤ L.length → Wrote L b cs (putQ (fun _ => true) i0 (pairs b cs) L) := by
  intro cs
  induction cs with
  | nil => intro b i0 L _; exact ⟨rfl, fun j c h => by simp at h, fun i _ => rfl⟩
  | cons c r ih =>
    intro b i0 L hb
    rw [List.length_cons] at hb
    rw [pairs, putQ, if_pos rfl]
    have ht : ((b : Nat) : Int).toNat = b := Int.toNat_natCast b
    simp only [ht]
    have h := ih (b + 1) (i0 + 1) (L.set b c) (by rw [List.length_set]; omega)
    refine ⟨by rw [h.len, List.length_set], fun j x hj => ?_, fun i hi => ?_⟩
    · cases j with
      | zero =>
        have := h.old b (.inl (by omega))
        rw [List.getElem?_set_self (by omega)] at this
        exact this.trans hj
      | succ j =>
        have := h.new j x hj
        rwa [show b + 1 + j = b + (j + 1) by omega] at this
    · rw [List.length_cons] at hi
      rw [h.old i (by omega), List.getElem?_set_ne (by omega)]

theorem lay_out {k : Nat} {L : List ByteArray} {m : MDisk} {b : Nat} {cs : List ByteArray} (h : Live m k L []) (hb : b + cs.length ≤ L.length) (h64 : ∀ c ∈ cs, c.size = 64) :
    ((layW k m b cs).1 = 0 ∧ ∃ L', Live (layW k m b cs).2 k L' [] ∧ Wrote L b cs L') ∨ ((layW k m b cs).1 = 11 ∧ ∃ L', Dead (layW k m b cs).2 k L' ∧ Torn L b cs L') := by
  rcases layW_out cs m b [] h hb h64 with ⟨h1, h2⟩ | ⟨h1, kept, Q', h2, h3⟩
  · rw [List.nil_append] at h2
    exact .inl ⟨h1, _, h2, putQ_all cs b 0 L hb⟩
  · rw [List.nil_append] at h2
    refine .inr ⟨h1, _, h2, putQ_length kept _ _ _, fun i => ?_⟩
    rcases putQ_torn kept (fun i c => ∃ j, cs[j]? = some c ∧ i = b + j) Q' 0 L (fun p hp => by
      obtain ⟨j, e1, e2⟩ := mem_pairs cs b p (h3 p hp)
      exact ⟨j, e1, by rw [e2]; rfl⟩) i with e | ⟨c, ⟨j, e1, e2⟩, e⟩
    · exact .inl e
    · exact .inr ⟨j, c, e1, e2, e⟩

end Go.Proofs.YtekpbpcfeopilaaDoor.Lw

/-! Sectors of a half, some of them lost: what they hold together. Plain; no program in sight. -/
namespace Go.Proofs.YtekpbpcfeopilaaDoor.Tp
open Go Go.Proofs.YtekpbpcfeopilaaDoor.Puts Go.Proofs.YtekpbpcfeopilaaDoor.Pars Go.Proofs.YtekpbpcfeopilaaDoor.Join Go.Proofs.YtekpbpcfeopilaaDoor.Areas Go.Proofs.YtekpbpcfeopilaaDoor.Back Go.Proofs.YtekpbpcfeopilaaDoor.Fp Go.Proofs.YtekpbpcfeopilaaDoor.Lw
open Go.Proofs.YtekpbpcfeopilaaDoor.Amk (makeS makeE goodB cellS cellL good_true)

/-- A cell of a generation. -/
def isG (g : Int) (s : ByteArray) : Prop := (parseS s).2.2.2 = true ∧ (parseS s).1 = g
/-- The cell of data at a place. -/
def isC (g : Int) (d : ByteArray) (p : Nat) (s : ByteArray) : Prop := parseS s = (g, (p : Int), chunk d p, true)

theorem chunk_toList (d : ByteArray) (j : Nat) : (chunk d j).data.toList = (d.data.toList.drop (55 * j)).take 55 := by
  unfold chunk
  rw [Lib.extract_data]
  by_cases h : 55 * (j + 1) ≤ d.size
  · rw [show min d.size (55 * (j + 1)) - 55 * j = 55 by omega]
  · have hl : (d.data.toList.drop (55 * j)).length = d.size - 55 * j := by rw [List.length_drop]; simp
    rw [List.take_of_length_le (by omega), List.take_of_length_le (by omega)]
theorem chunk_len (d : ByteArray) (j : Nat) : (chunk d j).size = min 55 (d.size - 55 * j) := by unfold chunk; rw [ByteArray.size_extract]; omega
theorem joinL_cons (g : Int) (s : ByteArray) (r : List ByteArray) (i : Nat) : joinL g (s :: r) i = if (parseS s).2.2.2 = true ∧ (parseS s).1 = g ∧ (parseS s).2.1 = (i : Int) then (if (parseS s).2.2.1.size < 55 then (parseS s).2.2.1.data.toList else (parseS s).2.2.1.data.toList ++ joinL g r (i + 1)) else [] := rfl
theorem joinL_C {g : Int} {d s : ByteArray} {r : List ByteArray} {i : Nat} (h : isC g d i s) : joinL g (s :: r) i = if (chunk d i).size < 55 then (chunk d i).data.toList else (chunk d i).data.toList ++ joinL g r (i + 1) := by
  rw [joinL_cons, h]
  exact if_pos ⟨rfl, rfl, rfl⟩
theorem joinL_no {g : Int} {s : ByteArray} {r : List ByteArray} {i : Nat} (h : ¬ isG g s) : joinL g (s :: r) i = [] := by
  rw [joinL_cons, if_neg (fun c => h ⟨c.1, c.2.1⟩)]

/-- Cells of the data, up to one that isn't of the generation. -/
theorem join_upto {g : Int} {d : ByteArray} : ∀ (R : List ByteArray) (j : Nat), 55 * j ≤ d.size → (∀ p s, R[p]? = some s → isC g d (j + p) s ∨ ¬ isG g s) →
    ∃ k, 55 * j ≤ k ∧ k ≤ d.size ∧ joinL g R j = (d.data.toList.drop (55 * j)).take (k - 55 * j) := by
  intro R
  induction R with
  | nil => intro j hj _; exact ⟨55 * j, Nat.le_refl _, hj, by rw [Nat.sub_self]; rfl⟩
  | cons s R ih =>
    intro j hj h
    have hl : (d.data.toList.drop (55 * j)).length = d.size - 55 * j := by rw [List.length_drop]; simp
    rcases h 0 s rfl with h0 | h0
    · rw [Nat.add_zero] at h0
      rw [joinL_C h0, chunk_len, chunk_toList]
      by_cases hc : min 55 (d.size - 55 * j) < 55
      · rw [if_pos hc]
        refine ⟨d.size, hj, Nat.le_refl _, ?_⟩
        rw [List.take_of_length_le (by omega), List.take_of_length_le (by omega)]
      · rw [if_neg hc]
        obtain ⟨k, k1, k2, k3⟩ := ih (j + 1) (by omega) (fun p x hx => by
          have := h (p + 1) x hx
          rwa [show j + (p + 1) = j + 1 + p by omega] at this)
        refine ⟨k, by omega, k2, ?_⟩
        rw [k3, show 55 * (j + 1) = 55 * j + 55 by omega, ← List.drop_drop]
        rw [show k - 55 * j = 55 + (k - (55 * j + 55)) by omega, List.take_add]
    · exact ⟨55 * j, Nat.le_refl _, hj, by rw [joinL_no h0, Nat.sub_self]; rfl⟩
/-- All cells of the data. -/
theorem join_all {g : Int} {d : ByteArray} : ∀ (R : List ByteArray) (j : Nat), 55 * j ≤ d.size → d.size / 55 < j + R.length → (∀ p s, R[p]? = some s → j + p ≤ d.size / 55 → isC g d (j + p) s) → joinL g R j = d.data.toList.drop (55 * j) := by
  intro R
  induction R with
  | nil => intro j hj h _; simp at h; omega
  | cons s R ih =>
    intro j hj hl h
    have h0 := h 0 s rfl (by omega)
    rw [Nat.add_zero] at h0
    have hdl : (d.data.toList.drop (55 * j)).length = d.size - 55 * j := by rw [List.length_drop]; simp
    rw [joinL_C h0, chunk_len, chunk_toList]
    by_cases hc : min 55 (d.size - 55 * j) < 55
    · rw [if_pos hc, List.take_of_length_le (by omega)]
    · rw [if_neg hc, ih (j + 1) (by omega) (by rw [List.length_cons] at hl; omega) (fun p x hx hp => by
        have := h (p + 1) x hx (by omega)
        rwa [show j + (p + 1) = j + 1 + p by omega] at this), show 55 * (j + 1) = 55 * j + 55 by omega, ← List.drop_drop, List.take_append_drop]
/-- The first cells, all of them full. -/
theorem join_first {g : Int} {d : ByteArray} : ∀ (n : Nat) (R : List ByteArray) (j : Nat), 55 * (j + n) ≤ d.size → n ≤ R.length → (∀ p s, p < n → R[p]? = some s → isC g d (j + p) s) → joinL g R j = (d.data.toList.drop (55 * j)).take (55 * n) ++ joinL g (R.drop n) (j + n) := by
  intro n
  induction n with
  | zero => intro R j _ _ _; simp
  | succ n ih =>
    intro R j hd hn h
    cases R with
    | nil => simp at hn
    | cons s R =>
      rw [List.length_cons] at hn
      have h0 := h 0 s (by omega) rfl
      rw [Nat.add_zero] at h0
      rw [joinL_C h0, chunk_len, chunk_toList, if_neg (by omega), ih R (j + 1) (by omega) (by omega) (fun p x hp hx => by
        have := h (p + 1) x (by omega) hx
        rwa [show j + (p + 1) = j + 1 + p by omega] at this), ← List.append_assoc, List.drop_succ_cons, show j + 1 + n = j + (n + 1) by omega]
      congr 1
      rw [show 55 * (j + 1) = 55 * j + 55 by omega, ← List.drop_drop, show 55 * (n + 1) = 55 + 55 * n by omega, List.take_add]

/-- Sectors, from one on, hold data of a generation; there is nothing else of it. -/
structure Cells (g : Int) (d : ByteArray) (L : List ByteArray) (b h : Nat) : Prop where
  fit : d.size / 55 < h
  len : b + h ≤ L.length
  cell : ∀ p s, p < h → L[b + p]? = some s → (p ≤ d.size / 55 → isC g d p s) ∧ (d.size / 55 < p → ¬ isG g s)

theorem half_at (L : List ByteArray) (b h p : Nat) : ((L.drop b).take h)[p]? = if p < h then L[b + p]? else none := by
  rw [List.getElem?_take, List.getElem?_drop]
theorem half_len {L : List ByteArray} {b h : Nat} (hl : b + h ≤ L.length) : ((L.drop b).take h).length = h := by rw [List.length_take, List.length_drop]; omega
theorem Cells.join {g : Int} {d : ByteArray} {L : List ByteArray} {b h : Nat} (H : Cells g d L b h) : joinL g ((L.drop b).take h) 0 = d.data.toList := by
  have := join_all (g := g) (d := d) ((L.drop b).take h) 0 (by omega) (by rw [half_len H.len]; have := H.fit; omega) (fun p s hs hp => by
    rw [half_at] at hs
    split at hs
    · rename_i hlt
      rw [Nat.zero_add] at hp ⊢
      exact (H.cell p s hlt hs).1 hp
    · cases hs)
  rwa [Nat.mul_zero, List.drop_zero] at this

/-- The cells that more data has. -/
structure Piece (g : Int) (d : ByteArray) (last : Nat) (cs : List ByteArray) : Prop where
  len : last + cs.length = d.size / 55 + 1
  cell : ∀ j c, cs[j]? = some c → isC g d (last + j) c

theorem chunk_prefix {d d' : ByteArray} (hp : d.data.toList <+: d'.data.toList) {j : Nat} (hj : 55 * (j + 1) ≤ d.size) : chunk d j = chunk d' j := by
  apply ByteArray.ext
  apply Array.toList_inj.1
  rw [chunk_toList, chunk_toList]
  obtain ⟨t, ht⟩ := hp
  rw [← ht]
  have hl : d.data.toList.length = d.size := by simp
  rw [List.drop_append_of_le_length (by omega), List.take_append_of_le_length (by rw [List.length_drop]; omega)]

section
variable {g : Int} {d d' : ByteArray} {L L' cs : List ByteArray} {b h : Nat}
theorem Cells.wrote (H : Cells g d L b h) (hp : d.data.toList <+: d'.data.toList) (hf : d'.size / 55 < h) (hc : Piece g d' (d.size / 55) cs) (hw : Wrote L (b + d.size / 55) cs L') : Cells g d' L' b h := by
  have hle : d.size ≤ d'.size := by have := hp.length_le; simpa using this
  refine ⟨hf, by rw [hw.len]; exact H.len, fun p s hph hs => ?_⟩
  have hcl := hc.len
  by_cases h1 : p < d.size / 55
  · rw [hw.old _ (.inl (by omega))] at hs
    have := (H.cell p s hph hs).1 (by omega)
    unfold isC at this ⊢
    rw [chunk_prefix hp (by omega)] at this
    exact ⟨fun _ => this, fun hc => by omega⟩
  · by_cases h2 : p ≤ d'.size / 55
    · have hj : p - d.size / 55 < cs.length := by omega
      have e := hw.new (p - d.size / 55) cs[p - d.size / 55] (List.getElem?_eq_getElem hj)
      rw [show b + d.size / 55 + (p - d.size / 55) = b + p by omega] at e
      rw [e] at hs
      injection hs with hs
      have := hc.cell (p - d.size / 55) _ (List.getElem?_eq_getElem hj)
      rw [hs, show d.size / 55 + (p - d.size / 55) = p by omega] at this
      exact ⟨fun _ => this, fun hc => by omega⟩
    · rw [hw.old _ (.inr (by omega))] at hs
      exact ⟨fun hc => by omega, fun _ => (H.cell p s hph hs).2 (by omega)⟩

theorem Cells.torn (H : Cells g d L b h) (hp : d.data.toList <+: d'.data.toList) (hf : d'.size / 55 < h) (hc : Piece g d' (d.size / 55) cs) (ht : Torn L (b + d.size / 55) cs L') :
    ∃ k, d.size ≤ k ∧ k ≤ d'.size ∧ joinL g ((L'.drop b).take h) 0 = d'.data.toList.take k := by
  have hle : d.size ≤ d'.size := by have := hp.length_le; simpa using this
  have hlen : b + h ≤ L'.length := by rw [ht.len]; exact H.len
  have hcl := hc.len
  obtain ⟨last, hlast⟩ : ∃ n, d.size / 55 = n := ⟨_, rfl⟩
  have hfit := H.fit
  rw [hlast] at hc ht hcl hfit
  -- what a sector of the half is now
  have key : ∀ p s, ((L'.drop b).take h)[p]? = some s → (L[b + p]? = some s ∧ p < h) ∨ (last ≤ p ∧ isC g d' p s) := by
    intro p s hs
    rw [half_at] at hs
    split at hs
    · rename_i hlt
      rcases ht.at_ (b + p) with e | ⟨j, c, e1, e2, e3⟩
      · rw [e] at hs
        exact .inl ⟨hs, hlt⟩
      · rw [e3] at hs
        injection hs with hs
        have := hc.cell j c e1
        rw [hs, show last + j = p by omega] at this
        exact .inr ⟨by omega, this⟩
    · cases hs
  have hfirst := join_first (g := g) (d := d') last ((L'.drop b).take h) 0 (by omega) (by rw [half_len hlen]; omega) (fun p s hpl hs => by
    rcases key p s hs with ⟨h1, h2⟩ | ⟨h1, _⟩
    · have := (H.cell p s h2 h1).1 (by omega)
      unfold isC at this ⊢
      rw [chunk_prefix hp (by omega)] at this
      rwa [Nat.zero_add]
    · omega)
  rw [hfirst, Nat.mul_zero, List.drop_zero, Nat.zero_add]
  have hR : ∀ p s, (((L'.drop b).take h).drop last)[p]? = some s → (L[b + (last + p)]? = some s ∧ last + p < h) ∨ isC g d' (last + p) s := by
    intro p s hs
    rw [List.getElem?_drop] at hs
    rcases key _ s hs with h1 | ⟨_, h1⟩
    · exact .inl h1
    · exact .inr h1
  have hRl : (((L'.drop b).take h).drop last).length = h - last := by rw [List.length_drop, half_len hlen]
  obtain ⟨R, hRe⟩ : ∃ R, ((L'.drop b).take h).drop last = R := ⟨_, rfl⟩
  rw [hRe] at hR hRl ⊢
  have hdl : d.data.toList.length = d.size := by simp
  have hdl' : d'.data.toList.length = d'.size := by simp
  obtain ⟨t, hte⟩ := id hp
  cases R with
  | nil => simp at hRl; omega
  | cons s R =>
    rcases hR 0 s rfl with ⟨h1, h2⟩ | h1
    · rw [Nat.add_zero] at h1 h2
      have h3 := (H.cell last s h2 h1).1 (by omega)
      rw [joinL_C h3, chunk_len, if_pos (by omega), chunk_toList, List.take_of_length_le (i := 55) (by rw [List.length_drop]; omega)]
      refine ⟨d.size, Nat.le_refl _, hle, ?_⟩
      rw [← hte, List.take_append_of_le_length (by omega), List.take_append_of_le_length (by omega), List.take_append_drop, List.take_of_length_le (by omega)]
    · rw [Nat.add_zero] at h1
      rw [joinL_C h1, chunk_len, chunk_toList]
      by_cases hcc : min 55 (d'.size - 55 * last) < 55
      · rw [if_pos hcc, List.take_of_length_le (i := 55) (by rw [List.length_drop]; omega), List.take_append_drop]
        exact ⟨d'.size, hle, Nat.le_refl _, by rw [List.take_of_length_le (by omega)]⟩
      · rw [if_neg hcc]
        obtain ⟨k, k1, k2, k3⟩ := join_upto (g := g) (d := d') R (last + 1) (by omega) (fun p x hx => by
          rcases hR (p + 1) x hx with ⟨e1, e2⟩ | e1
          · exact .inr ((H.cell _ x e2 e1).2 (by omega))
          · rw [show last + (p + 1) = last + 1 + p by omega] at e1
            exact .inl e1)
        refine ⟨k, by omega, k2, ?_⟩
        rw [k3, show 55 * (last + 1) = 55 * last + 55 by omega, ← List.drop_drop]
        have e : d'.data.toList.take k = d'.data.toList.take (55 * last) ++ ((d'.data.toList.drop (55 * last)).take 55 ++ ((d'.data.toList.drop (55 * last)).drop 55).take (k - (55 * last + 55))) := by
          rw [← List.take_add, ← List.take_add]
          congr 1
          omega
        rw [e]
end

/-- The cells of data from a place on. -/
theorem piece_split {g : Int} (hg1 : 1 ≤ g) (hg2 : g ≤ 281474976710655) {d : ByteArray} {last : Nat} (hl : 55 * last ≤ d.size) (hd : d.size / 55 ≤ 65535) {m : Nat} (hm : (d.size - 55 * last) / 55 < m) : Piece g d last (splitL g m (last : Int) (d.extract (55 * last) d.size)) := by
  obtain ⟨x, hx⟩ : ∃ x, d.extract (55 * last) d.size = x := ⟨_, rfl⟩
  have hs : x.size = d.size - 55 * last := by rw [← hx, ByteArray.size_extract]; omega
  rw [hx]
  have hlen := splitL_len g m (last : Int) x (by rw [hs]; exact hm)
  refine ⟨by rw [hlen, hs]; omega, fun j c hc => ?_⟩
  have hj : j < (splitL g m (last : Int) x).length := (List.getElem?_eq_some_iff.1 hc).1
  have := splitL_parse g hg1 hg2 m (last : Int) x (by rw [hs]; exact hm) (by omega) (by rw [hs]; omega) j (by omega) c hc
  unfold isC
  rw [this]
  have e : chunk x j = chunk d (last + j) := by
    apply ByteArray.ext
    apply Array.toList_inj.1
    rw [chunk_toList, chunk_toList, ← hx, drop_all, List.drop_drop]
    congr 2
    omega
  rw [e, show ((last : Int) + (j : Int)) = ((last + j : Nat) : Int) by omega]
theorem splitL_64 (g : Int) (hg1 : 1 ≤ g) (hg2 : g ≤ 281474976710655) (m i : Nat) (d : ByteArray) (hm : d.size / 55 < m) (hi : i + d.size / 55 ≤ 65535) : ∀ c ∈ splitL g m (i : Int) d, c.size = 64 := by
  intro c hc
  obtain ⟨j, hj, e⟩ := List.mem_iff_getElem.1 hc
  have hl := splitL_len g m (i : Int) d hm
  have hs := splitL_get g m (i : Int) d j hm (by omega)
  rw [List.getElem?_eq_getElem hj, e] at hs
  injection hs with hs
  have hgood : goodB g ((i : Int) + j) = true := by simp only [goodB, decide_eq_true_eq]; omega
  rw [hs, makeS_good _ _ _ hgood (chunk_size d j)]
  exact cellS_size _ _ _ (chunk_size d j)

/-! The greatest generation -/
theorem newL_le : ∀ (l : List ByteArray) (a G : Int), a ≤ G → (∀ s ∈ l, (parseS s).2.2.2 = true → (parseS s).1 ≤ G) → newL l a ≤ G := by
  intro l
  induction l with
  | nil => intro a G h _; exact h
  | cons s l ih =>
    intro a G h hs
    rw [newL]
    refine ih _ G ?_ (fun x hx => hs x (List.mem_cons_of_mem _ hx))
    split
    · rename_i h1
      have := hs s (List.mem_cons_self ..) h1
      split <;> omega
    · exact h
theorem newL_ge : ∀ (l : List ByteArray) (a : Int), a ≤ newL l a := by
  intro l
  induction l with
  | nil => intro a; exact Int.le_refl _
  | cons s l ih =>
    intro a
    rw [newL]
    refine Int.le_trans ?_ (ih _)
    split
    · split <;> omega
    · exact Int.le_refl _
theorem newL_mem : ∀ (l : List ByteArray) (a : Int) (s : ByteArray), s ∈ l → (parseS s).2.2.2 = true → (parseS s).1 ≤ newL l a := by
  intro l
  induction l with
  | nil => intro a s h; cases h
  | cons x l ih =>
    intro a s h hs
    rw [newL]
    rcases List.mem_cons.1 h with rfl | h
    · refine Int.le_trans ?_ (newL_ge l _)
      rw [if_pos hs]
      split <;> omega
    · exact ih _ s h hs

end Go.Proofs.YtekpbpcfeopilaaDoor.Tp

/-! What a region tells of a stream; what a Reset and an Append, lost or not, leave. Plain; no program in sight. -/
namespace Go.Proofs.YtekpbpcfeopilaaDoor.Sp
open Go Go.Proofs.YtekpbpcfeopilaaDoor.Dm Go.Proofs.YtekpbpcfeopilaaDoor.Puts Go.Proofs.YtekpbpcfeopilaaDoor.Pars Go.Proofs.YtekpbpcfeopilaaDoor.Join Go.Proofs.YtekpbpcfeopilaaDoor.Areas Go.Proofs.YtekpbpcfeopilaaDoor.Back Go.Proofs.YtekpbpcfeopilaaDoor.Fp Go.Proofs.YtekpbpcfeopilaaDoor.Lw Go.Proofs.YtekpbpcfeopilaaDoor.Tp
open Go.Proofs.YtekpbpcfeopilaaDoor.Amk (makeS makeE goodB cellS cellL good_true)

/-- How many sectors a half has. -/
def sizeH (n : Nat) : Nat := (max 1 (min n 4096) - 1) / 2

def headOf (L : List ByteArray) : Nat × Nat × Bool := parseH (L.getD 0 ByteArray.empty)
def genOf (L : List ByteArray) (h : Nat) : Int := max ((headOf L).1 : Int) (newL ((L.drop 1).take (2 * h)) 0)
def halfOf (L : List ByteArray) : Nat := if (headOf L).2.2 = true then (headOf L).2.1 else 1
def recOf (sm : List UInt8 → Nat) (L : List ByteArray) (h : Nat) : List ByteArray := if (headOf L).2.2 = true then recs sm (joinL ((headOf L).1 : Int) ((L.drop (1 + (headOf L).2.1 * h)).take h) 0) else []

theorem headOf_eq {L L' : List ByteArray} (h : L'[0]? = L[0]?) : headOf L' = headOf L := by unfold headOf; rw [List.getD_eq_getElem?_getD, List.getD_eq_getElem?_getD, h]
theorem headOf_at {L : List ByteArray} {s : ByteArray} (h : L[0]? = some s) : headOf L = parseH s := by unfold headOf; rw [List.getD_eq_getElem?_getD, h]; rfl
theorem headOf_bd (L : List ByteArray) : (headOf L).1 ≤ 281474976710655 ∧ (headOf L).2.1 ≤ 1 := by
  unfold headOf
  rcases parseH_cases (L.getD 0 ByteArray.empty) with ⟨g, k, h⟩ | h
  · rw [h]
    obtain ⟨_, h2, h3, _⟩ := parseH_some h
    exact ⟨h2, h3⟩
  · rw [h]
    exact ⟨Nat.zero_le _, Nat.zero_le _⟩
theorem halfOf_le (L : List ByteArray) : halfOf L ≤ 1 := by
  unfold halfOf
  have := (headOf_bd L).2
  split <;> omega
theorem genOf_nn (L : List ByteArray) (h : Nat) : 0 ≤ genOf L h := by unfold genOf; omega

/-- No cell is of a later generation. -/
def GenLe (L : List ByteArray) (h : Nat) (X : Int) : Prop := ∀ i s, 1 ≤ i → i < 1 + 2 * h → L[i]? = some s → (parseS s).2.2.2 = true → (parseS s).1 ≤ X
theorem mid_mem {L : List ByteArray} {h : Nat} {s : ByteArray} : s ∈ (L.drop 1).take (2 * h) ↔ ∃ i, 1 ≤ i ∧ i < 1 + 2 * h ∧ L[i]? = some s := by
  rw [List.mem_iff_getElem?]
  constructor
  · rintro ⟨j, hj⟩
    rw [half_at] at hj
    split at hj
    · exact ⟨1 + j, by omega, by omega, hj⟩
    · cases hj
  · rintro ⟨i, h1, h2, h3⟩
    refine ⟨i - 1, ?_⟩
    rw [half_at, if_pos (by omega), show 1 + (i - 1) = i by omega]
    exact h3
theorem genOf_le {L : List ByteArray} {h : Nat} {X : Int} (h0 : ((headOf L).1 : Int) ≤ X) (hg : GenLe L h X) : genOf L h ≤ X := by
  unfold genOf
  have := newL_le ((L.drop 1).take (2 * h)) 0 X (by omega) (fun s hs hok => by
    obtain ⟨i, h1, h2, h3⟩ := mid_mem.1 hs
    exact hg i s h1 h2 h3 hok)
  omega
theorem genOf_ge (L : List ByteArray) (h : Nat) : ((headOf L).1 : Int) ≤ genOf L h ∧ GenLe L h (genOf L h) := by
  unfold genOf
  refine ⟨by omega, fun i s h1 h2 h3 hok => ?_⟩
  have := newL_mem ((L.drop 1).take (2 * h)) 0 s (mid_mem.2 ⟨i, h1, h2, h3⟩) hok
  omega
theorem GenLe.mono {L : List ByteArray} {h : Nat} {X Y : Int} (H : GenLe L h X) (hx : X ≤ Y) : GenLe L h Y := fun i s h1 h2 h3 hok => Int.le_trans (H i s h1 h2 h3 hok) hx
theorem GenLe.torn {L L' cs : List ByteArray} {h b : Nat} {X : Int} (H : GenLe L h X) (ht : Torn L b cs L') (hc : ∀ c ∈ cs, (parseS c).2.2.2 = true → (parseS c).1 ≤ X) : GenLe L' h X := by
  intro i s h1 h2 h3 hok
  rcases ht.at_ i with e | ⟨j, c, e1, _, e3⟩
  · rw [e] at h3
    exact H i s h1 h2 h3 hok
  · rw [e3] at h3
    injection h3 with h3
    subst h3
    exact hc c (List.mem_of_getElem? e1) hok
theorem Wrote.torn {L L' cs : List ByteArray} {b : Nat} (hw : Wrote L b cs L') : Torn L b cs L' := by
  refine ⟨hw.len, fun i => ?_⟩
  by_cases h1 : i < b ∨ b + cs.length ≤ i
  · exact .inl (hw.old i h1)
  · have hj : i - b < cs.length := by omega
    refine .inr ⟨i - b, _, List.getElem?_eq_getElem hj, by omega, ?_⟩
    have := hw.new (i - b) _ (List.getElem?_eq_getElem hj)
    rwa [show b + (i - b) = i by omega] at this

/-- The region holds data in one of its halves. -/
structure Holds (L : List ByteArray) (h g half : Nat) (d : ByteArray) : Prop where
  len : 1 + 2 * h ≤ L.length
  head : L[0]? = some (headS g half)
  hlf : half ≤ 1
  g1 : 1 ≤ g
  g2 : g ≤ 281474976710655
  cells : Cells g d L (1 + half * h) h
  gens : GenLe L h g
section
variable {L L' : List ByteArray} {h g half : Nat} {d : ByteArray} {sm : List UInt8 → Nat}
theorem Holds.headOf (H : Holds L h g half d) : Sp.headOf L = (g, half, true) := by rw [headOf_at H.head, parseH_head H.g1 H.g2 H.hlf]
theorem Holds.genOf (H : Holds L h g half d) : Sp.genOf L h = g := by
  have h1 := genOf_le (L := L) (h := h) (X := g) (by rw [H.headOf]; exact Int.le_refl _) H.gens
  have h2 := (genOf_ge L h).1
  rw [H.headOf] at h2
  simp only at h2
  omega
theorem Holds.halfOf (H : Holds L h g half d) : Sp.halfOf L = half := by unfold Sp.halfOf; rw [H.headOf]; rfl
theorem Holds.recOf (H : Holds L h g half d) : Sp.recOf sm L h = recs sm d.data.toList := by
  unfold Sp.recOf
  rw [H.headOf]
  simp only [if_true]
  rw [H.cells.join]

/-- What is written to the other half leaves the records. -/
theorem rec_torn {cs : List ByteArray} (ht : Torn L (1 + (1 - Sp.halfOf L) * h) cs L') (hc : cs.length ≤ h) : Sp.headOf L' = Sp.headOf L ∧ Sp.recOf sm L' h = Sp.recOf sm L h := by
  have h0 : L'[0]? = L[0]? := by
    rcases ht.at_ 0 with e | ⟨j, c, _, e2, _⟩
    · exact e
    · omega
  have he := headOf_eq h0
  refine ⟨he, ?_⟩
  unfold Sp.recOf
  rw [he]
  by_cases hok : (Sp.headOf L).2.2 = true
  · rw [if_pos hok, if_pos hok]
    congr 2
    have hh : Sp.halfOf L = (Sp.headOf L).2.1 := by unfold Sp.halfOf; rw [if_pos hok]
    have hb := (headOf_bd L).2
    rw [hh] at ht
    obtain ⟨k, hk⟩ : ∃ k, (Sp.headOf L).2.1 = k := ⟨_, rfl⟩
    rw [hk] at ht hb ⊢
    apply List.ext_getElem?
    intro p
    rw [half_at, half_at]
    split
    · rename_i hp
      rcases ht.at_ (1 + k * h + p) with e | ⟨j, c, e1, e2, _⟩
      · exact e
      · have hj := (List.getElem?_eq_some_iff.1 e1).1
        rcases (show k = 0 ∨ k = 1 by omega) with rfl | rfl
        · simp only [Nat.zero_mul, Nat.sub_zero, Nat.one_mul] at e2; omega
        · simp only [Nat.one_mul, Nat.sub_self, Nat.zero_mul] at e2; omega
    · rfl
  · rw [if_neg hok, if_neg hok]

theorem mulh (hh : half ≤ 1) : 1 + (1 - half) * h + h ≤ 1 + 2 * h := by
  rcases (show half = 0 ∨ half = 1 by omega) with rfl | rfl
  · simp only [Nat.sub_zero, Nat.one_mul]; omega
  · simp only [Nat.sub_self, Nat.zero_mul]; omega
theorem mulh2 (hh : half ≤ 1) : 1 + half * h + h ≤ 1 + 2 * h := by
  rcases (show half = 0 ∨ half = 1 by omega) with rfl | rfl
  · simp only [Nat.zero_mul]; omega
  · simp only [Nat.one_mul]; omega

/-- Cells of a new generation in the other half. -/
theorem cells_new {G : Int} {cs : List ByteArray} {b : Nat} (hG : GenLe L h (G - 1)) (hb1 : 1 ≤ b) (hb : b + h ≤ 1 + 2 * h) (hl : 1 + 2 * h ≤ L.length) (hf : d.size / 55 < h) (hc : Piece G d 0 cs) (hw : Wrote L b cs L') : Cells G d L' b h := by
  refine ⟨hf, by rw [hw.len]; omega, fun p s hp hs => ?_⟩
  have hcl := hc.len
  by_cases h2 : p ≤ d.size / 55
  · have hj : p < cs.length := by omega
    have e := hw.new p cs[p] (List.getElem?_eq_getElem hj)
    rw [e] at hs
    injection hs with hs
    have := hc.cell p _ (List.getElem?_eq_getElem hj)
    rw [hs, Nat.zero_add] at this
    exact ⟨fun _ => this, fun hc => by omega⟩
  · refine ⟨fun hc => by omega, fun _ hg => ?_⟩
    rw [hw.old _ (.inr (by omega))] at hs
    have := hG (b + p) s (by omega) (by omega) hs hg.1
    rw [hg.2] at this
    omega
end

/-- The writes of a Reset. -/
def resetW (n : Int) (h g half : Nat) (m : MDisk) (d : ByteArray) : Int × MDisk :=
  if (layW n m ((1 + (1 - half) * h : Nat) : Int) (splitL ((g + 1 : Nat) : Int) (d.size / 55 + 1) 0 d)).1 = 0
  then layW n (layW n m ((1 + (1 - half) * h : Nat) : Int) (splitL ((g + 1 : Nat) : Int) (d.size / 55 + 1) 0 d)).2 0 [headS (g + 1) (1 - half)]
  else layW n m ((1 + (1 - half) * h : Nat) : Int) (splitL ((g + 1 : Nat) : Int) (d.size / 55 + 1) 0 d)

theorem reset_out (sm : List UInt8 → Nat) {m : MDisk} {k : Nat} {L : List ByteArray} {h g half : Nat} {d : ByteArray} (hm : Live m k L []) (hl : 1 + 2 * h ≤ L.length) (hg : genOf L h = g) (hg2 : g < 281474976710655) (hhf : halfOf L = half) (hd : d.size < 55 * h) (hh : h ≤ 65535) :
    ((resetW k h g half m d).1 = 0 ∧ ∃ L', Live (resetW k h g half m d).2 k L' [] ∧ L'.length = L.length ∧ Holds L' h (g + 1) (1 - half) d) ∨
    ((resetW k h g half m d).1 = 11 ∧ ∃ L', Dead (resetW k h g half m d).2 k L' ∧ L'.length = L.length ∧ genOf L' h ≤ g + 1 ∧ (recOf sm L' h = recOf sm L h ∨ recOf sm L' h = recs sm d.data.toList)) := by
  obtain ⟨cs, hcs⟩ : ∃ cs, splitL ((g + 1 : Nat) : Int) (d.size / 55 + 1) 0 d = cs := ⟨_, rfl⟩
  have hfit : d.size / 55 < h := by omega
  have hhl : half ≤ 1 := hhf ▸ halfOf_le L
  have hP : Piece ((g + 1 : Nat) : Int) d 0 cs := by
    have := piece_split (g := ((g + 1 : Nat) : Int)) (by omega) (by omega) (d := d) (last := 0) (by omega) (by omega) (m := d.size / 55 + 1) (by omega)
    rw [Nat.mul_zero, extract_all] at this
    rw [← hcs]
    exact this
  have hcl := hP.len
  have h64 : ∀ c ∈ cs, c.size = 64 := by
    rw [← hcs]
    exact splitL_64 _ (by omega) (by omega) _ 0 d (by omega) (by omega)
  have hcg : ∀ c ∈ cs, (parseS c).2.2.2 = true → (parseS c).1 ≤ (g : Int) + 1 := by
    intro c hc _
    obtain ⟨j, hj⟩ := List.mem_iff_getElem?.1 hc
    rw [hP.cell j c hj]
    simp
  obtain ⟨hgh, hgl⟩ := genOf_ge L h
  rw [hg] at hgh hgl
  have hmul := mulh (h := h) hhl
  obtain ⟨b, hb⟩ : ∃ b, 1 + (1 - half) * h = b := ⟨_, rfl⟩
  have hb1 : 1 ≤ b := by omega
  rw [hb] at hmul
  unfold resetW
  rw [hcs, hb]
  rcases lay_out (b := b) (cs := cs) hm (by omega) h64 with ⟨e1, L1, hl1, hw1⟩ | ⟨e1, L1, hd1, ht1⟩
  · rw [if_pos e1]
    have ht1 := Wrote.torn hw1
    have hr1 := rec_torn (sm := sm) (L := L) (h := h) (cs := cs) (by rw [hhf, hb]; exact ht1) (by omega)
    have hG1 : GenLe L1 h ((g : Int) + 1) := (hgl.mono (by omega)).torn ht1 hcg
    have hC1 : Cells ((g + 1 : Nat) : Int) d L1 b h := cells_new (G := ((g + 1 : Nat) : Int)) (by rw [show (((g + 1 : Nat) : Int) - 1) = (g : Int) by omega]; exact hgl) hb1 (by omega) hl hfit hP hw1
    have hh64 : ∀ c ∈ [headS (g + 1) (1 - half)], c.size = 64 := fun c hc => by rw [List.mem_singleton.1 hc]; exact headS_size _ _
    -- the head laid over the new cells
    have hold : ∀ L2 : List ByteArray, L2.length = L1.length → L2[0]? = some (headS (g + 1) (1 - half)) → (∀ i, 1 ≤ i → L2[i]? = L1[i]?) → Holds L2 h (g + 1) (1 - half) d := by
      intro L2 k0 k1 k2
      refine ⟨by rw [k0, hw1.len]; exact hl, k1, by omega, by omega, by omega, ?_, ?_⟩
      · rw [hb]
        refine ⟨hfit, by rw [k0]; exact hC1.len, fun p s hp hs => ?_⟩
        rw [k2 _ (by omega)] at hs
        exact hC1.cell p s hp hs
      · intro i s i1 i2 hs hok
        rw [k2 i i1] at hs
        have := hG1 i s i1 i2 hs hok
        omega
    rcases lay_out (b := 0) (cs := [headS (g + 1) (1 - half)]) hl1 (by rw [hw1.len, List.length_singleton]; omega) hh64 with ⟨e2, L2, hl2, hw2⟩ | ⟨e2, L2, hd2, ht2⟩
    · refine .inl ⟨e2, L2, hl2, by rw [hw2.len, hw1.len], hold L2 hw2.len (hw2.new 0 _ rfl) (fun i hi => hw2.old i (.inr (by rw [List.length_singleton]; omega)))⟩
    · refine .inr ⟨e2, L2, hd2, by rw [ht2.len, hw1.len], ?_⟩
      have hrest : ∀ i, 1 ≤ i → L2[i]? = L1[i]? := by
        intro i hi
        rcases ht2.at_ i with e | ⟨j, c, q1, q2, _⟩
        · exact e
        · have := (List.getElem?_eq_some_iff.1 q1).1
          rw [List.length_singleton] at this
          omega
      rcases ht2.at_ 0 with e | ⟨j, c, q1, q2, q3⟩
      · have hLL : L2 = L1 := by
          apply List.ext_getElem?
          intro i
          by_cases hi : 1 ≤ i
          · exact hrest i hi
          · rw [show i = 0 by omega]; exact e
        rw [hLL]
        refine ⟨genOf_le (by rw [hr1.1]; omega) hG1, .inl hr1.2⟩
      · obtain rfl : j = 0 := by omega
        injection q1 with q1
        rw [← q1] at q3
        have H := hold L2 ht2.len q3 hrest
        exact ⟨by rw [H.genOf]; omega, .inr H.recOf⟩
  · rw [if_neg (by rw [e1]; decide)]
    have hr1 := rec_torn (sm := sm) (L := L) (h := h) (cs := cs) (by rw [hhf, hb]; exact ht1) (by omega)
    exact .inr ⟨e1, L1, hd1, ht1.len, genOf_le (by rw [hr1.1]; omega) ((hgl.mono (by omega)).torn ht1 hcg), .inl hr1.2⟩

/-- The writes of an Append. -/
def appendW (n : Int) (h g half : Nat) (m : MDisk) (d d' : ByteArray) : Int × MDisk :=
  layW n m ((1 + half * h + d.size / 55 : Nat) : Int) (splitL (g : Int) ((d'.size - 55 * (d.size / 55)) / 55 + 1) ((d.size / 55 : Nat) : Int) (d'.extract (55 * (d.size / 55)) d'.size))

theorem append_out (sm : List UInt8 → Nat) {m : MDisk} {k : Nat} {L : List ByteArray} {h g half : Nat} {d d' : ByteArray} (hm : Live m k L []) (H : Holds L h g half d) (hp : d.data.toList <+: d'.data.toList) (hd : d'.size < 55 * h) (hh : h ≤ 65535) :
    ((appendW k h g half m d d').1 = 0 ∧ ∃ L', Live (appendW k h g half m d d').2 k L' [] ∧ L'.length = L.length ∧ Holds L' h g half d') ∨
    ((appendW k h g half m d d').1 = 11 ∧ ∃ L', Dead (appendW k h g half m d d').2 k L' ∧ L'.length = L.length ∧ genOf L' h ≤ g ∧ ∃ n, d.size ≤ n ∧ n ≤ d'.size ∧ recOf sm L' h = recs sm (d'.data.toList.take n)) := by
  have hle : d.size ≤ d'.size := by have := hp.length_le; simpa using this
  have hfit : d'.size / 55 < h := by omega
  obtain ⟨cs, hcs⟩ : ∃ cs, splitL (g : Int) ((d'.size - 55 * (d.size / 55)) / 55 + 1) ((d.size / 55 : Nat) : Int) (d'.extract (55 * (d.size / 55)) d'.size) = cs := ⟨_, rfl⟩
  have hg1 := H.g1
  have hg2 := H.g2
  have hP : Piece (g : Int) d' (d.size / 55) cs := by
    rw [← hcs]
    exact piece_split (by omega) (by omega) (by omega) (by omega) (by omega)
  have hcl := hP.len
  have hxs : (d'.extract (55 * (d.size / 55)) d'.size).size = d'.size - 55 * (d.size / 55) := by rw [ByteArray.size_extract]; omega
  have h64 : ∀ c ∈ cs, c.size = 64 := by
    rw [← hcs]
    exact splitL_64 _ (by omega) (by omega) _ _ _ (by rw [hxs]; omega) (by rw [hxs]; omega)
  have hcg : ∀ c ∈ cs, (parseS c).2.2.2 = true → (parseS c).1 ≤ (g : Int) := by
    intro c hc _
    obtain ⟨j, hj⟩ := List.mem_iff_getElem?.1 hc
    rw [hP.cell j c hj]
    exact Int.le_refl _
  have hmul := mulh2 (h := h) H.hlf
  have hlen := H.len
  obtain ⟨b, hb⟩ : ∃ b, 1 + half * h = b := ⟨_, rfl⟩
  have hb1 : 1 ≤ b := by omega
  have hC := H.cells
  rw [hb] at hmul hC
  unfold appendW
  rw [hcs, hb]
  have h0 : ∀ L', Torn L (b + d.size / 55) cs L' → L'[0]? = L[0]? := by
    intro L' ht
    rcases ht.at_ 0 with e | ⟨j, c, _, e2, _⟩
    · exact e
    · omega
  rcases lay_out (b := b + d.size / 55) (cs := cs) hm (by omega) h64 with ⟨e1, L1, hl1, hw1⟩ | ⟨e1, L1, hd1, ht1⟩
  · refine .inl ⟨e1, L1, hl1, hw1.len, by rw [hw1.len]; exact hlen, by rw [h0 L1 (Wrote.torn hw1)]; exact H.head, H.hlf, hg1, hg2, ?_, H.gens.torn (Wrote.torn hw1) hcg⟩
    rw [hb]
    exact hC.wrote hp hfit hP hw1
  · have he := headOf_eq (h0 L1 ht1)
    refine .inr ⟨e1, L1, hd1, ht1.len, genOf_le (by rw [he, H.headOf]; exact Int.le_refl _) (H.gens.torn ht1 hcg), ?_⟩
    obtain ⟨n, n1, n2, n3⟩ := hC.torn hp hfit hP ht1
    refine ⟨n, n1, n2, ?_⟩
    unfold recOf
    rw [he, H.headOf]
    simp only [if_true]
    rw [hb, n3]

end Go.Proofs.YtekpbpcfeopilaaDoor.Sp

/-! stream.head, frame.Put: by hand. -/
namespace Go.Proofs.YtekpbpcfeopilaaDoor.Hd
open Go Go.RowKit Go.Proofs.YtekpbpcfeopilaaDoorCore Go.Proofs.YtekpbpcfeopilaaDoor.Puts Go.Proofs.YtekpbpcfeopilaaDoor.Pars Go.Proofs.YtekpbpcfeopilaaDoor.Sm Go.Proofs.YtekpbpcfeopilaaDoor.Fp Go.Proofs.YtekpbpcfeopilaaDoor.Sp Go.Proofs.YtekpbpcfeopilaaDoorW.PrintWords Go.Proofs.YtekpbpcfeopilaaDoorW.PrintLast Go.Proofs.YtekpbpcfeopilaaDoorW.PrintMore

theorem put_nat (n x : Nat) (w : World) (hn : n ≤ 8) (hx : x < 18446744073709551616) :
    Calls Tryd.prog 42 #[.int .i64 (n : Int), .int .u64 (x : Int)] w fun e w' => e = .returned (.string (be n x)) ∧ Below w.heap.size w w' := by
  have := put_at (n : Int) (x : Int) w (by omega) (by omega) (by omega) (by omega)
  simpa using this
theorem head_eq (g k : Nat) : (((⟨#[80, 82, 69, 67, 73, 78, 67, 84]⟩ : ByteArray) ++ be 6 g) ++ be 1 k) ++ (⟨(Lib.repeatL (⟨#[0]⟩ : ByteArray).data.toList 49).toArray⟩ : ByteArray) = headS g k := by
  apply ByteArray.ext
  apply Array.toList_inj.1
  simp only [ByteArray.data_append, Array.toList_append]
  unfold headS headL
  simp only [List.append_assoc]
  rfl

set_option maxHeartbeats 4000000 in
set_option maxRecDepth 100000 in
theorem head_any (g k : Nat) (hg : g ≤ 281474976710655) (hk : k ≤ 1) (w : World) : Calls Tryd.prog 58 #[.int .i64 (g : Int), .int .i64 (k : Int)] w fun e w' => e = .returned (.string (headS g k)) ∧ Below w.heap.size w w' := by
  have p6 := fun W => put_nat 6 g W (by omega) (by omega)
  have p1 := fun W => put_nat 1 k W (by omega) (by omega)
  have w6 : IntKind.u64.wrap (g : Int) = (g : Int) := by rw [IntKind.wrap_u64]; omega
  have w1 : IntKind.u64.wrap (k : Int) = (k : Int) := by rw [IntKind.wrap_u64]; omega
  have HE := Lib.hid (head_eq g k)
  obtain ⟨x, hx⟩ : ∃ x, be 6 g = x := ⟨_, rfl⟩
  obtain ⟨y, hy⟩ : ∃ y, be 1 k = y := ⟨_, rfl⟩
  have hxs : x.size = 6 := by rw [← hx]; exact be_size 6 g
  have hys : y.size = 1 := by rw [← hy]; exact be_size 1 k
  rw [hx] at p6
  rw [hy] at p1
  have HX := Lib.hid hx
  have HY := Lib.hid hy
  have P6 := Lib.hid p6
  have P1 := Lib.hid p1
  clear hx hy p6 p1
  go_enter Tryd.func58, Tryd.ntmps58
  go_wp2_with fail
  refine (P6.out _).mono ?_
  rintro e w2 ⟨rfl, hb2⟩
  have HB2 := Lib.hid hb2
  clear hb2
  go_wp2_with fail
  refine (P1.out _).mono ?_
  rintro e w3 ⟨rfl, hb3⟩
  have HB3 := Lib.hid (HB2.out.trans (hb3.mono HB2.out.size))
  clear hb3
  go_wp2_with fail
  refine (Tryd.strings_Repeat ⟨#[0]⟩ 49 _ (by omega) (by show 1 * 49 ≤ _; omega)).mono ?_
  rintro e w4 ⟨rfl, hb4⟩
  have HB4 := Lib.hid (HB3.out.trans (hb4.mono HB3.out.size))
  clear hb4
  obtain ⟨z, hz⟩ : ∃ z, (⟨(Lib.repeatL (⟨#[0]⟩ : ByteArray).data.toList 49).toArray⟩ : ByteArray) = z := ⟨_, rfl⟩
  have hzs : z.size = 49 := by rw [← hz]; rfl
  rw [hz]
  have HZ := Lib.hid hz
  clear hz
  go_wp2_with fail
  refine bodyPost_ret (v := .string ((⟨#[80, 82, 69, 67, 73, 78, 67, 84]⟩ : ByteArray) ++ x ++ y ++ z)) (by simp [results, Tryd.results58, go_sem]) rfl ⟨?_, HB4.out⟩
  rw [← HE.out, HX.out, HY.out, HZ.out]

/-- What Put answers. -/
def putS (b : ByteArray) : ByteArray × Int := if b.size = 0 then (⟨#[]⟩, 2) else if 4096 < b.size then (⟨#[]⟩, 5) else (mkB (frameL sumN (toL b)), 0)
theorem ba_loop (b : ByteArray) : ∀ (n i : Nat) (r : List UInt8), b.size - i = n → ByteArray.toList.loop b i r = r.reverse ++ b.data.toList.drop i := by
  intro n
  induction n with
  | zero =>
    intro i r h
    rw [ByteArray.toList.loop, if_neg (by omega), List.drop_of_length_le (by show b.data.size ≤ i; have : b.size = b.data.size := rfl; omega), List.append_nil]
  | succ n ih =>
    intro i r h
    have hi : i < b.data.size := by have : b.size = b.data.size := rfl; omega
    have hi2 : i < b.size := hi
    rw [ByteArray.toList.loop, if_pos hi2, ih _ _ (by omega), List.reverse_cons, List.append_assoc, List.drop_eq_getElem_cons (i := i) (by simpa using hi)]
    congr 1
    simp only [List.cons_append, List.nil_append]
    congr 1
    show b.data[i]! = _
    exact getElem!_pos b.data i hi
theorem ba_toList (b : ByteArray) : b.toList = b.data.toList := by
  unfold ByteArray.toList
  rw [ba_loop b _ 0 [] rfl]
  rfl

theorem ba_inj {a b : ByteArray} : a.toList = b.toList ↔ a = b := by
  refine ⟨fun h => ?_, fun h => by rw [h]⟩
  rw [ba_toList, ba_toList] at h
  exact ByteArray.ext (Array.toList_inj.1 h)
/-- Whether two keys are one, as the walk spells it. -/
theorem nil_size (b : ByteArray) : b.toList = ([] : List UInt8) ↔ b.size = 0 := by
  rw [ba_toList]
  constructor
  · intro h
    have h2 := congrArg List.length h
    simpa using h2
  · intro h
    apply List.eq_nil_of_length_eq_zero
    simpa using h
theorem frame_eq (b : ByteArray) : (be 2 b.size ++ be 4 (sumN (be 2 b.size ++ b).data.toList)) ++ b = mkB (frameL sumN (toL b)) := by
  apply ByteArray.ext
  apply Array.toList_inj.1
  simp only [ByteArray.data_append, Array.toList_append]
  unfold frameL mkB
  rw [toL_length]
  simp [be, toL]

set_option maxHeartbeats 4000000 in
set_option maxRecDepth 100000 in
theorem put_any (b : ByteArray) (w : World) : Calls Tryd.prog 52 #[.string b] w fun e w' => e = .returned (.tuple #[.string (putS b).1, .int .i64 (putS b).2]) ∧ Below w.heap.size w w' := by
  unfold putS
  by_cases h0 : b.size = 0
  · rw [if_pos h0]
    have h1 := (nil_size b).2 h0
    clear h0
    go_enter Tryd.func52, Tryd.ntmps52
    go_wp2_with fail
    exact bodyPost_ret (v := .tuple #[.string ⟨#[]⟩, .int .i64 2]) (by simp [results, Tryd.results52, go_sem]) rfl ⟨rfl, Below.refl _ _⟩
  · rw [if_neg h0]
    have h1 : ¬ b.toList = [] := fun h => h0 ((nil_size b).1 h)
    have h3 : b.toList.isEmpty = false := by simpa using h1
    by_cases h2 : 4096 < b.size
    · rw [if_pos h2]
      go_enter Tryd.func52, Tryd.ntmps52
      go_wp2_with fail
      exact bodyPost_ret (v := .tuple #[.string ⟨#[]⟩, .int .i64 5]) (by simp [results, Tryd.results52, go_sem]) rfl ⟨rfl, Below.refl _ _⟩
    · rw [if_neg h2]
      have hI : ¬ (4096 : Int) < (b.size : Int) := by omega
      have p2 := fun W => put_nat 2 b.size W (by omega) (by omega)
      have w2 : IntKind.u64.wrap (b.size : Int) = (b.size : Int) := by rw [IntKind.wrap_u64]; omega
      have HE := Lib.hid (frame_eq b)
      obtain ⟨x, hx⟩ : ∃ x, be 2 b.size = x := ⟨_, rfl⟩
      have hxs : x.size = 2 := by rw [← hx]; exact be_size 2 _
      rw [hx] at p2
      have HX := Lib.hid hx
      obtain ⟨c, hc⟩ : ∃ c, sumN (x ++ b).data.toList = c := ⟨_, rfl⟩
      have hcl : c < 4294967296 := by rw [← hc]; exact sumN_lt _
      have p4 := fun W => put_nat 4 c W (by omega) (by omega)
      obtain ⟨y, hy⟩ : ∃ y, be 4 c = y := ⟨_, rfl⟩
      have hys : y.size = 4 := by rw [← hy]; exact be_size 4 _
      rw [hy] at p4
      have w4 : IntKind.u64.wrap (c : Int) = (c : Int) := by rw [IntKind.wrap_u64]; omega
      have hsz : (x ++ b).size ≤ 140737488355328 := by rw [ByteArray.size_append]; omega
      have ps := fun W => sum_any (x ++ b) W hsz
      rw [hc] at ps
      have HC := Lib.hid hc
      have HY := Lib.hid hy
      have P2 := Lib.hid p2
      have P4 := Lib.hid p4
      have PS := Lib.hid ps
      clear hx hc hy p2 p4 ps hsz hcl h2
      go_enter Tryd.func52, Tryd.ntmps52
      go_wp2_with fail
      refine (P2.out _).mono ?_
      rintro e w2 ⟨rfl, hb2⟩
      have HB2 := Lib.hid hb2
      clear hb2
      go_wp2_with fail
      refine (PS.out _).mono ?_
      rintro e w3 ⟨rfl, hd3⟩
      have HB3 := Lib.hid (HB2.out.trans ((Drawn0.below hd3).mono HB2.out.size))
      clear hd3
      go_wp2_with fail
      refine (P4.out _).mono ?_
      rintro e w5 ⟨rfl, hb5⟩
      have HB5 := Lib.hid (HB3.out.trans (hb5.mono HB3.out.size))
      clear hb5
      go_wp2_with fail
      refine bodyPost_ret (v := .tuple #[.string (x ++ y ++ b), .int .i64 0]) (by simp [results, Tryd.results52, go_sem]) rfl ⟨?_, HB5.out⟩
      rw [← HE.out, HX.out, HC.out, HY.out]

end Go.Proofs.YtekpbpcfeopilaaDoor.Hd
