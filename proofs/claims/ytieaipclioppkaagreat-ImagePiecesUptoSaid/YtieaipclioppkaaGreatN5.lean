/- pack's reader: what it reads where bytes are a value's; pack's reader: lists, and whatever value; pack.All, slices.Clone of values; lists of numbers as values; pack.Put. -/
import Derived.Test.YtieaipclioppkaaGreatN4
import Derived.Laws.BitsAllLaws
import Derived.Deep.DeepMust
import Derived.Test.YtieaipclioppkaaGreatShelf
set_option linter.unusedSimpArgs false
set_option linter.unusedVariables false

/-! pack's reader: what it reads where bytes are a value's. -/
namespace Go.Proofs.YtieaipclioppkaaGreat.Rd
open Go Go.RowKit Go.Joins Go.Proofs.YtieaipclioppkaaGreatCore Go.Proofs.YtieaipclioppkaaGreat.PLeaf Go.Proofs.YtieaipclioppkaaGreat.Puts Go.Proofs.YtieaipclioppkaaGreat.Gw Go.Proofs.YtieaipclioppkaaGreat.Fr Go.Proofs.YtieaipclioppkaaGreat.Pk Go.Proofs.YtieaipclioppkaaGreatW.PrintWords Go.Proofs.YtieaipclioppkaaGreatW.PrintLast Go.Proofs.YtieaipclioppkaaGreatW.PrintMore

theorem and_one (a : Nat) (ha : a < 18446744073709551616) : bits .and .u64 (a : Int) 1 = ((a % 2 : Nat) : Int) := by
  unfold bits
  simp only [IntKind.wrap_u64]
  have e1 : BitVec.ofInt IntKind.u64.bits (a : Int) = BitVec.ofNat 64 a := by rw [BitVec.ofInt_natCast]; rfl
  have e2 : BitVec.ofInt IntKind.u64.bits 1 = BitVec.ofNat 64 1 := rfl
  rw [e1, e2]
  show (((BitVec.ofNat 64 a &&& BitVec.ofNat 64 1).toNat : Nat) : Int) % _ = _
  rw [BitVec.toNat_and, BitVec.toNat_ofNat, BitVec.toNat_ofNat, Nat.mod_eq_of_lt ha, show 1 % 2 ^ 64 = 1 from rfl, Nat.and_one_is_mod]
  omega
theorem xor_i64_zero (x : Nat) (hx : x < 9223372036854775808) : bits .xor .i64 (x : Int) 0 = (x : Int) := by
  unfold bits
  have e1 : BitVec.ofInt IntKind.i64.bits (x : Int) = BitVec.ofNat 64 x := by rw [BitVec.ofInt_natCast]; rfl
  have e2 : BitVec.ofInt IntKind.i64.bits 0 = BitVec.ofNat 64 0 := rfl
  rw [e1, e2]
  show IntKind.i64.wrap (((BitVec.ofNat 64 x ^^^ BitVec.ofNat 64 0).toNat : Nat) : Int) = _
  rw [BitVec.toNat_xor, BitVec.toNat_ofNat, BitVec.toNat_ofNat, Nat.mod_eq_of_lt (by omega), show 0 % 2 ^ 64 = 0 from rfl, Nat.xor_zero]
  exact IntWalk.i64_in _ (by omega)
theorem xor_i64_ones (x : Nat) (hx : x < 9223372036854775808) : bits .xor .i64 (x : Int) (-1) = -(x : Int) - 1 := by
  unfold bits
  have e1 : BitVec.ofInt IntKind.i64.bits (x : Int) = BitVec.ofNat 64 x := by rw [BitVec.ofInt_natCast]; rfl
  have e2 : BitVec.ofInt IntKind.i64.bits (-1) = BitVec.allOnes 64 := by show BitVec.ofInt 64 (-1) = _; decide
  rw [e1, e2]
  show IntKind.i64.wrap (((BitVec.ofNat 64 x ^^^ BitVec.allOnes 64).toNat : Nat) : Int) = _
  rw [BitVec.toNat_xor, BitVec.toNat_ofNat, BitVec.toNat_allOnes, Nat.mod_eq_of_lt (by omega), show 2 ^ 64 - 1 = 18446744073709551615 from rfl, xor_ones x (by omega)]
  rw [show ((18446744073709551615 - x : Nat) : Int) = 18446744073709551615 - (x : Int) by omega]
  rw [IntKind.wrap_i64]
  omega
theorem unfold_f (n : Int) (h1 : -9223372036854775808 ≤ n) (h2 : n ≤ 9223372036854775807) : words_Unfold.f (foldN n : Int) = some n := by
  unfold words_Unfold.f
  congr 1
  rw [and_one _ (fold_lt n h1 h2)]
  by_cases h : 0 ≤ n
  · obtain ⟨m, rfl⟩ := Int.eq_ofNat_of_zero_le h
    have e : foldN (m : Int) = 2 * m := by unfold foldN; rw [if_pos h, Int.toNat_natCast]
    rw [e, show (2 * m) % 2 = 0 by omega]
    have e1 : wrap64 (((2 * m : Nat) : Int) / 2) = (m : Int) := by unfold wrap64; omega
    have e2 : wrap64 (-(wrap64 ((0 : Nat) : Int))) = 0 := by unfold wrap64; omega
    rw [e1, e2, xor_i64_zero m (by omega)]
  · obtain ⟨m, hm⟩ : ∃ m : Nat, -n - 1 = (m : Int) := ⟨(-n - 1).toNat, by omega⟩
    have e : foldN n = 2 * m + 1 := by unfold foldN; rw [if_neg h, hm, Int.toNat_natCast]
    rw [e, show (2 * m + 1) % 2 = 1 by omega]
    have e1 : wrap64 (((2 * m + 1 : Nat) : Int) / 2) = (m : Int) := by unfold wrap64; omega
    have e2 : wrap64 (-(wrap64 ((1 : Nat) : Int))) = -1 := by unfold wrap64; omega
    rw [e1, e2, xor_i64_ones m (by omega)]
    omega

/-- A reader lies in a block. -/
def RAt (w : World) (rb : Nat) (s : ByteArray) (a : Int) : Prop := w.heap[rb]? = some (.cells #[.string s, .int .i64 a] 88 (0, 0))

set_option maxHeartbeats 4000000 in
set_option maxRecDepth 100000 in
theorem must_ok (w : World) : Calls Tryz.prog 35 #[.int .i64 0] w fun e w' => e = .returned (.tuple #[]) ∧ w' = w := by
  go_enter Tryz.func35, Tryz.ntmps35
  go_wp2_with fail
  go_end0
  exact ⟨rfl, rfl⟩

set_option maxHeartbeats 4000000 in
set_option maxRecDepth 100000 in
theorem number_ok (s : ByteArray) (a n a' x : Int) (rb : Nat) (w : World) (hs : s.size ≤ 9223372036854775000) (h : RAt w rb s a) (hg : getS s a n = (x, a', 0)) :
    Calls Tryz.prog 74 #[.pointer (some ⟨rb, 0, none⟩), .int .i64 n] w fun e w' => e = .returned (.int .u64 x) ∧ RAt w' rb s a' ∧ Fr (fun k => k = rb) w w' := by
  have c0 : w.cell? ⟨rb, 0, none⟩ = some (.string s) := cell_of_block h 0
  have c1 : w.cell? ⟨rb, 1, none⟩ = some (.int .i64 a) := cell_of_block h 1
  have HR := Lib.hid h
  have HG := Lib.hid hg
  clear h hg
  have hcall : ∀ W, Calls Tryz.prog 101 #[.string s, .int .i64 a, .int .i64 n] W fun e w' => e = .returned (.tuple #[.int .u64 x, .int .i64 a', .int .i64 0]) ∧ ∃ m, w' = W.drewN m := fun W => (Gw.get_at s a n W hs).mono (fun e w' ⟨he, hd⟩ => ⟨by rw [he, HG.out], hd.out⟩)
  have HC := Lib.hid hcall
  clear hcall
  go_enter Tryz.func74, Tryz.ntmps74
  go_wp2_with fail
  go_quiet ((go_at_call 101; exact Calls.quiet_of (HC.out _)))
  go_wp2_with fail
  obtain ⟨w3, hw3⟩ : ∃ w3, w.drewN nq = w3 := ⟨_, rfl⟩
  have hb3 : Below w.heap.size w w3 := by rw [← hw3]; exact below_drewN _
  rw [hw3]
  have hr3 : RAt w3 rb s a := (hb3.block _ (heap_lt HR.out)).trans HR.out
  have d1 : w3.cell? ⟨rb, 1, none⟩ = some (.int .i64 a) := cell_of_block hr3 1
  have hfz : w3.frozen? ⟨rb, 1, none⟩ = false := unfrozen_of_block hr3 1
  have hfin : RAt (w3.setCell ⟨rb, 1, none⟩ (.int .i64 a')) rb s a' := by
    have := block_setCell hr3 (i := 1) (.int .i64 a')
    unfold RAt
    rw [this]
    simp
  have HFN := Lib.hid hfin
  have HB3 := Lib.hid hb3
  clear hw3 hb3 hr3 hfin
  refine (must_ok w3).mono ?_
  rintro e w4 ⟨rfl, rfl⟩
  go_wp2_with fail
  exact bodyPost_ret (v := .int .u64 x) (by simp [results, Tryz.results74, go_sem]) rfl ⟨rfl, HFN.out, (Fr.of_below HB3.out).setAt rfl⟩

/-- A number's bytes are read. -/
theorem getS_ok {s : ByteArray} {a n : Nat} (h1 : 1 ≤ n) (h8 : n ≤ 8) (h : a + n ≤ s.size) : getS s (a : Int) (n : Int) = (((num (cut s a n) : Nat) : Int), ((a + n : Nat) : Int), 0) := by
  unfold getS
  rw [if_neg (by omega), if_neg (by omega), Int.toNat_natCast, Int.toNat_natCast]
  rfl
theorem num_beL (k n : Nat) (h : n < 256 ^ k) : num (beL k n) = n := by
  induction k generalizing n with
  | zero => simp at h; subst h; rfl
  | succ k ih =>
    rw [beL, num_snoc, ih (n / 256) (Nat.div_lt_of_lt_mul (by rw [Nat.mul_comm]; exact h))]
    have : (UInt8.ofNat (n % 256)).toNat = n % 256 := by simp
    omega
theorem widthN_spec : ∀ (k n : Nat), n < 256 ^ k → n < 256 ^ widthN (k + 1) n ∧ (n ≠ 0 → 256 ^ (widthN (k + 1) n - 1) ≤ n) ∧ widthN (k + 1) n ≤ k := by
  intro k
  induction k with
  | zero => intro n h; simp at h; subst h; exact ⟨by decide, fun h => absurd rfl h, by decide⟩
  | succ k ih =>
    intro n h
    rw [widthN]
    by_cases h0 : n = 0
    · rw [if_pos h0]; subst h0; exact ⟨by decide, fun h => absurd rfl h, by omega⟩
    · rw [if_neg h0]
      obtain ⟨h1, h2, h3⟩ := ih (n / 256) (Nat.div_lt_of_lt_mul (by rw [Nat.mul_comm]; exact h))
      refine ⟨?_, fun _ => ?_, by omega⟩
      · rw [Nat.add_comm 1, Nat.pow_succ]
        omega
      · rw [Nat.add_sub_cancel_left]
        by_cases hd : n / 256 = 0
        · have hw : widthN (k + 1) (n / 256) = 0 := by rw [hd, widthN, if_pos rfl]
          rw [hw]
          show 1 ≤ n
          omega
        · have h4 := h2 hd
          have hw1 : 1 ≤ widthN (k + 1) (n / 256) := by rw [widthN, if_neg hd]; omega
          obtain ⟨j, hj⟩ : ∃ j, widthN (k + 1) (n / 256) = j + 1 := ⟨widthN (k + 1) (n / 256) - 1, by omega⟩
          rw [hj, Nat.add_sub_cancel] at h4
          rw [hj, Nat.pow_succ]
          omega

theorem Fr_old {S : Nat → Prop} {w w' : World} (h : Fr (fun k => S k ∨ w.heap.size ≤ k) w w') : Fr S w w' := ⟨h.os, h.tape, h.output, h.size, fun k hk hs => h.block k hk (fun c => by
  rcases c with c | c
  · exact hs c
  · omega)⟩
/-- A result's box, once it is written. -/
def resW (w : World) (q : Nat) (k n : Int) (s : ByteArray) (v : Value) : World := (((w.setCell ⟨q, 0, none⟩ (.int .i64 k)).setCell ⟨q, 1, none⟩ (.int .i64 n)).setCell ⟨q, 2, none⟩ (.string s)).setCell ⟨q, 3, none⟩ v
theorem res_box {w : World} {q : Nat} {a b c d : Value} (h : w.heap[q]? = some (.cells #[a, b, c, d] 65 (0, 0))) (k n : Int) (s : ByteArray) (v : Value) :
    (resW w q k n s v).heap[q]? = some (.cells #[.int .i64 k, .int .i64 n, .string s, v] 65 (0, 0)) := by
  have h1 := block_setCell h (i := 0) (.int .i64 k)
  have h2 := block_setCell h1 (i := 1) (.int .i64 n)
  have h3 := block_setCell h2 (i := 2) (.string s)
  have h4 := block_setCell h3 (i := 3) v
  unfold resW
  rw [h4]
  simp
theorem res_fr (w : World) (q : Nat) (k n : Int) (s : ByteArray) (v : Value) : Fr (fun j => j = q) w (resW w q k n s v) := ((((Fr.refl (fun j => j = q) w).setAt rfl).setAt rfl).setAt rfl).setAt rfl
set_option maxHeartbeats 4000000 in
set_option maxRecDepth 100000 in
theorem num_any (n : Int) (w : World) : Calls Tryz.prog 100 #[.int .i64 n] w fun e w' => e = .returned (.agg #[.int .i64 0, .int .i64 n, .string ⟨#[]⟩, .slice none 0 0]) ∧ Below w.heap.size w w' := by
  go_enter Tryz.func100, Tryz.ntmps100
  go_wp2_with fail
  exact bodyPost_ret (v := .agg #[.int .i64 0, .int .i64 n, .string ⟨#[]⟩, .slice none 0 0]) (by simp [results, Tryz.results100, go_sem]) rfl ⟨rfl, by first | exact Below.refl _ _ | exact (Below.refl _ _).alloc (Nat.le_refl _) _⟩
theorem RAt.fr {S : Nat → Prop} {w w' : World} {rb : Nat} {s : ByteArray} {a : Int} (h : RAt w rb s a) (f : Fr S w w') (hs : ¬ S rb) : RAt w' rb s a := f.at_ h hs
theorem RAt.below {w w' : World} {rb : Nat} {s : ByteArray} {a : Int} (h : RAt w rb s a) (f : Below w.heap.size w w') : RAt w' rb s a := (f.block _ (heap_lt h)).trans h

set_option maxHeartbeats 4000000 in
set_option maxRecDepth 100000 in
theorem int_ok (n : Int) (hn1 : -9223372036854775808 ≤ n) (hn2 : n ≤ 9223372036854775807) (s : ByteArray) (a : Nat) (rb : Nat) (w : World) (hs : s.size ≤ 9223372036854775000) (h : RAt w rb s (a : Int)) (hle : a + 1 + widthN 9 (foldN n) ≤ s.size)
    (h1 : cut s a 1 = beL 1 (widthN 9 (foldN n))) (h2 : cut s (a + 1) (widthN 9 (foldN n)) = beL (widthN 9 (foldN n)) (foldN n)) :
    Calls Tryz.prog 75 #[.pointer (some ⟨rb, 0, none⟩)] w fun e w' => e = .returned (.agg #[.int .i64 0, .int .i64 n, .string ⟨#[]⟩, .slice none 0 0]) ∧ RAt w' rb s ((a + 1 + widthN 9 (foldN n) : Nat) : Int) ∧ Fr (fun k => k = rb) w w' := by
  obtain ⟨hw1, hw2, hw3⟩ := widthN_spec 8 (foldN n) (by show _ < 18446744073709551616; exact fold_lt n hn1 hn2)
  have hff := fold_lt n hn1 hn2
  have huf := unfold_f n hn1 hn2
  obtain ⟨F, hF⟩ : ∃ F, foldN n = F := ⟨_, rfl⟩
  rw [hF] at hw1 hw2 hw3 h1 h2 hle huf hff ⊢
  obtain ⟨W, hW⟩ : ∃ W, widthN 9 F = W := ⟨_, rfl⟩
  rw [hW] at hw1 hw2 hw3 h1 h2 hle ⊢
  have g1 := getS_ok (s := s) (a := a) (n := 1) (by omega) (by omega) (by omega)
  rw [h1, num_beL 1 W (by omega)] at g1
  have v1 : IntKind.i64.wrap (W : Int) = (W : Int) := IntWalk.i64_in _ (by omega)
  have HR := Lib.hid h
  have HUF := Lib.hid huf
  have HFE := Lib.hid hF
  have HWE := Lib.hid hW
  have G1 := Lib.hid g1
  obtain ⟨w1, hw1'⟩ : ∃ w1, w.alloc (.cells #[.int .i64 0, .int .i64 0, .string ⟨#[]⟩, .slice none 0 0] 65) = w1 := ⟨_, rfl⟩
  obtain ⟨q, hq⟩ : ∃ q, w.heap.size = q := ⟨_, rfl⟩
  have hb1 : Below w.heap.size w w1 := by rw [← hw1']; exact (Below.refl _ _).alloc (Nat.le_refl _) _
  have hq1 : w1.heap[q]? = some (.cells #[.int .i64 0, .int .i64 0, .string ⟨#[]⟩, .slice none 0 0] 65 (0, 0)) := by rw [← hw1', ← hq]; exact heap_alloc_new _ _
  have HB1 := Lib.hid hb1
  have HQ1 := Lib.hid hq1
  have HR1 := Lib.hid (h.below hb1)
  have hrq : rb ≠ q := by have := heap_lt h; omega
  have HRQ := Lib.hid hrq
  clear hb1 hq1 hrq
  by_cases hW0 : W = 0
  · subst hW0
    have hF0 : F = 0 := by simp at hw1; exact hw1
    have hn0 : n = 0 := by
      rw [hF0] at hF
      unfold foldN at hF
      split at hF <;> omega
    subst hn0
    clear h g1 hF hW huf h1 h2 hw1 hw2 hw3
    go_enter Tryz.func75, Tryz.ntmps75
    go_wp2_with (first | (rw [hw1']) | (rw [hq]))
    refine (number_ok s (a : Int) 1 _ _ rb w1 hs HR1.out G1.out).mono ?_
    rintro e w2 ⟨rfl, hr2, hf2⟩
    have hq2 := hf2.at_ HQ1.out (fun h => HRQ.out h.symm)
    have HR2 := Lib.hid hr2
    have HF2 := Lib.hid ((Fr.of_below HB1.out).trans hf2)
    clear hr2 hf2
    go_wp2_with fail
    refine (num_any 0 w2).mono ?_
    rintro e w3 ⟨rfl, hb3⟩
    have hq3 := (hb3.block _ (heap_lt hq2)).trans hq2
    have e0 := cell_of_block hq3 0
    have e1 := cell_of_block hq3 1
    have e2 := cell_of_block hq3 2
    have e3 := cell_of_block hq3 3
    have z0 : w3.frozen? ⟨q, 0, none⟩ = false := unfrozen_of_block hq3 0
    have z1 : w3.frozen? ⟨q, 1, none⟩ = false := unfrozen_of_block hq3 1
    have z2 : w3.frozen? ⟨q, 2, none⟩ = false := unfrozen_of_block hq3 2
    have z3 : w3.frozen? ⟨q, 3, none⟩ = false := unfrozen_of_block hq3 3
    go_wp2_with fail
    have hfin := res_box hq3 0 0 ⟨#[]⟩ (.slice none 0 0)
    have hfr := res_fr w3 q 0 0 ⟨#[]⟩ (.slice none 0 0)
    obtain ⟨wF, hwF⟩ : ∃ wF, resW w3 q 0 0 ⟨#[]⟩ (.slice none 0 0) = wF := ⟨_, rfl⟩
    rw [hwF] at hfin hfr
    have k0 := cell_of_block hfin 0
    have k1 := cell_of_block hfin 1
    have k2 := cell_of_block hfin 2
    have k3 := cell_of_block hfin 3
    change bodyPost _ _ _ _ _ (resW w3 q 0 0 ⟨#[]⟩ (.slice none 0 0))
    rw [hwF]
    refine bodyPost_ret (v := .agg #[.int .i64 0, .int .i64 0, .string ⟨#[]⟩, .slice none 0 0]) ?_ ?_ ?_
    · simp [results, Tryz.results75, go_sem, k0, k1, k2, k3]
    · rfl
    · refine ⟨rfl, ?_, ?_⟩
      · exact (HR2.out.below hb3).fr hfr HRQ.out
      · refine Fr_old (((HF2.out.mono (fun k hk => .inl hk)).trans ((Fr.of_below hb3).trans (hfr.mono (fun k hk => .inr ?_)))))
        rw [hk, hq]
        exact Nat.le_refl _
  · have hF0 : F ≠ 0 := by
      intro h0
      rw [h0, widthN, if_pos rfl] at hW
      omega
    have hpw := hw2 hF0
    have g2 := getS_ok (s := s) (a := a + 1) (n := W) (by omega) (by omega) (by omega)
    rw [h2, num_beL W F hw1] at g2
    have G2 := Lib.hid g2
    have hW0I : ((W : Int) == 0) = false := by simpa using hW0
    have hW8 : ¬ (8 : Int) < (W : Int) := by omega
    have hsh0 : (F : Int) / 2 ^ (8 * (W - 1)) ≠ 0 := by
      rw [pow_256]
      have h1 : 1 ≤ F / 256 ^ (W - 1) := (Nat.le_div_iff_mul_le (Nat.pow_pos (by decide))).2 (by rw [Nat.one_mul]; exact hpw)
      have h2 : ((F / 256 ^ (W - 1) : Nat) : Int) = (F : Int) / ((256 ^ (W - 1) : Nat) : Int) := Int.natCast_ediv _ _
      rw [← h2]
      omega
    have hsh : ((F : Int) / 2 ^ (8 * (W - 1)) == 0) = false := by simpa using hsh0
    clear h g1 g2 hF hW huf h1 h2 hw1 hw2 hpw hsh0
    go_enter Tryz.func75, Tryz.ntmps75
    go_wp2_with (first | (rw [hw1']) | (rw [hq]))
    refine (number_ok s (a : Int) 1 _ _ rb w1 hs HR1.out G1.out).mono ?_
    rintro e w2 ⟨rfl, hr2, hf2⟩
    have hq2 := hf2.at_ HQ1.out (fun h => HRQ.out h.symm)
    have HQ2 := Lib.hid hq2
    have HR2 := Lib.hid hr2
    have HF2 := Lib.hid ((Fr.of_below HB1.out).trans hf2)
    clear hr2 hf2 hq2
    go_wp2_with fail
    refine (number_ok s ((a + 1 : Nat) : Int) (W : Int) _ _ rb w2 hs HR2.out G2.out).mono ?_
    rintro e w3 ⟨rfl, hr3, hf3⟩
    have hq3 := hf3.at_ HQ2.out (fun h => HRQ.out h.symm)
    have HQ3 := Lib.hid hq3
    have HR3 := Lib.hid hr3
    have HF3 := Lib.hid (HF2.out.trans hf3)
    clear hr3 hf3 hq3
    go_wp2_with fail
    refine (words_Unfold.calls (F : Int) _ w3 HUF.out).mono ?_
    rintro e w4 ⟨rfl, hd4⟩
    have hb4 := Drawn0.below hd4
    have HQ4 := Lib.hid ((hb4.block _ (heap_lt HQ3.out)).trans HQ3.out)
    have HR4 := Lib.hid (HR3.out.below hb4)
    have HF4 := Lib.hid (HF3.out.trans (Fr.of_below hb4))
    clear hb4 hd4
    go_wp2_with fail
    refine (num_any n w4).mono ?_
    rintro e w5 ⟨rfl, hb5⟩
    have hq5 := (hb5.block _ (heap_lt HQ4.out)).trans HQ4.out
    have e0 := cell_of_block hq5 0
    have e1 := cell_of_block hq5 1
    have e2 := cell_of_block hq5 2
    have e3 := cell_of_block hq5 3
    have z0 : w5.frozen? ⟨q, 0, none⟩ = false := unfrozen_of_block hq5 0
    have z1 : w5.frozen? ⟨q, 1, none⟩ = false := unfrozen_of_block hq5 1
    have z2 : w5.frozen? ⟨q, 2, none⟩ = false := unfrozen_of_block hq5 2
    have z3 : w5.frozen? ⟨q, 3, none⟩ = false := unfrozen_of_block hq5 3
    go_wp2_with fail
    have hfin := res_box hq5 0 n ⟨#[]⟩ (.slice none 0 0)
    have hfr := res_fr w5 q 0 n ⟨#[]⟩ (.slice none 0 0)
    obtain ⟨wF, hwF⟩ : ∃ wF, resW w5 q 0 n ⟨#[]⟩ (.slice none 0 0) = wF := ⟨_, rfl⟩
    rw [hwF] at hfin hfr
    have k0 := cell_of_block hfin 0
    have k1 := cell_of_block hfin 1
    have k2 := cell_of_block hfin 2
    have k3 := cell_of_block hfin 3
    change bodyPost _ _ _ _ _ (resW w5 q 0 n ⟨#[]⟩ (.slice none 0 0))
    rw [hwF]
    refine bodyPost_ret (v := .agg #[.int .i64 0, .int .i64 n, .string ⟨#[]⟩, .slice none 0 0]) ?_ ?_ ?_
    · simp [results, Tryz.results75, go_sem, k0, k1, k2, k3]
    · rfl
    · refine ⟨rfl, ?_, ?_⟩
      · exact (HR4.out.below hb5).fr hfr HRQ.out
      · refine Fr_old (((HF4.out.mono (fun k hk => .inl hk)).trans ((Fr.of_below hb5).trans (hfr.mono (fun k hk => .inr ?_)))))
        rw [hk, hq]
        exact Nat.le_refl _

theorem gettext_f (s t : ByteArray) (a : Nat) (hs : s.size ≤ 9223372036854775000) (ht : t.size ≤ 65535) (hle : a + 2 + t.size ≤ s.size) (h1 : cut s a 2 = beL 2 t.size) (h2 : s.extract (a + 2) (a + 2 + t.size) = t) : words_GetText.f 100 s (a : Int) = some (t, ((a + 2 + t.size : Nat) : Int), 0) := by
  unfold words_GetText.f
  rw [getS_f s (a : Int) 2 hs]
  have g := getS_ok (s := s) (a := a) (n := 2) (by omega) (by omega) (by omega)
  rw [h1, num_beL 2 t.size (by show _ < 65536; omega)] at g
  have g' : getS s (a : Int) 2 = (((t.size : Nat) : Int), ((a + 2 : Nat) : Int), 0) := g
  rw [Option.bind_some, g']
  dsimp only
  have e1 : IntKind.u64.wrap (wrap64 ((s.size : Int) - ((a + 2 : Nat) : Int))) = (s.size : Int) - ((a + 2 : Nat) : Int) := by rw [IntKind.wrap_u64]; unfold wrap64; omega
  have e2 : wrap64 ((t.size : Nat) : Int) = (t.size : Int) := by unfold wrap64; omega
  have e3 : wrap64 (((a + 2 : Nat) : Int) + (t.size : Int)) = ((a + 2 + t.size : Nat) : Int) := by unfold wrap64; omega
  rw [if_pos rfl, e1, if_neg (by omega), e2, e3, if_pos (by omega), if_pos (by omega), if_pos (by omega), Int.toNat_natCast, Int.toNat_natCast, h2]

/-- Bytes stand at a place. -/
structure Has (s : ByteArray) (a : Nat) (l : List UInt8) : Prop where
  le : a ≤ s.size
  out : ∃ r, s.data.toList.drop a = l ++ r
theorem Has.len {s : ByteArray} {a : Nat} {l : List UInt8} (h : Has s a l) : a + l.length ≤ s.size := by
  obtain ⟨r, hr⟩ := h.out
  have h1 := congrArg List.length hr
  have h2 : s.data.toList.length = s.size := by simp
  have := h.le
  rw [List.length_drop, List.length_append, h2] at h1
  omega
theorem Has.cut {s : ByteArray} {a : Nat} {l : List UInt8} (h : Has s a l) : Gw.cut s a l.length = l := by
  obtain ⟨r, hr⟩ := h.out
  unfold Gw.cut
  rw [hr, List.take_append_of_le_length (Nat.le_refl _), List.take_of_length_le (Nat.le_refl _)]
theorem Has.left {s : ByteArray} {a : Nat} {l l2 : List UInt8} (h : Has s a (l ++ l2)) : Has s a l := by
  obtain ⟨r, hr⟩ := h.out
  exact ⟨h.le, l2 ++ r, by rw [hr, List.append_assoc]⟩
theorem Has.right {s : ByteArray} {a : Nat} {l l2 : List UInt8} (h : Has s a (l ++ l2)) : Has s (a + l.length) l2 := by
  obtain ⟨r, hr⟩ := h.out
  refine ⟨by have := h.len; rw [List.length_append] at this; omega, r, ?_⟩
  rw [← List.drop_drop, hr, List.append_assoc, List.drop_left]
theorem Has.extract {s t : ByteArray} {a : Nat} (h : Has s a t.data.toList) : s.extract a (a + t.size) = t := by
  have hc := h.cut
  unfold Gw.cut at hc
  apply ByteArray.ext
  apply Array.toList_inj.1
  rw [ByteArray.data_extract, Array.toList_extract]
  simp only [List.extract_eq_take_drop]
  rw [show a + t.size - a = t.data.toList.length by simp]
  exact hc

set_option maxHeartbeats 4000000 in
set_option maxRecDepth 100000 in
theorem value_int (n : Int) (hn1 : -9223372036854775808 ≤ n) (hn2 : n ≤ 9223372036854775807) (deep : Int) (s : ByteArray) (a : Nat) (rb : Nat) (w : World) (hs : s.size ≤ 9223372036854775000) (h : RAt w rb s (a : Int))
    (hh : Has s a (1 :: (beL 1 (widthN 9 (foldN n)) ++ beL (widthN 9 (foldN n)) (foldN n)))) :
    Calls Tryz.prog 34 #[.pointer (some ⟨rb, 0, none⟩), .int .i64 deep] w fun e w' => e = .returned (.agg #[.int .i64 0, .int .i64 n, .string ⟨#[]⟩, .slice none 0 0]) ∧ RAt w' rb s ((a + (2 + widthN 9 (foldN n)) : Nat) : Int) ∧ Fr (fun k => k = rb) w w' := by
  have h1 : Has s a [1] := Has.left (l2 := beL 1 (widthN 9 (foldN n)) ++ beL (widthN 9 (foldN n)) (foldN n)) hh
  have h2 : Has s (a + 1) (beL 1 (widthN 9 (foldN n)) ++ beL (widthN 9 (foldN n)) (foldN n)) := Has.right (l := [1]) hh
  have h3 := h2.left
  have h4 := h2.right
  rw [beL_length] at h4
  have g1 := getS_ok (s := s) (a := a) (n := 1) (by omega) (by omega) h1.len
  rw [show cut s a 1 = [1] from h1.cut] at g1
  have g1' : getS s (a : Int) 1 = (1, ((a + 1 : Nat) : Int), 0) := g1
  have c3 := h3.cut
  have c4 := h4.cut
  rw [beL_length] at c3 c4
  have l4 := h4.len
  rw [beL_length] at l4
  obtain ⟨w1, hw1'⟩ : ∃ w1, w.alloc (.cells #[.int .i64 0, .int .i64 0, .string ⟨#[]⟩, .slice none 0 0] 65) = w1 := ⟨_, rfl⟩
  obtain ⟨q, hq⟩ : ∃ q, w.heap.size = q := ⟨_, rfl⟩
  have hb1 : Below w.heap.size w w1 := by rw [← hw1']; exact (Below.refl _ _).alloc (Nat.le_refl _) _
  have hq1 : w1.heap[q]? = some (.cells #[.int .i64 0, .int .i64 0, .string ⟨#[]⟩, .slice none 0 0] 65 (0, 0)) := by rw [← hw1', ← hq]; exact heap_alloc_new _ _
  have HB1 := Lib.hid hb1
  have HQ1 := Lib.hid hq1
  have HR1 := Lib.hid (h.below hb1)
  have hrq : rb ≠ q := by have := heap_lt h; omega
  have HRQ := Lib.hid hrq
  have G1 := Lib.hid g1'
  have C3 := Lib.hid c3
  have C4 := Lib.hid c4
  clear hb1 hq1 hrq h g1 g1' h1 h2 h3 h4 c3 c4 hh
  go_enter Tryz.func34, Tryz.ntmps34
  go_wp2_with (first | (rw [hw1']) | (rw [hq]))
  refine (number_ok s (a : Int) 1 _ _ rb w1 hs HR1.out G1.out).mono ?_
  rintro e w2 ⟨rfl, hr2, hf2⟩
  have hq2 := hf2.at_ HQ1.out (fun h => HRQ.out h.symm)
  have HQ2 := Lib.hid hq2
  have HR2 := Lib.hid hr2
  have HF2 := Lib.hid ((Fr.of_below HB1.out).trans hf2)
  clear hr2 hf2 hq2
  go_wp2_with fail
  refine (int_ok n hn1 hn2 s (a + 1) rb w2 hs HR2.out l4 C3.out C4.out).mono ?_
  rintro e w5 ⟨rfl, hr5, hf5⟩
  have hq5 := hf5.at_ HQ2.out (fun h => HRQ.out h.symm)
  have HR5 := Lib.hid hr5
  have HF5 := Lib.hid (HF2.out.trans hf5)
  have e0 := cell_of_block hq5 0
  have e1 := cell_of_block hq5 1
  have e2 := cell_of_block hq5 2
  have e3 := cell_of_block hq5 3
  have z0 : w5.frozen? ⟨q, 0, none⟩ = false := unfrozen_of_block hq5 0
  have z1 : w5.frozen? ⟨q, 1, none⟩ = false := unfrozen_of_block hq5 1
  have z2 : w5.frozen? ⟨q, 2, none⟩ = false := unfrozen_of_block hq5 2
  have z3 : w5.frozen? ⟨q, 3, none⟩ = false := unfrozen_of_block hq5 3
  go_wp2_with fail
  have hfin := res_box hq5 0 n ⟨#[]⟩ (.slice none 0 0)
  have hfr := res_fr w5 q 0 n ⟨#[]⟩ (.slice none 0 0)
  obtain ⟨wF, hwF⟩ : ∃ wF, resW w5 q 0 n ⟨#[]⟩ (.slice none 0 0) = wF := ⟨_, rfl⟩
  rw [hwF] at hfin hfr
  have k0 := cell_of_block hfin 0
  have k1 := cell_of_block hfin 1
  have k2 := cell_of_block hfin 2
  have k3 := cell_of_block hfin 3
  change bodyPost _ _ _ _ _ (resW w5 q 0 n ⟨#[]⟩ (.slice none 0 0))
  rw [hwF]
  refine bodyPost_ret (v := .agg #[.int .i64 0, .int .i64 n, .string ⟨#[]⟩, (.slice none 0 0)]) ?_ ?_ ?_
  · simp [results, Tryz.results34, go_sem, k0, k1, k2, k3]
  · rfl
  · refine ⟨rfl, ?_, ?_⟩
    · have := HR5.out.fr hfr HRQ.out
      rwa [show a + 1 + 1 + widthN 9 (foldN n) = a + (2 + widthN 9 (foldN n)) by omega] at this
    · refine Fr_old ((HF5.out.mono (fun k hk => .inl hk)).trans (hfr.mono (fun k hk => .inr ?_)))
      rw [hk, hq]
      exact Nat.le_refl _

set_option maxHeartbeats 4000000 in
set_option maxRecDepth 100000 in
theorem str_any (t : ByteArray) (w : World) : Calls Tryz.prog 63 #[.string t] w fun e w' => e = .returned (.agg #[.int .i64 1, .int .i64 0, .string t, .slice none 0 0]) ∧ Below w.heap.size w w' := by
  go_enter Tryz.func63, Tryz.ntmps63
  go_wp2_with fail
  exact bodyPost_ret (v := .agg #[.int .i64 1, .int .i64 0, .string t, .slice none 0 0]) (by simp [results, Tryz.results63, go_sem]) rfl ⟨rfl, by first | exact Below.refl _ _ | exact (Below.refl _ _).alloc (Nat.le_refl _) _⟩

set_option maxHeartbeats 4000000 in
set_option maxRecDepth 100000 in
theorem value_text (t : ByteArray) (ht : t.size ≤ 4096) (deep : Int) (s : ByteArray) (a : Nat) (rb : Nat) (w : World) (hs : s.size ≤ 9223372036854775000) (h : RAt w rb s (a : Int))
    (hh : Has s a (2 :: (beL 2 t.size ++ t.data.toList))) :
    Calls Tryz.prog 34 #[.pointer (some ⟨rb, 0, none⟩), .int .i64 deep] w fun e w' => e = .returned (.agg #[.int .i64 1, .int .i64 0, .string t, .slice none 0 0]) ∧ RAt w' rb s ((a + 1 + 2 + t.size : Nat) : Int) ∧ Fr (fun k => k = rb) w w' := by
  have h1 : Has s a [2] := Has.left (l2 := beL 2 t.size ++ t.data.toList) hh
  have h2 : Has s (a + 1) (beL 2 t.size ++ t.data.toList) := Has.right (l := [2]) hh
  have h3 := h2.left
  have h4 := h2.right
  rw [beL_length] at h4
  have g1 := getS_ok (s := s) (a := a) (n := 1) (by omega) (by omega) h1.len
  rw [show cut s a 1 = [2] from h1.cut] at g1
  have g1' : getS s (a : Int) 1 = (2, ((a + 1 : Nat) : Int), 0) := g1
  have c3 := h3.cut
  rw [beL_length] at c3
  have l4 := h4.len
  have l5 : t.data.toList.length = t.size := by simp
  rw [l5] at l4
  have gt := gettext_f s t (a + 1) hs (by omega) l4 c3 h4.extract
  obtain ⟨a', ha'⟩ : ∃ a' : Int, ((a + 1 + 2 + t.size : Nat) : Int) = a' := ⟨_, rfl⟩
  rw [ha'] at gt
  have HA' := Lib.hid ha'
  clear ha'
  obtain ⟨w1, hw1'⟩ : ∃ w1, w.alloc (.cells #[.int .i64 0, .int .i64 0, .string ⟨#[]⟩, .slice none 0 0] 65) = w1 := ⟨_, rfl⟩
  obtain ⟨q, hq⟩ : ∃ q, w.heap.size = q := ⟨_, rfl⟩
  have hb1 : Below w.heap.size w w1 := by rw [← hw1']; exact (Below.refl _ _).alloc (Nat.le_refl _) _
  have hq1 : w1.heap[q]? = some (.cells #[.int .i64 0, .int .i64 0, .string ⟨#[]⟩, .slice none 0 0] 65 (0, 0)) := by rw [← hw1', ← hq]; exact heap_alloc_new _ _
  have HB1 := Lib.hid hb1
  have HQ1 := Lib.hid hq1
  have HR1 := Lib.hid (h.below hb1)
  have hrq : rb ≠ q := by have := heap_lt h; omega
  have HRQ := Lib.hid hrq
  have G1 := Lib.hid g1'
  have GT := Lib.hid gt
  have htI : ¬ (4096 : Int) < (t.size : Int) := by omega
  clear hb1 hq1 hrq h g1 g1' h1 h2 h3 h4 c3 l5 gt hh
  go_enter Tryz.func34, Tryz.ntmps34
  go_wp2_with (first | (rw [hw1']) | (rw [hq]))
  refine (number_ok s (a : Int) 1 _ _ rb w1 hs HR1.out G1.out).mono ?_
  rintro e w2 ⟨rfl, hr2, hf2⟩
  have hq2 := hf2.at_ HQ1.out (fun h => HRQ.out h.symm)
  have HQ2 := Lib.hid hq2
  have HR2 := Lib.hid hr2
  have HF2 := Lib.hid ((Fr.of_below HB1.out).trans hf2)
  have c0 : w2.cell? ⟨rb, 0, none⟩ = some (.string s) := cell_of_block hr2 0
  have c1 : w2.cell? ⟨rb, 1, none⟩ = some (.int .i64 ((a + 1 : Nat) : Int)) := cell_of_block hr2 1
  clear hr2 hf2 hq2
  have hcall : ∀ W, Calls Tryz.prog 76 #[.string s, .int .i64 ((a + 1 : Nat) : Int)] W fun e w' => e = .returned (.tuple #[.string t, .int .i64 a', .int .i64 0]) ∧ ∃ m, w' = W.drewN m := fun W => (words_GetText.calls 100 s ((a + 1 : Nat) : Int) _ _ _ W GT.out).mono (fun e w' ⟨he, hd⟩ => ⟨he, hd.out⟩)
  have HC := Lib.hid hcall
  clear hcall
  go_wp2_with fail
  go_quiet ((go_at_call 76; exact Calls.quiet_of (HC.out _)))
  go_wp2_with fail
  obtain ⟨w3, hw3⟩ : ∃ w3, w2.drewN nq = w3 := ⟨_, rfl⟩
  have hb3 : Below w2.heap.size w2 w3 := by rw [← hw3]; exact below_drewN _
  rw [hw3]
  have hr3 := HR2.out.below hb3
  have HQ3 := Lib.hid ((hb3.block _ (heap_lt HQ2.out)).trans HQ2.out)
  have HF3 := Lib.hid (HF2.out.trans (Fr.of_below hb3))
  have d1 : w3.cell? ⟨rb, 1, none⟩ = some (.int .i64 ((a + 1 : Nat) : Int)) := cell_of_block hr3 1
  have hfz : w3.frozen? ⟨rb, 1, none⟩ = false := unfrozen_of_block hr3 1
  obtain ⟨w4, hw4⟩ : ∃ w4, w3.setCell ⟨rb, 1, none⟩ (.int .i64 a') = w4 := ⟨_, rfl⟩
  have hr4 : RAt w4 rb s a' := by
    have := block_setCell hr3 (i := 1) (.int .i64 a')
    unfold RAt
    rw [← hw4, this]
    simp
  have hf4 : Fr (fun k => k = rb) w3 w4 := by rw [← hw4]; exact (Fr.refl (fun k => k = rb) w3).setAt rfl
  have HR4 := Lib.hid hr4
  have HF4 := Lib.hid (HF3.out.trans hf4)
  have HQ4 := Lib.hid (hf4.at_ HQ3.out (fun h => HRQ.out h.symm))
  clear hw3 hb3 hr3 hr4 hf4 c0 c1
  refine (must_ok w3).mono ?_
  rintro e w3' ⟨rfl, rfl⟩
  go_wp2_with (rw [hw4])
  refine (str_any t w4).mono ?_
  rintro e w5 ⟨rfl, hb5⟩
  have hq5 := (hb5.block _ (heap_lt HQ4.out)).trans HQ4.out
  have HR5 := Lib.hid (HR4.out.below hb5)
  have HF5 := Lib.hid (HF4.out.trans (Fr.of_below hb5))
  have e0 := cell_of_block hq5 0
  have e1 := cell_of_block hq5 1
  have e2 := cell_of_block hq5 2
  have e3 := cell_of_block hq5 3
  have z0 : w5.frozen? ⟨q, 0, none⟩ = false := unfrozen_of_block hq5 0
  have z1 : w5.frozen? ⟨q, 1, none⟩ = false := unfrozen_of_block hq5 1
  have z2 : w5.frozen? ⟨q, 2, none⟩ = false := unfrozen_of_block hq5 2
  have z3 : w5.frozen? ⟨q, 3, none⟩ = false := unfrozen_of_block hq5 3
  go_wp2_with fail
  have hfin := res_box hq5 1 0 t (.slice none 0 0)
  have hfr := res_fr w5 q 1 0 t (.slice none 0 0)
  obtain ⟨wF, hwF⟩ : ∃ wF, resW w5 q 1 0 t (.slice none 0 0) = wF := ⟨_, rfl⟩
  rw [hwF] at hfin hfr
  have k0 := cell_of_block hfin 0
  have k1 := cell_of_block hfin 1
  have k2 := cell_of_block hfin 2
  have k3 := cell_of_block hfin 3
  change bodyPost _ _ _ _ _ (resW w5 q 1 0 t (.slice none 0 0))
  rw [hwF]
  refine bodyPost_ret (v := .agg #[.int .i64 1, .int .i64 0, .string t, (.slice none 0 0)]) ?_ ?_ ?_
  · simp [results, Tryz.results34, go_sem, k0, k1, k2, k3]
  · rfl
  · refine ⟨rfl, ?_, ?_⟩
    · have := HR5.out.fr hfr HRQ.out
      rwa [← HA'.out] at this
    · refine Fr_old ((HF5.out.mono (fun k hk => .inl hk)).trans (hfr.mono (fun k hk => .inr ?_)))
      rw [hk, hq]
      exact Nat.le_refl _

end Go.Proofs.YtieaipclioppkaaGreat.Rd

/-! pack's reader: lists, and whatever value. -/
namespace Go.Proofs.YtieaipclioppkaaGreat.Rl
open Go Go.RowKit Go.Joins Go.Proofs.YtieaipclioppkaaGreatCore Go.Proofs.YtieaipclioppkaaGreat.PLeaf Go.Proofs.YtieaipclioppkaaGreat.Puts Go.Proofs.YtieaipclioppkaaGreat.Gw Go.Proofs.YtieaipclioppkaaGreat.Fr Go.Proofs.YtieaipclioppkaaGreat.Pk Go.Proofs.YtieaipclioppkaaGreat.Rd Go.Proofs.YtieaipclioppkaaGreatW.PrintWords Go.Proofs.YtieaipclioppkaaGreatW.PrintLast Go.Proofs.YtieaipclioppkaaGreatW.PrintMore

/-- Values as they are read. -/
inductive CanV : Nat → V → Prop
  | num {d : Nat} {n : Int} (h1 : -9223372036854775808 ≤ n) (h2 : n ≤ 9223372036854775807) : CanV d ⟨0, n, ⟨#[]⟩, []⟩
  | str {d : Nat} {t : ByteArray} (h : t.size ≤ 4096) : CanV d ⟨1, 0, t, []⟩
  | list {d : Nat} {l : List V} (hd : d < 8) (hl : l.length ≤ 256) (h : ∀ x ∈ l, CanV (d + 1) x) : CanV d ⟨2, 0, ⟨#[]⟩, l⟩
/-- What a call that reads a value leaves. -/
def ReadPost (s : ByteArray) (a' : Nat) (rb : Nat) (v : V) (w : World) (e : Ending) (w' : World) : Prop :=
  ∃ cs, e = .returned (.agg cs.toArray) ∧ k65.M w' w.heap.size (fun _ => True) v cs ∧ RAt w' rb s (a' : Int) ∧ Fr (fun k => k = rb) w w'
theorem lenL (d : Nat) (l : List V) (k : Nat) (hk : k < l.length) (h : ∀ x ∈ l, (encV d x).2 = 0) : (encL d l).2 = 0 ∧ (encL d l).1 = (encL d (l.take k)).1 ++ ((encV d l[k]).1 ++ (encL d (l.drop (k + 1))).1) := by
  have h0 : ∀ l : List V, (∀ x ∈ l, (encV d x).2 = 0) → (encL d l).2 = 0 := by
    intro l
    induction l with
    | nil => intro _; rw [encL_nil]
    | cons x l ih =>
      intro h
      rw [encL_cons, if_pos (h x (List.mem_cons_self ..))]
      exact ih (fun y hy => h y (List.mem_cons_of_mem _ hy))
  refine ⟨h0 l h, ?_⟩
  have ht := h0 (l.take k) (fun x hx => h x (List.mem_of_mem_take hx))
  have ha := encL_app d (l.take k) (l.drop k) ht
  rw [List.take_append_drop, List.drop_eq_getElem_cons hk, encL_cons, if_pos (h _ (List.getElem_mem hk))] at ha
  rw [ha]

theorem infoV : (Tryz.prog.info? 65).map (fun i => (i.zero, i.size, i.bytes)) = some (some (.agg #[.int .i64 0, .int .i64 0, .string ⟨#[]⟩, .slice none 0 0]), 4, 56) := by kernel_rfl
theorem szV : k65.sz = 4 := rfl
theorem zV : (Value.agg #[.int .i64 0, .int .i64 0, .string ⟨#[]⟩, .slice none 0 0]).cells.size = k65.sz := by rw [szV]; rfl
theorem szV0 : 0 < k65.sz := by rw [szV]; decide
theorem infoV4 : (Tryz.prog.info? 65).map (fun i => (i.zero, i.size, i.bytes)) = some (some (.agg #[.int .i64 0, .int .i64 0, .string ⟨#[]⟩, .slice none 0 0]), k65.sz, 56) := infoV
structure VInv (s : ByteArray) (a rb q : Nat) (l : List V) (d : Nat) (w : World) (gk : Nat) (o v : Value) (wr : World) (k : Nat) : Prop where
  le : k ≤ l.length
  slot : v = .int .u64 k
  ghost : gk + k = l.length
  own : Kd.R k65 65 wr w.heap.size (fun j => q < j) o (l.take k)
  rd : RAt wr rb s ((a + (encL d (l.take k)).1.length : Nat) : Int)
  box : wr.heap[q]? = some (.cells #[.int .i64 0, .int .i64 0, .string ⟨#[]⟩, .slice none 0 0] 65 (0, 0))
  fr : Fr (fun j => j = rb) w wr
def VRel (s : ByteArray) (a rb q : Nat) (l : List V) (d : Nat) (w : World) (gk : Nat) (o v : Value) (wr : World) : Prop := ∃ k, VInv s a rb q l d w gk o v wr k

set_option maxHeartbeats 8000000 in
set_option maxRecDepth 100000 in
theorem value_list (l : List V) (deep : Nat) (hd : deep < 8) (hl : l.length ≤ 256) (s : ByteArray) (a : Nat) (rb : Nat) (w : World) (hs : s.size ≤ 9223372036854775000) (h : RAt w rb s (a : Int)) (hgood : ∀ x ∈ l, (encV (deep + 1) x).2 = 0)
    (hh : Has s a (3 :: (beL 2 l.length ++ (encL (deep + 1) l).1)))
    (ih : ∀ x ∈ l, ∀ (a : Nat) (w : World), RAt w rb s (a : Int) → Has s a (encV (deep + 1) x).1 → Calls Tryz.prog 34 #[.pointer (some ⟨rb, 0, none⟩), .int .i64 ((deep + 1 : Nat) : Int)] w fun e w' => ReadPost s (a + (encV (deep + 1) x).1.length) rb x w e w') :
    Calls Tryz.prog 34 #[.pointer (some ⟨rb, 0, none⟩), .int .i64 (deep : Int)] w fun e w' => ReadPost s (a + (3 + (encL (deep + 1) l).1.length)) rb ⟨2, 0, ⟨#[]⟩, l⟩ w e w' := by
  have h1 : Has s a [3] := Has.left (l2 := beL 2 l.length ++ (encL (deep + 1) l).1) hh
  have h2 : Has s (a + 1) (beL 2 l.length ++ (encL (deep + 1) l).1) := Has.right (l := [3]) hh
  have h3 := h2.left
  have h4 := h2.right
  rw [beL_length] at h4
  have g1 := getS_ok (s := s) (a := a) (n := 1) (by omega) (by omega) h1.len
  rw [show cut s a 1 = [3] from h1.cut] at g1
  have g1' : getS s (a : Int) 1 = (3, ((a + 1 : Nat) : Int), 0) := g1
  have c3 := h3.cut
  have l3 := h3.len
  rw [beL_length] at c3 l3
  have g2 := getS_ok (s := s) (a := a + 1) (n := 2) (by omega) (by omega) l3
  rw [c3, num_beL 2 l.length (by show _ < 65536; omega)] at g2
  have g2' : getS s ((a + 1 : Nat) : Int) 2 = (((l.length : Nat) : Int), ((a + 1 + 2 : Nat) : Int), 0) := g2
  obtain ⟨w1, hw1'⟩ : ∃ w1, w.alloc (.cells #[.int .i64 0, .int .i64 0, .string ⟨#[]⟩, .slice none 0 0] 65) = w1 := ⟨_, rfl⟩
  obtain ⟨q, hq⟩ : ∃ q, w.heap.size = q := ⟨_, rfl⟩
  have hb1 : Below w.heap.size w w1 := by rw [← hw1']; exact (Below.refl _ _).alloc (Nat.le_refl _) _
  have hq1 : w1.heap[q]? = some (.cells #[.int .i64 0, .int .i64 0, .string ⟨#[]⟩, .slice none 0 0] 65 (0, 0)) := by rw [← hw1', ← hq]; exact heap_alloc_new _ _
  have HB1 := Lib.hid hb1
  have HQ1 := Lib.hid hq1
  have HR1 := Lib.hid (h.below hb1)
  have hrq : rb < q := by have := heap_lt h; omega
  have HRQ := Lib.hid hrq
  have G1 := Lib.hid g1'
  have G2 := Lib.hid g2'
  have H4 := Lib.hid h4
  have HIH := Lib.hid ih
  have HGD := Lib.hid hgood
  have hdI : ¬ (8 : Int) ≤ (deep : Int) := by omega
  have hlI : ¬ (256 : Int) < (l.length : Int) := by omega
  clear hb1 hq1 hrq h g1 g1' g2 g2' h1 h2 h3 h4 c3 hh ih hgood
  go_enter Tryz.func34, Tryz.ntmps34
  go_wp2_with (first | (rw [hw1']) | (rw [hq]))
  refine (number_ok s (a : Int) 1 _ _ rb w1 hs HR1.out G1.out).mono ?_
  rintro e w2 ⟨rfl, hr2, hf2⟩
  have hq2 := hf2.at_ HQ1.out (fun h => by have := HRQ.out; omega)
  have HQ2 := Lib.hid hq2
  have HR2 := Lib.hid hr2
  have HF2 := Lib.hid ((Fr.of_below HB1.out).trans hf2)
  clear hr2 hf2 hq2
  go_wp2_with fail
  refine (number_ok s ((a + 1 : Nat) : Int) 2 _ _ rb w2 hs HR2.out G2.out).mono ?_
  rintro e w3 ⟨rfl, hr3, hf3⟩
  have HQ3 := Lib.hid (hf3.at_ HQ2.out (fun h => by have := HRQ.out; omega))
  have HR3 := Lib.hid hr3
  have HF3 := Lib.hid (HF2.out.trans hf3)
  clear hr3 hf3
  go_wp2_with fail
  go_loopg [9, 54] l.length (fun gk o v wr => VRel s (a + 1 + 2) rb q l (deep + 1) w gk o v wr)
  case atStart => exact ⟨0, ⟨Nat.zero_le _, rfl, rfl, Kd.R_nil _ _ _ _ _, by rw [List.take_zero, encL_nil]; exact HR3.out, HQ3.out, HF3.out⟩⟩
  case round =>
    obtain ⟨k, hk, rfl, hg, hown, hrd, hbox, hfr⟩ := hrel
    have HG := Lib.hid hg
    have HOW := Lib.hid hown
    have HRD := Lib.hid hrd
    have HBX := Lib.hid hbox
    have HFR := Lib.hid hfr
    clear hg hown hrd hbox hfr
    by_cases hlt : k < l.length
    · obtain ⟨x, hx⟩ : ∃ x, l[k] = x := ⟨_, rfl⟩
      have hxm : x ∈ l := by rw [← hx]; exact List.getElem_mem hlt
      have hln := lenL (deep + 1) l k hlt HGD.out
      have hhas := H4.out
      rw [hln.2, hx] at hhas
      have hhx := (Has.left (Has.right hhas))
      have hcall := HIH.out x hxm _ wr HRD.out hhx
      have htk : l.take (k + 1) = l.take k ++ [x] := by rw [List.take_succ_eq_append_getElem hlt, hx]
      have hen : (encL (deep + 1) (l.take (k + 1))).1 = (encL (deep + 1) (l.take k)).1 ++ (encV (deep + 1) x).1 := by
        have h0 := lenL (deep + 1) (l.take (k + 1)) k (by rw [List.length_take]; omega) (fun y hy => HGD.out y (List.mem_of_mem_take hy))
        rw [h0.2, List.take_take, Nat.min_eq_left (Nat.le_succ k), List.drop_of_length_le (by rw [List.length_take]; omega), encL_nil, List.append_nil, List.getElem_take, hx]
      have HC := Lib.hid hcall
      have HTK := Lib.hid htk
      have HEN := Lib.hid hen
      have hlk : (l.take k).length = k := by rw [List.length_take]; omega
      have hlnk : ((l.take k).length + 1) * 56 ≤ 140737488355328 := by rw [List.length_take]; omega
      clear hln hhas hhx hcall htk hen hx
      go_wp2_with fail
      refine HC.out.mono ?_
      rintro e w5 ⟨cs, rfl, hM, hr5, hf5⟩
      have hMb := k65.M_mono (ok' := fun j => wr.heap.size ≤ j) (fun j hj => hj.2.1) (k65.M_bound hM)
      have hMl := k65.M_lower HFR.out.size hMb
      obtain ⟨v3, rfl, _⟩ := k65_openM hM
      have how := Kd.R_mono (Kd.R_step (Kd.R_bound HOW.out) (w1 := w5) (fun j hj hlt => hf5.block j hlt (fun e => by have := HRQ.out; have := hj.1; omega))) (ok' := fun j => q < j) (fun j hj => hj.1)
      have hown : ∀ j, u9.ownBlock = some j → j < wr.heap.size := fun j hj => ((Kd.R_bound HOW.out).1 j hj).2.2.1
      have hq5 := hf5.at_ HBX.out (fun h => by have := HRQ.out; omega)
      have HOW5 := Lib.hid how
      have HM5 := Lib.hid hMl
      have HOB := Lib.hid hown
      have HR5 := Lib.hid hr5
      have HF5 := Lib.hid (HFR.out.trans hf5)
      have HQ5 := Lib.hid hq5
      have HWS : Hid (q < wr.heap.size) := Lib.hid (heap_lt HBX.out)
      have HSZ5 : Hid (wr.heap.size ≤ w5.heap.size) := Lib.hid hf5.size
      clear hM hMb hMl how hown hq5 hr5 hf5 HC
      obtain ⟨dV, hdV⟩ : ∃ d, k65 = d := ⟨_, rfl⟩
      have i4 := infoV4
      have z4 := zV
      have s0 := szV0
      rw [hdV] at HOW5 HM5 i4 z4 s0
      have I4 := Lib.hid i4
      have Z4 := Lib.hid z4
      have S0 := Lib.hid s0
      have HDV := Lib.hid hdV
      clear i4 z4 s0 hdV
      go_wp2_with (at_builtin; go_must ((refine Kd.R_append dV (w0 := w5) w.heap.size rfl (.tmp 56) (.tmp 61) 63 65 (.agg #[.int .i64 0, .int .i64 0, .string ⟨#[]⟩, .slice none 0 0]) 56 rfl Tryz.underlying63 I4.out Z4.out S0.out (by decide) _ (l.take k) x [.int .i64 x.f0, .int .i64 x.f1, .string x.f2, v3] (fun j => q < j) (fun j => wr.heap.size ≤ j) rfl rfl HM5.out (fun j hj => ⟨by have := HWS.out; omega, fun e => by have := HOB.out j e.symm; omega⟩) (fun j hj => by have := HWS.out; have := HSZ5.out; omega) HOW5.out (Below.refl _ _) HF5.out.size hlnk ?_; intro v9 w9 ho9 hb9 hg9 hat9)))
      rw [← HDV.out, ← HTK.out] at ho9
      have hfg : Fr (fun j => q < j) w5 w9 := Fr.of_grown hg9 (fun j hj => HOW5.out.1 j hj)
      have hr9 := HR5.out.fr hfg (by have := HRQ.out; omega)
      have hq9 := hfg.at_ HQ5.out (by omega)
      have hf9 : Fr (fun j => j = rb) w w9 := Fr_old ((HF5.out.mono (fun j hj => .inl hj)).trans (hfg.mono (fun j hj => .inr (by rw [hq]; omega))))
      go_roundg (gk - 1)
      case measure => have := HG.out; omega
      case rel => exact ⟨k + 1, ⟨by omega, by go_num, by have := HG.out; omega, ho9, by rw [HEN.out, List.length_append]; rw [show a + 1 + 2 + ((encL (deep + 1) (l.take k)).1.length + (encV (deep + 1) x).1.length) = a + 1 + 2 + (encL (deep + 1) (l.take k)).1.length + (encV (deep + 1) x).1.length by omega]; exact hr9, hq9, hf9⟩⟩
    · obtain rfl : k = l.length := by omega
      have hown := HOW.out
      have hrd := HRD.out
      rw [List.take_of_length_le (Nat.le_refl _)] at hown hrd
      obtain ⟨Al, cl, hv, _, _⟩ := Kd.R_reads hown
      subst hv
      have HOWN := Lib.hid hown
      have HRDN := Lib.hid hrd
      have hq5 := HBX.out
      have e0 := cell_of_block hq5 0
      have e1 := cell_of_block hq5 1
      have e2 := cell_of_block hq5 2
      have e3 := cell_of_block hq5 3
      have z0 : wr.frozen? ⟨q, 0, none⟩ = false := unfrozen_of_block hq5 0
      have z1 : wr.frozen? ⟨q, 1, none⟩ = false := unfrozen_of_block hq5 1
      have z2 : wr.frozen? ⟨q, 2, none⟩ = false := unfrozen_of_block hq5 2
      have z3 : wr.frozen? ⟨q, 3, none⟩ = false := unfrozen_of_block hq5 3
      clear hown hrd
      go_wp2_with fail
      have hfin := res_box hq5 2 0 ⟨#[]⟩ (.slice Al l.length cl)
      have hfr := res_fr wr q 2 0 ⟨#[]⟩ (.slice Al l.length cl)
      obtain ⟨wF, hwF⟩ : ∃ wF, resW wr q 2 0 ⟨#[]⟩ (.slice Al l.length cl) = wF := ⟨_, rfl⟩
      rw [hwF] at hfin hfr
      have k0 := cell_of_block hfin 0
      have k1 := cell_of_block hfin 1
      have k2 := cell_of_block hfin 2
      have k3 := cell_of_block hfin 3
      change bodyPost _ _ _ _ _ (resW wr q 2 0 ⟨#[]⟩ (.slice Al l.length cl))
      rw [hwF]
      refine bodyPost_ret (v := .agg #[.int .i64 2, .int .i64 0, .string ⟨#[]⟩, .slice Al l.length cl]) ?_ ?_ ?_
      · simp [results, Tryz.results34, go_sem, k0, k1, k2, k3]
      · rfl
      · refine ⟨[.int .i64 2, .int .i64 0, .string ⟨#[]⟩, .slice Al l.length cl], rfl, ?_, ?_, ?_⟩
        · exact k65_mkM wF w.heap.size (fun _ => True) ⟨2, 0, ⟨#[]⟩, l⟩ (Kd.R_mono (Kd.R_step HOWN.out (fun j hj hlt => hfr.block j hlt (by omega))) (fun _ _ => trivial))
        · have := HRDN.out.fr hfr (by have := HRQ.out; omega)
          rwa [show a + 1 + 2 + (encL (deep + 1) l).1.length = a + (3 + (encL (deep + 1) l).1.length) by omega] at this
        · refine Fr_old ((HFR.out.mono (fun j hj => .inl hj)).trans (hfr.mono (fun j hj => .inr ?_)))
          rw [hj, hq]
          exact Nat.le_refl _

theorem enc_can : ∀ (N : Nat) (v : V), SizeOf.sizeOf v < N → ∀ (d : Nat), CanV d v → (encV d v).2 = 0 := by
  intro N
  induction N with
  | zero => intro v h; omega
  | succ N ih =>
    intro v hv d hc
    cases hc with
    | num h1 h2 => rw [encV, if_pos rfl]
    | str h => rw [encV, if_neg (by decide), if_pos rfl, if_neg (by omega)]
    | @list _ l hd hl h =>
      rw [encV_list, if_neg (by omega)]
      have hx : ∀ x ∈ l, (encV (d + 1) x).2 = 0 := fun x hx => ih x (by
        have h1 := List.sizeOf_lt_of_mem hx
        have h2 : SizeOf.sizeOf (⟨2, 0, ⟨#[]⟩, l⟩ : V) = 1 + SizeOf.sizeOf (2 : Int) + SizeOf.sizeOf (0 : Int) + SizeOf.sizeOf (⟨#[]⟩ : ByteArray) + SizeOf.sizeOf l := S65.mk.sizeOf_spec 2 0 ⟨#[]⟩ l
        omega) (d + 1) (h x hx)
      cases l with
      | nil => rw [encL_nil]
      | cons x r => exact (lenL (d + 1) (x :: r) 0 (by simp) hx).1

theorem value_all (s : ByteArray) (rb : Nat) (hs : s.size ≤ 9223372036854775000) : ∀ (N : Nat) (v : V), SizeOf.sizeOf v < N → ∀ (d : Nat), CanV d v → ∀ (a : Nat) (w : World), RAt w rb s (a : Int) → Has s a (encV d v).1 →
    Calls Tryz.prog 34 #[.pointer (some ⟨rb, 0, none⟩), .int .i64 (d : Int)] w fun e w' => ReadPost s (a + (encV d v).1.length) rb v w e w' := by
  intro N
  induction N with
  | zero => intro v h; omega
  | succ N ih =>
    intro v hv d hc a w hr hh
    cases hc with
    | @num _ n h1 h2 =>
      have e : encV d ⟨0, n, ⟨#[]⟩, []⟩ = (1 :: (beL 1 (widthN 9 (foldN n)) ++ beL (widthN 9 (foldN n)) (foldN n)), 0) := by rw [encV, if_pos rfl]
      rw [e] at hh ⊢
      refine (value_int n h1 h2 (d : Int) s a rb w hs hr hh).mono ?_
      rintro e w' ⟨rfl, hr', hf'⟩
      refine ⟨[.int .i64 0, .int .i64 n, .string ⟨#[]⟩, .slice none 0 0], rfl, k65_mkM w' w.heap.size _ ⟨0, n, ⟨#[]⟩, []⟩ (Kd.R_nil _ _ _ _ _), ?_, hf'⟩
      simp only [List.length_cons, List.length_append, beL_length]
      rwa [show a + (1 + widthN 9 (foldN n) + 1) = a + (2 + widthN 9 (foldN n)) by omega]
    | @str _ t h =>
      have e : encV d ⟨1, 0, t, []⟩ = (2 :: (beL 2 t.size ++ t.data.toList), 0) := by rw [encV, if_neg (by decide), if_pos rfl, if_neg (by omega)]
      rw [e] at hh ⊢
      refine (value_text t h (d : Int) s a rb w hs hr hh).mono ?_
      rintro e w' ⟨rfl, hr', hf'⟩
      refine ⟨[.int .i64 1, .int .i64 0, .string t, .slice none 0 0], rfl, k65_mkM w' w.heap.size _ ⟨1, 0, t, []⟩ (Kd.R_nil _ _ _ _ _), ?_, hf'⟩
      have l5 : t.data.toList.length = t.size := by simp
      simp only [List.length_cons, List.length_append, beL_length, l5]
      rwa [show a + (2 + t.size + 1) = a + 1 + 2 + t.size by omega]
    | @list _ l hd hl h =>
      have hsz : ∀ x ∈ l, SizeOf.sizeOf x < N := fun x hx => by
        have h1 := List.sizeOf_lt_of_mem hx
        have h2 : SizeOf.sizeOf (⟨2, 0, ⟨#[]⟩, l⟩ : V) = 1 + SizeOf.sizeOf (2 : Int) + SizeOf.sizeOf (0 : Int) + SizeOf.sizeOf (⟨#[]⟩ : ByteArray) + SizeOf.sizeOf l := S65.mk.sizeOf_spec 2 0 ⟨#[]⟩ l
        omega
      have e : encV d ⟨2, 0, ⟨#[]⟩, l⟩ = (3 :: (beL 2 l.length ++ (encL (d + 1) l).1), (encL (d + 1) l).2) := by rw [encV_list, if_neg (by omega)]
      rw [e] at hh ⊢
      have := value_list l d hd hl s a rb w hs hr (fun x hx => enc_can N x (hsz x hx) (d + 1) (h x hx)) hh (fun x hx a w hr hh => ih x (hsz x hx) (d + 1) (h x hx) a w hr hh)
      simp only [List.length_cons, List.length_append, beL_length]
      rwa [show a + (2 + (encL (d + 1) l).1.length + 1) = a + (3 + (encL (d + 1) l).1.length) by omega]

end Go.Proofs.YtieaipclioppkaaGreat.Rl

/-! pack.All, slices.Clone of values; lists of numbers as values. -/
namespace Go.Proofs.YtieaipclioppkaaGreat.Vl
open Go Go.RowKit Go.Joins Go.Proofs.YtieaipclioppkaaGreatCore Go.Proofs.YtieaipclioppkaaGreat.PLeaf Go.Proofs.YtieaipclioppkaaGreat.Fr Go.Proofs.YtieaipclioppkaaGreat.Pk Go.Proofs.YtieaipclioppkaaGreat.Rd Go.Proofs.YtieaipclioppkaaGreatW.PrintWords Go.Proofs.YtieaipclioppkaaGreatW.PrintLast Go.Proofs.YtieaipclioppkaaGreatW.PrintMore

/-- Elements as bare cells. -/
def kF (n : Nat) : Kd (List Value) where
  sz := n
  E := []
  K := fun _ x cs => cs = x ∧ x.length = n ∧ ∀ u ∈ x, u.oneCell' = true
  M := fun _ _ _ x cs => cs = x ∧ x.length = n ∧ ∀ u ∈ x, u.oneCell' = true
  K_len := fun h => by rw [h.1]; exact h.2.1
  K_one := fun h => by rw [h.1]; exact h.2.2
  K_below := fun _ h => h
  K_of_M := fun h => h
  M_mono := fun _ h => h
  M_bound := fun h => h
  M_move := fun _ h => h
  M_lower := fun _ h => h
theorem C_of_flat {α : Type} {d : Kd α} {n : Nat} {w : World} {A : Option Addr} {css : List (List Value)} {l : List α} (h : (kF d.sz).C w A n css) (hl : l.length = css.length) (hk : ∀ (j : Nat) (cs : List Value) (x : α), css[j]? = some cs → l[j]? = some x → d.K w x cs) : d.C w A n l := by
  refine ⟨hl.trans h.1, h.2.1, fun hn => ?_⟩
  obtain ⟨ad, e, hc⟩ := h.2.2 hn
  refine ⟨ad, e, fun j p hp => ?_⟩
  have hj : j < css.length := by rw [← hl]; exact (List.getElem?_eq_some_iff.1 hp).1
  obtain ⟨c, hs, hr, hcell⟩ := hc j _ (List.getElem?_eq_getElem hj)
  obtain ⟨rfl, _, _⟩ := hr
  exact ⟨css[j], hs, hk j _ p (List.getElem?_eq_getElem hj) hp, hcell⟩
theorem R_of_flat {α : Type} {d : Kd α} {e base : Nat} {ok : Nat → Prop} {w : World} {v : Value} {css : List (List Value)} {l : List α} (h : (kF d.sz).R e w base ok v css) (hl : l.length = css.length) (hk : ∀ (j : Nat) (cs : List Value) (x : α), css[j]? = some cs → l[j]? = some x → d.M w base (fun k => ok k ∧ some k ≠ v.ownBlock) x cs) : d.R e w base ok v l := by
  obtain ⟨h0, inner, ho, hr⟩ := h
  refine ⟨h0, inner, by rw [hl]; exact ho, by rw [hl]; exact hr.1, fun j p hp => ?_⟩
  have hj : j < css.length := by rw [← hl]; exact (List.getElem?_eq_some_iff.1 hp).1
  obtain ⟨e1, _, _⟩ := hr.2 j _ (List.getElem?_eq_getElem hj)
  have e2 : (inner.drop (j * d.sz)).take d.sz = css[j] := e1
  rw [e2]
  exact hk j _ p (List.getElem?_eq_getElem hj) hp

theorem infoV : (Tryz.prog.info? 65).map (fun i => (i.zero, i.size, i.bytes)) = some (some (.agg #[.int .i64 0, .int .i64 0, .string ⟨#[]⟩, .slice none 0 0]), 4, 56) := by kernel_rfl
theorem sizeOf_info {P : Program} {t n : Nat} (h : (P.info? t).map (·.size) = some n) (w : World) : (Go.sizeOf t).run P w = .ok n w := by
  cases hq : P.info? t with
  | none => simp [hq] at h
  | some i =>
    have : i.size = n := by simpa [hq] using h
    simp [sizeOf, typeInfo, hq, this]
theorem reps_one {α : Type} {R : α → List Value → Prop} {size : Nat} {ps : List α} {cs : List Value} (hR : ∀ p c, R p c → ∀ u ∈ c, u.oneCell' = true) (h : Reps R size ps cs) : ∀ u ∈ cs, u.oneCell' = true := by
  intro u hu
  obtain ⟨i, hi, rfl⟩ := List.getElem_of_mem hu
  have hs : 0 < size := by
    rcases Nat.eq_zero_or_pos size with h0 | h0
    · have := h.1; rw [h0, Nat.mul_zero] at this; omega
    · exact h0
  have hj : i / size < ps.length := Nat.div_lt_of_lt_mul (by rw [Nat.mul_comm, ← h.1]; exact hi)
  have hm := Nat.mod_lt i hs
  have hd : i = i / size * size + i % size := by rw [Nat.mul_comm]; exact (Nat.div_add_mod i size).symm
  refine hR _ _ (h.2 (i / size) _ (List.getElem?_eq_getElem hj)) _ ?_
  rw [List.mem_iff_getElem?]
  refine ⟨i % size, ?_⟩
  rw [List.getElem?_take_of_lt hm, List.getElem?_drop, ← hd]
  exact List.getElem?_eq_getElem hi
/-- What comes back from a clone. -/
def ClonePost (base : Nat) (ok : Nat → Prop) (w0 : World) (l : List V) (w : World) (e : Ending) (w' : World) : Prop := ∃ v inner, e = .returned v ∧ w'.ownsRow w.heap.size 65 4 v l.length inner ∧ Reps (k65.M w0 base ok) 4 l inner ∧ Below w.heap.size w w'
theorem clone_any (v : Value) (l : List V) (base : Nat) (ok : Nat → Prop) (w0 w : World) (hl : l.length ≤ 1000000) (h : k65.R 65 w0 base ok v l) (h0 : Below w0.heap.size w0 w) : Calls Tryz.prog 99 #[v] w fun e w' => ClonePost base ok w0 l w e w' := by
  obtain ⟨_, inner, ho, hr⟩ := h
  have hr' : Reps (k65.M w0 base ok) 4 l inner := hr.imp_ (fun _ _ hp => k65.M_mono (fun _ hk => hk.1) hp)
  rcases ho.2 with ⟨rfl, hx⟩ | ⟨g, cap, cur, rfl, hg, hh, hcap, hlen, hone, hcells⟩
  · refine (AnyE.slices_Clone_nil Tryz.cloneV 0 0 w).mono ?_
    rintro e w' ⟨rfl, rfl⟩
    refine ⟨_, inner, rfl, ?_, hr', Below.refl _ _⟩
    exact ⟨ho.1, .inl ⟨rfl, hx⟩⟩
  · have hcell : ∀ (j : Nat) (u : Value), inner[j]? = some u → w.cell? ⟨g, 0 + j, none⟩ = some u := by
      intro j u hj
      refine pw_cell_below h0 ?_
      rw [Nat.zero_add, cell_of_row w0 g j cur _ _ hh, ← Array.getElem?_toList]
      have hlt : j < inner.length := (List.getElem?_eq_some_iff.1 hj).1
      have h1 : j < l.length * 4 := by have h2 := ho.1; show j < l.length * 4; rw [h2] at hlt; exact hlt
      rw [← hcells] at hj
      exact (List.getElem?_take_of_lt (l := cur.toList) h1).symm.trans hj
    obtain ⟨i0, hi, hz0, hz1, hz2⟩ := info_parts infoV
    have hone' : ∀ u ∈ inner, u.oneCell' = true := reps_one (fun p c hp => k65.K_one (k65.K_of_M hp)) hr
    refine (AnyE.slices_Clone Tryz.cloneV i0 _ 4 56 hi hz0 hz1 hz2 rfl (by decide) (sizeOf_info (by kernel_rfl)) g 0 l.length cap inner w hr.1 (by unfold maxLen; omega) (by omega) hcell hone').mono ?_
    rintro e w' ⟨v', rfl, hown, _, hb⟩
    exact ⟨v', inner, rfl, hown, hr', hb⟩

/-- What comes back from a call that makes a value. -/
def MadeV (x : V) (base : Nat) (ok : Nat → Prop) (w : World) (e : Ending) (w' : World) : Prop := ∃ cs, e = .returned (.agg cs.toArray) ∧ k65.M w' base ok x cs ∧ Below w.heap.size w w'

set_option maxHeartbeats 4000000 in
set_option maxRecDepth 100000 in
theorem pall_any (v : Value) (l : List V) (base : Nat) (ok : Nat → Prop) (w : World) (hl : l.length ≤ 1000000) (hbase : base ≤ w.heap.size) (hok : ∀ k, w.heap.size ≤ k → ok k) (h : k65.R 65 w base ok v l) : Calls Tryz.prog 55 #[v] w fun e w' => MadeV ⟨2, 0, ⟨#[]⟩, l⟩ base ok w e w' := by
  obtain ⟨w1, hw1⟩ : ∃ w1, w.alloc (.cells #[.int .i64 0, .int .i64 0, .string ⟨#[]⟩, .slice none 0 0] 65) = w1 := ⟨_, rfl⟩
  obtain ⟨q, hq⟩ : ∃ q, w.heap.size = q := ⟨_, rfl⟩
  have hb1 : Below w.heap.size w w1 := by rw [← hw1]; exact (Below.refl _ _).alloc (Nat.le_refl _) _
  have hq1 : w1.heap[q]? = some (.cells #[.int .i64 0, .int .i64 0, .string ⟨#[]⟩, .slice none 0 0] 65 (0, 0)) := by rw [← hw1, ← hq]; exact heap_alloc_new _ _
  have hc := clone_any v l base (fun k => ok k ∧ base ≤ k ∧ k < w.heap.size ∧ ∃ q, q ∈ 65 :: (k65).E ∧ ∃ cells, w.heap[k]? = some (.cells cells q (0, 0))) w w1 hl (Kd.R_bound h) hb1
  have HC := Lib.hid hc
  have HB1 := Lib.hid hb1
  have HQ1 := Lib.hid hq1
  have HBS := Lib.hid hbase
  have HOK := Lib.hid hok
  clear hc hb1 hq1 h hbase hok
  go_enter Tryz.func55, Tryz.ntmps55
  go_wp2_with (first | (rw [hw1]) | (rw [hq]))
  refine HC.out.mono ?_
  rintro e w2 ⟨v2, inner, rfl, how2, hr2, hb2⟩
  obtain ⟨A, c, rfl⟩ : ∃ A c, v2 = .slice A l.length c := by
    rcases how2.2 with ⟨rfl, hx⟩ | ⟨g, cap, cur, rfl, _⟩
    · exact ⟨none, 0, by rw [hx]⟩
    · exact ⟨_, _, rfl⟩
  have HW := Lib.hid how2
  have hq2 := (hb2.block q (YtieaipclioppkaaGreatCore.heap_lt HQ1.out)).trans HQ1.out
  have HR2 := Lib.hid hr2
  have HB2 := Lib.hid (HB1.out.trans (hb2.mono HB1.out.size))
  have e0 := cell_of_block hq2 0
  have e1 := cell_of_block hq2 1
  have e2 := cell_of_block hq2 2
  have e3 := cell_of_block hq2 3
  have z0 := unfrozen_of_block hq2 0
  have z1 := unfrozen_of_block hq2 1
  have z2 := unfrozen_of_block hq2 2
  have z3 := unfrozen_of_block hq2 3
  clear hr2 hb2 how2
  go_wp2_with fail
  have hfin := res_box hq2 2 0 ⟨#[]⟩ (.slice A l.length c)
  have hfr := res_fr w2 q 2 0 ⟨#[]⟩ (.slice A l.length c)
  obtain ⟨wF, hwF⟩ : ∃ wF, resW w2 q 2 0 ⟨#[]⟩ (.slice A l.length c) = wF := ⟨_, rfl⟩
  rw [hwF] at hfin hfr
  have k0 := cell_of_block hfin 0
  have k1 := cell_of_block hfin 1
  have k2 := cell_of_block hfin 2
  have k3 := cell_of_block hfin 3
  change bodyPost _ _ _ _ _ (resW w2 q 2 0 ⟨#[]⟩ (.slice A l.length c))
  rw [hwF]
  have hF : Below w.heap.size w wF := ((Fr.of_below (S := fun j => j = q) HB2.out).trans hfr).below (Nat.le_refl _) (fun k hk h => by omega)
  refine bodyPost_ret (v := .agg #[.int .i64 2, .int .i64 0, .string ⟨#[]⟩, .slice A l.length c]) ?_ ?_ ?_
  · simp [results, Tryz.results55, go_sem, k0, k1, k2, k3]
  · rfl
  · refine ⟨[.int .i64 2, .int .i64 0, .string ⟨#[]⟩, .slice A l.length c], rfl, k65_mkM wF base ok ⟨2, 0, ⟨#[]⟩, l⟩ ?_, by first | exact hF | (rw [← hq]; exact hF)⟩
    have hsz := HB1.out.size
    have hw := own_move (w1 := wF) HW.out (fun k hk => hfr.block k (own_lt HW.out k hk) (fun h => by
      have := own_base HW.out k hk
      have := YtieaipclioppkaaGreatCore.heap_lt HQ1.out
      omega))
    refine ⟨fun k hk => ?_, inner, own_weaken hw (Nat.le_trans HBS.out HB1.out.size), HR2.out.imp_ (fun _ _ hp => k65.M_mono (fun k hk => ?_) (Kd.M_below hp hF))⟩
    · have := own_base hw k hk
      have := HOK.out k
      first | exact this (by omega) | exact HOK.out k (by omega)
    · refine ⟨hk.1, fun e => ?_⟩
      have := own_base hw k e.symm
      have := hk.2.2.1
      omega

set_option maxHeartbeats 4000000 in
set_option maxRecDepth 100000 in
theorem numr_any (n : Int) (w : World) : Calls Tryz.prog 59 #[.int .i64 n] w fun e w' => e = .returned (.agg #[.int .i64 0, .int .i64 n, .string ⟨#[]⟩, .slice none 0 0]) ∧ Below w.heap.size w w' := by
  obtain ⟨w1, hw1⟩ : ∃ w1, w.alloc (.cells #[.int .i64 0, .int .i64 0, .string ⟨#[]⟩, .slice none 0 0] 65) = w1 := ⟨_, rfl⟩
  obtain ⟨q, hq⟩ : ∃ q, w.heap.size = q := ⟨_, rfl⟩
  have hb1 : Below w.heap.size w w1 := by rw [← hw1]; exact (Below.refl _ _).alloc (Nat.le_refl _) _
  have hq1 : w1.heap[q]? = some (.cells #[.int .i64 0, .int .i64 0, .string ⟨#[]⟩, .slice none 0 0] 65 (0, 0)) := by rw [← hw1, ← hq]; exact heap_alloc_new _ _
  have HB1 := Lib.hid hb1
  have HQ1 := Lib.hid hq1
  clear hb1 hq1
  go_enter Tryz.func59, Tryz.ntmps59
  go_wp2_with (first | (rw [hw1]) | (rw [hq]))
  refine (Rd.num_any n w1).mono ?_
  rintro e w2 ⟨rfl, hb2⟩
  have hq2 := (hb2.block q (YtieaipclioppkaaGreatCore.heap_lt HQ1.out)).trans HQ1.out
  have HB2 := Lib.hid (HB1.out.trans (hb2.mono HB1.out.size))
  have e0 := cell_of_block hq2 0
  have e1 := cell_of_block hq2 1
  have e2 := cell_of_block hq2 2
  have e3 := cell_of_block hq2 3
  have z0 := unfrozen_of_block hq2 0
  have z1 := unfrozen_of_block hq2 1
  have z2 := unfrozen_of_block hq2 2
  have z3 := unfrozen_of_block hq2 3
  clear hb2
  go_wp2_with fail
  have hfin := res_box hq2 0 n ⟨#[]⟩ (.slice none 0 0)
  have hfr := res_fr w2 q 0 n ⟨#[]⟩ (.slice none 0 0)
  obtain ⟨wF, hwF⟩ : ∃ wF, resW w2 q 0 n ⟨#[]⟩ (.slice none 0 0) = wF := ⟨_, rfl⟩
  rw [hwF] at hfin hfr
  have k0 := cell_of_block hfin 0
  have k1 := cell_of_block hfin 1
  have k2 := cell_of_block hfin 2
  have k3 := cell_of_block hfin 3
  change bodyPost _ _ _ _ _ (resW w2 q 0 n ⟨#[]⟩ (.slice none 0 0))
  rw [hwF]
  have hF : Below w.heap.size w wF := ((Fr.of_below (S := fun j => j = q) HB2.out).trans hfr).below (Nat.le_refl _) (fun k hk h => by omega)
  refine bodyPost_ret (v := .agg #[.int .i64 0, .int .i64 n, .string ⟨#[]⟩, .slice none 0 0]) ?_ ?_ ?_
  · simp [results, Tryz.results59, go_sem, k0, k1, k2, k3]
  · rfl
  · exact ⟨rfl, by first | exact hF | (rw [← hq]; exact hF)⟩

set_option maxHeartbeats 4000000 in
set_option maxRecDepth 100000 in
theorem numi_any (n : Int) (w : World) : Calls Tryz.prog 57 #[.int .i64 n] w fun e w' => e = .returned (.agg #[.int .i64 0, .int .i64 n, .string ⟨#[]⟩, .slice none 0 0]) ∧ Below w.heap.size w w' := by
  obtain ⟨w1, hw1⟩ : ∃ w1, w.alloc (.cells #[.int .i64 0, .int .i64 0, .string ⟨#[]⟩, .slice none 0 0] 65) = w1 := ⟨_, rfl⟩
  obtain ⟨q, hq⟩ : ∃ q, w.heap.size = q := ⟨_, rfl⟩
  have hb1 : Below w.heap.size w w1 := by rw [← hw1]; exact (Below.refl _ _).alloc (Nat.le_refl _) _
  have hq1 : w1.heap[q]? = some (.cells #[.int .i64 0, .int .i64 0, .string ⟨#[]⟩, .slice none 0 0] 65 (0, 0)) := by rw [← hw1, ← hq]; exact heap_alloc_new _ _
  have HB1 := Lib.hid hb1
  have HQ1 := Lib.hid hq1
  clear hb1 hq1
  go_enter Tryz.func57, Tryz.ntmps57
  go_wp2_with (first | (rw [hw1]) | (rw [hq]))
  refine (Rd.num_any n w1).mono ?_
  rintro e w2 ⟨rfl, hb2⟩
  have hq2 := (hb2.block q (YtieaipclioppkaaGreatCore.heap_lt HQ1.out)).trans HQ1.out
  have HB2 := Lib.hid (HB1.out.trans (hb2.mono HB1.out.size))
  have e0 := cell_of_block hq2 0
  have e1 := cell_of_block hq2 1
  have e2 := cell_of_block hq2 2
  have e3 := cell_of_block hq2 3
  have z0 := unfrozen_of_block hq2 0
  have z1 := unfrozen_of_block hq2 1
  have z2 := unfrozen_of_block hq2 2
  have z3 := unfrozen_of_block hq2 3
  clear hb2
  go_wp2_with fail
  have hfin := res_box hq2 0 n ⟨#[]⟩ (.slice none 0 0)
  have hfr := res_fr w2 q 0 n ⟨#[]⟩ (.slice none 0 0)
  obtain ⟨wF, hwF⟩ : ∃ wF, resW w2 q 0 n ⟨#[]⟩ (.slice none 0 0) = wF := ⟨_, rfl⟩
  rw [hwF] at hfin hfr
  have k0 := cell_of_block hfin 0
  have k1 := cell_of_block hfin 1
  have k2 := cell_of_block hfin 2
  have k3 := cell_of_block hfin 3
  change bodyPost _ _ _ _ _ (resW w2 q 0 n ⟨#[]⟩ (.slice none 0 0))
  rw [hwF]
  have hF : Below w.heap.size w wF := ((Fr.of_below (S := fun j => j = q) HB2.out).trans hfr).below (Nat.le_refl _) (fun k hk h => by omega)
  refine bodyPost_ret (v := .agg #[.int .i64 0, .int .i64 n, .string ⟨#[]⟩, .slice none 0 0]) ?_ ?_ ?_
  · simp [results, Tryz.results57, go_sem, k0, k1, k2, k3]
  · rfl
  · exact ⟨rfl, by first | exact hF | (rw [← hq]; exact hF)⟩

set_option maxHeartbeats 4000000 in
set_option maxRecDepth 100000 in
theorem num3_any (n : Int) (w : World) : Calls Tryz.prog 56 #[.int .i64 n] w fun e w' => e = .returned (.agg #[.int .i64 0, .int .i64 n, .string ⟨#[]⟩, .slice none 0 0]) ∧ Below w.heap.size w w' := by
  obtain ⟨w1, hw1⟩ : ∃ w1, w.alloc (.cells #[.int .i64 0, .int .i64 0, .string ⟨#[]⟩, .slice none 0 0] 65) = w1 := ⟨_, rfl⟩
  obtain ⟨q, hq⟩ : ∃ q, w.heap.size = q := ⟨_, rfl⟩
  have hb1 : Below w.heap.size w w1 := by rw [← hw1]; exact (Below.refl _ _).alloc (Nat.le_refl _) _
  have hq1 : w1.heap[q]? = some (.cells #[.int .i64 0, .int .i64 0, .string ⟨#[]⟩, .slice none 0 0] 65 (0, 0)) := by rw [← hw1, ← hq]; exact heap_alloc_new _ _
  have HB1 := Lib.hid hb1
  have HQ1 := Lib.hid hq1
  clear hb1 hq1
  go_enter Tryz.func56, Tryz.ntmps56
  go_wp2_with (first | (rw [hw1]) | (rw [hq]))
  refine (Rd.num_any n w1).mono ?_
  rintro e w2 ⟨rfl, hb2⟩
  have hq2 := (hb2.block q (YtieaipclioppkaaGreatCore.heap_lt HQ1.out)).trans HQ1.out
  have HB2 := Lib.hid (HB1.out.trans (hb2.mono HB1.out.size))
  have e0 := cell_of_block hq2 0
  have e1 := cell_of_block hq2 1
  have e2 := cell_of_block hq2 2
  have e3 := cell_of_block hq2 3
  have z0 := unfrozen_of_block hq2 0
  have z1 := unfrozen_of_block hq2 1
  have z2 := unfrozen_of_block hq2 2
  have z3 := unfrozen_of_block hq2 3
  clear hb2
  go_wp2_with fail
  have hfin := res_box hq2 0 n ⟨#[]⟩ (.slice none 0 0)
  have hfr := res_fr w2 q 0 n ⟨#[]⟩ (.slice none 0 0)
  obtain ⟨wF, hwF⟩ : ∃ wF, resW w2 q 0 n ⟨#[]⟩ (.slice none 0 0) = wF := ⟨_, rfl⟩
  rw [hwF] at hfin hfr
  have k0 := cell_of_block hfin 0
  have k1 := cell_of_block hfin 1
  have k2 := cell_of_block hfin 2
  have k3 := cell_of_block hfin 3
  change bodyPost _ _ _ _ _ (resW w2 q 0 n ⟨#[]⟩ (.slice none 0 0))
  rw [hwF]
  have hF : Below w.heap.size w wF := ((Fr.of_below (S := fun j => j = q) HB2.out).trans hfr).below (Nat.le_refl _) (fun k hk h => by omega)
  refine bodyPost_ret (v := .agg #[.int .i64 0, .int .i64 n, .string ⟨#[]⟩, .slice none 0 0]) ?_ ?_ ?_
  · simp [results, Tryz.results56, go_sem, k0, k1, k2, k3]
  · rfl
  · exact ⟨rfl, by first | exact hF | (rw [← hq]; exact hF)⟩

/-- A number as a value. -/
def numV (x : Int) : V := ⟨0, x, ⟨#[]⟩, []⟩
def num4 (x : Int) : List Value := [.int .i64 0, .int .i64 x, .string ⟨#[]⟩, .slice none 0 0]
theorem kF_num (n : Nat) (x : Int) (hn : n = 4) (w : World) (base : Nat) (ok : Nat → Prop) : (kF n).M w base ok (num4 x) (num4 x) := by
  subst hn
  refine ⟨rfl, rfl, fun u hu => ?_⟩
  simp only [num4, List.mem_cons, List.not_mem_nil, or_false] at hu
  rcases hu with rfl | rfl | rfl | rfl <;> rfl
theorem M_num (x : Int) (w : World) (base : Nat) (ok : Nat → Prop) : k65.M w base ok (numV x) (num4 x) := k65_mkM w base ok (numV x) (Kd.R_nil _ _ _ _ _)

theorem M_list {w : World} {base : Nat} {ok : Nat → Prop} {l : List V} {cs : List Value} (h : k65.M w base ok ⟨2, 0, ⟨#[]⟩, l⟩ cs) : ∃ A c, cs = [.int .i64 2, .int .i64 0, .string ⟨#[]⟩, .slice A l.length c] ∧ k65.R 65 w base ok (.slice A l.length c) l := by
  obtain ⟨v3, rfl, hR3⟩ := k65_openM h
  obtain ⟨A, c3, e⟩ := Kd.R_slice hR3
  subst e
  exact ⟨A, c3, rfl, hR3⟩

structure AInv (l : List Int) (w : World) (q : Nat) (gk : Nat) (o v : Value) (wr : World) (k : Nat) : Prop where
  le : k ≤ l.length
  slot : v = .int .i64 k
  ghost : gk + k = l.length
  own : (kF 4).R 65 wr w.heap.size (fun j => q < j) o ((l.take k).map num4)
  box : wr.heap[q]? = some (.cells #[.int .i64 0, .int .i64 0, .string ⟨#[]⟩, .slice none 0 0] 65 (0, 0))
  below : Below w.heap.size w wr
def ARel (l : List Int) (w : World) (q : Nat) (gk : Nat) (o v : Value) (wr : World) : Prop := ∃ k, AInv l w q gk o v wr k
theorem infoV4 (d : Nat) (h : d = 4) : (Tryz.prog.info? 65).map (fun i => (i.zero, i.size, i.bytes)) = some (some (.agg #[.int .i64 0, .int .i64 0, .string ⟨#[]⟩, .slice none 0 0]), d, 56) := by subst h; exact infoV

set_option maxHeartbeats 4000000 in
set_option maxRecDepth 100000 in
theorem allr_any (l : List Int) (b off c : Nat) (w : World) (hl : l.length ≤ 1000) (hc : ∀ j, j < l.length → w.cell? ⟨b, off + j, none⟩ = some (.int .i64 (l.getD j 0))) :
    Calls Tryz.prog 58 #[.slice (some ⟨b, off, none⟩) l.length c, .func (.func 59) #[] #[]] w fun e w' => MadeV ⟨2, 0, ⟨#[]⟩, l.map numV⟩ w.heap.size (fun _ => True) w e w' := by
  obtain ⟨w1, hw1⟩ : ∃ w1, w.alloc (.cells #[.int .i64 0, .int .i64 0, .string ⟨#[]⟩, .slice none 0 0] 65) = w1 := ⟨_, rfl⟩
  obtain ⟨q, hq⟩ : ∃ q, w.heap.size = q := ⟨_, rfl⟩
  have hb1 : Below w.heap.size w w1 := by rw [← hw1]; exact (Below.refl _ _).alloc (Nat.le_refl _) _
  have hq1 : w1.heap[q]? = some (.cells #[.int .i64 0, .int .i64 0, .string ⟨#[]⟩, .slice none 0 0] 65 (0, 0)) := by rw [← hw1, ← hq]; exact heap_alloc_new _ _
  have HC := Lib.hid hc
  have HB1 := Lib.hid hb1
  have HQ1 := Lib.hid hq1
  clear hc hb1 hq1
  go_enter Tryz.func58, Tryz.ntmps58
  go_wp2_with (first | (rw [hw1]) | (rw [hq]))
  go_loopg [5, 10] l.length (fun gk o v wr => ARel l w q gk o v wr)
  case atStart => exact ⟨0, ⟨Nat.zero_le _, rfl, rfl, Kd.R_nil _ _ _ _ _, HQ1.out, HB1.out⟩⟩
  case round =>
    obtain ⟨k, hk, rfl, hg, hown, hbox, hbel⟩ := hrel
    have HG := Lib.hid hg
    have HOW := Lib.hid hown
    have HBX := Lib.hid hbox
    have HBL := Lib.hid hbel
    clear hg hown hbox hbel
    by_cases hlt : k < l.length
    · obtain ⟨x, hx⟩ : ∃ x, l.getD k 0 = x := ⟨_, rfl⟩
      have hcell := World.cell?_of_block (HBL.out.block b (World.block_lt_of_cell? w (⟨b, off + k, none⟩ : Addr) (HC.out k hlt))) |>.trans (HC.out k hlt)
      rw [hx] at hcell
      have htk : l.take (k + 1) = l.take k ++ [x] := by rw [List.take_succ_eq_append_getElem hlt, ← hx, List.getD_eq_getElem?_getD, List.getElem?_eq_getElem hlt]; rfl
      have HTK := Lib.hid htk
      have hlnk : (((l.take k).map num4).length + 1) * 56 ≤ 140737488355328 := by rw [List.length_map, List.length_take]; omega
      clear hx htk
      go_wp2_with fail
      refine (numr_any x wr).mono ?_
      rintro e w5 ⟨rfl, hb5⟩
      have how := Kd.R_below (Kd.R_bound HOW.out) hb5
      have hown : ∀ j, u5.ownBlock = some j → j < wr.heap.size := fun j hj => ((Kd.R_bound HOW.out).1 j hj).2.2.1
      have HOW5 := Lib.hid (Kd.R_mono how (ok' := fun j => q < j) (fun j hj => hj.1))
      have HB5 := Lib.hid (HBL.out.trans (hb5.mono HBL.out.size))
      have HBX5 := Lib.hid ((hb5.block q (YtieaipclioppkaaGreatCore.heap_lt HBX.out)).trans HBX.out)
      obtain ⟨n4, hn4⟩ : ∃ n, (4 : Nat) = n := ⟨_, rfl⟩
      obtain ⟨dV, hdV⟩ : ∃ d, kF 4 = d := ⟨_, rfl⟩
      have HD := Lib.hid hdV
      have i4 := infoV4 (kF 4).sz rfl
      have z4 : (Value.agg #[.int .i64 0, .int .i64 0, .string ⟨#[]⟩, .slice none 0 0]).cells.size = (kF 4).sz := rfl
      have s0 : 0 < (kF 4).sz := by decide
      have m4 := kF_num 4 x rfl w5 w.heap.size (fun _ => False)
      rw [hdV] at i4 z4 s0 m4
      have how5 := HOW5.out
      rw [hdV] at how5
      have I4 := Lib.hid i4
      have Z4 := Lib.hid z4
      have S0 := Lib.hid s0
      have M4 := Lib.hid m4
      have HOD := Lib.hid how5
      have HQL : Hid (q < w5.heap.size) := Lib.hid (YtieaipclioppkaaGreatCore.heap_lt HBX5.out)
      clear hb5 how hown i4 z4 s0 m4 how5 hdV hn4
      go_wp2_with (at_builtin; go_must ((refine Kd.R_append dV (w0 := w5) w.heap.size rfl (.tmp 14) (.tmp 18) 63 65 (.agg #[.int .i64 0, .int .i64 0, .string ⟨#[]⟩, .slice none 0 0]) 56 rfl Tryz.underlying63 I4.out Z4.out S0.out (by decide) _ ((l.take k).map num4) (num4 x) [.int .i64 0, .int .i64 x, .string ⟨#[]⟩, .slice none 0 0] (fun j => q < j) (fun _ => False) rfl rfl M4.out (fun j hj => hj.elim) (fun j hj => by have := HQL.out; omega) HOD.out (Below.refl _ _) HB5.out.size hlnk ?_; intro v9 w9 ho9 hb9 hg9 hat9)))
      rw [← HD.out] at ho9
      have e9 : (l.take k).map num4 ++ [num4 x] = (l.take (k + 1)).map num4 := by rw [HTK.out, List.map_append]; rfl
      rw [e9] at ho9
      have hfg : Fr (fun j => q < j) w5 w9 := Fr.of_grown hg9 (fun j hj => HOD.out.1 j hj)
      have hq9 := hfg.at_ HBX5.out (by omega)
      have hb9' := hfg.below (B := w.heap.size) HB5.out.size (fun j hj h => by omega)
      go_roundg (gk - 1)
      case measure => have := HG.out; omega
      case rel => exact ⟨k + 1, ⟨by omega, by go_num, by have := HG.out; omega, ho9, hq9, HB5.out.trans (by first | exact hb9' | (rw [← hq]; exact hb9') | (rw [hq]; exact hb9'))⟩⟩
    · obtain rfl : k = l.length := by omega
      have hown := HOW.out
      rw [List.take_of_length_le (Nat.le_refl _)] at hown
      have hR : k65.R 65 wr w.heap.size (fun j => q < j) u5 (l.map numV) := R_of_flat (d := k65) hown (by simp) (fun j cs x h1 h2 => by
        rw [List.getElem?_map] at h1 h2
        cases hj : l[j]? with
        | none => rw [hj] at h1; cases h1
        | some y =>
          rw [hj] at h1 h2
          cases h1
          cases h2
          exact M_num y _ _ _)
      have hcall := pall_any u5 (l.map numV) w.heap.size (fun j => q < j) wr (by simp; omega) HBL.out.size (fun j hj => by have := YtieaipclioppkaaGreatCore.heap_lt HBX.out; omega) hR
      have HC2 := Lib.hid hcall
      clear hcall hR hown
      go_wp2_with fail
      refine HC2.out.mono ?_
      rintro e w5 ⟨cs, rfl, hM, hb5⟩
      obtain ⟨A, c3, rfl, hR3⟩ := M_list hM
      rw [List.length_map] at hR3 ⊢
      have hq2 := (hb5.block q (YtieaipclioppkaaGreatCore.heap_lt HBX.out)).trans HBX.out
      have HB2 := Lib.hid (HBL.out.trans (hb5.mono HBL.out.size))
      have HR3 := Lib.hid hR3
      have e0 := cell_of_block hq2 0
      have e1 := cell_of_block hq2 1
      have e2 := cell_of_block hq2 2
      have e3 := cell_of_block hq2 3
      have z0 := unfrozen_of_block hq2 0
      have z1 := unfrozen_of_block hq2 1
      have z2 := unfrozen_of_block hq2 2
      have z3 := unfrozen_of_block hq2 3
      clear hb5 hM hR3
      go_wp2_with fail
      have hfin := res_box hq2 2 0 ⟨#[]⟩ (.slice A l.length c3)
      have hfr := res_fr w5 q 2 0 ⟨#[]⟩ (.slice A l.length c3)
      obtain ⟨wF, hwF⟩ : ∃ wF, resW w5 q 2 0 ⟨#[]⟩ (.slice A l.length c3) = wF := ⟨_, rfl⟩
      rw [hwF] at hfin hfr
      have k0 := cell_of_block hfin 0
      have k1 := cell_of_block hfin 1
      have k2 := cell_of_block hfin 2
      have k3 := cell_of_block hfin 3
      change bodyPost _ _ _ _ _ (resW w5 q 2 0 ⟨#[]⟩ (.slice A l.length c3))
      rw [hwF]
      have hF : Below w.heap.size w wF := ((Fr.of_below (S := fun j => j = q) HB2.out).trans hfr).below (Nat.le_refl _) (fun k hk h => by omega)
      refine bodyPost_ret (v := .agg #[.int .i64 2, .int .i64 0, .string ⟨#[]⟩, .slice A l.length c3]) ?_ ?_ ?_
      · simp [results, Tryz.results58, go_sem, k0, k1, k2, k3]
      · rfl
      · exact ⟨[.int .i64 2, .int .i64 0, .string ⟨#[]⟩, .slice A l.length c3], rfl, k65_mkM wF _ _ ⟨2, 0, ⟨#[]⟩, l.map numV⟩ (v3 := .slice A l.length c3) (Kd.R_mono (Kd.R_step HR3.out (fun j hj hlt => hfr.block j hlt (by omega))) (fun _ _ => trivial)), by first | exact hF | (rw [← hq]; exact hF)⟩

set_option maxHeartbeats 4000000 in
set_option maxRecDepth 100000 in
theorem alli_any (l : List Int) (b off c : Nat) (w : World) (hl : l.length ≤ 1000) (hc : ∀ j, j < l.length → w.cell? ⟨b, off + j, none⟩ = some (.int .i64 (l.getD j 0))) :
    Calls Tryz.prog 60 #[.slice (some ⟨b, off, none⟩) l.length c, .func (.func 57) #[] #[]] w fun e w' => MadeV ⟨2, 0, ⟨#[]⟩, l.map numV⟩ w.heap.size (fun _ => True) w e w' := by
  obtain ⟨w1, hw1⟩ : ∃ w1, w.alloc (.cells #[.int .i64 0, .int .i64 0, .string ⟨#[]⟩, .slice none 0 0] 65) = w1 := ⟨_, rfl⟩
  obtain ⟨q, hq⟩ : ∃ q, w.heap.size = q := ⟨_, rfl⟩
  have hb1 : Below w.heap.size w w1 := by rw [← hw1]; exact (Below.refl _ _).alloc (Nat.le_refl _) _
  have hq1 : w1.heap[q]? = some (.cells #[.int .i64 0, .int .i64 0, .string ⟨#[]⟩, .slice none 0 0] 65 (0, 0)) := by rw [← hw1, ← hq]; exact heap_alloc_new _ _
  have HC := Lib.hid hc
  have HB1 := Lib.hid hb1
  have HQ1 := Lib.hid hq1
  clear hc hb1 hq1
  go_enter Tryz.func60, Tryz.ntmps60
  go_wp2_with (first | (rw [hw1]) | (rw [hq]))
  go_loopg [5, 10] l.length (fun gk o v wr => ARel l w q gk o v wr)
  case atStart => exact ⟨0, ⟨Nat.zero_le _, rfl, rfl, Kd.R_nil _ _ _ _ _, HQ1.out, HB1.out⟩⟩
  case round =>
    obtain ⟨k, hk, rfl, hg, hown, hbox, hbel⟩ := hrel
    have HG := Lib.hid hg
    have HOW := Lib.hid hown
    have HBX := Lib.hid hbox
    have HBL := Lib.hid hbel
    clear hg hown hbox hbel
    by_cases hlt : k < l.length
    · obtain ⟨x, hx⟩ : ∃ x, l.getD k 0 = x := ⟨_, rfl⟩
      have hcell := World.cell?_of_block (HBL.out.block b (World.block_lt_of_cell? w (⟨b, off + k, none⟩ : Addr) (HC.out k hlt))) |>.trans (HC.out k hlt)
      rw [hx] at hcell
      have htk : l.take (k + 1) = l.take k ++ [x] := by rw [List.take_succ_eq_append_getElem hlt, ← hx, List.getD_eq_getElem?_getD, List.getElem?_eq_getElem hlt]; rfl
      have HTK := Lib.hid htk
      have hlnk : (((l.take k).map num4).length + 1) * 56 ≤ 140737488355328 := by rw [List.length_map, List.length_take]; omega
      clear hx htk
      go_wp2_with fail
      refine (numi_any x wr).mono ?_
      rintro e w5 ⟨rfl, hb5⟩
      have how := Kd.R_below (Kd.R_bound HOW.out) hb5
      have hown : ∀ j, u5.ownBlock = some j → j < wr.heap.size := fun j hj => ((Kd.R_bound HOW.out).1 j hj).2.2.1
      have HOW5 := Lib.hid (Kd.R_mono how (ok' := fun j => q < j) (fun j hj => hj.1))
      have HB5 := Lib.hid (HBL.out.trans (hb5.mono HBL.out.size))
      have HBX5 := Lib.hid ((hb5.block q (YtieaipclioppkaaGreatCore.heap_lt HBX.out)).trans HBX.out)
      obtain ⟨n4, hn4⟩ : ∃ n, (4 : Nat) = n := ⟨_, rfl⟩
      obtain ⟨dV, hdV⟩ : ∃ d, kF 4 = d := ⟨_, rfl⟩
      have HD := Lib.hid hdV
      have i4 := infoV4 (kF 4).sz rfl
      have z4 : (Value.agg #[.int .i64 0, .int .i64 0, .string ⟨#[]⟩, .slice none 0 0]).cells.size = (kF 4).sz := rfl
      have s0 : 0 < (kF 4).sz := by decide
      have m4 := kF_num 4 x rfl w5 w.heap.size (fun _ => False)
      rw [hdV] at i4 z4 s0 m4
      have how5 := HOW5.out
      rw [hdV] at how5
      have I4 := Lib.hid i4
      have Z4 := Lib.hid z4
      have S0 := Lib.hid s0
      have M4 := Lib.hid m4
      have HOD := Lib.hid how5
      have HQL : Hid (q < w5.heap.size) := Lib.hid (YtieaipclioppkaaGreatCore.heap_lt HBX5.out)
      clear hb5 how hown i4 z4 s0 m4 how5 hdV hn4
      go_wp2_with (at_builtin; go_must ((refine Kd.R_append dV (w0 := w5) w.heap.size rfl (.tmp 14) (.tmp 18) 63 65 (.agg #[.int .i64 0, .int .i64 0, .string ⟨#[]⟩, .slice none 0 0]) 56 rfl Tryz.underlying63 I4.out Z4.out S0.out (by decide) _ ((l.take k).map num4) (num4 x) [.int .i64 0, .int .i64 x, .string ⟨#[]⟩, .slice none 0 0] (fun j => q < j) (fun _ => False) rfl rfl M4.out (fun j hj => hj.elim) (fun j hj => by have := HQL.out; omega) HOD.out (Below.refl _ _) HB5.out.size hlnk ?_; intro v9 w9 ho9 hb9 hg9 hat9)))
      rw [← HD.out] at ho9
      have e9 : (l.take k).map num4 ++ [num4 x] = (l.take (k + 1)).map num4 := by rw [HTK.out, List.map_append]; rfl
      rw [e9] at ho9
      have hfg : Fr (fun j => q < j) w5 w9 := Fr.of_grown hg9 (fun j hj => HOD.out.1 j hj)
      have hq9 := hfg.at_ HBX5.out (by omega)
      have hb9' := hfg.below (B := w.heap.size) HB5.out.size (fun j hj h => by omega)
      go_roundg (gk - 1)
      case measure => have := HG.out; omega
      case rel => exact ⟨k + 1, ⟨by omega, by go_num, by have := HG.out; omega, ho9, hq9, HB5.out.trans (by first | exact hb9' | (rw [← hq]; exact hb9') | (rw [hq]; exact hb9'))⟩⟩
    · obtain rfl : k = l.length := by omega
      have hown := HOW.out
      rw [List.take_of_length_le (Nat.le_refl _)] at hown
      have hR : k65.R 65 wr w.heap.size (fun j => q < j) u5 (l.map numV) := R_of_flat (d := k65) hown (by simp) (fun j cs x h1 h2 => by
        rw [List.getElem?_map] at h1 h2
        cases hj : l[j]? with
        | none => rw [hj] at h1; cases h1
        | some y =>
          rw [hj] at h1 h2
          cases h1
          cases h2
          exact M_num y _ _ _)
      have hcall := pall_any u5 (l.map numV) w.heap.size (fun j => q < j) wr (by simp; omega) HBL.out.size (fun j hj => by have := YtieaipclioppkaaGreatCore.heap_lt HBX.out; omega) hR
      have HC2 := Lib.hid hcall
      clear hcall hR hown
      go_wp2_with fail
      refine HC2.out.mono ?_
      rintro e w5 ⟨cs, rfl, hM, hb5⟩
      obtain ⟨A, c3, rfl, hR3⟩ := M_list hM
      rw [List.length_map] at hR3 ⊢
      have hq2 := (hb5.block q (YtieaipclioppkaaGreatCore.heap_lt HBX.out)).trans HBX.out
      have HB2 := Lib.hid (HBL.out.trans (hb5.mono HBL.out.size))
      have HR3 := Lib.hid hR3
      have e0 := cell_of_block hq2 0
      have e1 := cell_of_block hq2 1
      have e2 := cell_of_block hq2 2
      have e3 := cell_of_block hq2 3
      have z0 := unfrozen_of_block hq2 0
      have z1 := unfrozen_of_block hq2 1
      have z2 := unfrozen_of_block hq2 2
      have z3 := unfrozen_of_block hq2 3
      clear hb5 hM hR3
      go_wp2_with fail
      have hfin := res_box hq2 2 0 ⟨#[]⟩ (.slice A l.length c3)
      have hfr := res_fr w5 q 2 0 ⟨#[]⟩ (.slice A l.length c3)
      obtain ⟨wF, hwF⟩ : ∃ wF, resW w5 q 2 0 ⟨#[]⟩ (.slice A l.length c3) = wF := ⟨_, rfl⟩
      rw [hwF] at hfin hfr
      have k0 := cell_of_block hfin 0
      have k1 := cell_of_block hfin 1
      have k2 := cell_of_block hfin 2
      have k3 := cell_of_block hfin 3
      change bodyPost _ _ _ _ _ (resW w5 q 2 0 ⟨#[]⟩ (.slice A l.length c3))
      rw [hwF]
      have hF : Below w.heap.size w wF := ((Fr.of_below (S := fun j => j = q) HB2.out).trans hfr).below (Nat.le_refl _) (fun k hk h => by omega)
      refine bodyPost_ret (v := .agg #[.int .i64 2, .int .i64 0, .string ⟨#[]⟩, .slice A l.length c3]) ?_ ?_ ?_
      · simp [results, Tryz.results60, go_sem, k0, k1, k2, k3]
      · rfl
      · exact ⟨[.int .i64 2, .int .i64 0, .string ⟨#[]⟩, .slice A l.length c3], rfl, k65_mkM wF _ _ ⟨2, 0, ⟨#[]⟩, l.map numV⟩ (v3 := .slice A l.length c3) (Kd.R_mono (Kd.R_step HR3.out (fun j hj hlt => hfr.block j hlt (by omega))) (fun _ _ => trivial)), by first | exact hF | (rw [← hq]; exact hF)⟩

def ZRel (w : World) (o v : Value) (wr : World) : Prop := o = .slice none 0 0 ∧ v = .int .i64 0 ∧ wr = w

set_option maxHeartbeats 4000000 in
set_option maxRecDepth 100000 in
theorem allg_nil (f : Value) (w : World) : Calls Tryz.prog 61 #[.slice none 0 0, f] w fun e w' => MadeV ⟨2, 0, ⟨#[]⟩, []⟩ w.heap.size (fun _ => True) w e w' := by
  obtain ⟨w1, hw1⟩ : ∃ w1, w.alloc (.cells #[.int .i64 0, .int .i64 0, .string ⟨#[]⟩, .slice none 0 0] 65) = w1 := ⟨_, rfl⟩
  obtain ⟨q, hq⟩ : ∃ q, w.heap.size = q := ⟨_, rfl⟩
  have hb1 : Below w.heap.size w w1 := by rw [← hw1]; exact (Below.refl _ _).alloc (Nat.le_refl _) _
  have hq1 : w1.heap[q]? = some (.cells #[.int .i64 0, .int .i64 0, .string ⟨#[]⟩, .slice none 0 0] 65 (0, 0)) := by rw [← hw1, ← hq]; exact heap_alloc_new _ _
  have hcall := pall_any (.slice none 0 0) [] w.heap.size (fun j => q < j) w1 (by simp) hb1.size (fun j hj => by have := YtieaipclioppkaaGreatCore.heap_lt hq1; omega) (Kd.R_nil _ _ _ _ _)
  have HC2 := Lib.hid hcall
  have HB1 := Lib.hid hb1
  have HQ1 := Lib.hid hq1
  clear hb1 hq1 hcall
  go_enter Tryz.func61, Tryz.ntmps61
  go_wp2_with (first | (rw [hw1]) | (rw [hq]))
  go_loopg [5, 10] 1 (fun gk o v wr => ZRel w1 o v wr)
  case atStart => exact ⟨rfl, rfl, rfl⟩
  case round =>
    obtain ⟨rfl, rfl, rfl⟩ := hrel
    go_wp2_with fail
    refine HC2.out.mono ?_
    rintro e w5 ⟨cs, rfl, hM, hb5⟩
    obtain ⟨A, c3, rfl, hR3⟩ := M_list hM
    rw [List.length_nil] at hR3 ⊢
    have hq2 := (hb5.block q (YtieaipclioppkaaGreatCore.heap_lt HQ1.out)).trans HQ1.out
    have HB2 := Lib.hid (HB1.out.trans (hb5.mono HB1.out.size))
    have HR3 := Lib.hid hR3
    have e0 := cell_of_block hq2 0
    have e1 := cell_of_block hq2 1
    have e2 := cell_of_block hq2 2
    have e3 := cell_of_block hq2 3
    have z0 := unfrozen_of_block hq2 0
    have z1 := unfrozen_of_block hq2 1
    have z2 := unfrozen_of_block hq2 2
    have z3 := unfrozen_of_block hq2 3
    clear hb5 hM hR3
    go_wp2_with fail
    have hfin := res_box hq2 2 0 ⟨#[]⟩ (.slice A 0 c3)
    have hfr := res_fr w5 q 2 0 ⟨#[]⟩ (.slice A 0 c3)
    obtain ⟨wF, hwF⟩ : ∃ wF, resW w5 q 2 0 ⟨#[]⟩ (.slice A 0 c3) = wF := ⟨_, rfl⟩
    rw [hwF] at hfin hfr
    have k0 := cell_of_block hfin 0
    have k1 := cell_of_block hfin 1
    have k2 := cell_of_block hfin 2
    have k3 := cell_of_block hfin 3
    change bodyPost _ _ _ _ _ (resW w5 q 2 0 ⟨#[]⟩ (.slice A 0 c3))
    rw [hwF]
    have hF : Below w.heap.size w wF := ((Fr.of_below (S := fun j => j = q) HB2.out).trans hfr).below (Nat.le_refl _) (fun k hk h => by omega)
    refine bodyPost_ret (v := .agg #[.int .i64 2, .int .i64 0, .string ⟨#[]⟩, .slice A 0 c3]) ?_ ?_ ?_
    · simp [results, Tryz.results61, go_sem, k0, k1, k2, k3]
    · rfl
    · exact ⟨[.int .i64 2, .int .i64 0, .string ⟨#[]⟩, .slice A 0 c3], rfl, k65_mkM wF _ _ ⟨2, 0, ⟨#[]⟩, []⟩ (v3 := .slice A 0 c3) (Kd.R_mono (Kd.R_step HR3.out (fun j hj hlt => hfr.block j hlt (by omega))) (fun _ _ => trivial)), by first | exact hF | (rw [← hq]; exact hF)⟩

set_option maxHeartbeats 4000000 in
set_option maxRecDepth 100000 in
theorem allf_nil (f : Value) (w : World) : Calls Tryz.prog 64 #[.slice none 0 0, f] w fun e w' => MadeV ⟨2, 0, ⟨#[]⟩, []⟩ w.heap.size (fun _ => True) w e w' := by
  obtain ⟨w1, hw1⟩ : ∃ w1, w.alloc (.cells #[.int .i64 0, .int .i64 0, .string ⟨#[]⟩, .slice none 0 0] 65) = w1 := ⟨_, rfl⟩
  obtain ⟨q, hq⟩ : ∃ q, w.heap.size = q := ⟨_, rfl⟩
  have hb1 : Below w.heap.size w w1 := by rw [← hw1]; exact (Below.refl _ _).alloc (Nat.le_refl _) _
  have hq1 : w1.heap[q]? = some (.cells #[.int .i64 0, .int .i64 0, .string ⟨#[]⟩, .slice none 0 0] 65 (0, 0)) := by rw [← hw1, ← hq]; exact heap_alloc_new _ _
  have hcall := pall_any (.slice none 0 0) [] w.heap.size (fun j => q < j) w1 (by simp) hb1.size (fun j hj => by have := YtieaipclioppkaaGreatCore.heap_lt hq1; omega) (Kd.R_nil _ _ _ _ _)
  have HC2 := Lib.hid hcall
  have HB1 := Lib.hid hb1
  have HQ1 := Lib.hid hq1
  clear hb1 hq1 hcall
  go_enter Tryz.func64, Tryz.ntmps64
  go_wp2_with (first | (rw [hw1]) | (rw [hq]))
  go_loopg [5, 10] 1 (fun gk o v wr => ZRel w1 o v wr)
  case atStart => exact ⟨rfl, rfl, rfl⟩
  case round =>
    obtain ⟨rfl, rfl, rfl⟩ := hrel
    go_wp2_with fail
    refine HC2.out.mono ?_
    rintro e w5 ⟨cs, rfl, hM, hb5⟩
    obtain ⟨A, c3, rfl, hR3⟩ := M_list hM
    rw [List.length_nil] at hR3 ⊢
    have hq2 := (hb5.block q (YtieaipclioppkaaGreatCore.heap_lt HQ1.out)).trans HQ1.out
    have HB2 := Lib.hid (HB1.out.trans (hb5.mono HB1.out.size))
    have HR3 := Lib.hid hR3
    have e0 := cell_of_block hq2 0
    have e1 := cell_of_block hq2 1
    have e2 := cell_of_block hq2 2
    have e3 := cell_of_block hq2 3
    have z0 := unfrozen_of_block hq2 0
    have z1 := unfrozen_of_block hq2 1
    have z2 := unfrozen_of_block hq2 2
    have z3 := unfrozen_of_block hq2 3
    clear hb5 hM hR3
    go_wp2_with fail
    have hfin := res_box hq2 2 0 ⟨#[]⟩ (.slice A 0 c3)
    have hfr := res_fr w5 q 2 0 ⟨#[]⟩ (.slice A 0 c3)
    obtain ⟨wF, hwF⟩ : ∃ wF, resW w5 q 2 0 ⟨#[]⟩ (.slice A 0 c3) = wF := ⟨_, rfl⟩
    rw [hwF] at hfin hfr
    have k0 := cell_of_block hfin 0
    have k1 := cell_of_block hfin 1
    have k2 := cell_of_block hfin 2
    have k3 := cell_of_block hfin 3
    change bodyPost _ _ _ _ _ (resW w5 q 2 0 ⟨#[]⟩ (.slice A 0 c3))
    rw [hwF]
    have hF : Below w.heap.size w wF := ((Fr.of_below (S := fun j => j = q) HB2.out).trans hfr).below (Nat.le_refl _) (fun k hk h => by omega)
    refine bodyPost_ret (v := .agg #[.int .i64 2, .int .i64 0, .string ⟨#[]⟩, .slice A 0 c3]) ?_ ?_ ?_
    · simp [results, Tryz.results64, go_sem, k0, k1, k2, k3]
    · rfl
    · exact ⟨[.int .i64 2, .int .i64 0, .string ⟨#[]⟩, .slice A 0 c3], rfl, k65_mkM wF _ _ ⟨2, 0, ⟨#[]⟩, []⟩ (v3 := .slice A 0 c3) (Kd.R_mono (Kd.R_step HR3.out (fun j hj hlt => hfr.block j hlt (by omega))) (fun _ _ => trivial)), by first | exact hF | (rw [← hq]; exact hF)⟩

set_option maxHeartbeats 4000000 in
set_option maxRecDepth 100000 in
theorem alln_nil (f : Value) (w : World) : Calls Tryz.prog 66 #[.slice none 0 0, f] w fun e w' => MadeV ⟨2, 0, ⟨#[]⟩, []⟩ w.heap.size (fun _ => True) w e w' := by
  obtain ⟨w1, hw1⟩ : ∃ w1, w.alloc (.cells #[.int .i64 0, .int .i64 0, .string ⟨#[]⟩, .slice none 0 0] 65) = w1 := ⟨_, rfl⟩
  obtain ⟨q, hq⟩ : ∃ q, w.heap.size = q := ⟨_, rfl⟩
  have hb1 : Below w.heap.size w w1 := by rw [← hw1]; exact (Below.refl _ _).alloc (Nat.le_refl _) _
  have hq1 : w1.heap[q]? = some (.cells #[.int .i64 0, .int .i64 0, .string ⟨#[]⟩, .slice none 0 0] 65 (0, 0)) := by rw [← hw1, ← hq]; exact heap_alloc_new _ _
  have hcall := pall_any (.slice none 0 0) [] w.heap.size (fun j => q < j) w1 (by simp) hb1.size (fun j hj => by have := YtieaipclioppkaaGreatCore.heap_lt hq1; omega) (Kd.R_nil _ _ _ _ _)
  have HC2 := Lib.hid hcall
  have HB1 := Lib.hid hb1
  have HQ1 := Lib.hid hq1
  clear hb1 hq1 hcall
  go_enter Tryz.func66, Tryz.ntmps66
  go_wp2_with (first | (rw [hw1]) | (rw [hq]))
  go_loopg [5, 10] 1 (fun gk o v wr => ZRel w1 o v wr)
  case atStart => exact ⟨rfl, rfl, rfl⟩
  case round =>
    obtain ⟨rfl, rfl, rfl⟩ := hrel
    go_wp2_with fail
    refine HC2.out.mono ?_
    rintro e w5 ⟨cs, rfl, hM, hb5⟩
    obtain ⟨A, c3, rfl, hR3⟩ := M_list hM
    rw [List.length_nil] at hR3 ⊢
    have hq2 := (hb5.block q (YtieaipclioppkaaGreatCore.heap_lt HQ1.out)).trans HQ1.out
    have HB2 := Lib.hid (HB1.out.trans (hb5.mono HB1.out.size))
    have HR3 := Lib.hid hR3
    have e0 := cell_of_block hq2 0
    have e1 := cell_of_block hq2 1
    have e2 := cell_of_block hq2 2
    have e3 := cell_of_block hq2 3
    have z0 := unfrozen_of_block hq2 0
    have z1 := unfrozen_of_block hq2 1
    have z2 := unfrozen_of_block hq2 2
    have z3 := unfrozen_of_block hq2 3
    clear hb5 hM hR3
    go_wp2_with fail
    have hfin := res_box hq2 2 0 ⟨#[]⟩ (.slice A 0 c3)
    have hfr := res_fr w5 q 2 0 ⟨#[]⟩ (.slice A 0 c3)
    obtain ⟨wF, hwF⟩ : ∃ wF, resW w5 q 2 0 ⟨#[]⟩ (.slice A 0 c3) = wF := ⟨_, rfl⟩
    rw [hwF] at hfin hfr
    have k0 := cell_of_block hfin 0
    have k1 := cell_of_block hfin 1
    have k2 := cell_of_block hfin 2
    have k3 := cell_of_block hfin 3
    change bodyPost _ _ _ _ _ (resW w5 q 2 0 ⟨#[]⟩ (.slice A 0 c3))
    rw [hwF]
    have hF : Below w.heap.size w wF := ((Fr.of_below (S := fun j => j = q) HB2.out).trans hfr).below (Nat.le_refl _) (fun k hk h => by omega)
    refine bodyPost_ret (v := .agg #[.int .i64 2, .int .i64 0, .string ⟨#[]⟩, .slice A 0 c3]) ?_ ?_ ?_
    · simp [results, Tryz.results66, go_sem, k0, k1, k2, k3]
    · rfl
    · exact ⟨[.int .i64 2, .int .i64 0, .string ⟨#[]⟩, .slice A 0 c3], rfl, k65_mkM wF _ _ ⟨2, 0, ⟨#[]⟩, []⟩ (v3 := .slice A 0 c3) (Kd.R_mono (Kd.R_step HR3.out (fun j hj hlt => hfr.block j hlt (by omega))) (fun _ _ => trivial)), by first | exact hF | (rw [← hq]; exact hF)⟩

set_option maxHeartbeats 4000000 in
set_option maxRecDepth 100000 in
theorem allq_nil (f : Value) (w : World) : Calls Tryz.prog 68 #[.slice none 0 0, f] w fun e w' => MadeV ⟨2, 0, ⟨#[]⟩, []⟩ w.heap.size (fun _ => True) w e w' := by
  obtain ⟨w1, hw1⟩ : ∃ w1, w.alloc (.cells #[.int .i64 0, .int .i64 0, .string ⟨#[]⟩, .slice none 0 0] 65) = w1 := ⟨_, rfl⟩
  obtain ⟨q, hq⟩ : ∃ q, w.heap.size = q := ⟨_, rfl⟩
  have hb1 : Below w.heap.size w w1 := by rw [← hw1]; exact (Below.refl _ _).alloc (Nat.le_refl _) _
  have hq1 : w1.heap[q]? = some (.cells #[.int .i64 0, .int .i64 0, .string ⟨#[]⟩, .slice none 0 0] 65 (0, 0)) := by rw [← hw1, ← hq]; exact heap_alloc_new _ _
  have hcall := pall_any (.slice none 0 0) [] w.heap.size (fun j => q < j) w1 (by simp) hb1.size (fun j hj => by have := YtieaipclioppkaaGreatCore.heap_lt hq1; omega) (Kd.R_nil _ _ _ _ _)
  have HC2 := Lib.hid hcall
  have HB1 := Lib.hid hb1
  have HQ1 := Lib.hid hq1
  clear hb1 hq1 hcall
  go_enter Tryz.func68, Tryz.ntmps68
  go_wp2_with (first | (rw [hw1]) | (rw [hq]))
  go_loopg [5, 10] 1 (fun gk o v wr => ZRel w1 o v wr)
  case atStart => exact ⟨rfl, rfl, rfl⟩
  case round =>
    obtain ⟨rfl, rfl, rfl⟩ := hrel
    go_wp2_with fail
    refine HC2.out.mono ?_
    rintro e w5 ⟨cs, rfl, hM, hb5⟩
    obtain ⟨A, c3, rfl, hR3⟩ := M_list hM
    rw [List.length_nil] at hR3 ⊢
    have hq2 := (hb5.block q (YtieaipclioppkaaGreatCore.heap_lt HQ1.out)).trans HQ1.out
    have HB2 := Lib.hid (HB1.out.trans (hb5.mono HB1.out.size))
    have HR3 := Lib.hid hR3
    have e0 := cell_of_block hq2 0
    have e1 := cell_of_block hq2 1
    have e2 := cell_of_block hq2 2
    have e3 := cell_of_block hq2 3
    have z0 := unfrozen_of_block hq2 0
    have z1 := unfrozen_of_block hq2 1
    have z2 := unfrozen_of_block hq2 2
    have z3 := unfrozen_of_block hq2 3
    clear hb5 hM hR3
    go_wp2_with fail
    have hfin := res_box hq2 2 0 ⟨#[]⟩ (.slice A 0 c3)
    have hfr := res_fr w5 q 2 0 ⟨#[]⟩ (.slice A 0 c3)
    obtain ⟨wF, hwF⟩ : ∃ wF, resW w5 q 2 0 ⟨#[]⟩ (.slice A 0 c3) = wF := ⟨_, rfl⟩
    rw [hwF] at hfin hfr
    have k0 := cell_of_block hfin 0
    have k1 := cell_of_block hfin 1
    have k2 := cell_of_block hfin 2
    have k3 := cell_of_block hfin 3
    change bodyPost _ _ _ _ _ (resW w5 q 2 0 ⟨#[]⟩ (.slice A 0 c3))
    rw [hwF]
    have hF : Below w.heap.size w wF := ((Fr.of_below (S := fun j => j = q) HB2.out).trans hfr).below (Nat.le_refl _) (fun k hk h => by omega)
    refine bodyPost_ret (v := .agg #[.int .i64 2, .int .i64 0, .string ⟨#[]⟩, .slice A 0 c3]) ?_ ?_ ?_
    · simp [results, Tryz.results68, go_sem, k0, k1, k2, k3]
    · rfl
    · exact ⟨[.int .i64 2, .int .i64 0, .string ⟨#[]⟩, .slice A 0 c3], rfl, k65_mkM wF _ _ ⟨2, 0, ⟨#[]⟩, []⟩ (v3 := .slice A 0 c3) (Kd.R_mono (Kd.R_step HR3.out (fun j hj hlt => hfr.block j hlt (by omega))) (fun _ _ => trivial)), by first | exact hF | (rw [← hq]; exact hF)⟩

set_option maxHeartbeats 4000000 in
set_option maxRecDepth 100000 in
theorem allc_nil (f : Value) (w : World) : Calls Tryz.prog 70 #[.slice none 0 0, f] w fun e w' => MadeV ⟨2, 0, ⟨#[]⟩, []⟩ w.heap.size (fun _ => True) w e w' := by
  obtain ⟨w1, hw1⟩ : ∃ w1, w.alloc (.cells #[.int .i64 0, .int .i64 0, .string ⟨#[]⟩, .slice none 0 0] 65) = w1 := ⟨_, rfl⟩
  obtain ⟨q, hq⟩ : ∃ q, w.heap.size = q := ⟨_, rfl⟩
  have hb1 : Below w.heap.size w w1 := by rw [← hw1]; exact (Below.refl _ _).alloc (Nat.le_refl _) _
  have hq1 : w1.heap[q]? = some (.cells #[.int .i64 0, .int .i64 0, .string ⟨#[]⟩, .slice none 0 0] 65 (0, 0)) := by rw [← hw1, ← hq]; exact heap_alloc_new _ _
  have hcall := pall_any (.slice none 0 0) [] w.heap.size (fun j => q < j) w1 (by simp) hb1.size (fun j hj => by have := YtieaipclioppkaaGreatCore.heap_lt hq1; omega) (Kd.R_nil _ _ _ _ _)
  have HC2 := Lib.hid hcall
  have HB1 := Lib.hid hb1
  have HQ1 := Lib.hid hq1
  clear hb1 hq1 hcall
  go_enter Tryz.func70, Tryz.ntmps70
  go_wp2_with (first | (rw [hw1]) | (rw [hq]))
  go_loopg [5, 10] 1 (fun gk o v wr => ZRel w1 o v wr)
  case atStart => exact ⟨rfl, rfl, rfl⟩
  case round =>
    obtain ⟨rfl, rfl, rfl⟩ := hrel
    go_wp2_with fail
    refine HC2.out.mono ?_
    rintro e w5 ⟨cs, rfl, hM, hb5⟩
    obtain ⟨A, c3, rfl, hR3⟩ := M_list hM
    rw [List.length_nil] at hR3 ⊢
    have hq2 := (hb5.block q (YtieaipclioppkaaGreatCore.heap_lt HQ1.out)).trans HQ1.out
    have HB2 := Lib.hid (HB1.out.trans (hb5.mono HB1.out.size))
    have HR3 := Lib.hid hR3
    have e0 := cell_of_block hq2 0
    have e1 := cell_of_block hq2 1
    have e2 := cell_of_block hq2 2
    have e3 := cell_of_block hq2 3
    have z0 := unfrozen_of_block hq2 0
    have z1 := unfrozen_of_block hq2 1
    have z2 := unfrozen_of_block hq2 2
    have z3 := unfrozen_of_block hq2 3
    clear hb5 hM hR3
    go_wp2_with fail
    have hfin := res_box hq2 2 0 ⟨#[]⟩ (.slice A 0 c3)
    have hfr := res_fr w5 q 2 0 ⟨#[]⟩ (.slice A 0 c3)
    obtain ⟨wF, hwF⟩ : ∃ wF, resW w5 q 2 0 ⟨#[]⟩ (.slice A 0 c3) = wF := ⟨_, rfl⟩
    rw [hwF] at hfin hfr
    have k0 := cell_of_block hfin 0
    have k1 := cell_of_block hfin 1
    have k2 := cell_of_block hfin 2
    have k3 := cell_of_block hfin 3
    change bodyPost _ _ _ _ _ (resW w5 q 2 0 ⟨#[]⟩ (.slice A 0 c3))
    rw [hwF]
    have hF : Below w.heap.size w wF := ((Fr.of_below (S := fun j => j = q) HB2.out).trans hfr).below (Nat.le_refl _) (fun k hk h => by omega)
    refine bodyPost_ret (v := .agg #[.int .i64 2, .int .i64 0, .string ⟨#[]⟩, .slice A 0 c3]) ?_ ?_ ?_
    · simp [results, Tryz.results70, go_sem, k0, k1, k2, k3]
    · rfl
    · exact ⟨[.int .i64 2, .int .i64 0, .string ⟨#[]⟩, .slice A 0 c3], rfl, k65_mkM wF _ _ ⟨2, 0, ⟨#[]⟩, []⟩ (v3 := .slice A 0 c3) (Kd.R_mono (Kd.R_step HR3.out (fun j hj hlt => hfr.block j hlt (by omega))) (fun _ _ => trivial)), by first | exact hF | (rw [← hq]; exact hF)⟩

end Go.Proofs.YtieaipclioppkaaGreat.Vl

/-! pack.Put. -/
namespace Go.Proofs.YtieaipclioppkaaGreat.Pp
open Go Go.RowKit Go.Joins Go.Proofs.YtieaipclioppkaaGreatCore Go.Proofs.YtieaipclioppkaaGreat.PLeaf Go.Proofs.YtieaipclioppkaaGreat.Puts Go.Proofs.YtieaipclioppkaaGreat.Bld Go.Proofs.YtieaipclioppkaaGreat.Fr Go.Proofs.YtieaipclioppkaaGreat.Pk Go.Proofs.YtieaipclioppkaaGreatW.PrintWords Go.Proofs.YtieaipclioppkaaGreatW.PrintLast Go.Proofs.YtieaipclioppkaaGreatW.PrintMore

/-- The bytes of a value, or none; the error. -/
def packS (v : V) : ByteArray × Int := if (encV 0 v).2 = 0 then (⟨(encV 0 v).1.toArray⟩, 0) else (⟨#[]⟩, (encV 0 v).2)

set_option maxHeartbeats 4000000 in
set_option maxRecDepth 100000 in
theorem pput_any (v : V) (hok : OkV v) (cs : List Value) (w : World) (hK : k65.K w v cs) (hl : (encV 0 v).1.length ≤ 140737488340000) :
    Calls Tryz.prog 28 #[.agg cs.toArray] w fun e w' => e = .returned (.tuple #[.string (packS v).1, .int .i64 (packS v).2]) ∧ Below w.heap.size w w' := by
  have HK := Lib.hid hK
  have HOK := Lib.hid hok
  have HL := Lib.hid hl
  obtain ⟨A, c, rfl, _, _⟩ := k65_open hK
  clear hK hok hl
  obtain ⟨w1, hw1⟩ : ∃ w1, w.alloc (.cells #[.int .i64 v.f0, .int .i64 v.f1, .string v.f2, .slice A v.f3.length c] 65) = w1 := ⟨_, rfl⟩
  have hb1 : Below w.heap.size w w1 := by rw [← hw1]; exact (Below.refl _ _).alloc (Nat.le_refl _) _
  have hz1 : w1.heap.size = w.heap.size + 1 := by rw [← hw1]; simp
  have hq1 : w1.heap[w.heap.size]? = some (.cells #[.int .i64 v.f0, .int .i64 v.f1, .string v.f2, .slice A v.f3.length c] 65 (0, 0)) := by rw [← hw1]; exact heap_alloc_new _ _
  have hbu := Lib.fresh_isBuilder 51 5 w1
  obtain ⟨w2, hw2⟩ : ∃ w2, w1.alloc (.cells #[.pointer none, .slice none 0 0] 51) = w2 := ⟨_, rfl⟩
  rw [hw2] at hbu
  have hb2 : Below w1.heap.size w1 w2 := by rw [← hw2]; exact (Below.refl _ _).alloc (Nat.le_refl _) _
  have hq2 := (hb2.block _ (heap_lt hq1)).trans hq1
  obtain ⟨b, hb⟩ : ∃ b, w1.heap.size = b := ⟨_, rfl⟩
  rw [hb] at hbu hz1
  obtain ⟨q, hq⟩ : ∃ q, w.heap.size = q := ⟨_, rfl⟩
  rw [hq] at hz1 hq2
  have c0 : w2.cell? ⟨q, 0, none⟩ = some (.int .i64 v.f0) := cell_of_block hq2 0
  have c1 : w2.cell? ⟨q, 1, none⟩ = some (.int .i64 v.f1) := cell_of_block hq2 1
  have c2 : w2.cell? ⟨q, 2, none⟩ = some (.string v.f2) := cell_of_block hq2 2
  have c3 : w2.cell? ⟨q, 3, none⟩ = some (.slice A v.f3.length c) := cell_of_block hq2 3
  have HB2 := Lib.hid (hb1.trans (hb2.mono hb1.size))
  have hbs : b ≤ w2.heap.size := by rw [← hb]; exact hb2.size
  have hcall := put_all w b b (by rw [← hb]; exact hb1.size) _ v (Nat.lt_succ_self _) HOK.out 0 _ w2 [] HK.out HB2.out hbs hbu (by simpa using HL.out)
  have HC := Lib.hid hcall
  have hz1' : q + 1 = b := hz1.symm
  clear hb1 hb2 hq1 hq2 hbu hcall hz1
  go_enter Tryz.func28, Tryz.ntmps28
  go_wp2_with (first | (rw [hw1]) | (rw [hw2]) | (rw [hq]) | (rw [hz1']) | (rw [hb]))
  clear hb
  refine HC.out.mono ?_
  rintro e w3 ⟨rfl, hbu3, hb3⟩
  have HB3 : Hid (Below w.heap.size w w3) := Lib.hid (HB2.out.trans (hb3.mono (by omega)))
  have hbs3 : b ≤ w3.heap.size := Nat.le_trans hbs hb3.size
  rw [List.nil_append] at hbu3
  have HBU3 := Lib.hid hbu3
  obtain ⟨E, hE⟩ : ∃ E, (encV 0 v).2 = E := ⟨_, rfl⟩
  rw [hE]
  have HE := Lib.hid hE
  clear hbu3 hb3 hE HC
  by_cases hE0 : E = 0
  · subst hE0
    go_wp2_with fail
    refine (Tryz.Builder_String_any b b _ w3 HBU3.out hbs3).mono ?_
    rintro e w4 ⟨rfl, hb4⟩
    have HB4 : Hid (Below w.heap.size w w4) := Lib.hid (HB3.out.trans (hb4.mono (by omega)))
    clear hb4
    go_wp2_with fail
    exact bodyPost_ret (v := .tuple #[.string ⟨(encV 0 v).1.toArray⟩, .int .i64 0]) (by simp [results, Tryz.results28, go_sem]) rfl ⟨by unfold packS; rw [if_pos HE.out], HB4.out⟩
  · have hE1 : (E == 0) = false := by simpa using hE0
    go_wp2_with fail
    exact bodyPost_ret (v := .tuple #[.string ⟨#[]⟩, .int .i64 E]) (by simp [results, Tryz.results28, go_sem]) rfl ⟨by unfold packS; rw [if_neg (by rw [HE.out]; exact hE0), HE.out], HB3.out⟩

end Go.Proofs.YtieaipclioppkaaGreat.Pp
