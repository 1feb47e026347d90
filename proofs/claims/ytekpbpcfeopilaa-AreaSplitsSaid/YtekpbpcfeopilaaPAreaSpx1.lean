-- WRITTEN BY A PROGRAM OF THIS CLAIM's OWN (after the kit's print, with functions proved by hand among them).
import Derived.Test.YtekpbpcfeopilaaPAreaSpx0
namespace Go.Proofs.Ytekpbpcfeopilaa.PAreaSp
open Go.RowKit Go.Proofs.YtekpbpcfeopilaaW.PrintWords Go.Proofs.YtekpbpcfeopilaaW.PrintLast Go.Proofs.YtekpbpcfeopilaaW.PrintMore
attribute [local go_sem] max2_int min2_int max_two min_two max_three min_three max_four min_four   -- for this text's walks alone
set_option linter.unusedVariables false
set_option linter.unusedSimpArgs false

/-! ### area_good: function 38 -/
def area_good.f (a0 : Int) (a1 : Int) : Option (Bool) := if a0 ≥ 1 then (if a0 ≤ 281474976710655 then (if a1 ≥ 0 then (some (decide (a1 ≤ 65535))) else (some false)) else (some false)) else (some false)
set_option maxHeartbeats 8000000 in
set_option maxRecDepth 100000 in
theorem area_good.calls (a0 : Int) (a1 : Int) (r : Bool) (w : World) (h : area_good.f a0 a1 = some r) :
    Calls Try.prog 38 #[.int .i64 a0, .int .i64 a1] w fun e w' => e = .returned (.bool r) ∧ Drawn0 w w' := by
  have H : (if a0 ≥ 1 then (if a0 ≤ 281474976710655 then (if a1 ≥ 0 then (some (decide (a1 ≤ 65535))) else (some false)) else (some false)) else (some false)) = some r := h
  clear h
  by_cases c3 : a0 ≥ 1
  · rw [if_pos c3] at H
    have c3b0 : decide (1 ≤ a0) = true := decide_eq_true c3
    clear c3
    by_cases c4 : a0 ≤ 281474976710655
    · rw [if_pos c4] at H
      have c4b0 : decide (a0 ≤ 281474976710655) = true := decide_eq_true c4
      clear c4
      by_cases c5 : a1 ≥ 0
      · rw [if_pos c5] at H
        have c5b0 : decide (0 ≤ a1) = true := decide_eq_true c5
        clear c5
        obtain rfl := Option.some.inj H
        go_enter Try.func38, Try.ntmps38
        go_wp2
        go_ret
        exact ⟨by first | rfl | (simp; done) | (simp [*]; done), by repeat (first | exact Drawn0.refl _ | apply Drawn0.step)⟩
      · rw [if_neg c5] at H
        have c5b0 : decide (0 ≤ a1) = false := decide_eq_false c5
        clear c5
        obtain rfl := Option.some.inj H
        go_enter Try.func38, Try.ntmps38
        go_wp2
        go_ret
        exact ⟨by first | rfl | (simp; done) | (simp [*]; done), by repeat (first | exact Drawn0.refl _ | apply Drawn0.step)⟩
    · rw [if_neg c4] at H
      have c4b0 : decide (a0 ≤ 281474976710655) = false := decide_eq_false c4
      clear c4
      obtain rfl := Option.some.inj H
      go_enter Try.func38, Try.ntmps38
      go_wp2
      go_ret
      exact ⟨by first | rfl | (simp; done) | (simp [*]; done), by repeat (first | exact Drawn0.refl _ | apply Drawn0.step)⟩
  · rw [if_neg c3] at H
    have c3b0 : decide (1 ≤ a0) = false := decide_eq_false c3
    clear c3
    obtain rfl := Option.some.inj H
    go_enter Try.func38, Try.ntmps38
    go_wp2
    go_ret
    exact ⟨by first | rfl | (simp; done) | (simp [*]; done), by repeat (first | exact Drawn0.refl _ | apply Drawn0.step)⟩

/-! ### words_Put: function 39 -/
def words_Put.l0 : Nat → Int → List Int → Int → Option (ByteArray)
  | 0, _, _, _ => none
  | k + 1, x1, x5, x6 => if x6 ≥ 0 then (if 0 ≤ (wrap64 (8 * x6)) then (if x5.length < 140737488355328 then (words_Put.l0 k x1 (x5 ++ [(shr .u64 x1 (wrap64 (8 * x6))) % 256]) (wrap64 (x6 - 1))) else (none)) else (none)) else (some (strOfNums x5))
def words_Put.f (k : Nat) (a0 : Int) (a1 : Int) : Option (ByteArray) := words_Put.l0 k a1 ([] : List Int) ((mx 0 (mn a0 8)) - 1)
theorem words_Put.mono_l : ∀ k, (∀ y0 y1 y2, LeO (words_Put.l0 k y0 y1 y2) (words_Put.l0 (k + 1) y0 y1 y2))
  | 0 => fun _ _ _ r h => by simp [words_Put.l0] at h
  | k + 1 => by
    have ih0 := words_Put.mono_l k
    · intro y0 y1 y2
      unfold words_Put.l0
      repeat' first
      | (with_reducible exact ih0 _ _ _)
      | (with_reducible exact LeO.refl _)
      | (with_reducible exact LeO.none _)
      | (with_reducible refine LeO.ite ?_ ?_)
      | (with_reducible refine LeO.bind ?_ (fun _ => ?_))
      | exact ih0 _ _ _
      | exact LeO.none _
      | refine LeO.ite ?_ ?_
      | refine LeO.bind ?_ (fun _ => ?_)
theorem words_Put.mono : ∀ a0 a1 k, LeO (words_Put.f k a0 a1) (words_Put.f (k + 1) a0 a1) := by
  intro a0 a1 k
  have ih0 := words_Put.mono_l k
  unfold words_Put.f
  repeat' first
      | (with_reducible exact ih0 _ _ _)
      | (with_reducible exact LeO.refl _)
      | (with_reducible exact LeO.none _)
      | (with_reducible refine LeO.ite ?_ ?_)
      | (with_reducible refine LeO.bind ?_ (fun _ => ?_))
      | exact ih0 _ _ _
      | exact LeO.none _
      | refine LeO.ite ?_ ?_
      | refine LeO.bind ?_ (fun _ => ?_)
set_option maxHeartbeats 8000000 in
set_option maxRecDepth 100000 in
theorem words_Put.calls (k : Nat) (a0 : Int) (a1 : Int) (r : ByteArray) (w : World) (h : words_Put.f k a0 a1 = some r) :
    Calls Try.prog 39 #[.int .i64 a0, .int .u64 a1] w fun e w' => e = .returned (.string r) ∧ Below w.heap.size w w' := by
  have HB := Aside0.mk (Below.refl w.heap.size w)
  have H : (words_Put.l0 k a1 ([] : List Int) ((mx 0 (mn a0 8)) - 1)) = some r := h
  clear h
  obtain ⟨ji3, hji3⟩ : ∃ j_ : Int, (mn a0 8) = j_ := ⟨_, rfl⟩
  replace H : (words_Put.l0 k a1 ([] : List Int) ((mx 0 (ji3)) - 1)) = some r := by first | (rw [hji3] at H; exact H) | (simp only [hji3] at H ⊢; exact H)
  (try (have hji3h : ji3 ≤ 8 := by (rw [← hji3]; unfold mn; (repeat' split) <;> omega)))
  (try (have hji3g : ji3 ≤ 64 := by omega))
  have hji3_ : (if 8 < a0 then 8 else a0) = ji3 := hji3
  obtain ⟨ji4, hji4⟩ : ∃ j_ : Int, (mx 0 (ji3)) = j_ := ⟨_, rfl⟩
  replace H : (words_Put.l0 k a1 ([] : List Int) ((ji4) - 1)) = some r := by first | (rw [hji4] at H; exact H) | (simp only [hji4] at H ⊢; exact H)
  have hji4_ : (if 0 < (ji3) then (ji3) else 0) = ji4 := hji4
  have H' := Aside0.mk H
  clear H
  go_enter Try.func39, Try.ntmps39
  go_wp2
  go_loopg [5, 6] k (fun kq v5 v6 w' => ∃ (x5_1 : List Int) (x6_1 : Int), v6 = .int .i64 x6_1 ∧ Aside0 (words_Put.l0 kq a1 x5_1 x6_1 = some r) ∧ Aside0 (kq ≤ k) ∧ Aside0 (Kd.R (Kd.int .u8) 5 w' w.heap.size (fun _ => True) v5 x5_1) ∧ Aside0 (Below w.heap.size w w'))
  case atStart => exact ⟨(([] : List Int)), ((ji4) - 1), (by first | rfl | (simp; done) | (simp only [← hji4] <;> (first | rfl | simp)) | (simp [*]; done)), H', ⟨Nat.le_refl _⟩, ⟨by first | exact Kd.R_nil _ _ _ _ _ | exact Kd.N_nil _ _ _ _ _ | exact Kd.V_nil _ _ _ _ _ | exact Kd.Q_nil _ _ _ _ _ | exact Kd.S_nil _ _ _ _ _⟩, ⟨by repeat (first | (with_reducible first | exact HB.out | apply below_alloc | apply pw_below_drewN | apply below_drew1) | exact HB.out)⟩⟩
  case round =>
    clear H'
    try clear p2
    try clear c3
    obtain ⟨x5_1, x6_1, rfl, HA, HK1, HO_5, HB⟩ := hrel
    cases gk with
    | zero => exact absurd HA.out (by simp [words_Put.l0])
    | succ k1 =>
      have H := HA.out
      clear HA
      simp only [words_Put.l0] at H
      by_cases c5 : x6_1 ≥ 0
      · rw [if_pos c5] at H
        have c5b0 : decide (0 ≤ x6_1) = true := decide_eq_true c5
        clear c5
        obtain ⟨ji6, hji6⟩ : ∃ j_ : Int, (wrap64 (8 * x6_1)) = j_ := ⟨_, rfl⟩
        replace H : (if 0 ≤ (ji6) then (if x5_1.length < 140737488355328 then (words_Put.l0 k1 a1 (x5_1 ++ [(shr .u64 a1 (ji6)) % 256]) (wrap64 (x6_1 - 1))) else (none)) else (none)) = some r := by first | (rw [hji6] at H; exact H) | (simp only [hji6] at H ⊢; exact H)
        have hji6w : (IntKind.i64.wrap (8 * x6_1)) = ji6 := (i64_w _).trans hji6
        by_cases c7 : 0 ≤ (ji6)
        · rw [if_pos c7] at H
          have c7b0 := eq_true c7
          have c7b1 : decide (0 ≤ (ji6)) = true := decide_eq_true c7
          clear c7
          obtain ⟨ji8, hji8⟩ : ∃ j_ : Int, (shr .u64 a1 (ji6)) = j_ := ⟨_, rfl⟩
          replace H : (if x5_1.length < 140737488355328 then (words_Put.l0 k1 a1 (x5_1 ++ [(ji8) % 256]) (wrap64 (x6_1 - 1))) else (none)) = some r := by first | (rw [hji8] at H; exact H) | (simp only [hji8] at H ⊢; exact H)
          have hji8_ : (a1 / 2 ^ min (ji6).toNat 64) = ji8 := hji8
          have hji8z : (ji6) ≤ 64 → (a1 / 2 ^ (ji6).toNat) = ji8 := shr_small hji8
          by_cases c9 : x5_1.length < 140737488355328
          · rw [if_pos c9] at H
            have LMc9 := Aside0.mk c9
            clear c9
            obtain ⟨y101, hy101⟩ : ∃ y_ : List Int, y_ = (x5_1 ++ [(ji8) % 256]) := ⟨_, rfl⟩
            replace H : (words_Put.l0 k1 a1 y101 (wrap64 (x6_1 - 1))) = some r := by first | (rw [hy101]; with_reducible exact H) | (have H2_ := (Option.bind_some _ _).symm.trans H; rw [hy101]; with_reducible exact H2_) | (have H2_ := (Option.bind_some _ _).symm.trans H; with_reducible exact H2_) | with_reducible exact H | (rw [hy101]; exact H) | exact H
            have Ny101 := Aside0.mk hy101
            clear hy101
            have H' := Aside0.mk H
            clear H
            go_wp2_with (first | ((with_reducible refine gate_builtin (b := .append) (xs := #[.tmp 15, .tmp 21]) rfl ?_); at_builtin; refine Kd.R_append (Kd.int .u8) (w0 := w) w.heap.size rfl (.tmp 15) (.tmp 21) 56 5 (.int .u8 0) 1 rfl Try.underlying56 info5 rfl (by decide) (by omega) u5 x5_1 ((ji8) % 256) [.int .u8 ((ji8) % 256)] (fun _ => True) (fun _ => False) rfl rfl ?aP (fun _ hk => hk.elim) ?aF ?aO ?aB ?aS ?aL ?_; (case aP => exact rfl); (case aB => exact (by repeat (first | (with_reducible first | exact HB.out | apply below_alloc | apply pw_below_drewN | apply below_drew1) | exact HB.out))); (case aF => exact (fun _ _ => trivial)); (case aO => exact (by (with_reducible repeat (first | apply Kd.R_alloc | apply Kd.R_drewN | apply Kd.R_drew)); exact HO_5.out)); (case aS => exact (below_size (by repeat (first | (with_reducible first | exact HB.out | apply below_alloc | apply pw_below_drewN | apply below_drew1) | exact HB.out)))); (case aL => have := LMc9.out; omega); intro v102 w10 ho hb hg hat; rw [← Ny101.out] at ho; have n0_ := Aside0.mk (hb); have n1_ := Aside0.mk (ho); clear HB; clear HO_5; have HB := n0_; have HO103 := n1_; clear n0_ n1_; clear ho hb hg hat))
            go_roundg k1
            case measure => have := HK1.out; omega
            case rel => exact ⟨(y101), (wrap64 (x6_1 - 1)), (by first | rfl | (simp; done) | (simp [*]; done)), H', ⟨by have := HK1.out; omega⟩, ⟨by (with_reducible repeat (first | apply Kd.R_alloc | apply Kd.R_drewN | apply Kd.R_drew)); exact HO103.out⟩, ⟨by repeat (first | (with_reducible first | exact HB.out | apply below_alloc | apply pw_below_drewN | apply below_drew1) | exact HB.out)⟩⟩
          · rw [if_neg c9] at H
            exact absurd H (by simp)
        · rw [if_neg c7] at H
          exact absurd H (by simp)
      · rw [if_neg c5] at H
        have c5b0 : decide (0 ≤ x6_1) = false := decide_eq_false c5
        clear c5
        obtain rfl := Option.some.inj H
        have hcv11 := own_string (P := Try.prog) Try.underlying56 Try.underlying5 Try.underlying9 (Kd.own_of_R HO_5.out)
        go_wp2
        go_ret
        exact ⟨by first | rfl | (simp [errW_none, errW_some] <;> rfl) | (simp only [← hji3, ← hji4]; first | rfl | (simp [errW_none, errW_some] <;> rfl)) | (simp [*, errW_none, errW_some] <;> rfl), by repeat (first | (with_reducible first | exact HB.out | apply below_alloc | apply pw_below_drewN | apply below_drew1) | exact HB.out)⟩

/-! ### area_Make: function 14 -/
def area_Make.f (a b : Int) (c : ByteArray) : Option (ByteArray × Int) := some (Go.Proofs.Ytekpbpcfeopilaa.Amk.makeS a b c, Go.Proofs.Ytekpbpcfeopilaa.Amk.makeE a b c)
theorem area_Make.calls (a0_0 : Int) (a0_1 : Int) (a0_2 : ByteArray) (r1 : ByteArray) (r2 : Int) (w : World) (h : area_Make.f a0_0 a0_1 a0_2 = some (r1, r2)) :
    Calls Try.prog 14 #[.agg #[.int .i64 a0_0, .int .i64 a0_1, .string a0_2]] w fun e w' => e = .returned (.tuple #[.string r1, .int .i64 r2]) ∧ Below w.heap.size w w' := by
  obtain ⟨rfl, rfl⟩ := Prod.mk.inj (Option.some.inj h)
  exact Go.Proofs.Ytekpbpcfeopilaa.Amk.make_all a0_0 a0_1 a0_2 w

/-! ### precinctlaw07_wakes: function 16 -/
def precinctlaw07_wakes.f  : Option (Bool) := (area_Make.f 1 2 (⟨#[97, 98]⟩ : ByteArray)).bind fun bt104 => (if bt104.2 = 0 then (if (bt104.1.size : Int) = 64 then (if 0 ≤ 11 then (if 11 ≤ (bt104.1.size : Int) then (some ((bt104.1.extract 0 11).toList == ([0, 0, 0, 0, 0, 1, 0, 2, 2, 97, 98] : List UInt8))) else (none)) else (none)) else (some false)) else (some false))
set_option maxHeartbeats 8000000 in
set_option maxRecDepth 100000 in
theorem precinctlaw07_wakes.calls  (r : Bool) (w : World) (h : precinctlaw07_wakes.f  = some r) :
    Calls Try.prog 16 #[] w fun e w' => e = .returned (.bool r) ∧ Below w.heap.size w w' := by
  have hu29 := Try.underlying29
  have HB := Aside0.mk (Below.refl w.heap.size w)
  have H : ((area_Make.f 1 2 (⟨#[97, 98]⟩ : ByteArray)).bind fun bt104 => (if bt104.2 = 0 then (if (bt104.1.size : Int) = 64 then (if 0 ≤ 11 then (if 11 ≤ (bt104.1.size : Int) then (some ((bt104.1.extract 0 11).toList == ([0, 0, 0, 0, 0, 1, 0, 2, 2, 97, 98] : List UInt8))) else (none)) else (none)) else (some false)) else (some false))) = some r := h
  clear h
  replace H := Option.bind_eq_some_iff.mp H
  obtain ⟨⟨t104, t105⟩, A10, H⟩ := H
  replace H : (if t105 = 0 then (if (t104.size : Int) = 64 then (if 0 ≤ 11 then (if 11 ≤ (t104.size : Int) then (some ((t104.extract 0 11).toList == ([0, 0, 0, 0, 0, 1, 0, 2, 2, 97, 98] : List UInt8))) else (none)) else (none)) else (some false)) else (some false)) = some r := H
  have A1 := Aside0.mk A10
  clear A10
  by_cases c2 : t105 = 0
  · rw [if_pos c2] at H
    have c2b0 : (t105 == 0) = true := beq_iff_eq.mpr c2
    have c2b1 : (t105 != 0) = false := bne_eq_false_iff_eq.mpr c2
    clear c2
    by_cases c3 : (t104.size : Int) = 64
    · rw [if_pos c3] at H
      have c3b0 : ((t104.size : Int) == 64) = true := beq_iff_eq.mpr c3
      have c3b1 : ((t104.size : Int) != 64) = false := bne_eq_false_iff_eq.mpr c3
      clear c3
      by_cases c4 : 0 ≤ 11
      · rw [if_pos c4] at H
        have c4b0 := eq_true c4
        have c4b1 : decide (0 ≤ 11) = true := decide_eq_true c4
        clear c4
        by_cases c5 : 11 ≤ (t104.size : Int)
        · rw [if_pos c5] at H
          have c5b0 := eq_true c5
          have c5b1 : decide (11 ≤ (t104.size : Int)) = true := decide_eq_true c5
          clear c5
          obtain rfl := Option.some.inj H
          go_enter Try.func16, Try.ntmps16
          go_wp2_with (first | ((with_reducible refine gate_callee (f := 14) rfl ?_); refine goesL_ (some 5) rfl rfl Try.func14 (by kernel_rfl) rfl #[.agg #[.int .i64 1, .int .i64 2, .string (⟨#[97, 98]⟩ : ByteArray)]] rfl (by (try simp only [List.map_toArray, List.map_cons, List.map_nil]); first | done | rfl | (simp only [List.length_drop, List.length_take]; rfl)) ?_; (with_reducible refine (area_Make.calls 1 2 (⟨#[97, 98]⟩ : ByteArray) t104 t105 _ A1.out).mono ?_); rintro e w6 ⟨rfl, hb⟩; refine ⟨_, rfl, ?_⟩; have n0_ := Aside0.mk (below_step (by repeat (first | (with_reducible first | exact HB.out | apply below_alloc | apply pw_below_drewN | apply below_drew1) | exact HB.out)) hb); clear HB; have HB := n0_; clear n0_; (try clear hb); (try clear hb2); (try clear hk); (try clear hi)))
          go_ret
          exact ⟨by first | rfl | (simp [errW_none, errW_some] <;> rfl) | (simp [*, errW_none, errW_some] <;> rfl), by repeat (first | (with_reducible first | exact HB.out | apply below_alloc | apply pw_below_drewN | apply below_drew1) | exact HB.out)⟩
        · rw [if_neg c5] at H
          exact absurd H (by simp)
      · rw [if_neg c4] at H
        exact absurd H (by simp)
    · rw [if_neg c3] at H
      have c3b0 : ((t104.size : Int) == 64) = false := beq_eq_false_iff_ne.mpr c3
      have c3b1 : ((t104.size : Int) != 64) = true := bne_iff_ne.mpr c3
      obtain rfl := Option.some.inj H
      go_enter Try.func16, Try.ntmps16
      go_wp2_with (first | ((with_reducible refine gate_callee (f := 14) rfl ?_); refine goesL_ (some 5) rfl rfl Try.func14 (by kernel_rfl) rfl #[.agg #[.int .i64 1, .int .i64 2, .string (⟨#[97, 98]⟩ : ByteArray)]] rfl (by (try simp only [List.map_toArray, List.map_cons, List.map_nil]); first | done | rfl | (simp only [List.length_drop, List.length_take]; rfl)) ?_; (with_reducible refine (area_Make.calls 1 2 (⟨#[97, 98]⟩ : ByteArray) t104 t105 _ A1.out).mono ?_); rintro e w7 ⟨rfl, hb⟩; refine ⟨_, rfl, ?_⟩; have n0_ := Aside0.mk (below_step (by repeat (first | (with_reducible first | exact HB.out | apply below_alloc | apply pw_below_drewN | apply below_drew1) | exact HB.out)) hb); clear HB; have HB := n0_; clear n0_; (try clear hb); (try clear hb2); (try clear hk); (try clear hi)))
      go_ret
      exact ⟨by first | rfl | (simp [errW_none, errW_some] <;> rfl) | (simp [*, errW_none, errW_some] <;> rfl), by repeat (first | (with_reducible first | exact HB.out | apply below_alloc | apply pw_below_drewN | apply below_drew1) | exact HB.out)⟩
  · rw [if_neg c2] at H
    have c2b0 : (t105 == 0) = false := beq_eq_false_iff_ne.mpr c2
    have c2b1 : (t105 != 0) = true := bne_iff_ne.mpr c2
    obtain rfl := Option.some.inj H
    go_enter Try.func16, Try.ntmps16
    go_wp2_with (first | ((with_reducible refine gate_callee (f := 14) rfl ?_); refine goesL_ (some 5) rfl rfl Try.func14 (by kernel_rfl) rfl #[.agg #[.int .i64 1, .int .i64 2, .string (⟨#[97, 98]⟩ : ByteArray)]] rfl (by (try simp only [List.map_toArray, List.map_cons, List.map_nil]); first | done | rfl | (simp only [List.length_drop, List.length_take]; rfl)) ?_; (with_reducible refine (area_Make.calls 1 2 (⟨#[97, 98]⟩ : ByteArray) t104 t105 _ A1.out).mono ?_); rintro e w8 ⟨rfl, hb⟩; refine ⟨_, rfl, ?_⟩; have n0_ := Aside0.mk (below_step (by repeat (first | (with_reducible first | exact HB.out | apply below_alloc | apply pw_below_drewN | apply below_drew1) | exact HB.out)) hb); clear HB; have HB := n0_; clear n0_; (try clear hb); (try clear hb2); (try clear hk); (try clear hi)))
    go_ret
    exact ⟨by first | rfl | (simp [errW_none, errW_some] <;> rfl) | (simp [*, errW_none, errW_some] <;> rfl), by repeat (first | (with_reducible first | exact HB.out | apply below_alloc | apply pw_below_drewN | apply below_drew1) | exact HB.out)⟩

/-! ### area_Split: function 17 -/
def area_Split.l0 : Nat → Int → Int → ByteArray → List ByteArray → Bool → Option (List ByteArray × Int)
  | 0, _, _, _, _, _ => none
  | k + 1, x0, x1, x2, x8, x9 => if x9 = true then (some (x8, 0)) else (if 0 ≤ (mn 55 (x2.size : Int)) then (if (mn 55 (x2.size : Int)) ≤ (x2.size : Int) then ((area_Make.f x0 x1 (x2.extract 0 ((mn 55 (x2.size : Int)) : Int).toNat)).bind fun bt107 => (if x8.length < 8796093022208 then (area_Split.l0 k x0 (wrap64 (x1 + 1)) (x2.extract ((mn 55 (x2.size : Int)) : Int).toNat x2.size) (x8 ++ [bt107.1]) (decide ((mn 55 (x2.size : Int)) < 55))) else (none))) else (none)) else (none))
def area_Split.f (k : Nat) (a0 : Int) (a1 : Int) (a2 : ByteArray) : Option (List ByteArray × Int) := (area_good.f a0 a1).bind fun t106 => (if t106 = true then (if (wrap64 ((a2.size : Int) / 55)) > (wrap64 (65535 - a1)) then (some (([] : List ByteArray), 5)) else (area_Split.l0 k a0 a1 a2 ([] : List ByteArray) false)) else (some (([] : List ByteArray), 2)))
theorem area_Split.mono_l : ∀ k, (∀ y0 y1 y2 y3 y4, LeO (area_Split.l0 k y0 y1 y2 y3 y4) (area_Split.l0 (k + 1) y0 y1 y2 y3 y4))
  | 0 => fun _ _ _ _ _ r h => by simp [area_Split.l0] at h
  | k + 1 => by
    have ih0 := area_Split.mono_l k
    · intro y0 y1 y2 y3 y4
      unfold area_Split.l0
      repeat' first
      | (with_reducible exact ih0 _ _ _ _ _)
      | (with_reducible exact LeO.refl _)
      | (with_reducible exact LeO.none _)
      | (with_reducible refine LeO.ite ?_ ?_)
      | (with_reducible refine LeO.bind ?_ (fun _ => ?_))
      | exact ih0 _ _ _ _ _
      | exact LeO.none _
      | refine LeO.ite ?_ ?_
      | refine LeO.bind ?_ (fun _ => ?_)
theorem area_Split.mono : ∀ a0 a1 a2 k, LeO (area_Split.f k a0 a1 a2) (area_Split.f (k + 1) a0 a1 a2) := by
  intro a0 a1 a2 k
  have ih0 := area_Split.mono_l k
  unfold area_Split.f
  repeat' first
      | (with_reducible exact ih0 _ _ _ _ _)
      | (with_reducible exact LeO.refl _)
      | (with_reducible exact LeO.none _)
      | (with_reducible refine LeO.ite ?_ ?_)
      | (with_reducible refine LeO.bind ?_ (fun _ => ?_))
      | exact ih0 _ _ _ _ _
      | exact LeO.none _
      | refine LeO.ite ?_ ?_
      | refine LeO.bind ?_ (fun _ => ?_)
def area_Split.T12 : Bool × List (List Nat × List Nat) := (true, [([], []), ([], []), ([1], [1]), ([0, 2], [0, 2]), ([], []), ([], []), ([4, 5], [4, 5]), ([3, 3, 0, 1, 2, 3], [0, 3]), ([6, 7, 0, 1, 2, 3, 4, 5, 6, 7], [4, 6])])
def area_Split.B12 : List Nat := [0, 0, 2, 7, 0, 0, 48, 15, 255]
theorem area_Split.tab12 : rtab .any (opsOf Try.f17 12) = area_Split.T12 := by kernel_rfl
theorem area_Split.bits12 : waitsOk area_Split.T12.2 area_Split.B12 = true := by kernel_rfl
set_option maxHeartbeats 8000000 in
set_option maxRecDepth 100000 in
theorem area_Split.calls (k : Nat) (a0 : Int) (a1 : Int) (a2 : ByteArray) (r1 : List ByteArray) (r2 : Int) (w : World) (h : area_Split.f k a0 a1 a2 = some (r1, r2)) :
    Calls Try.prog 17 #[.int .i64 a0, .int .i64 a1, .string a2] w fun e w' => ∃ v0_ : Value, e = .returned (.tuple #[v0_, .int .i64 r2]) ∧ Kd.R Kd.string 9 w' w.heap.size (fun _ => True) v0_ r1 ∧ Below w.heap.size w w' := by
  have hu29 := Try.underlying29
  have HB := Aside0.mk (Below.refl w.heap.size w)
  have H : ((area_good.f a0 a1).bind fun t106 => (if t106 = true then (if (wrap64 ((a2.size : Int) / 55)) > (wrap64 (65535 - a1)) then (some (([] : List ByteArray), 5)) else (area_Split.l0 k a0 a1 a2 ([] : List ByteArray) false)) else (some (([] : List ByteArray), 2)))) = some (r1, r2) := h
  clear h
  replace H := Option.bind_eq_some_iff.mp H
  obtain ⟨t106, A40, H⟩ := H
  replace H : (if t106 = true then (if (wrap64 ((a2.size : Int) / 55)) > (wrap64 (65535 - a1)) then (some (([] : List ByteArray), 5)) else (area_Split.l0 k a0 a1 a2 ([] : List ByteArray) false)) else (some (([] : List ByteArray), 2))) = some (r1, r2) := H
  have A4 := Aside0.mk A40
  clear A40
  by_cases c5 : t106 = true
  · subst c5
    have H1 : (if (wrap64 ((a2.size : Int) / 55)) > (wrap64 (65535 - a1)) then (some (([] : List ByteArray), 5)) else (area_Split.l0 k a0 a1 a2 ([] : List ByteArray) false)) = some (r1, r2) := by rw [if_pos rfl] at H; exact H
    clear H
    have H := H1
    clear H1
    by_cases c6 : (wrap64 ((a2.size : Int) / 55)) > (wrap64 (65535 - a1))
    · rw [if_pos c6] at H
      have c6b0 : decide ((wrap64 (65535 - a1)) < (wrap64 ((a2.size : Int) / 55))) = true := decide_eq_true c6
      clear c6
      simp only [Option.some.injEq, Prod.mk.injEq] at H
      obtain ⟨rfl, rfl⟩ := H
      go_enter Try.func17, Try.ntmps17
      go_wp2_with (first | ((with_reducible refine gate_callee (f := 38) rfl ?_); refine goesL_ (some 16) rfl rfl Try.func38 (by kernel_rfl) rfl #[.int .i64 a0, .int .i64 a1] rfl (by (try simp only [List.map_toArray, List.map_cons, List.map_nil]); first | done | rfl | (simp only [List.length_drop, List.length_take]; rfl)) ?_; (with_reducible refine (area_good.calls a0 a1 true _ A4.out).mono ?_); rintro e w' ⟨rfl, ⟨nd, rfl⟩⟩; refine ⟨_, rfl, ?_⟩))
      go_ret2
      exact ⟨_, by first | rfl | (simp [errW_none, errW_some] <;> rfl) | (simp [*, errW_none, errW_some] <;> rfl), by first | exact Kd.R_nil _ _ _ _ _ | exact Kd.N_nil _ _ _ _ _ | exact Kd.V_nil _ _ _ _ _ | exact Kd.Q_nil _ _ _ _ _ | exact Kd.S_nil _ _ _ _ _, by repeat (first | (with_reducible first | exact HB.out | apply below_alloc | apply pw_below_drewN | apply below_drew1) | exact HB.out)⟩
    · rw [if_neg c6] at H
      have c6b0 : decide ((wrap64 (65535 - a1)) < (wrap64 ((a2.size : Int) / 55))) = false := decide_eq_false c6
      clear c6
      have H' := Aside0.mk H
      clear H
      go_enter Try.func17, Try.ntmps17
      go_wp2_with (first | ((with_reducible refine gate_callee (f := 38) rfl ?_); refine goesL_ (some 16) rfl rfl Try.func38 (by kernel_rfl) rfl #[.int .i64 a0, .int .i64 a1] rfl (by (try simp only [List.map_toArray, List.map_cons, List.map_nil]); first | done | rfl | (simp only [List.length_drop, List.length_take]; rfl)) ?_; (with_reducible refine (area_good.calls a0 a1 true _ A4.out).mono ?_); rintro e w' ⟨rfl, ⟨nd, rfl⟩⟩; refine ⟨_, rfl, ?_⟩))
      go_loopg [1, 2, 8, 9] k (fun kq v1 v2 v8 v9 w' => ∃ (x1_1 : Int) (x2_1 : ByteArray) (x8_1 : List ByteArray) (x9_1 : Bool), v1 = .int .i64 x1_1 ∧ v2 = .string x2_1 ∧ v9 = .bool x9_1 ∧ Aside0 (area_Split.l0 kq a0 x1_1 x2_1 x8_1 x9_1 = some (r1, r2)) ∧ Aside0 (kq ≤ k) ∧ Aside0 (Kd.R Kd.string 9 w' w.heap.size (fun _ => True) v8 x8_1) ∧ Aside0 (Below w.heap.size w w'))
      case atStart => exact ⟨(a1), (a2), (([] : List ByteArray)), (false), (by first | rfl | (simp; done) | (simp [*]; done)), (by first | rfl | (simp; done) | (simp [*]; done)), (by first | rfl | (simp; done) | (simp [*]; done)), H', ⟨Nat.le_refl _⟩, ⟨by first | exact Kd.R_nil _ _ _ _ _ | exact Kd.N_nil _ _ _ _ _ | exact Kd.V_nil _ _ _ _ _ | exact Kd.Q_nil _ _ _ _ _ | exact Kd.S_nil _ _ _ _ _⟩, ⟨by repeat (first | (with_reducible first | exact HB.out | apply below_alloc | apply pw_below_drewN | apply below_drew1) | exact HB.out)⟩⟩
      case round =>
        clear H'
        try clear c1
        try clear p2
        try clear c3
        try clear c5
        try clear c6
        try clear c6b0
        try clear p6
        obtain ⟨x1_1, x2_1, x8_1, x9_1, rfl, rfl, rfl, HA, HK1, HO_8, HB⟩ := hrel
        cases gk with
        | zero => exact absurd HA.out (by simp [area_Split.l0])
        | succ k1 =>
          have H := HA.out
          clear HA
          simp only [area_Split.l0] at H
          by_cases c7 : x9_1 = true
          · subst c7
            have H1 : (some (x8_1, 0)) = some (r1, r2) := by rw [if_pos rfl] at H; exact H
            clear H
            have H := H1
            clear H1
            simp only [Option.some.injEq, Prod.mk.injEq] at H
            obtain ⟨rfl, rfl⟩ := H
            go_wp2
            go_ret2
            exact ⟨_, by first | rfl | (simp [errW_none, errW_some] <;> rfl) | (simp [*, errW_none, errW_some] <;> rfl), by (with_reducible repeat (first | apply Kd.R_alloc | apply Kd.R_drewN | apply Kd.R_drew)); exact HO_8.out, by repeat (first | (with_reducible first | exact HB.out | apply below_alloc | apply pw_below_drewN | apply below_drew1) | exact HB.out)⟩
          · replace c7 := Bool.eq_false_iff.mpr c7
            subst c7
            have H1 : (if 0 ≤ (mn 55 (x2_1.size : Int)) then (if (mn 55 (x2_1.size : Int)) ≤ (x2_1.size : Int) then ((area_Make.f a0 x1_1 (x2_1.extract 0 ((mn 55 (x2_1.size : Int)) : Int).toNat)).bind fun bt107 => (if x8_1.length < 8796093022208 then (area_Split.l0 k1 a0 (wrap64 (x1_1 + 1)) (x2_1.extract ((mn 55 (x2_1.size : Int)) : Int).toNat x2_1.size) (x8_1 ++ [bt107.1]) (decide ((mn 55 (x2_1.size : Int)) < 55))) else (none))) else (none)) else (none)) = some (r1, r2) := by rw [if_neg (show ¬ (false = true) by decide)] at H; exact H
            clear H
            have H := H1
            clear H1
            obtain ⟨ji8, hji8⟩ : ∃ j_ : Int, (mn 55 (x2_1.size : Int)) = j_ := ⟨_, rfl⟩
            replace H : (if 0 ≤ (ji8) then (if (ji8) ≤ (x2_1.size : Int) then ((area_Make.f a0 x1_1 (x2_1.extract 0 ((ji8) : Int).toNat)).bind fun bt107 => (if x8_1.length < 8796093022208 then (area_Split.l0 k1 a0 (wrap64 (x1_1 + 1)) (x2_1.extract ((ji8) : Int).toNat x2_1.size) (x8_1 ++ [bt107.1]) (decide ((ji8) < 55))) else (none))) else (none)) else (none)) = some (r1, r2) := by first | (rw [hji8] at H; exact H) | (simp only [hji8] at H ⊢; exact H)
            have hji8_ : (if (x2_1.size : Int) < 55 then (x2_1.size : Int) else 55) = ji8 := hji8
            by_cases c9 : 0 ≤ (ji8)
            · rw [if_pos c9] at H
              have c9b0 := eq_true c9
              have c9b1 : decide (0 ≤ (ji8)) = true := decide_eq_true c9
              clear c9
              by_cases c10 : (ji8) ≤ (x2_1.size : Int)
              · rw [if_pos c10] at H
                have c10b0 := eq_true c10
                have c10b1 : decide ((ji8) ≤ (x2_1.size : Int)) = true := decide_eq_true c10
                clear c10
                replace H := Option.bind_eq_some_iff.mp H
                obtain ⟨⟨t107, t108⟩, A110, H⟩ := H
                replace H : (if x8_1.length < 8796093022208 then (area_Split.l0 k1 a0 (wrap64 (x1_1 + 1)) (x2_1.extract ((ji8) : Int).toNat x2_1.size) (x8_1 ++ [t107]) (decide ((ji8) < 55))) else (none)) = some (r1, r2) := H
                have A11 := Aside0.mk A110
                clear A110
                by_cases c12 : x8_1.length < 8796093022208
                · rw [if_pos c12] at H
                  have LMc12 := Aside0.mk c12
                  clear c12
                  obtain ⟨y109, hy109⟩ : ∃ y_ : List ByteArray, y_ = (x8_1 ++ [t107]) := ⟨_, rfl⟩
                  replace H : (area_Split.l0 k1 a0 (wrap64 (x1_1 + 1)) (x2_1.extract ((ji8) : Int).toNat x2_1.size) y109 (decide ((ji8) < 55))) = some (r1, r2) := by first | (rw [hy109]; with_reducible exact H) | (have H2_ := (Option.bind_some _ _).symm.trans H; rw [hy109]; with_reducible exact H2_) | (have H2_ := (Option.bind_some _ _).symm.trans H; with_reducible exact H2_) | with_reducible exact H | (rw [hy109]; exact H) | exact H
                  have Ny109 := Aside0.mk hy109
                  clear hy109
                  have c13b0 := eq_true (of_decide_eq_true (by first | (with_reducible assumption) | assumption) : 0 ≤ (ji8))
                  have c14b0 := eq_true (of_decide_eq_true (by first | (with_reducible assumption) | assumption) : (ji8) ≤ (x2_1.size : Int))
                  have H' := Aside0.mk H
                  clear H
                  try go_wp2_with (first | ((with_reducible refine gate_callee (f := 14) rfl ?_); refine goesL_ (some 41) rfl rfl Try.func14 (by kernel_rfl) rfl #[.agg #[.int .i64 a0, .int .i64 x1_1, .string (x2_1.extract 0 ((ji8) : Int).toNat)]] rfl (by (try simp only [List.map_toArray, List.map_cons, List.map_nil]); first | done | (simp only [hji8]; rfl) | rfl | (simp only [List.length_drop, List.length_take]; rfl)) ?_; (with_reducible refine (area_Make.calls a0 x1_1 (x2_1.extract 0 ((ji8) : Int).toNat) t107 t108 _ A11.out).mono ?_); rintro e w15 ⟨rfl, hb⟩; refine ⟨_, rfl, ?_⟩; have n0_ := Aside0.mk (Kd.R_below (by (with_reducible repeat (first | apply Kd.R_alloc | apply Kd.R_drewN | apply Kd.R_drew)); exact HO_8.out) hb); have n1_ := Aside0.mk (below_step (by repeat (first | (with_reducible first | exact HB.out | apply below_alloc | apply pw_below_drewN | apply below_drew1) | exact HB.out)) hb); clear HO_8; clear HB; have HO_8 := n0_; have HB := n1_; clear n0_ n1_; (try clear hb); (try clear hb2); (try clear hk); (try clear hi)))
                  have n0_ := Aside0.mk (Kd.R_drew HO_8.out)
                  have n1_ := Aside0.mk (below_drew1 HB.out)
                  clear HO_8
                  clear HB
                  have HO_8 := n0_
                  have HB := n1_
                  clear n0_ n1_
                  refine start_ (n := 9) (S := fun w' => True) (ds := []) #[false, false, false, false, false, false, false, false, false] (by kernel_rfl) rfl rfl trivial (fun hHeld => ?_); refine with_tabW area_Split.tab12 area_Split.bits12 (fun HT_ HW_ => ?_)
                  generalize w15.drew = w16 at HO_8 HB hHeld ⊢
                  refine pure_ (i := 0) (N := some 44) (v := ?_) (a' := ?_) #[true, false, false, false, false, false, false, false, false] rfl rfl (any_of HT_.out (by kernel_rfl)) (fun _ _ _ h => h) (Or.inl ⟨by rfl, ?_⟩) ?_ ?_
                  rotate_left
                  · intro w'
                    go_simp
                    with_reducible rfl
                  rotate_left
                  · simp only [Act.put, List.setIfInBounds_toArray, List.set_cons_zero, List.set_cons_succ, i64_w, i32_w]
                    rfl
                  refine pure_ (i := 1) (N := some 45) (v := ?_) (a' := ?_) #[true, true, false, false, false, false, false, false, false] rfl rfl (any_of HT_.out (by kernel_rfl)) (fun _ _ _ h => h) (Or.inl ⟨by rfl, ?_⟩) ?_ ?_
                  rotate_left
                  · intro w'
                    go_simp
                    with_reducible rfl
                  rotate_left
                  · simp only [Act.put, List.setIfInBounds_toArray, List.set_cons_zero, List.set_cons_succ, i64_w, i32_w]
                    rfl
                  refine pure_ (i := 4) (N := some 48) (v := ?_) (a' := ?_) #[true, true, false, false, true, false, false, false, false] rfl rfl (any_of HT_.out (by kernel_rfl)) (fun _ _ _ h => h) (Or.inl ⟨by rfl, ?_⟩) ?_ ?_
                  rotate_left
                  · intro w'
                    go_simp
                    with_reducible rfl
                  rotate_left
                  · simp only [Act.put, List.setIfInBounds_toArray, List.set_cons_zero, List.set_cons_succ, i64_w, i32_w]
                    rfl
                  refine pure_ (i := 5) (N := some 49) (v := ?_) (a' := ?_) #[true, true, false, false, true, true, false, false, false] rfl rfl (any_of HT_.out (by kernel_rfl)) (fun _ _ _ h => h) (Or.inl ⟨by rfl, ?_⟩) ?_ ?_
                  rotate_left
                  · intro w'
                    go_simp
                    with_reducible rfl
                  rotate_left
                  · simp only [Act.put, List.setIfInBounds_toArray, List.set_cons_zero, List.set_cons_succ, i64_w, i32_w]
                    rfl
                  refine pure_ (i := 6) (N := some 50) (v := ?_) (a' := ?_) #[true, true, false, false, true, true, true, false, false] rfl rfl (any_of HT_.out (by kernel_rfl)) (fun _ _ _ h => h) (Or.inl ⟨by rfl, ?_⟩) ?_ ?_
                  rotate_left
                  · intro w'
                    go_simp
                    with_reducible rfl
                  rotate_left
                  · simp only [Act.put, List.setIfInBounds_toArray, List.set_cons_zero, List.set_cons_succ, i64_w, i32_w]
                    rfl
                  refine one_ (i := 2) (N := some 46) #[true, true, true, false, true, true, true, false, false] rfl rfl (one_of HT_.out (by kernel_rfl)) (by decide) (fun K hK => ?_)
                  refine value_ (w1 := ?_) (v := ?_) (by rfl) rfl ?_ ?_
                  rotate_left 2
                  · go_simp
                    constructor
                    · rfl
                    · rfl
                  refine hK.out _ _ trivial (fun hHeld => ?_)
                  clear hK K
                  refine norm_ (a' := ?_) ?_ ?_
                  rotate_left
                  · show Act.put _ (some 46) _ = _
                    simp only [Act.put, List.setIfInBounds_toArray, List.set_cons_zero, List.set_cons_succ, i64_w, i32_w]
                    rfl
                  refine one_ (i := 3) (N := some 47) #[true, true, true, true, true, true, true, false, false] rfl rfl (one_of HT_.out (by kernel_rfl)) (by decide) (fun K hK => ?_)
                  refine Kd.R_append_step Kd.string (w0 := w) w.heap.size (by rfl) (.tmp 44) (.tmp 46) 35 9 (.string ⟨#[]⟩) 16 rfl Try.underlying35 info9 rfl (by decide) (by omega) u8 x8_1 t107 [.string t107] (fun _ => True) (fun _ => False) rfl rfl ?aP (fun _ hk => hk.elim) ?aF ?aO ?aB ?aS ?aL ?_
                  (case aP => exact rfl)
                  (case aB => exact (by repeat (first | (with_reducible first | exact HB.out | apply below_alloc | apply pw_below_drewN | apply below_drew1) | exact HB.out)))
                  (case aF => exact (fun _ _ => trivial))
                  (case aO => exact (by (with_reducible repeat (first | apply Kd.R_alloc | apply Kd.R_drewN | apply Kd.R_drew)); exact HO_8.out))
                  (case aS => exact (below_size (by repeat (first | (with_reducible first | exact HB.out | apply below_alloc | apply pw_below_drewN | apply below_drew1) | exact HB.out))))
                  (case aL => have := LMc12.out; omega)
                  intro v110 w17 ho hb hg hat
                  rw [← Ny109.out] at ho
                  have n0_ := Aside0.mk (hb)
                  have n1_ := Aside0.mk (ho)
                  clear HB
                  clear HO_8
                  have HB := n0_
                  have HO111 := n1_
                  clear n0_ n1_
                  clear ho hb hg hat
                  refine hK.out _ _ trivial (fun hHeld => ?_)
                  clear hK K
                  refine norm_ (a' := ?_) ?_ ?_
                  rotate_left
                  · show Act.put _ (some 47) _ = _
                    simp only [Act.put, List.setIfInBounds_toArray, List.set_cons_zero, List.set_cons_succ, i64_w, i32_w]
                    rfl
                  refine pure_ (i := 7) (N := some 8) (v := ?_) (a' := ?_) #[true, true, true, true, true, true, true, true, false] rfl rfl (any_of HT_.out (by kernel_rfl)) (fun _ _ _ h => h) (Or.inl ⟨by rfl, ?_⟩) ?_ ?_
                  rotate_left
                  · intro w'
                    go_simp
                    with_reducible rfl
                  rotate_left
                  · simp only [Act.put, List.setIfInBounds_toArray, List.set_cons_zero, List.set_cons_succ, i64_w, i32_w]
                    rfl
                  refine pure_ (i := 8) (N := some 2) (v := ?_) (a' := ?_) #[true, true, true, true, true, true, true, true, true] rfl rfl (any_of HT_.out (by kernel_rfl)) (fun _ _ _ h => h) (Or.inl ⟨by rfl, ?_⟩) ?_ ?_
                  rotate_left
                  · intro w'
                    go_simp
                    with_reducible rfl
                  rotate_left
                  · simp only [Act.put, List.setIfInBounds_toArray, List.set_cons_zero, List.set_cons_succ, i64_w, i32_w]
                    rfl
                  refine done_ (done_of HT_.out (by kernel_rfl)) ?_
                  try go_wp2
                  go_roundg k1
                  case measure => have := HK1.out; omega
                  case rel => exact ⟨(wrap64 (x1_1 + 1)), (x2_1.extract ((ji8) : Int).toNat x2_1.size), (y109), (decide ((ji8) < 55)), (by first | rfl | (simp; done) | (simp [*]; done)), (by first | rfl | (simp; done) | (simp only [← hji8] <;> (first | rfl | simp)) | (simp [*]; done)), (by first | rfl | (simp; done) | (simp only [← hji8] <;> (first | rfl | simp)) | (simp [*]; done)), H', ⟨by have := HK1.out; omega⟩, ⟨by (with_reducible repeat (first | apply Kd.R_alloc | apply Kd.R_drewN | apply Kd.R_drew)); exact HO111.out⟩, ⟨by repeat (first | (with_reducible first | exact HB.out | apply below_alloc | apply pw_below_drewN | apply below_drew1) | exact HB.out)⟩⟩
                · rw [if_neg c12] at H
                  exact absurd H (by simp)
              · rw [if_neg c10] at H
                exact absurd H (by simp)
            · rw [if_neg c9] at H
              exact absurd H (by simp)
  · replace c5 := Bool.eq_false_iff.mpr c5
    subst c5
    have H1 : (some (([] : List ByteArray), 2)) = some (r1, r2) := by rw [if_neg (show ¬ (false = true) by decide)] at H; exact H
    clear H
    have H := H1
    clear H1
    simp only [Option.some.injEq, Prod.mk.injEq] at H
    obtain ⟨rfl, rfl⟩ := H
    go_enter Try.func17, Try.ntmps17
    go_wp2_with (first | ((with_reducible refine gate_callee (f := 38) rfl ?_); refine goesL_ (some 16) rfl rfl Try.func38 (by kernel_rfl) rfl #[.int .i64 a0, .int .i64 a1] rfl (by (try simp only [List.map_toArray, List.map_cons, List.map_nil]); first | done | rfl | (simp only [List.length_drop, List.length_take]; rfl)) ?_; (with_reducible refine (area_good.calls a0 a1 false _ A4.out).mono ?_); rintro e w' ⟨rfl, ⟨nd, rfl⟩⟩; refine ⟨_, rfl, ?_⟩))
    go_ret2
    exact ⟨_, by first | rfl | (simp [errW_none, errW_some] <;> rfl) | (simp [*, errW_none, errW_some] <;> rfl), by first | exact Kd.R_nil _ _ _ _ _ | exact Kd.N_nil _ _ _ _ _ | exact Kd.V_nil _ _ _ _ _ | exact Kd.Q_nil _ _ _ _ _ | exact Kd.S_nil _ _ _ _ _, by repeat (first | (with_reducible first | exact HB.out | apply below_alloc | apply pw_below_drewN | apply below_drew1) | exact HB.out)⟩

/-! ### precinctref01_Put: function 40 -/
def precinctref01_Put.l0 : Nat → Int → Int → ByteArray → Int → Option (ByteArray)
  | 0, _, _, _, _ => none
  | k + 1, x0, x1, x5, x6 => if x6 < x0 then (if x6 < 8 then ((some (([(Int.tmod x1 256) % 256] : List Int) : List Int)).bind fun y112 => (if (strOfNums y112).size + x5.size ≤ 9223372036854775807 then (precinctref01_Put.l0 k x0 (IntKind.u64.wrap (Int.tdiv x1 256)) ((strOfNums y112) ++ x5) (wrap64 (x6 + 1))) else (none))) else (some x5)) else (some x5)
def precinctref01_Put.f (k : Nat) (a0 : Int) (a1 : Int) : Option (ByteArray) := precinctref01_Put.l0 k a0 a1 (⟨#[]⟩ : ByteArray) 0
theorem precinctref01_Put.mono_l : ∀ k, (∀ y0 y1 y2 y3, LeO (precinctref01_Put.l0 k y0 y1 y2 y3) (precinctref01_Put.l0 (k + 1) y0 y1 y2 y3))
  | 0 => fun _ _ _ _ r h => by simp [precinctref01_Put.l0] at h
  | k + 1 => by
    have ih0 := precinctref01_Put.mono_l k
    · intro y0 y1 y2 y3
      unfold precinctref01_Put.l0
      repeat' first
      | (with_reducible exact ih0 _ _ _ _)
      | (with_reducible exact LeO.refl _)
      | (with_reducible exact LeO.none _)
      | (with_reducible refine LeO.ite ?_ ?_)
      | (with_reducible refine LeO.bind ?_ (fun _ => ?_))
      | exact ih0 _ _ _ _
      | exact LeO.none _
      | refine LeO.ite ?_ ?_
      | refine LeO.bind ?_ (fun _ => ?_)
theorem precinctref01_Put.mono : ∀ a0 a1 k, LeO (precinctref01_Put.f k a0 a1) (precinctref01_Put.f (k + 1) a0 a1) := by
  intro a0 a1 k
  have ih0 := precinctref01_Put.mono_l k
  unfold precinctref01_Put.f
  repeat' first
      | (with_reducible exact ih0 _ _ _ _)
      | (with_reducible exact LeO.refl _)
      | (with_reducible exact LeO.none _)
      | (with_reducible refine LeO.ite ?_ ?_)
      | (with_reducible refine LeO.bind ?_ (fun _ => ?_))
      | exact ih0 _ _ _ _
      | exact LeO.none _
      | refine LeO.ite ?_ ?_
      | refine LeO.bind ?_ (fun _ => ?_)
set_option maxHeartbeats 8000000 in
set_option maxRecDepth 100000 in
theorem precinctref01_Put.calls (k : Nat) (a0 : Int) (a1 : Int) (r : ByteArray) (w : World) (h : precinctref01_Put.f k a0 a1 = some r) :
    Calls Try.prog 40 #[.int .i64 a0, .int .u64 a1] w fun e w' => e = .returned (.string r) ∧ Below w.heap.size w w' := by
  have HB := Aside0.mk (Below.refl w.heap.size w)
  have H : (precinctref01_Put.l0 k a0 a1 (⟨#[]⟩ : ByteArray) 0) = some r := h
  clear h
  have H' := Aside0.mk H
  clear H
  go_enter Try.func40, Try.ntmps40
  go_wp2
  go_loopg [1, 5, 6] k (fun kq v1 v5 v6 w' => ∃ (x1_1 : Int) (x5_1 : ByteArray) (x6_1 : Int), v1 = .int .u64 x1_1 ∧ v5 = .string x5_1 ∧ v6 = .int .i64 x6_1 ∧ Aside0 (precinctref01_Put.l0 kq a0 x1_1 x5_1 x6_1 = some r) ∧ Aside0 (kq ≤ k) ∧ Aside0 (Below w.heap.size w w'))
  case atStart => exact ⟨(a1), ((⟨#[]⟩ : ByteArray)), (0), (by first | rfl | (simp; done) | (simp [*]; done)), (by first | rfl | (simp; done) | (simp [*]; done)), (by first | rfl | (simp; done) | (simp [*]; done)), H', ⟨Nat.le_refl _⟩, ⟨by repeat (first | (with_reducible first | exact HB.out | apply below_alloc | apply pw_below_drewN | apply below_drew1) | exact HB.out)⟩⟩
  case round =>
    clear H'
    try clear p2
    obtain ⟨x1_1, x5_1, x6_1, rfl, rfl, rfl, HA, HK1, HB⟩ := hrel
    cases gk with
    | zero => exact absurd HA.out (by simp [precinctref01_Put.l0])
    | succ k1 =>
      have H := HA.out
      clear HA
      simp only [precinctref01_Put.l0] at H
      by_cases c3 : x6_1 < a0
      · rw [if_pos c3] at H
        have c3b0 : decide (x6_1 < a0) = true := decide_eq_true c3
        clear c3
        by_cases c4 : x6_1 < 8
        · rw [if_pos c4] at H
          have c4b0 : decide (x6_1 < 8) = true := decide_eq_true c4
          clear c4
          obtain ⟨y112, hy112⟩ : ∃ y_ : List Int, y_ = (([(Int.tmod x1_1 256) % 256] : List Int)) := ⟨_, rfl⟩
          replace H : (if (strOfNums y112).size + x5_1.size ≤ 9223372036854775807 then (precinctref01_Put.l0 k1 a0 (IntKind.u64.wrap (Int.tdiv x1_1 256)) ((strOfNums y112) ++ x5_1) (wrap64 (x6_1 + 1))) else (none)) = some r := by first | (rw [hy112]; with_reducible exact H) | (have H2_ := (Option.bind_some _ _).symm.trans H; rw [hy112]; with_reducible exact H2_) | (have H2_ := (Option.bind_some _ _).symm.trans H; with_reducible exact H2_) | with_reducible exact H | (rw [hy112]; exact H) | exact H
          have Ny112 := Aside0.mk hy112
          clear hy112
          by_cases c5 : (strOfNums y112).size + x5_1.size ≤ 9223372036854775807
          · rw [if_pos c5] at H
            have c5b0 := eq_true c5
            have c5b1 : decide ((strOfNums y112).size + x5_1.size ≤ 9223372036854775807) = true := decide_eq_true c5
            try have c5b2 : (9223372036854775807 < (strOfNums y112).size + x5_1.size) = False := eq_false (Nat.not_lt.2 c5)
            have H' := Aside0.mk H
            clear H
            go_wp2_with (first | ((with_reducible refine gate_dst (N := 19) rfl ?_); refine Kd.R_lit (Kd.int .u8) _ 5 ?hg (N := 19) ?hd (xs := ([(Int.tmod x1_1 256) % 256] : List Int)) (inner := [.int .u8 ((Int.tmod x1_1 256) % 256)]) (ok := fun _ => True) (okp := fun _ => True) ?hr ?hp (fun _ hk => hk) trivial (Below.refl _ _) (Nat.le_refl _) (by simp) ?_; (case hd => rfl); (case hg => rfl); (case hr => first | (go_simp; done) | (go_simp; rfl)); (case hp => exact (Reps.one (show Kd.M (Kd.int .u8) _ _ _ ((Int.tmod x1_1 256) % 256) [.int .u8 ((Int.tmod x1_1 256) % 256)] from rfl) (Reps.none _ _))); intro v113 w6 ho7 hb hg_ hnew_; clear hg_ hnew_; (first | rw [← Ny112.out] at ho7 | (simp only [Int.reduceToNat] at ho7; rw [← Ny112.out] at ho7)); have n0_ := Aside0.mk (Kd.R_lower ho7 (below_size (by repeat (first | (with_reducible first | exact HB.out | apply below_alloc | apply pw_below_drewN | apply below_drew1) | exact HB.out)))); have n1_ := Aside0.mk (below_step (by repeat (first | (with_reducible first | exact HB.out | apply below_alloc | apply pw_below_drewN | apply below_drew1) | exact HB.out)) hb); clear HB; have HO114 := n0_; have HB := n1_; clear n0_ n1_; clear hb ho7; have hcv8 := own_string (P := Try.prog) Try.underlying56 Try.underlying5 Try.underlying9 (Kd.own_of_R HO114.out)))
            go_roundg k1
            case measure => have := HK1.out; omega
            case rel => exact ⟨(IntKind.u64.wrap (Int.tdiv x1_1 256)), ((strOfNums y112) ++ x5_1), (wrap64 (x6_1 + 1)), (by first | rfl | (simp; done) | (simp [*]; done)), (by first | rfl | (simp; done) | (simp [*]; done)), (by first | rfl | (simp; done) | (simp [*]; done)), H', ⟨by have := HK1.out; omega⟩, ⟨by repeat (first | (with_reducible first | exact HB.out | apply below_alloc | apply pw_below_drewN | apply below_drew1) | exact HB.out)⟩⟩
          · rw [if_neg c5] at H
            exact absurd H (by simp)
        · rw [if_neg c4] at H
          have c4b0 : decide (x6_1 < 8) = false := decide_eq_false c4
          clear c4
          obtain rfl := Option.some.inj H
          go_wp2
          go_ret
          exact ⟨by first | rfl | (simp [errW_none, errW_some] <;> rfl) | (simp [*, errW_none, errW_some] <;> rfl), by repeat (first | (with_reducible first | exact HB.out | apply below_alloc | apply pw_below_drewN | apply below_drew1) | exact HB.out)⟩
      · rw [if_neg c3] at H
        have c3b0 : decide (x6_1 < a0) = false := decide_eq_false c3
        clear c3
        obtain rfl := Option.some.inj H
        go_wp2
        go_ret
        exact ⟨by first | rfl | (simp [errW_none, errW_some] <;> rfl) | (simp [*, errW_none, errW_some] <;> rfl), by repeat (first | (with_reducible first | exact HB.out | apply below_alloc | apply pw_below_drewN | apply below_drew1) | exact HB.out)⟩

end Go.Proofs.Ytekpbpcfeopilaa.PAreaSp
