/- AreaLost: the law's walk. -/
import Derived.Test.YtekpbpcfeopilaaDoorLawBa
import Derived.Test.YtekpbpcfeopilaaDoorLost
namespace Go.Proofs.YtekpbpcfeopilaaDoor.LawLo
open Go Go.RowKit Go.Proofs.YtekpbpcfeopilaaDoorCore Go.Proofs.YtekpbpcfeopilaaDoor.Pars Go.Proofs.YtekpbpcfeopilaaDoor.LawPa Go.Proofs.YtekpbpcfeopilaaDoor.Join Go.Proofs.YtekpbpcfeopilaaDoor.Areas Go.Proofs.YtekpbpcfeopilaaDoor.Back Go.Proofs.YtekpbpcfeopilaaDoor.LawJo Go.Proofs.YtekpbpcfeopilaaDoor.Lost Go.Proofs.YtekpbpcfeopilaaDoor.PAreas Go.Proofs.YtekpbpcfeopilaaDoorW.PrintWords Go.Proofs.YtekpbpcfeopilaaDoorW.PrintLast Go.Proofs.YtekpbpcfeopilaaDoorW.PrintMore
open Go.Proofs.YtekpbpcfeopilaaDoor.Amk (makeS makeE)
attribute [local go_sem] max2_int min2_int max_two min_two max_three min_three max_four min_four   -- for this text's walks alone

theorem info3 : (Tryd.prog.info? 3).map (fun i => (i.zero, i.size, i.bytes)) = some (some (.int .i64 0), 1, 8) := by kernel_rfl

/-- What the loop over the losses keeps. -/
structure Inv (g other : Int) (x : ByteArray) (L0 : List ByteArray) (m : Nat) (w0 : World) (base A : Nat) (c : Nat) (gk : Nat) (v8 v9 : Value) (wr : World) (k first : Nat) (L : List ByteArray) : Prop where
  le : k ≤ m
  slot : v9 = .int .i64 k
  slot8 : v8 = .int .i64 first
  ghost : gk + k = m
  inv : LInv g other x L0 L first
  row : Kd.R Kd.string 9 wr base (fun _ => True) (.slice (some ⟨A, 0, none⟩) L0.length c) L
  below : Below w0.heap.size w0 wr
  size : base ≤ wr.heap.size
def Rel (g other : Int) (x : ByteArray) (L0 : List ByteArray) (m : Nat) (w0 : World) (base A : Nat) (c : Nat) (gk : Nat) (v8 v9 : Value) (wr : World) : Prop := ∃ k first L, Inv g other x L0 m w0 base A c gk v8 v9 wr k first L

set_option maxHeartbeats 8000000 in
set_option maxRecDepth 100000 in
theorem law (gen gen2 : Int) (data : ByteArray) (A2 : Option Addr) (c2 : Nat) (l2 : List Int) (w : World) (hr2 : Kd.C (Kd.int .i64) w A2 l2.length l2) (hc2 : l2.length ≤ c2) (hw2 : ∀ n ∈ l2, -9223372036854775808 ≤ n ∧ n ≤ 9223372036854775807) :
    Calls Tryd.prog 6 #[.agg #[.int .i64 gen, .int .i64 gen2], .string data, .slice A2 l2.length c2] w fun e w' => e = .returned (.bool true) ∧ Below w.heap.size w w' := by
  obtain ⟨a, ha⟩ : ∃ a : Int, (if 281474976710655 < gen then 281474976710655 else gen) = a := ⟨_, rfl⟩
  obtain ⟨g, hg⟩ : ∃ g : Int, (if 1 < a then a else 1) = g := ⟨_, rfl⟩
  have hg1 : 1 ≤ g := by rw [← hg]; split <;> omega
  have hg2 : g ≤ 281474976710655 := by rw [← hg, ← ha]; (repeat' split) <;> omega
  have hmin : (if 5000 < (data.size : Int) then 5000 else (data.size : Int)) = ((min data.size 5000 : Nat) : Int) := by split <;> omega
  have hmin2 : (if 20 < (l2.length : Int) then 20 else (l2.length : Int)) = ((min l2.length 20 : Nat) : Int) := by split <;> omega
  obtain ⟨i0, hi, _, hsz, _⟩ := info_parts info3
  obtain ⟨hcut, hA, hC⟩ := print_take_of (P := Tryd.prog) (Value.int .i64) (0 : Int) 40 3 .i64 Tryd.underlying40 hi hsz A2 c2 l2 ((min l2.length 20 : Nat) : Int) (by omega) (by omega) hc2
  have hr3 := Kd.C_of_reads (h1 := fun _ => rfl) (hA w (Kd.reads_of_C hr2))
  rw [Int.toNat_natCast] at hcut hC hr3
  obtain ⟨l3, hl3⟩ : ∃ l3, l2.take (min l2.length 20) = l3 := ⟨_, rfl⟩
  rw [hl3] at hcut hC hr3
  have hlen3 : l3.length ≤ 20 := by rw [← hl3, List.length_take]; omega
  have HM3 : min l2.length 20 = l3.length := by rw [← hl3, List.length_take]; omega
  rw [HM3] at hmin2
  have hw3 : ∀ n ∈ l3, -9223372036854775808 ≤ n ∧ n ≤ 9223372036854775807 := by rw [← hl3]; exact fun n hn => hw2 n (List.mem_of_mem_take hn)
  have HW3 := Lib.hid hw3
  have HRB := Lib.hid hr3
  clear hr3 hl3 hA hw2 hw3 hr2 hi hsz HM3
  obtain ⟨other, hother⟩ : ∃ other : Int, g.tmod 281474976710655 + 1 = other := ⟨_, rfl⟩
  have htm : g.tmod 281474976710655 = g % 281474976710655 := Int.tmod_eq_emod_of_nonneg (by omega)
  have ho1 : 1 ≤ other := by omega
  have ho2 : other ≤ 281474976710655 := by omega
  have hone : other ≠ g := by omega
  rw [htm] at hother
  go_enter Tryd.func6, Tryd.ntmps6
  go_wp2_with fail
  have hx : (data.extract 0 (min data.size 5000)).size ≤ 5000 := by rw [ByteArray.size_extract]; omega
  generalize data.extract 0 (min data.size 5000) = x at hx ⊢
  obtain ⟨wa, hwa⟩ : ∃ wa, w.alloc (.cells #[.int .i64 gen, .int .i64 gen2] 39) = wa := ⟨_, rfl⟩
  have hba : Below w.heap.size w wa := by rw [← hwa]; exact (Below.refl _ _).alloc (Nat.le_refl _) _
  have hza : w.heap.size ≤ wa.heap.size := hba.size
  rw [hwa]
  clear hwa
  refine (LawBa.split_c g x _ hg1 hg2 (by omega)).mono ?_
  rintro e w1 ⟨A, c, rfl, hR1, hb1, hc1⟩
  have HR1 := Lib.hid hR1
  have HB1 := Lib.hid (hba.trans (hb1.mono hza))
  have hsz1 : w.heap.size ≤ w1.heap.size := Nat.le_trans hza hb1.size
  have hszb : wa.heap.size ≤ w1.heap.size := hb1.size
  have hL0 := splitL_len g (x.size / 55 + 1) 0 x (by omega)
  obtain ⟨L, hL⟩ : ∃ L, L = splitL g (x.size / 55 + 1) 0 x := ⟨_, rfl⟩
  rw [← hL] at hR1 HR1 hL0
  clear hR1 hb1 hba hmin ha hg htm
  have HL0 := Lib.hid hL0
  have HL := Lib.hid hL
  have hLb : L.length ≤ 100 := by rw [hL0]; omega
  clear hL
  go_wp2_with fail
  refine (Awk.wakes_any _).mono ?_
  rintro e w2 ⟨rfl, hb2⟩
  have HR2 := Lib.hid (Kd.R_below HR1.out hb2)
  have HB2 := Lib.hid (HB1.out.trans (hb2.mono hsz1))
  have hsz2 : w.heap.size ≤ w2.heap.size := Nat.le_trans hsz1 hb2.size
  have hszb2 : wa.heap.size ≤ w2.heap.size := Nat.le_trans hszb hb2.size
  clear hb2 HR1 HB1 hsz1 hszb
  go_wp2_with fail
  obtain ⟨pb, pc, epc, hpb, _, _⟩ := Kd.R_form HR2.out (by omega)
  simp only [Value.slice.injEq] at epc
  obtain ⟨rfl, _, rfl⟩ := epc
  go_loopg [11, 52] l3.length (fun gk v8 v9 wr => Rel g other x L l3.length w wa.heap.size pb c gk v8 v9 wr)
  case atStart => exact ⟨0, L.length, L, ⟨Nat.zero_le _, rfl, by congr 1; have := HL0.out; omega, by omega, lstart g other x L, HR2.out, HB2.out, hszb2⟩⟩
  case round =>
    obtain ⟨k, first, L1, ⟨hk, rfl, rfl, hg, hv, hr, hb, hsz⟩⟩ := hrel
    have HG := Lib.hid hg
    have HRR := Lib.hid hr
    have HB := Lib.hid hb
    have HV := Lib.hid hv
    clear hg hr hb hv
    by_cases hlt : k < l3.length
    · obtain ⟨ad, rfl, hx2⟩ := Kd.at_int (Kd.C_below HRB.out HB.out) (k : Int) (by omega) (by omega)
      rw [Int.toNat_natCast] at hx2
      obtain ⟨n, hn⟩ : ∃ n, rd l3 (k : Int) = n := ⟨_, rfl⟩
      rw [hn] at hx2
      obtain ⟨hn1, hn2⟩ := HW3.out n (by rw [← hn]; simp [rd, hlt])
      clear hn
      obtain ⟨q, hq⟩ : ∃ q : Int, (if 0 < n then n else 0) = q := ⟨_, rfl⟩
      have hq0 : 0 ≤ q := by rw [← hq]; split <;> omega
      have hq1 : q ≤ 9223372036854775807 := by rw [← hq]; split <;> omega
      obtain ⟨kk, hkk⟩ : ∃ kk : Nat, q % ((x.size : Int) / 55 + 1) = (kk : Int) := ⟨(q % ((x.size : Int) / 55 + 1)).toNat, by have := Int.emod_nonneg q (show ((x.size : Int) / 55 + 1) ≠ 0 by omega); omega⟩
      have hkl : kk < L.length := by have := Int.emod_lt_of_pos q (show 0 < ((x.size : Int) / 55 + 1) by omega); have := HL0.out; omega
      obtain ⟨f2, hf2⟩ : ∃ f2, min first kk = f2 := ⟨_, rfl⟩
      have hf4 : (if kk < first then (kk : Int) else (first : Int)) = (f2 : Int) := by split <;> omega
      have hf3 : (if (kk : Int) < (first : Int) then (kk : Int) else (first : Int)) = (f2 : Int) := by split <;> omega
      go_wp2_with fail
      refine (Amk.make_all other (kk : Int) xS _).mono ?_
      rintro e w4 ⟨rfl, hb4⟩
      have HRR4 := Lib.hid (Kd.R_below HRR.out hb4)
      have HB4 := Lib.hid (HB.out.trans (hb4.mono (by omega)))
      have hsz4 : wa.heap.size ≤ w4.heap.size := Nat.le_trans hsz hb4.size
      clear HRR HB hb4 hx2
      have hkx : kk < x.size / 55 + 1 := by omega
      have hr4 := HRR4.out
      rw [← HV.out.len] at hr4
      obtain ⟨hc4, hf4'⟩ := Kd.R_cell ByteArray.empty hr4 (kk : Int) (by omega) (by have := HV.out.len; omega)
      rw [Int.toNat_natCast] at hc4 hf4'
      obtain ⟨old, hold⟩ : ∃ s, rdOf ByteArray.empty L1 (kk : Int) = s := ⟨_, rfl⟩
      rw [hold] at hc4
      clear hold hr4
      go_wp2_with fail
      have hr5 := HRR4.out
      rw [← HV.out.len] at hr5
      have hr6 := (Kd.R_put hr5 (kk : Int) (makeS other (kk : Int) xS)).1
      rw [Int.toNat_natCast, HV.out.len] at hr6
      have hv6 := lstep HV.out kk hkl ho1 ho2 (by omega)
      rw [hf2] at hv6
      go_roundg (gk - 1)
      case measure => have := HG.out; omega
      case rel => exact ⟨k + 1, f2, L1.set kk (makeS other (kk : Int) xS), ⟨by omega, by go_num, rfl, by have := HG.out; omega, hv6, hr6, Below.setCell HB4.out (show w.heap.size ≤ pb by omega) _, by simp [World.setCell]; omega⟩⟩
    · have hk2 : k = l3.length := by omega
      subst hk2
      have hfl := HV.out.le
      have hlen1 := HL0.out
      obtain ⟨p, hp⟩ : ∃ p : Nat, min x.size (first * 55) = p := ⟨_, rfl⟩
      obtain ⟨pp, hpp⟩ : ∃ pp : Nat, first * 55 = pp := ⟨_, rfl⟩
      have e1 : IntKind.i64.wrap ((first : Int) * 55) = (pp : Int) := by rw [IntWalk.i64_in _ (by omega)]; omega
      have e2 : (if (pp : Int) < (x.size : Int) then (pp : Int) else (x.size : Int)) = (p : Int) := by split <;> omega
      have e3 : (if (x.size : Int) < (pp : Int) then (x.size : Int) else (pp : Int)) = (p : Int) := by split <;> omega
      have e5 : (if pp < x.size then (pp : Int) else (x.size : Int)) = (p : Int) := by split <;> omega
      have e6 : (if x.size < pp then (x.size : Int) else (pp : Int)) = (p : Int) := by split <;> omega
      have e7 : (0 : Int) ≤ (p : Int) := by omega
      have e8 : (p : Int) ≤ (x.size : Int) := by omega
      have e4 : p ≤ x.size := by omega
      have hrr := HRR.out
      have hbw := HB.out
      rw [hlen1] at hrr
      have hll := HV.out.len
      have hjd := join_lost hone hg1 hg2 (by omega) HL.out HV.out
      rw [hp] at hjd
      obtain ⟨b, hbx⟩ : ∃ b, x.extract 0 p = b := ⟨_, rfl⟩
      rw [hbx] at hjd
      have hbs : b.size = p := by rw [← hbx, ByteArray.size_extract]; omega
      have JN : Hid (∀ W, Kd.R Kd.string 9 W wa.heap.size (fun _ => True) (.slice (some ⟨pb, 0, none⟩) (x.size / 55 + 1) c) L1 → Calls Tryd.prog 16 #[.slice (some ⟨pb, 0, none⟩) (x.size / 55 + 1) c, .int .i64 g] W fun e w' => e = .returned (.string b) ∧ Below W.heap.size W w') := fun W hW => by
        rw [← hlen1, ← hll] at hW ⊢
        obtain ⟨A5, c5, e5, hc5, hC5⟩ := Kd.R_reads hW
        have hj := join_any A5 c5 L1 g W hC5 hc5 (by omega)
        have ex : (⟨b.data.toList.toArray⟩ : ByteArray) = b := by simp
        rw [hjd, ← e5, ex] at hj
        exact hj
      obtain ⟨nv, hnv⟩ : ∃ nv, newL L1 0 = nv := ⟨_, rfl⟩
      have NW : Hid (∀ W, Kd.R Kd.string 9 W wa.heap.size (fun _ => True) (.slice (some ⟨pb, 0, none⟩) (x.size / 55 + 1) c) L1 → Calls Tryd.prog 15 #[.slice (some ⟨pb, 0, none⟩) (x.size / 55 + 1) c] W fun e w' => e = .returned (.int .i64 nv) ∧ Below W.heap.size W w') := fun W hW => by
        rw [← hlen1, ← hll] at hW ⊢
        obtain ⟨A5, c5, e5, hc5, hC5⟩ := Kd.R_reads hW
        have hj := newest_c A5 c5 L1 W hC5 hc5 (by omega)
        rw [hnv, ← e5] at hj
        exact hj
      have hnw : first < L.length → other ≤ nv := fun h => by rw [← hnv]; exact new_lost HV.out h
      clear hjd hnv hll HRR HB
      go_wp2_with fail
      by_cases hfn : first = L.length
      · have hfb : ((first : Int) == (x.size : Int) / 55 + 1) = true := by rw [beq_iff_eq]; omega
        clear hnw NW hfn
        refine wp_region_held_drew (S := fun w' => Kd.R Kd.string 9 w' wa.heap.size (fun _ => True) (.slice (some ⟨pb, 0, none⟩) (x.size / 55 + 1) c) L1 ∧ Below w.heap.size w w' ∧ w.heap.size ≤ w'.heap.size) (by kernel_rfl) (by first | exact ⟨Kd.R_drew hrr, hbw.drew, hbw.size⟩ | exact ⟨Kd.R_below hHeld.1 hb5, hHeld.2.1.trans (hb5.mono hHeld.2.2), Nat.le_trans hHeld.2.2 hb5.size⟩) (fun hHeld => ?_)
        refine wpAnyH_take (i := 0) (oi := { dst := some 75, op := Op.move (Operand.tmp 8), type := 31, pos := "law.go:92", after := #[], guard := none }) (v := ?mv0) rfl (by kernel_rfl) (by kernel_rfl) (by kernel_rfl) (fun _ _ _ h => h) (Or.inl ⟨by rfl, ?mh0⟩) (by assumption) ?mr0
        case mh0 => intro w hSw; (try dsimp only at hSw); go_simp; try with_reducible rfl
        try simp only [Act.put, List.setIfInBounds_toArray, List.set_cons_zero, List.set_cons_succ]
        refine wpAnyH_take (i := 1) (oi := { dst := some 76, op := Op.move (Operand.tmp 7), type := 2, pos := "law.go:92", after := #[], guard := none }) (v := ?mv1) rfl (by kernel_rfl) (by kernel_rfl) (by kernel_rfl) (fun _ _ _ h => h) (Or.inl ⟨by rfl, ?mh1⟩) (by assumption) ?mr1
        case mh1 => intro w hSw; (try dsimp only at hSw); go_simp; try with_reducible rfl
        try simp only [Act.put, List.setIfInBounds_toArray, List.set_cons_zero, List.set_cons_succ]
        refine wpAnyH_take (i := 3) (oi := { dst := some 78, op := Op.move (Operand.tmp 1), type := 9, pos := "law.go:92", after := #[], guard := none }) (v := ?mv3) rfl (by kernel_rfl) (by kernel_rfl) (by kernel_rfl) (fun _ _ _ h => h) (Or.inl ⟨by rfl, ?mh3⟩) (by assumption) ?mr3
        case mh3 => intro w hSw; (try dsimp only at hSw); go_simp; try with_reducible rfl
        try simp only [Act.put, List.setIfInBounds_toArray, List.set_cons_zero, List.set_cons_succ]
        refine wpAnyH_take (i := 4) (oi := { dst := some 79, op := Op.move (Operand.tmp 1), type := 9, pos := "law.go:92", after := #[], guard := none }) (v := ?mv4) rfl (by kernel_rfl) (by kernel_rfl) (by kernel_rfl) (fun _ _ _ h => h) (Or.inl ⟨by rfl, ?mh4⟩) (by assumption) ?mr4
        case mh4 => intro w hSw; (try dsimp only at hSw); go_simp; try with_reducible rfl
        try simp only [Act.put, List.setIfInBounds_toArray, List.set_cons_zero, List.set_cons_succ]
        refine wpAnyH_take (i := 5) (oi := { dst := some 80, op := Op.call { callee := Callee.builtin Builtin.len, args := #[Operand.tmp 79], argTypes := #[9] }, type := 3, pos := "law.go:92", after := #[{ on := 4, ground := Ground.data }], guard := none }) (v := ?mv5) rfl (by kernel_rfl) (by kernel_rfl) (by kernel_rfl) (fun _ _ _ h => h) (Or.inl ⟨by rfl, ?mh5⟩) (by assumption) ?mr5
        case mh5 => intro w hSw; (try dsimp only at hSw); go_simp; try with_reducible rfl
        try simp only [Act.put, List.setIfInBounds_toArray, List.set_cons_zero, List.set_cons_succ]
        refine wpAnyH_take (i := 6) (oi := { dst := some 81, op := Op.move (Operand.tmp 11), type := 3, pos := "law.go:92", after := #[], guard := none }) (v := ?mv6) rfl (by kernel_rfl) (by kernel_rfl) (by kernel_rfl) (fun _ _ _ h => h) (Or.inl ⟨by rfl, ?mh6⟩) (by assumption) ?mr6
        case mh6 => intro w hSw; (try dsimp only at hSw); go_simp; try with_reducible rfl
        try simp only [Act.put, List.setIfInBounds_toArray, List.set_cons_zero, List.set_cons_succ]
        refine wpAnyH_take (i := 7) (oi := { dst := some 82, op := Op.binOp BinOp.mul 3 (Operand.tmp 81) (Operand.const (Value.int IntKind.i64 55)) 3, type := 3, pos := "law.go:92", after := #[{ on := 6, ground := Ground.data }], guard := none }) (v := ?mv7) rfl (by kernel_rfl) (by kernel_rfl) (by kernel_rfl) (fun _ _ _ h => h) (Or.inl ⟨by rfl, ?mh7⟩) (by assumption) ?mr7
        case mh7 => intro w hSw; (try dsimp only at hSw); go_simp; try with_reducible rfl
        try simp only [Act.put, List.setIfInBounds_toArray, List.set_cons_zero, List.set_cons_succ]
        refine wpAnyH_take (i := 8) (oi := { dst := some 83, op := Op.call { callee := Callee.builtin Builtin.min, args := #[Operand.tmp 80, Operand.tmp 82], argTypes := #[3, 3] }, type := 3, pos := "law.go:92", after := #[{ on := 5, ground := Ground.data }, { on := 7, ground := Ground.data }], guard := none }) (v := ?mv8) rfl (by kernel_rfl) (by kernel_rfl) (by kernel_rfl) (fun _ _ _ h => h) (Or.inl ⟨by rfl, ?mh8⟩) (by assumption) ?mr8
        case mh8 => intro w hSw; (try dsimp only at hSw); go_simp; try with_reducible rfl
        try simp only [Act.put, List.setIfInBounds_toArray, List.set_cons_zero, List.set_cons_succ]
        refine wpAnyH_take (i := 9) (oi := { dst := some 84, op := Op.slice 9 (Operand.tmp 78) none (some (Operand.tmp 83)) none, type := 9, pos := "law.go:92", after := #[{ on := 3, ground := Ground.data }, { on := 8, ground := Ground.data }], guard := none }) (v := ?mv9) rfl (by kernel_rfl) (by kernel_rfl) (by kernel_rfl) (fun _ _ _ h => h) (Or.inl ⟨by rfl, ?mh9⟩) (by assumption) ?mr9
        case mh9 => intro w hSw; (try dsimp only at hSw); go_simp; try with_reducible rfl
        try simp only [Act.put, List.setIfInBounds_toArray, List.set_cons_zero, List.set_cons_succ]
        refine wpAnyH_ready (rs := [2]) (by kernel_rfl) (by simp) ?_
        refine AllReadyH.cons (o := { dst := some 77, op := Op.call { callee := Callee.value (Operand.func 16), args := #[Operand.tmp 75, Operand.tmp 76], argTypes := #[31, 2] }, type := 9, pos := "law.go:92", after := #[{ on := 0, ground := Ground.data }, { on := 1, ground := Ground.data }], guard := none }) rfl (fun K hK => ?_) AllReadyH.nil
        go_simp
        refine (JN.out _ hHeld.1).mono ?_; rintro e w5 ⟨rfl, hb5⟩; try go_simp
        refine hK.out _ _ (by first | exact ⟨Kd.R_drew hrr, hbw.drew, hbw.size⟩ | exact ⟨Kd.R_below hHeld.1 hb5, hHeld.2.1.trans (hb5.mono hHeld.2.2), Nat.le_trans hHeld.2.2 hb5.size⟩) (fun hHeld => ?_)
        clear hK K
        try simp only [Act.put, List.setIfInBounds_toArray, List.set_cons_zero, List.set_cons_succ]
        refine wpAnyH_take (i := 10) (oi := { dst := some 85, op := Op.binOp BinOp.eql 9 (Operand.tmp 77) (Operand.tmp 84) 9, type := 4, pos := "law.go:92", after := #[{ on := 2, ground := Ground.data }, { on := 9, ground := Ground.data }], guard := none }) (v := ?mv10) rfl (by kernel_rfl) (by kernel_rfl) (by kernel_rfl) (fun _ _ _ h => h) (Or.inl ⟨by rfl, ?mh10⟩) (by assumption) ?mr10
        case mh10 => intro w hSw; (try dsimp only at hSw); go_simp; try with_reducible rfl
        try simp only [Act.put, List.setIfInBounds_toArray, List.set_cons_zero, List.set_cons_succ]
        refine wpAnyH_take (i := 11) (oi := { dst := some 86, op := Op.move (Operand.tmp 85), type := 4, pos := "law.go:92", after := #[{ on := 10, ground := Ground.data }, { on := 2, ground := Ground.chain }], guard := none }) (v := ?mv11) rfl (by kernel_rfl) (by kernel_rfl) (by kernel_rfl) (fun _ _ _ h => h) (Or.inl ⟨by rfl, ?mh11⟩) (by assumption) ?mr11
        case mh11 => intro w hSw; (try dsimp only at hSw); go_simp; try with_reducible rfl
        try simp only [Act.put, List.setIfInBounds_toArray, List.set_cons_zero, List.set_cons_succ]
        refine wpAnyH_take (i := 12) (oi := { dst := some 87, op := Op.move (Operand.tmp 11), type := 3, pos := "law.go:92", after := #[{ on := 11, ground := Ground.guard }], guard := some (11, true) }) (v := ?mv12) rfl (by kernel_rfl) (by kernel_rfl) (by kernel_rfl) (fun _ _ _ h => h) (Or.inl ⟨by rfl, ?mh12⟩) (by assumption) ?mr12
        case mh12 => intro w hSw; (try dsimp only at hSw); go_simp; try with_reducible rfl
        try simp only [Act.put, List.setIfInBounds_toArray, List.set_cons_zero, List.set_cons_succ]
        refine wpAnyH_take (i := 13) (oi := { dst := some 88, op := Op.move (Operand.tmp 8), type := 31, pos := "law.go:92", after := #[{ on := 11, ground := Ground.guard }], guard := some (11, true) }) (v := ?mv13) rfl (by kernel_rfl) (by kernel_rfl) (by kernel_rfl) (fun _ _ _ h => h) (Or.inl ⟨by rfl, ?mh13⟩) (by assumption) ?mr13
        case mh13 => intro w hSw; (try dsimp only at hSw); go_simp; try with_reducible rfl
        try simp only [Act.put, List.setIfInBounds_toArray, List.set_cons_zero, List.set_cons_succ]
        refine wpAnyH_take (i := 14) (oi := { dst := some 89, op := Op.call { callee := Callee.builtin Builtin.len, args := #[Operand.tmp 88], argTypes := #[31] }, type := 3, pos := "law.go:92", after := #[{ on := 13, ground := Ground.data }, { on := 11, ground := Ground.guard }], guard := some (11, true) }) (v := ?mv14) rfl (by kernel_rfl) (by kernel_rfl) (by kernel_rfl) (fun _ _ _ h => h) (Or.inl ⟨by rfl, ?mh14⟩) (by assumption) ?mr14
        case mh14 => intro w hSw; (try dsimp only at hSw); go_simp; try with_reducible rfl
        try simp only [Act.put, List.setIfInBounds_toArray, List.set_cons_zero, List.set_cons_succ]
        refine wpAnyH_take (i := 15) (oi := { dst := some 90, op := Op.binOp BinOp.eql 3 (Operand.tmp 87) (Operand.tmp 89) 3, type := 4, pos := "law.go:92", after := #[{ on := 12, ground := Ground.data }, { on := 14, ground := Ground.data }, { on := 11, ground := Ground.guard }], guard := some (11, true) }) (v := ?mv15) rfl (by kernel_rfl) (by kernel_rfl) (by kernel_rfl) (fun _ _ _ h => h) (Or.inl ⟨by rfl, ?mh15⟩) (by assumption) ?mr15
        case mh15 => intro w hSw; (try dsimp only at hSw); go_simp; try with_reducible rfl
        try simp only [Act.put, List.setIfInBounds_toArray, List.set_cons_zero, List.set_cons_succ]
        refine wpAnyH_take (i := 16) (oi := { dst := some 91, op := Op.move (Operand.tmp 90), type := 4, pos := "law.go:92", after := #[{ on := 15, ground := Ground.data }, { on := 11, ground := Ground.chain }, { on := 11, ground := Ground.guard }], guard := some (11, true) }) (v := ?mv16) rfl (by kernel_rfl) (by kernel_rfl) (by kernel_rfl) (fun _ _ _ h => h) (Or.inl ⟨by rfl, ?mh16⟩) (by assumption) ?mr16
        case mh16 => intro w hSw; (try dsimp only at hSw); go_simp; try with_reducible rfl
        try simp only [Act.put, List.setIfInBounds_toArray, List.set_cons_zero, List.set_cons_succ]
        refine wpAnyH_take (i := 17) (oi := { dst := some 92, op := Op.move (Operand.tmp 8), type := 31, pos := "law.go:92", after := #[{ on := 16, ground := Ground.guard }], guard := some (16, false) }) (v := undef) rfl (by kernel_rfl) (by kernel_rfl) (by kernel_rfl) (fun _ _ _ h => h) (Or.inr ⟨by rfl, rfl⟩) (by assumption) ?_
        try simp only [Act.put, List.setIfInBounds_toArray, List.set_cons_zero, List.set_cons_succ]
        refine wpAnyH_take (i := 18) (oi := { dst := some 93, op := Op.call { callee := Callee.value (Operand.func 15), args := #[Operand.tmp 92], argTypes := #[31] }, type := 2, pos := "law.go:92", after := #[{ on := 17, ground := Ground.data }, { on := 16, ground := Ground.chain }, { on := 16, ground := Ground.guard }], guard := some (16, false) }) (v := undef) rfl (by kernel_rfl) (by kernel_rfl) (by kernel_rfl) (fun _ _ _ h => h) (Or.inr ⟨by rfl, rfl⟩) (by assumption) ?_
        try simp only [Act.put, List.setIfInBounds_toArray, List.set_cons_zero, List.set_cons_succ]
        refine wpAnyH_take (i := 19) (oi := { dst := some 94, op := Op.move (Operand.tmp 10), type := 2, pos := "law.go:92", after := #[{ on := 16, ground := Ground.guard }], guard := some (16, false) }) (v := undef) rfl (by kernel_rfl) (by kernel_rfl) (by kernel_rfl) (fun _ _ _ h => h) (Or.inr ⟨by rfl, rfl⟩) (by assumption) ?_
        try simp only [Act.put, List.setIfInBounds_toArray, List.set_cons_zero, List.set_cons_succ]
        refine wpAnyH_take (i := 20) (oi := { dst := some 95, op := Op.binOp BinOp.geq 2 (Operand.tmp 93) (Operand.tmp 94) 2, type := 4, pos := "law.go:92", after := #[{ on := 18, ground := Ground.data }, { on := 19, ground := Ground.data }, { on := 16, ground := Ground.guard }], guard := some (16, false) }) (v := undef) rfl (by kernel_rfl) (by kernel_rfl) (by kernel_rfl) (fun _ _ _ h => h) (Or.inr ⟨by rfl, rfl⟩) (by assumption) ?_
        try simp only [Act.put, List.setIfInBounds_toArray, List.set_cons_zero, List.set_cons_succ]
        refine wpAnyH_take (i := 21) (oi := { dst := some 96, op := Op.pick (Operand.tmp 91) (Operand.const (Value.bool true)) (Operand.tmp 95), type := 4, pos := "law.go:92", after := #[{ on := 16, ground := Ground.data }, { on := 20, ground := Ground.data }, { on := 11, ground := Ground.guard }], guard := some (11, true) }) (v := ?mv21) rfl (by kernel_rfl) (by kernel_rfl) (by kernel_rfl) (fun _ _ _ h => h) (Or.inl ⟨by rfl, ?mh21⟩) (by assumption) ?mr21
        case mh21 => intro w hSw; (try dsimp only at hSw); go_simp; try with_reducible rfl
        try simp only [Act.put, List.setIfInBounds_toArray, List.set_cons_zero, List.set_cons_succ]
        refine wpAnyH_take (i := 22) (oi := { dst := some 97, op := Op.pick (Operand.tmp 86) (Operand.tmp 96) (Operand.const (Value.bool false)), type := 4, pos := "law.go:92", after := #[{ on := 11, ground := Ground.data }, { on := 21, ground := Ground.data }], guard := none }) (v := ?mv22) rfl (by kernel_rfl) (by kernel_rfl) (by kernel_rfl) (fun _ _ _ h => h) (Or.inl ⟨by rfl, ?mh22⟩) (by assumption) ?mr22
        case mh22 => intro w hSw; (try dsimp only at hSw); go_simp; try with_reducible rfl
        try simp only [Act.put, List.setIfInBounds_toArray, List.set_cons_zero, List.set_cons_succ]
        refine wpAnyH_take (i := 23) (oi := { dst := some 6, op := Op.assign (Operand.tmp 97), type := 4, pos := "law.go:92", after := #[{ on := 22, ground := Ground.data }, { on := 18, ground := Ground.chain }, { on := 0, ground := Ground.phase }, { on := 1, ground := Ground.phase }, { on := 2, ground := Ground.phase }, { on := 3, ground := Ground.phase }, { on := 4, ground := Ground.phase }, { on := 5, ground := Ground.phase }, { on := 6, ground := Ground.phase }, { on := 7, ground := Ground.phase }, { on := 8, ground := Ground.phase }, { on := 9, ground := Ground.phase }, { on := 10, ground := Ground.phase }, { on := 11, ground := Ground.phase }, { on := 12, ground := Ground.phase }, { on := 13, ground := Ground.phase }, { on := 14, ground := Ground.phase }, { on := 15, ground := Ground.phase }, { on := 16, ground := Ground.phase }, { on := 17, ground := Ground.phase }, { on := 18, ground := Ground.phase }, { on := 19, ground := Ground.phase }, { on := 20, ground := Ground.phase }, { on := 21, ground := Ground.phase }, { on := 22, ground := Ground.phase }], guard := none }) (v := ?mv23) rfl (by kernel_rfl) (by kernel_rfl) (by kernel_rfl) (fun _ _ _ h => h) (Or.inl ⟨by rfl, ?mh23⟩) (by assumption) ?mr23
        case mh23 => intro w hSw; (try dsimp only at hSw); go_simp; try with_reducible rfl
        try simp only [Act.put, List.setIfInBounds_toArray, List.set_cons_zero, List.set_cons_succ]
        refine wpAnyH_done (by kernel_rfl) ?_ _
        have hfin := hHeld.2.1
        go_wp2_with fail
        exact bodyPost_ret (v := .bool true) (by simp [results, Tryd.results6, go_sem]) rfl ⟨rfl, hfin⟩
      · have hfb : ((first : Int) == (x.size : Int) / 55 + 1) = false := by rw [beq_eq_false_iff_ne]; omega
        have hge := hnw (by omega)
        clear hnw hfn
        go_region_held3 (fun w' => Kd.R Kd.string 9 w' wa.heap.size (fun _ => True) (.slice (some ⟨pb, 0, none⟩) (x.size / 55 + 1) c) L1 ∧ Below w.heap.size w w' ∧ w.heap.size ≤ w'.heap.size)
          (first | exact ⟨Kd.R_drew hrr, hbw.drew, hbw.size⟩ | assumption | exact ⟨Kd.R_below (‹_ ∧ Below _ _ _ ∧ _› : _ ∧ Below _ _ _ ∧ _).1 ‹Below _ _ _›, (‹_ ∧ Below _ _ _ ∧ _› : _ ∧ Below _ _ _ ∧ _).2.1.trans (‹Below _ _ _›.mono (‹_ ∧ Below _ _ _ ∧ _› : _ ∧ Below _ _ _ ∧ _).2.2), Nat.le_trans (‹_ ∧ Below _ _ _ ∧ _› : _ ∧ Below _ _ _ ∧ _).2.2 ‹Below _ _ _›.size⟩ | (go_show; fail))
          (first | (go_at_call 16; refine (JN.out _ (‹_ ∧ Below _ _ _ ∧ _› : _ ∧ Below _ _ _ ∧ _).1).mono ?_; rintro e w5 ⟨rfl, hb5⟩) | (go_at_call 15; refine (NW.out _ (‹_ ∧ Below _ _ _ ∧ _› : _ ∧ Below _ _ _ ∧ _).1).mono ?_; rintro e w5 ⟨rfl, hb5⟩))
        all_goals
          have hfin := (‹_ ∧ Below _ _ _ ∧ _› : _ ∧ Below _ _ _ ∧ _).2.1
          go_wp2_with fail
          exact bodyPost_ret (v := .bool true) (by simp [results, Tryd.results6, go_sem]) rfl ⟨rfl, hfin⟩

end Go.Proofs.YtekpbpcfeopilaaDoor.LawLo
