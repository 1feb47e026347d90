/- DiskLays: the walk. -/
import Derived.Test.YtekpbpcfeopilaaEa
import Derived.Test.YtekpbpcfeopilaaSys
namespace Go.Proofs.Ytekpbpcfeopilaa.Eb
open Go Go.RowKit Go.Joins Go.Proofs.YtekpbpcfeopilaaCore Go.Proofs.Ytekpbpcfeopilaa.Dm Go.Proofs.Ytekpbpcfeopilaa.Dr Go.Proofs.Ytekpbpcfeopilaa.Da Go.Proofs.Ytekpbpcfeopilaa.Df Go.Proofs.Ytekpbpcfeopilaa.Dg Go.Proofs.Ytekpbpcfeopilaa.Dh Go.Proofs.Ytekpbpcfeopilaa.Di Go.Proofs.Ytekpbpcfeopilaa.Dj Go.Proofs.Ytekpbpcfeopilaa.Dk Go.Proofs.Ytekpbpcfeopilaa.Dl Go.Proofs.Ytekpbpcfeopilaa.Dn Go.Proofs.Ytekpbpcfeopilaa.Dp Go.Proofs.Ytekpbpcfeopilaa.Dq Go.Proofs.Ytekpbpcfeopilaa.Ds Go.Proofs.Ytekpbpcfeopilaa.Dt Go.Proofs.Ytekpbpcfeopilaa.Du Go.Proofs.Ytekpbpcfeopilaa.Dv Go.Proofs.Ytekpbpcfeopilaa.Dw Go.Proofs.Ytekpbpcfeopilaa.Ea Go.Proofs.Ytekpbpcfeopilaa.Sys Go.Proofs.Ytekpbpcfeopilaa.Reg Go.Proofs.YtekpbpcfeopilaaW.PrintWords Go.Proofs.YtekpbpcfeopilaaW.PrintLast Go.Proofs.YtekpbpcfeopilaaW.PrintMore

/-- A call of a disk, as plain data. -/
abbrev ActT := Int × Int × Int × Int × ByteArray × List Int
def actK : Kd ActT := Kd.pair (Kd.int .i64) (Kd.pair (Kd.int .i64) (Kd.pair (Kd.int .i64) (Kd.pair (Kd.int .i64) (Kd.pair Kd.string (Kd.slice 59 (Kd.int .u64))))))

/-- The cells of one of many. -/
structure ActCells (w : World) (a : Addr) (x : ActT) : Prop where
  c0 : w.cell? a = some (.int .i64 x.1)
  c1 : w.cell? ⟨a.block, a.off + 1, none⟩ = some (.int .i64 x.2.1)
  c2 : w.cell? ⟨a.block, a.off + 2, none⟩ = some (.int .i64 x.2.2.1)
  c3 : w.cell? ⟨a.block, a.off + 3, none⟩ = some (.int .i64 x.2.2.2.1)
  c4 : w.cell? ⟨a.block, a.off + 4, none⟩ = some (.string x.2.2.2.2.1)
  c5 : ∃ A c, w.cell? ⟨a.block, a.off + 5, none⟩ = some (.slice A x.2.2.2.2.2.length c) ∧ Kd.C (Kd.int .u64) w A x.2.2.2.2.2.length x.2.2.2.2.2
theorem add_to (a : Addr) (m j : Nat) (hj : 0 < j) : a.add (m + j) = ⟨(a.add m).block, (a.add m).off + j, none⟩ := add_field a m j hj
theorem act_at {w : World} {A : Option Addr} {n : Nat} {xs : List ActT} (h : actK.C w A n xs) (i : Nat) (hi : i < n) : ∃ ad x, A = some ad ∧ xs[i]? = some x ∧ ActCells w (ad.add (i * 6)) x := by
  have hl : xs.length = n := h.1
  obtain ⟨ad, ha, hc⟩ := h.2.2 (by omega)
  obtain ⟨c, hcl, hK, hcell⟩ := hc i (xs[i]'(by omega)) (List.getElem?_eq_getElem (by omega))
  obtain ⟨c0, r0, rfl, k0, c1, r1, rfl, k1, c2, r2, rfl, k2, c3, r3, rfl, k3, c4, c5, rfl, k4, A5, n5, k5, _, hC5⟩ := hK
  obtain rfl : c0 = _ := k0
  obtain rfl : c1 = _ := k1
  obtain rfl : c2 = _ := k2
  obtain rfl : c3 = _ := k3
  obtain rfl : c4 = _ := k4
  subst k5
  refine ⟨ad, xs[i]'(by omega), ha, List.getElem?_eq_getElem (by omega), ?_⟩
  have f := fun j u (hj : 0 < j) (hu : _) => (congrArg w.cell? (add_to ad (i * 6) j hj)).symm.trans (hcell j u hu)
  exact ⟨hcell 0 _ rfl, f 1 _ (by decide) rfl, f 2 _ (by decide) rfl, f 3 _ (by decide) rfl, f 4 _ (by decide) rfl, A5, n5, f 5 _ (by decide) rfl, hC5⟩

structure LsInv (Z : Nat → Prop) (N M : Nat) (b : Nat) (w : World) (gk : Nat) (v : Value) (wr : World) (k : Nat) (m : MDisk) : Prop where
  hi : k ≤ M
  slot : v = .int .i64 k
  ghost : gk + k = M
  sys : Dks Z wr [⟨b, m, k⟩]
  shape : Shape [3, N] m
  bel : Below w.heap.size w wr
def LsRel (Z : Nat → Prop) (N M : Nat) (b : Nat) (w : World) (gk : Nat) (v : Value) (wr : World) : Prop := ∃ k m, LsInv Z N M b w gk v wr k m

theorem shape_two (N : Nat) (h : N < 40) : Shape [3, N] (newM [3, (N : Int)]) := by
  have := shape_new [3, (N : Int)] (by simp)
  have e : [3, (N : Int)].map clampN = [3, N] := by
    simp [clampN]
    omega
  rw [e] at this
  exact this

theorem whole_eq (N : Nat) (d : ByteArray) : (d ++ (⟨(List.replicate (64 * N) 0).toArray⟩ : ByteArray)).extract 0 (64 * N) = wholeB N d := by
  apply ByteArray.ext
  apply Array.toList_inj.1
  rw [ByteArray.data_extract, Array.toList_extract, ByteArray.data_append, Array.toList_append]
  simp [wholeB, List.extract_eq_take_drop]

set_option maxHeartbeats 4000000 in
set_option maxRecDepth 100000 in
theorem diskLays (size : Int) (data : ByteArray) (A : Option Addr) (cc : Nat) (xs : List ActT) (w : World) (hd : data.size ≤ 140737488351232) (hC : actK.C w A xs.length xs) (hcc : xs.length ≤ cc) :
    Calls Try.prog 7 #[.int .i64 size, .string data, .slice A xs.length cc] w fun e w' => e = .returned (.bool true) ∧ Below w.heap.size w w' := by
  have HC := Lib.hid hC
  clear hC
  obtain ⟨N, hN⟩ : ∃ N : Nat, (max 0 size) % 40 = (N : Int) := ⟨((max 0 size) % 40).toNat, by omega⟩
  have hN40 : N < 40 := by omega
  have hx : 0 ≤ max 0 size := by omega
  go_enter Try.func7, Try.ntmps7
  go_wp2_with (rw [hN])
  have hC1 := lit_C .i64 w 3 [3, (N : Int)] (by simp)
  obtain ⟨wl, hwl⟩ : ∃ wl, w.alloc (.cells (encs (Value.int .i64) [3, (N : Int)]).toArray 3) = wl := ⟨_, rfl⟩
  have hbl : Below w.heap.size w wl := by rw [← hwl]; exact (Below.refl _ _).alloc (Nat.le_refl _) _
  have hzl : wl.heap.size = w.heap.size + 1 := by rw [← hwl]; simp
  have hwl' : w.alloc (.cells #[.int .i64 3, .int .i64 (N : Int)] 3) = wl := hwl
  rw [hwl] at hC1
  rw [hwl']
  refine (new_z ((Dks.nil w).keep hbl) (some ⟨w.heap.size, 0, none⟩) 2 [3, (N : Int)] hC1 (by simp)).mono ?_
  rintro e w1 ⟨rfl, hs1, hb1⟩
  rw [hzl, List.nil_append] at hs1
  rw [hzl]
  have HS1 := Lib.hid hs1
  have HB1 := Lib.hid (hbl.trans (hb1.mono hbl.size))
  clear hC1 hs1 hwl hwl' hb1 hzl hbl
  obtain ⟨M, hM⟩ : ∃ M : Nat, min xs.length 30 = M := ⟨_, rfl⟩
  have hMi : min (xs.length : Int) 30 = (M : Int) := by omega
  have hM1 : M ≤ xs.length := by omega
  have hM30 : M ≤ 30 := by omega
  have hlen := HC.out.2.1
  have hMc : M ≤ cc := by omega
  clear hM
  go_wp2_with fail
  go_loopg [26] M (fun gk v wr => LsRel (fun k => k < w.heap.size) N M (w.heap.size + 1) w gk v wr)
  case atStart => exact ⟨0, _, ⟨Nat.zero_le _, rfl, rfl, HS1.out, shape_two N hN40, HB1.out⟩⟩
  case round =>
    obtain ⟨k, m, hk, rfl, hgk, hsys, hshape, hbel⟩ := hrel
    have HG := Lib.hid hgk
    have HS := Lib.hid hsys
    have HSH := Lib.hid hshape
    have HB := Lib.hid hbel
    clear hgk hsys hshape hbel HS1 HB1
    by_cases hlt : k < M
    · obtain ⟨ad, x, rfl, hx, hcells⟩ := act_at (Kd.C_below HC.out HB.out) k (by omega)
      obtain ⟨c0, c1, c2, c3, c4, A5, n5, c5, _⟩ := hcells
      have hltI : (k : Int) < (M : Int) := by omega
      obtain ⟨x0, x1, x2, x3, xd, xk⟩ := x
      simp only at c0 c1 c2 c3 c4 c5
      have hmx : 0 ≤ max 0 x2 := by omega
      obtain ⟨q, hq⟩ : ∃ q : Nat, min (xd.size : Int) 60 = (q : Int) := ⟨(min (xd.size : Int) 60).toNat, by omega⟩
      have hq1 : (q : Int) ≤ (xd.size : Int) := by omega
      have hq0 : (0 : Int) ≤ (q : Int) := by omega
      have hq60 : q ≤ 60 := by omega
      obtain ⟨wb, hwb⟩ : ∃ wb, wr.alloc (.cells #[.int .i64 x0, .int .i64 x1, .int .i64 x2, .int .i64 x3, .string xd, .slice A5 xk.length n5] 52) = wb := ⟨_, rfl⟩
      have hbb : Below wr.heap.size wr wb := by rw [← hwb]; exact (Below.refl _ _).alloc (Nat.le_refl _) _
      have hqb : wb.heap[wr.heap.size]? = some (.cells #[.int .i64 x0, .int .i64 x1, .int .i64 x2, .int .i64 x3, .string xd, .slice A5 xk.length n5] 52 (0, 0)) := by rw [← hwb]; exact heap_alloc_new _ _
      have hzb : wr.heap.size < wb.heap.size := heap_lt hqb
      have HBB := Lib.hid hbb
      have HSB := Lib.hid (HS.out.below hbb)
      have hq2 : wb.cell? ⟨wr.heap.size, 2, none⟩ = some (.int .i64 x2) := cell_of_block hqb 2
      have hq4 : wb.cell? ⟨wr.heap.size, 4, none⟩ = some (.string xd) := cell_of_block hqb 4
      go_wp2_with (rw [hwb])
      clear hwb hbb hqb c0 c1 c2 c3 c4 c5
      have hS0 : wb.drew.cell? ⟨wr.heap.size, 2, none⟩ = some (.int .i64 x2) ∧ wb.drew.cell? ⟨wr.heap.size, 4, none⟩ = some (.string xd) := ⟨hq2, hq4⟩
      refine wp_region_held_drew (S := fun w' => w'.cell? ⟨wr.heap.size, 2, none⟩ = some (.int .i64 x2) ∧ w'.cell? ⟨wr.heap.size, 4, none⟩ = some (.string xd)) (by kernel_rfl) hS0 (fun hHeld => ?_)
      refine wpAnyH_take (i := 0) (v := ?mv1) rfl (by kernel_rfl) (by kernel_rfl) (by kernel_rfl) (fun _ _ _ h => h) (Or.inl ⟨by rfl, ?mh1⟩) (by assumption) ?mr1
      case mh1 => intro w hSw; (try dsimp only at hSw); go_simp; try with_reducible rfl
      (try simp only [Act.put]); (try simp only [List.setIfInBounds_toArray]); (try simp only [List.set_cons_zero, List.set_cons_succ])
      refine wpAnyH_take (i := 1) (v := ?mv2) rfl (by kernel_rfl) (by kernel_rfl) (by kernel_rfl) (fun _ _ _ h => h) (Or.inl ⟨by rfl, ?mh2⟩) (by assumption) ?mr2
      case mh2 => intro w hSw; (try dsimp only at hSw); go_simp; try with_reducible rfl
      (try simp only [Act.put]); (try simp only [List.setIfInBounds_toArray]); (try simp only [List.set_cons_zero, List.set_cons_succ])
      refine wpAnyH_take (i := 2) (v := ?mv3) rfl (by kernel_rfl) (by kernel_rfl) (by kernel_rfl) (fun _ _ _ h => h) (Or.inl ⟨by rfl, ?mh3⟩) (by assumption) ?mr3
      case mh3 => intro w hSw; (try dsimp only at hSw); go_simp; try with_reducible rfl
      (try simp only [Act.put]); (try simp only [List.setIfInBounds_toArray]); (try simp only [List.set_cons_zero, List.set_cons_succ])
      refine wpAnyH_take (i := 3) (v := ?mv4) rfl (by kernel_rfl) (by kernel_rfl) (by kernel_rfl) (fun _ _ _ h => h) (Or.inl ⟨by rfl, ?mh4⟩) (by assumption) ?mr4
      case mh4 => intro w hSw; (try dsimp only at hSw); go_simp; try with_reducible rfl
      (try simp only [Act.put]); (try simp only [List.setIfInBounds_toArray]); (try simp only [List.set_cons_zero, List.set_cons_succ])
      refine wpAnyH_take (i := 4) (v := ?mv5) rfl (by kernel_rfl) (by kernel_rfl) (by kernel_rfl) (fun _ _ _ h => h) (Or.inl ⟨by rfl, ?mh5⟩) (by assumption) ?mr5
      case mh5 => intro w hSw; (try dsimp only at hSw); go_simp; try with_reducible rfl
      (try simp only [Act.put]); (try simp only [List.setIfInBounds_toArray]); (try simp only [List.set_cons_zero, List.set_cons_succ])
      refine wpAnyH_take (i := 5) (v := ?mv6) rfl (by kernel_rfl) (by kernel_rfl) (by kernel_rfl) (fun _ _ _ h => h) (Or.inl ⟨by rfl, ?mh6⟩) (by assumption) ?mr6
      case mh6 => intro w hSw; (try dsimp only at hSw); go_simp; try with_reducible rfl
      (try simp only [Act.put]); (try simp only [List.setIfInBounds_toArray]); (try simp only [List.set_cons_zero, List.set_cons_succ])
      refine wpAnyH_take (i := 6) (v := ?mv7) rfl (by kernel_rfl) (by kernel_rfl) (by kernel_rfl) (fun _ _ _ h => h) (Or.inl ⟨by rfl, ?mh7⟩) (by assumption) ?mr7
      case mh7 => intro w hSw; (try dsimp only at hSw); go_simp; try with_reducible rfl
      (try simp only [Act.put]); (try simp only [List.setIfInBounds_toArray]); (try simp only [List.set_cons_zero, List.set_cons_succ])
      refine wpAnyH_take (i := 7) (v := ?mv8) rfl (by kernel_rfl) (by kernel_rfl) (by kernel_rfl) (fun _ _ _ h => h) (Or.inl ⟨by rfl, ?mh8⟩) (by assumption) ?mr8
      case mh8 => intro w hSw; (try dsimp only at hSw); go_simp; try with_reducible rfl
      (try simp only [Act.put]); (try simp only [List.setIfInBounds_toArray]); (try simp only [List.set_cons_zero, List.set_cons_succ])
      refine wpAnyH_take (i := 8) (v := ?mv9) rfl (by kernel_rfl) (by kernel_rfl) (by kernel_rfl) (fun _ _ _ h => h) (Or.inl ⟨by rfl, ?mh9⟩) (by assumption) ?mr9
      case mh9 => intro w hSw; (try dsimp only at hSw); go_simp; try with_reducible rfl
      (try simp only [Act.put]); (try simp only [List.setIfInBounds_toArray]); (try simp only [List.set_cons_zero, List.set_cons_succ])
      refine wpAnyH_take (i := 9) (v := ?mv10) rfl (by kernel_rfl) (by kernel_rfl) (by kernel_rfl) (fun _ _ _ h => h) (Or.inl ⟨by rfl, ?mh10⟩) (by assumption) ?mr10
      case mh10 => intro w hSw; (try dsimp only at hSw); go_simp; try with_reducible rfl
      (try simp only [Act.put]); (try simp only [List.setIfInBounds_toArray]); (try simp only [List.set_cons_zero, List.set_cons_succ])
      refine wpAnyH_take (i := 10) (v := ?mv11) rfl (by kernel_rfl) (by kernel_rfl) (by kernel_rfl) (fun _ _ _ h => h) (Or.inl ⟨by rfl, ?mh11⟩) (by assumption) ?mr11
      case mh11 => intro w hSw; (try dsimp only at hSw); go_simp; try with_reducible rfl
      (try simp only [Act.put]); (try simp only [List.setIfInBounds_toArray]); (try simp only [List.set_cons_zero, List.set_cons_succ])
      refine wpAnyH_take (i := 11) (v := ?mv12) rfl (by kernel_rfl) (by kernel_rfl) (by kernel_rfl) (fun _ _ _ h => h) (Or.inl ⟨by rfl, ?mh12⟩) (by assumption) ?mr12
      case mh12 => intro w hSw; (try dsimp only at hSw); go_simp; try with_reducible rfl
      (try simp only [Act.put]); (try simp only [List.setIfInBounds_toArray]); (try simp only [List.set_cons_zero, List.set_cons_succ])
      refine wpAnyH_ready (rs := [12]) (by kernel_rfl) (by simp) ?_
      refine AllReadyH.cons rfl (fun K hK => ?_) AllReadyH.nil
      go_simp
      go_at_call 26
      refine (sector_any _ _).mono ?_
      rintro e w6 ⟨rfl, hb6⟩
      have hS6 : w6.cell? ⟨wr.heap.size, 2, none⟩ = some (.int .i64 x2) ∧ w6.cell? ⟨wr.heap.size, 4, none⟩ = some (.string xd) := ⟨pw_cell_below hb6 hS0.1, pw_cell_below hb6 hS0.2⟩
      have HS6 := Lib.hid ((HSB.out.keep (below_drew (Below.refl _ _))).keep hb6)
      have HB6 := Lib.hid (HBB.out.trans (((below_drew (Below.refl _ wb)).trans hb6).mono (Nat.le_of_lt hzb)))
      refine hK.out _ _ hS6 (fun hHeld => ?_)
      clear hK K
      (try simp only [Act.put]); (try simp only [List.setIfInBounds_toArray]); (try simp only [List.set_cons_zero, List.set_cons_succ])
      refine wpAnyH_ready (rs := [13]) (by kernel_rfl) (by simp) ?_
      refine AllReadyH.cons rfl (fun K hK => ?_) AllReadyH.nil
      go_simp
      go_at_call 25
      refine (write_z HS6.out 0 rfl (by show k < 1000000; omega) 1 _ _).mono ?_
      rintro e w7 ⟨rfl, hs7, hf7⟩
      have hnq : ¬ ¬ (more (fun k => k < w.heap.size) wr wb wr.heap.size) := fun h => h (.inr ⟨Nat.le_refl _, hzb⟩)
      have hS7 : w7.cell? ⟨wr.heap.size, 2, none⟩ = some (.int .i64 x2) ∧ w7.cell? ⟨wr.heap.size, 4, none⟩ = some (.string xd) := ⟨hf7.cell hS6.1 hnq, hf7.cell hS6.2 hnq⟩
      have HS7 := Lib.hid (hs7.mono (Z' := fun k => k < w.heap.size) (fun _ hk => .inl hk))
      have HB7 := Lib.hid (HB.out.trans ((HB6.out.mono HB.out.size).trans (fr_below hf7 (Nat.le_trans HB.out.size HB6.out.size) (fun _ hk => .inl hk))))
      clear hs7 hf7
      refine hK.out _ _ hS7 (fun hHeld => ?_)
      clear hK K
      (try simp only [Act.put]); (try simp only [List.setIfInBounds_toArray]); (try simp only [List.set_cons_zero, List.set_cons_succ])
      refine wpAnyH_done (by kernel_rfl) ?_ _
      clear hS0 hS6 hS7 hHeld hq2 hq4
      go_wp2_with fail
      go_roundg (gk - 1)
      case measure => have := HG.out; omega
      case rel => exact ⟨k + 1, _, ⟨by omega, by go_num, by have := HG.out; omega, HS7.out, shape_write HSH.out _ _ _, HB7.out⟩⟩
    · obtain rfl : k = M := by omega
      obtain ⟨q, hq⟩ : ∃ q : Nat, min (data.size : Int) 4000 = (q : Int) := ⟨(min (data.size : Int) 4000).toNat, by omega⟩
      have hq1 : (q : Int) ≤ (data.size : Int) := by omega
      have hq0 : (0 : Int) ≤ (q : Int) := by omega
      have hq4 : q ≤ 4000 := by omega
      obtain ⟨dt, hdt⟩ : ∃ dt, data.extract 0 q = dt := ⟨_, rfl⟩
      have hdl : dt.size = q := by rw [← hdt, ByteArray.size_extract]; omega
      go_wp2_with (rw [hdt])
      refine (lay_z HS.out 0 rfl 1 dt).mono ?_
      rintro e w2 ⟨rfl, hs2, hf2⟩
      have HS2 := Lib.hid hs2
      have HB2 := Lib.hid (HB.out.trans (fr_below hf2 HB.out.size (fun _ hk => hk)))
      have hd4 : dt.size ≤ 4000 := by omega
      clear hs2 hf2 hdt hdl hq hq1 hq0 hMi
      have e64 : ((64 * N : Nat) : Int) = 64 * (N : Int) := by omega
      have hmk := print_make_of (P := Try.prog) 56 5 (.int .u8 0) 1 Try.underlying56 infoU8 rfl (by decide) (64 * N) (by omega)
      simp only [e64] at hmk
      have hcv := Go.run_convert_bytes_back (P := Try.prog) (w2.alloc (.cells (madeCells #[.int .u8 0] (64 * N)) 5)) 56 9 5 ⟨w2.heap.size, 0, none⟩ (64 * N) (List.replicate (64 * N) 0) Try.underlying56 Try.underlying5 Try.underlying9 (fun j hj => by
        rw [Addr.add_plain0]
        have hj2 : j < 64 * N := by simpa using hj
        unfold World.cell?
        rw [heap_alloc_new]
        show (madeCells #[Value.int .u8 0] (64 * N))[j]? = _
        rw [← Array.getElem?_toList, toList_madeCells_one]
        simp [hj2])
      rw [List.length_replicate] at hcv
      obtain ⟨zs, hzs⟩ : ∃ zs : ByteArray, (⟨(List.replicate (64 * N) 0).toArray⟩ : ByteArray) = zs := ⟨_, rfl⟩
      rw [hzs] at hcv
      have hzl : zs.size = 64 * N := by rw [← hzs]; show (List.replicate (64 * N) (0 : UInt8)).toArray.size = _; simp
      have hwe : Hid ((dt ++ zs).extract 0 (64 * N) = wholeB N dt) := by show _ = _; rw [← hzs]; exact whole_eq N dt
      have hsz : (dt ++ zs).size = dt.size + 64 * N := by rw [ByteArray.size_append, hzl]
      have hszI : (64 * (N : Int)) ≤ ((dt ++ zs).size : Int) := by omega
      have HSZ := Lib.hid hszI
      have hz4 : zs.size ≤ 4000 := by omega
      have hz5 : dt.size + zs.size ≤ 9223372036854775807 := by omega
      have hb3 : Below w2.heap.size w2 (w2.alloc (.cells (madeCells #[.int .u8 0] (64 * N)) 5)) := (Below.refl _ _).alloc (Nat.le_refl _) _
      have HS3 := Lib.hid (HS2.out.keep hb3)
      have HB3 := Lib.hid (HB2.out.trans (hb3.mono HB2.out.size))
      clear hzs hzl hsz e64 hb3
      go_wp2_with fail
      obtain ⟨w3, hw3⟩ : ∃ w3, w2.alloc (.cells (madeCells #[.int .u8 0] (64 * N)) 5) = w3 := ⟨_, rfl⟩
      rw [hw3, hwe.out]
      rw [hw3] at HS3 HB3
      obtain ⟨wh, hwh⟩ : ∃ wh, wholeB N dt = wh := ⟨_, rfl⟩
      rw [hwh]
      have HWH := Lib.hid hwh
      have hlay : layM m 1 dt = setM m 1 ⟨layL N dt, []⟩ := lay_at HSH.out (k := 1) rfl dt
      have HLAY := Lib.hid hlay
      clear hw3 hwh hmk hcv hwe hlay hd4 hz4 hz5 HSZ hszI HS2 HB2
      go_loopg [63] N (fun gk v wr => ∃ j : Nat, j ≤ N ∧ v = .int .i64 j ∧ gk + j = N ∧ Dks (fun k => k < w.heap.size) wr [⟨w.heap.size + 1, layM m 1 dt, k⟩] ∧ Below w.heap.size w wr)
      case atStart => exact ⟨0, Nat.zero_le _, rfl, rfl, HS3.out, HB3.out⟩
      case round =>
        obtain ⟨j, hj, rfl, hg2, hs4, hb4⟩ := hrel
        have HG2 := Lib.hid hg2
        have HS4 := Lib.hid hs4
        have HB4 := Lib.hid hb4
        clear hg2 hs4 hb4 HS3 HB3
        by_cases hlt : j < N
        · have hltI : (j : Int) < (N : Int) := by omega
          have hread : readM (layM m 1 dt) 1 (j : Int) = secB dt j := by
            rw [HLAY.out]
            have := read_set HSH.out (k := 1) (N := N) rfl (layL_length N dt) j hlt
            rw [show ((1 : Nat) : Int) = 1 from rfl] at this
            rw [this]
            simp [layL, hlt]
          have hfind : findM (layM m 1 dt) 1 (j : Int) = 0 := by
            have h := shape_find (shape_lay HSH.out (k := 1) (N := N) rfl dt) (k := 1) (N := N) rfl (j : Int)
            rw [show ((1 : Nat) : Int) = 1 from rfl, if_pos ⟨by omega, by omega⟩] at h
            exact h
          have hwz : (64 * (j : Int) + 64) ≤ (wh.size : Int) := by
            have h := whole_size N dt
            rw [HWH.out] at h
            omega
          have hat := whole_at N dt j hlt
          rw [HWH.out] at hat
          obtain ⟨sj, hsj⟩ : ∃ sj, secB dt j = sj := ⟨_, rfl⟩
          rw [hsj] at hread hat
          have HR := Lib.hid hread
          have HF := Lib.hid hfind
          clear hread hfind hsj
          go_wp2_with fail
          refine (read_z HS4.out 0 rfl 1 (j : Int)).mono ?_
          rintro e w5 ⟨rfl, hb5⟩
          simp only
          rw [HR.out, HF.out]
          have HS5 := Lib.hid (HS4.out.keep hb5)
          have HB5 := Lib.hid (HB4.out.trans (hb5.mono HB4.out.size))
          clear hb5
          go_wp2_with fail
          go_roundg (N - (j + 1))
          case measure => have := HG2.out; omega
          case rel => exact ⟨j + 1, by omega, by go_num, by omega, HS5.out, HB5.out⟩
        · obtain rfl : j = N := by omega
          go_wp2_with fail
          refine (crash_lit_z HS4.out 0 rfl (by show k ≤ 1000000; omega) 59 2 [18446744073709551615, 18446744073709551615] (by simp) (by simp)).mono ?_
          rintro e w5 ⟨rfl, hs5, hf5⟩
          have HS5 := Lib.hid hs5
          have HB5 := Lib.hid (HB4.out.trans (fr_below hf5 HB4.out.size (fun _ hk => hk)))
          clear hs5 hf5
          go_wp2_with fail
          refine (wakes_any _).mono ?_
          rintro e w6 ⟨rfl, hb6⟩
          have HS6 := Lib.hid (HS5.out.keep hb6)
          have HB6 := Lib.hid (HB5.out.trans (hb6.mono HB5.out.size))
          clear hb6
          go_wp2_with fail
          refine (image_z HS6.out 0 rfl 1).mono ?_
          rintro e w7 ⟨rfl, hb7⟩
          have him : imageM (crashM [18446744073709551615, 18446744073709551615] (layM m 1 dt)) 1 = wh := by
            rw [HLAY.out]
            have h := image_crash HSH.out (k := 1) (N := j) rfl (l := layL j dt) [18446744073709551615, 18446744073709551615]
            rw [show ((1 : Nat) : Int) = 1 from rfl] at h
            rw [h, cat_lay, HWH.out]
          simp only
          rw [him]
          clear him
          have HB7 := Lib.hid (HB6.out.trans (hb7.mono HB6.out.size))
          clear hb7
          go_wp2_with fail
          refine bodyPost_ret (v := .bool true) (by simp [results, Try.results7, go_sem]) rfl ?_
          exact ⟨rfl, HB7.out⟩

end Go.Proofs.Ytekpbpcfeopilaa.Eb
