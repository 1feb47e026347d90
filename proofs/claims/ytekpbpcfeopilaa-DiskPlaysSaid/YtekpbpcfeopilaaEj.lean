/- DiskPlays: the walk. -/
import Derived.Test.YtekpbpcfeopilaaEh
import Derived.Test.YtekpbpcfeopilaaEi
namespace Go.Proofs.Ytekpbpcfeopilaa.Ej
open Go Go.RowKit Go.Joins Go.Proofs.YtekpbpcfeopilaaCore Go.Proofs.Ytekpbpcfeopilaa.Dm Go.Proofs.Ytekpbpcfeopilaa.Dr Go.Proofs.Ytekpbpcfeopilaa.Da Go.Proofs.Ytekpbpcfeopilaa.Df Go.Proofs.Ytekpbpcfeopilaa.Dg Go.Proofs.Ytekpbpcfeopilaa.Dh Go.Proofs.Ytekpbpcfeopilaa.Di Go.Proofs.Ytekpbpcfeopilaa.Dj Go.Proofs.Ytekpbpcfeopilaa.Dk Go.Proofs.Ytekpbpcfeopilaa.Dl Go.Proofs.Ytekpbpcfeopilaa.Dn Go.Proofs.Ytekpbpcfeopilaa.Dp Go.Proofs.Ytekpbpcfeopilaa.Dq Go.Proofs.Ytekpbpcfeopilaa.Ds Go.Proofs.Ytekpbpcfeopilaa.Dt Go.Proofs.Ytekpbpcfeopilaa.Du Go.Proofs.Ytekpbpcfeopilaa.Dv Go.Proofs.Ytekpbpcfeopilaa.Dw Go.Proofs.Ytekpbpcfeopilaa.Sys Go.Proofs.Ytekpbpcfeopilaa.Eb Go.Proofs.Ytekpbpcfeopilaa.Ef Go.Proofs.Ytekpbpcfeopilaa.Ra Go.Proofs.Ytekpbpcfeopilaa.Rb Go.Proofs.Ytekpbpcfeopilaa.Rc Go.Proofs.Ytekpbpcfeopilaa.Rd Go.Proofs.Ytekpbpcfeopilaa.Re Go.Proofs.Ytekpbpcfeopilaa.Rf Go.Proofs.Ytekpbpcfeopilaa.Rg Go.Proofs.Ytekpbpcfeopilaa.Rh Go.Proofs.Ytekpbpcfeopilaa.Ri Go.Proofs.Ytekpbpcfeopilaa.Rj Go.Proofs.Ytekpbpcfeopilaa.Eg Go.Proofs.Ytekpbpcfeopilaa.Eh Go.Proofs.Ytekpbpcfeopilaa.Ei Go.Proofs.YtekpbpcfeopilaaW.PrintWords Go.Proofs.YtekpbpcfeopilaaW.PrintLast Go.Proofs.YtekpbpcfeopilaaW.PrintMore

structure PlInv (M B b2 : Nat) (w : World) (gk : Nat) (v : Value) (wr : World) (k : Nat) (m m' : MDisk) : Prop where
  hi : k ≤ M
  slot : v = .int .i64 k
  ghost : gk + k = M
  two : Two (fun j => j < w.heap.size) wr B m b2 m'
  twn : Twn m m'
  wf : Wf k m
  bel : Below w.heap.size w wr
def PlRel (M B b2 : Nat) (w : World) (gk : Nat) (v : Value) (wr : World) : Prop := ∃ k m m', PlInv M B b2 w gk v wr k m m'

set_option maxHeartbeats 8000000 in
set_option maxRecDepth 100000 in
theorem diskPlays (A : Option Addr) (cc : Nat) (l : List Int) (A2 : Option Addr) (cc2 : Nat) (xs : List ActT) (w : World) (hC : Kd.C (Kd.int .i64) w A l.length l) (hcc : l.length ≤ cc) (hX : Kd.C actK w A2 xs.length xs) (hcc2 : xs.length ≤ cc2)
    (hG : ∀ x ∈ xs, x.2.2.2.1 ≤ 9223372036854775807 ∧ x.2.2.2.2.2.length * 8 ≤ 140737488355328 ∧ ∀ y ∈ x.2.2.2.2.2, 0 ≤ y ∧ y ≤ 18446744073709551615) :
    Calls Try.prog 10 #[.slice A l.length cc, .slice A2 xs.length cc2] w fun e w' => e = .returned (.bool true) ∧ Below w.heap.size w w' := by
  obtain ⟨M, hM⟩ : ∃ M : Nat, min xs.length 100 = M := ⟨_, rfl⟩
  have hMi : min (xs.length : Int) 100 = (M : Int) := by omega
  have hM1 : M ≤ xs.length := by omega
  have hM100 : M ≤ 100 := by omega
  have hMc : M ≤ cc2 := by omega
  have hlen := hX.2.1
  have HC := Lib.hid hC
  have HX := Lib.hid hX
  have HG := Lib.hid hG
  clear hC hX hG hM
  go_enter Try.func10, Try.ntmps10
  go_wp2_with fail
  refine (psizes_any A cc l w HC.out hcc).mono ?_
  rintro e w1 ⟨v1, rfl, hR1, hb1⟩
  obtain ⟨A1, c1, rfl, hc1, hC1⟩ := Kd.R_reads hR1
  have HC1 := Lib.hid hC1
  have HB1 := Lib.hid hb1
  clear hR1 hC1 hb1
  go_wp2_with fail
  refine (new_any (fun _ => 0) 10 A1 c1 (sizesL l) w1 HC1.out hc1).mono ?_
  rintro e w2 ⟨rfl, hb2, G2, hG2, hd2⟩
  have HB2 := Lib.hid (HB1.out.trans (hb2.mono HB1.out.size))
  have HD2 := Lib.hid hd2
  obtain ⟨B, hB⟩ : ∃ B, w1.heap.size = B := ⟨_, rfl⟩
  rw [hB] at HD2
  rw [hB]
  have HG2 := Lib.hid hG2
  clear hb2 hd2 hG2 hB
  go_wp2_with fail
  refine (psizes_any A cc l w2 (Kd.C_below HC.out HB2.out) hcc).mono ?_
  rintro e w3 ⟨v3, rfl, hR3, hb3⟩
  obtain ⟨A3, c3, rfl, hc3, hC3⟩ := Kd.R_reads hR3
  have HC3 := Lib.hid hC3
  have HD3 := Lib.hid (dat_below HD2.out hb3)
  have HB3 := Lib.hid (HB2.out.trans (hb3.mono HB2.out.size))
  clear hR3 hC3 hb3
  go_wp2_with fail
  refine (rnew_any G2 30 A3 c3 (sizesL l) w3 HC3.out).mono ?_
  rintro e w4 ⟨rfl, hb4, G4, hG4, hd4⟩
  have hwf := new_wf (sizesL l)
  obtain ⟨b2, hb2z⟩ : ∃ b2, w3.heap.size = b2 := ⟨_, rfl⟩
  have HS4 : Hid (Two (fun j => j < w.heap.size) w4 B (newM (sizesL l)) b2 (newM (sizesL l))) := by
    refine ⟨fun k hk => Nat.lt_of_lt_of_le hk (HB3.out.trans (hb4.mono HB3.out.size)).size, hwf.few, hwf.few, G4, dat_below (dat_recolour HD3.out hG4) hb4, by rw [← hb2z]; exact hd4, fun k hk => ?_⟩
    rw [hG4 k (Nat.lt_of_lt_of_le hk HB3.out.size), HG2.out k (Nat.lt_of_lt_of_le hk HB1.out.size)]
  have HB4 := Lib.hid (HB3.out.trans (hb4.mono HB3.out.size))
  rw [hb2z]
  clear hb4 hG4 hd4 hb2z HD3 HD2 HG2 HC1 HC3
  obtain ⟨m, hm⟩ : ∃ m, newM (sizesL l) = m := ⟨_, rfl⟩
  rw [hm] at HS4 hwf
  have HW := Lib.hid hwf
  clear hwf hm
  go_wp2_with fail
  refine (wakes_any _).mono ?_
  rintro e w5 ⟨rfl, hb5⟩
  have HS5 := Lib.hid (HS4.out.below hb5)
  have HB5 := Lib.hid (HB4.out.trans (hb5.mono HB4.out.size))
  clear hb5 HS4 HB4
  go_wp2_with fail
  refine (same_any HS5.out (Twn.refl m) HW.out).mono ?_
  rintro e w6 ⟨rfl, hb6⟩
  have HS6 := Lib.hid (HS5.out.below hb6)
  have HB6 := Lib.hid (HB5.out.trans (hb6.mono HB5.out.size))
  clear hb6 HS5 HB5
  go_wp2_with fail
  go_loopg [29] M (fun gk v wr => PlRel M B b2 w gk v wr)
  case atStart => exact ⟨0, m, m, ⟨Nat.zero_le _, rfl, rfl, HS6.out, Twn.refl m, HW.out, HB6.out⟩⟩
  case round =>
    obtain ⟨k, m1, m1', hk, rfl, hgk, hs, ht, hw, hb⟩ := hrel
    have HGK := Lib.hid hgk
    have HS := Lib.hid hs
    have HT := Lib.hid ht
    have HWF := Lib.hid hw
    have HB := Lib.hid hb
    clear hgk hs ht hw hb HS6 HB6
    by_cases hlt : k < M
    · obtain ⟨ad, x, rfl, hxx, hcells⟩ := act_at HX.out k (by omega)
      obtain ⟨hx3, hxl, hxk⟩ := HG.out x (List.mem_of_getElem? hxx)
      obtain ⟨a0, a1, a2, a3, a4, A5, n5, a5, hC5⟩ := hcells
      have HC5 := Lib.hid hC5
      have HXK := Lib.hid hxk
      have g0 := pw_cell_below HB.out a0
      have g1 := pw_cell_below HB.out a1
      have g2 := pw_cell_below HB.out a2
      have g3 := pw_cell_below HB.out a3
      have g4 := pw_cell_below HB.out a4
      have g5 := pw_cell_below HB.out a5
      have hltI : (k : Int) < (M : Int) := by omega
      obtain ⟨x0, x1, x2, x3, xd, xk⟩ := x
      simp only at g0 g1 g2 g3 g4 g5 HXK HC5 hx3 hxl
      obtain ⟨wb, hwb⟩ : ∃ wb, wr.alloc (.cells #[.int .i64 x0, .int .i64 x1, .int .i64 x2, .int .i64 x3, .string xd, .slice A5 xk.length n5] 52) = wb := ⟨_, rfl⟩
      have hbb : Below wr.heap.size wr wb := by rw [← hwb]; exact (Below.refl _ _).alloc (Nat.le_refl _) _
      have hqb : wb.heap[wr.heap.size]? = some (.cells #[.int .i64 x0, .int .i64 x1, .int .i64 x2, .int .i64 x3, .string xd, .slice A5 xk.length n5] 52 (0, 0)) := by rw [← hwb]; exact heap_alloc_new _ _
      obtain ⟨q, hq⟩ : ∃ q, wr.heap.size = q := ⟨_, rfl⟩
      rw [hq] at hqb
      have HSb := Lib.hid (HS.out.below hbb)
      have HBb := Lib.hid (HB.out.trans (hbb.mono HB.out.size))
      have d0 : wb.cell? ⟨q, 0, none⟩ = some (.int .i64 x0) := cell_of_block hqb 0
      have d1 : wb.cell? ⟨q, 1, none⟩ = some (.int .i64 x1) := cell_of_block hqb 1
      have d2 : wb.cell? ⟨q, 2, none⟩ = some (.int .i64 x2) := cell_of_block hqb 2
      have d3 : wb.cell? ⟨q, 3, none⟩ = some (.int .i64 x3) := cell_of_block hqb 3
      have d4 : wb.cell? ⟨q, 4, none⟩ = some (.string xd) := cell_of_block hqb 4
      have d5 : wb.cell? ⟨q, 5, none⟩ = some (.slice A5 xk.length n5) := cell_of_block hqb 5
      clear a0 a1 a2 a3 a4 a5 hxx hxk hC5 hbb hqb
      go_wp2_with (rw [hwb])
      clear d0 d1 d2 d3 d4 d5 hwb hq
      refine (act_any HSb.out HT.out HWF.out (by omega) x0 x1 x2 x3 xd A5 n5 xk hx3 hxl HXK.out (fun W hW => Kd.C_below HC5.out (HBb.out.trans (fr_below hW HBb.out.size (fun _ hk => hk))))).mono ?_
      rintro e w7 ⟨rfl, m2, m2', ht2, hw2, hs2, hf2⟩
      have HS2 := Lib.hid hs2
      have HT2 := Lib.hid ht2
      have HW2 := Lib.hid hw2
      have HB2' := Lib.hid (HBb.out.trans (fr_below hf2 HBb.out.size (fun _ hk => hk)))
      clear hs2 ht2 hw2 hf2 g0 g1 g2 g3 g4 g5
      go_wp2_with fail
      refine (same_any HS2.out HT2.out HW2.out).mono ?_
      rintro e w8 ⟨rfl, hb8⟩
      have HS8 := Lib.hid (HS2.out.below hb8)
      have HB8 := Lib.hid (HB2'.out.trans (hb8.mono HB2'.out.size))
      clear hb8
      go_wp2_with fail
      go_roundg (gk - 1)
      case measure => have := HGK.out; omega
      case rel => exact ⟨k + 1, _, _, ⟨by omega, by go_num, by have := HGK.out; omega, HS8.out, HT2.out, HW2.out, HB8.out⟩⟩
    · obtain rfl : k = M := by omega
      go_wp2_with fail
      refine bodyPost_ret (v := .bool true) (by simp [results, Try.results10, go_sem]) rfl ?_
      exact ⟨rfl, HB.out⟩

end Go.Proofs.Ytekpbpcfeopilaa.Ej
