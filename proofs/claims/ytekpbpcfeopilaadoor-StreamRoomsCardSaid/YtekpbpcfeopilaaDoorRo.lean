/- StreamRooms: the walk. -/
import Derived.Test.YtekpbpcfeopilaaDoorK6
namespace Go.Proofs.YtekpbpcfeopilaaDoor.Ro
open Go Go.RowKit Go.Joins Go.Proofs.YtekpbpcfeopilaaDoorCore Go.Proofs.YtekpbpcfeopilaaDoor.Dm Go.Proofs.YtekpbpcfeopilaaDoor.Dr Go.Proofs.YtekpbpcfeopilaaDoor.Da Go.Proofs.YtekpbpcfeopilaaDoor.Dl Go.Proofs.YtekpbpcfeopilaaDoor.Ds Go.Proofs.YtekpbpcfeopilaaDoor.Dw Go.Proofs.YtekpbpcfeopilaaDoor.Sys Go.Proofs.YtekpbpcfeopilaaDoor.PStrm Go.Proofs.YtekpbpcfeopilaaDoor.Sm Go.Proofs.YtekpbpcfeopilaaDoor.Lw Go.Proofs.YtekpbpcfeopilaaDoor.Fp Go.Proofs.YtekpbpcfeopilaaDoor.Sp Go.Proofs.YtekpbpcfeopilaaDoor.Fz Go.Proofs.YtekpbpcfeopilaaDoor.Hd Go.Proofs.YtekpbpcfeopilaaDoor.St Go.Proofs.YtekpbpcfeopilaaDoor.Ap Go.Proofs.YtekpbpcfeopilaaDoor.Rs Go.Proofs.YtekpbpcfeopilaaDoor.Op Go.Proofs.YtekpbpcfeopilaaDoor.Cm Go.Proofs.YtekpbpcfeopilaaDoor.Ws Go.Proofs.YtekpbpcfeopilaaDoorW.PrintWords Go.Proofs.YtekpbpcfeopilaaDoorW.PrintLast Go.Proofs.YtekpbpcfeopilaaDoorW.PrintMore

theorem app_room {m : MDisk} {k : Nat} {L : List ByteArray} {s : MSt} {l : List ByteArray} (G : Cm.Good m k L s l) (hh2 : s.h ≤ 65535) (y : ByteArray) (hy : y.size ≤ 600) :
    (y.size = 0 ∧ appR m s y = (2, s, m)) ∨ (0 < y.size ∧ (s.h : Int) * 55 - 1 - (s.data.size : Int) < 6 + (y.size : Int) ∧ appR m s y = (12, s, m)) ∨
    (0 < y.size ∧ ¬ (s.h : Int) * 55 - 1 - (s.data.size : Int) < 6 + (y.size : Int) ∧ (appR m s y).1 = 0 ∧ (appR m s y).2.1.g = s.g ∧ (appR m s y).2.1.b = s.b ∧ (appR m s y).2.1.h = s.h ∧ (appR m s y).2.1.data.size = s.data.size + (6 + y.size) ∧
      ∃ L', L'.length = L.length ∧ Cm.Good (appR m s y).2.2 k L' (appR m s y).2.1 (l ++ [y])) := by
  by_cases h0 : y.size = 0
  · left
    have hp : putS y = (⟨#[]⟩, 2) := by unfold putS; rw [if_pos h0]
    rcases app_calm G hh2 y with ⟨h1, _⟩ | ⟨_, h2, _⟩ | ⟨_, h2, _⟩
    · rw [hp] at h1
      exact ⟨h0, h1⟩
    · rw [hp] at h2; cases h2
    · rw [hp] at h2; cases h2
  · right
    have hp : (putS y).2 = 0 := by unfold putS; rw [if_neg h0, if_neg (by omega)]
    rcases app_calm G hh2 y with ⟨_, h1⟩ | ⟨h1, _, h2⟩ | ⟨h1, _, h2, h3, h4, h5, h6, h7⟩
    · exact absurd hp h1
    · exact .inl ⟨by omega, h2, h1⟩
    · exact .inr ⟨by omega, h2, h1, h3, h4, h5, h6, h7⟩


theorem cap_f (q : Nat) (h1 : 1 ≤ sizeH q) (h2 : sizeH q ≤ 300) : stream_Capacity.f (q : Int) = some ((sizeH q : Int) * 55 - 1) := by
  unfold stream_Capacity.f
  rw [size_f]
  show some (mx 0 (wrap64 ((wrap64 (((sizeH q : Nat) : Int) * 55)) - 1))) = _
  have e1 : wrap64 (((sizeH q : Nat) : Int) * 55) = ((sizeH q : Nat) : Int) * 55 := by unfold wrap64; omega
  have e2 : wrap64 (((sizeH q : Nat) : Int) * 55 - 1) = ((sizeH q : Nat) : Int) * 55 - 1 := by unfold wrap64; omega
  rw [e1, e2]
  congr 1
  unfold mx
  split <;> omega
structure OInv (Z : Nat → Prop) (w : World) (b sb h M : Nat) (gk : Nat) (v : Value) (wr : World) (j N : Nat) (m : MDisk) (L : List ByteArray) (s : MSt) (l : List ByteArray) : Prop where
  le : j ≤ M
  slot : v = .int .i64 j
  ghost : gk + j = M
  dks : Dks Z wr [⟨b, m, N⟩]
  few : N ≤ 1000 + 1000 * j
  at_ : SAt wr sb s
  good : Cm.Good m 0 L s l
  eb : s.b = b
  eh : s.h = h
  below : Below w.heap.size w wr
def ORel (Z : Nat → Prop) (w : World) (b sb h M : Nat) (gk : Nat) (v : Value) (wr : World) : Prop := ∃ j N m L s l, OInv Z w b sb h M gk v wr j N m L s l

set_option maxHeartbeats 16000000 in
set_option maxRecDepth 100000 in
theorem law (size : Int) (A : Option Addr) (cc : Nat) (l0 : List ByteArray) (w : World) (hC : Kd.C Kd.string w A l0.length l0) (hcc : l0.length ≤ cc) :
    Calls Tryd.prog 8 #[.int .i64 size, .slice A l0.length cc] w fun e w' => e = .returned (.bool true) ∧ Below w.heap.size w w' := by
  obtain ⟨n, hn⟩ : ∃ n : Nat, max 0 size % 40 = (n : Int) := ⟨(max 0 size % 40).toNat, by omega⟩
  have hn40 : n < 40 := by omega
  obtain ⟨M, hM⟩ : ∃ M : Nat, min l0.length 60 = M := ⟨_, rfl⟩
  have hMi : min (l0.length : Int) 60 = (M : Int) := by omega
  have hMc : M ≤ cc := by omega
  have hMl : M ≤ l0.length := by omega
  have hM60 : M ≤ 60 := by omega
  obtain ⟨q, hq⟩ : ∃ q, 3 + n = q := ⟨_, rfl⟩
  have v1 : (3 : Int) + (n : Int) = (q : Int) := by omega
  have v2 : IntKind.i64.wrap (q : Int) = (q : Int) := IntWalk.i64_in _ (by omega)
  have hq3 : 3 ≤ q ∧ q ≤ 42 := by omega
  have HC := Lib.hid hC
  clear hC hM hq
  go_enter Tryd.func8, Tryd.ntmps8
  go_wp2_with fail
  have hC1 := lit_C .i64 w 3 [(q : Int)] (by simp)
  obtain ⟨w1, hw1⟩ : ∃ w1, w.alloc (.cells (encs (Value.int .i64) [(q : Int)]).toArray 3) = w1 := ⟨_, rfl⟩
  have hb1 : Below w.heap.size w w1 := by rw [← hw1]; exact (Below.refl _ _).alloc (Nat.le_refl _) _
  rw [hw1] at hC1
  have hnw := new_z (Dks.nil w1) (some ⟨w.heap.size, 0, none⟩) 1 [(q : Int)] hC1 (by simp)
  obtain ⟨b, hb⟩ : ∃ b, w1.heap.size = b := ⟨_, rfl⟩
  rw [hb] at hnw
  have HNW := Lib.hid hnw
  have HB1 := Lib.hid hb1
  have HWB : Hid (w.heap.size ≤ b) := Lib.hid (by rw [← hb]; exact hb1.size)
  clear hC1 hnw hb1 hb
  change Calls _ _ #[.slice (some ⟨w.heap.size, 0, none⟩) 1 1] (w.alloc (.cells (encs (Value.int .i64) [(q : Int)]).toArray 3)) _
  rw [hw1]
  refine HNW.out.mono ?_
  rintro e w2 ⟨rfl, hD2, hb2⟩
  rw [List.nil_append] at hD2
  have HB2 := Lib.hid (HB1.out.trans (hb2.mono HWB.out))
  have hL0 := new_live q (by omega)
  have e5 : (List.replicate q noneS).length = q := List.length_replicate ..
  obtain ⟨h, hh⟩ : ∃ h, sizeH q = h := ⟨_, rfl⟩
  have hh1 : 1 ≤ h ∧ h ≤ 20 := by rw [← hh]; unfold sizeH; omega
  have hr0 := new_rec q (by omega) (sizeH (List.replicate q noneS).length)
  have ho := opened hD2 0 (d := ⟨b, newM [(q : Int)], 0⟩) rfl hL0 rfl (by rw [e5]; omega) (by rw [e5, hh]; omega) (by show 0 < 900000; omega) (by rw [hr0.1, e5, hh]; show 0 < _; omega) (by rw [hr0.2]; omega)
  rw [hr0.1, hr0.2, e5, hh] at ho
  have HO := Lib.hid ho
  have HCP := Lib.hid (cap_f q (by rw [hh]; omega) (by rw [hh]; omega))
  have HH := Lib.hid hh
  clear hD2 hb2 hL0 hr0 e5 ho HNW hw1 hh
  go_wp2_with fail
  refine HO.out.mono ?_
  rintro e w3 ⟨sb, A3, c3, Z', m', s', L', N', rfl, hz1, hz2, hsb0, hzs, hS, hsb, hsg, hsh, hR, hN', hD3, hF, hl3, hG⟩
  have HB3 : Hid (Below w.heap.size w w3) := Lib.hid (HB2.out.trans (hF.below HB2.out.size (fun k hk hz => hz (Nat.lt_of_lt_of_le hk HWB.out))))
  have HD3 := Lib.hid hD3
  have HG := Lib.hid hG
  have HS3 := Lib.hid hS
  have HZ1 := Lib.hid hz1
  have HZS := Lib.hid hzs
  have HSB : Hid (w.heap.size ≤ sb) := Lib.hid (Nat.le_trans HB2.out.size hsb0)
  have HN : Hid (N' ≤ 1000) := Lib.hid (by have : N' ≤ 0 + 1000 := hN'; omega)
  have HES : Hid (s'.b = b) := Lib.hid hsb
  have HEH : Hid (s'.h = h) := Lib.hid hsh
  have hds : s'.data.size = 0 := by
    have := congrArg List.length hG.data
    simpa [dataOf, framesL] using this
  have HDS := Lib.hid hds
  clear hz1 hz2 hsb0 hzs hS hsb hsg hsh hR hN' hD3 hF hl3 hG hds HO
  go_wp2_with fail
  refine (wakes_any w3).mono ?_
  rintro e w4 ⟨rfl, hb4⟩
  have HB4 := Lib.hid (HB3.out.trans (hb4.mono HB3.out.size))
  have HD4 := Lib.hid (HD3.out.keep hb4)
  have HS4 := Lib.hid (HS3.out.below hb4)
  clear hb4
  go_wp2_with fail
  refine (left_any HS4.out (by rw [HEH.out]; omega) (by rw [HDS.out]; omega)).mono ?_
  rintro e w5 ⟨rfl, hb5⟩
  rw [HEH.out, HDS.out]
  have HB5 := Lib.hid (HB4.out.trans (hb5.mono HB4.out.size))
  have HD5 := Lib.hid (HD4.out.keep hb5)
  have HS5 := Lib.hid (HS4.out.below hb5)
  clear hb5
  go_wp2_with fail
  refine (stream_Capacity.calls (q : Int) _ w5 HCP.out).mono ?_
  rintro e w6 ⟨rfl, hb6⟩
  rw [HH.out]
  have HB6 := Lib.hid (HB5.out.trans (hb6.mono HB5.out.size))
  have HD6 := Lib.hid (HD5.out.keep hb6)
  have HS6 := Lib.hid (HS5.out.below hb6)
  clear hb6
  go_wp2_with fail
  go_loopg [43] M (fun gk v wr => ORel Z' w b sb h M gk v wr)
  case atStart => exact ⟨0, N', m', L', s', [], Nat.zero_le _, rfl, rfl, HD6.out, by have := HN.out; omega, HS6.out, HG.out, HES.out, HEH.out, HB6.out⟩
  case round =>
    obtain ⟨j, N, m, L, s, l, hj, rfl, hg, hdk, hfew, hat, hgd, heb, heh, hbel⟩ := hrel
    have HGK := Lib.hid hg
    have HDK := Lib.hid hdk
    have HFW := Lib.hid hfew
    have HAT := Lib.hid hat
    have HGD := Lib.hid hgd
    have HEB := Lib.hid heb
    have HEHs := Lib.hid heh
    have HBL := Lib.hid hbel
    clear hg hdk hfew hat hgd heb heh hbel
    by_cases hlt : j < M
    · obtain ⟨_, _, hcl⟩ := Kd.reads_of_C (d := ByteArray.empty) HC.out
      obtain ⟨ad, rfl, hcl2⟩ := hcl (by omega)
      have hx := hcl2 j (by omega)
      obtain ⟨x, hxe⟩ : ∃ x, l0.getD j ByteArray.empty = x := ⟨_, rfl⟩
      rw [show l0.getD j _ = x from hxe] at hx
      have hx := pw_cell_below HBL.out hx
      obtain ⟨y6, hy6⟩ : ∃ y6 : Nat, min x.size 600 = y6 := ⟨_, rfl⟩
      have u1 : min (x.size : Int) 600 = (y6 : Int) := by omega
      have u2 : y6 ≤ x.size := by omega
      have u3 : y6 ≤ 600 := by omega
      clear hcl hcl2 hxe hy6
      obtain ⟨y, hy⟩ : ∃ y, x.extract 0 y6 = y := ⟨_, rfl⟩
      have hys : y.size ≤ 600 := by rw [← hy, ByteArray.size_extract]; omega
      have HY := Lib.hid hy
      have hsh : s.h ≤ 300 := by rw [HEHs.out]; omega
      have hfit := HGD.out.fits
      obtain ⟨D, hD⟩ : ∃ D, s.data.size = D := ⟨_, rfl⟩
      rw [hD, HEHs.out] at hfit
      have HDD := Lib.hid hD
      have happ := app_any HDK.out 0 (d := ⟨b, m, N⟩) rfl HAT.out HZS.out HEB.out (by rw [HEHs.out]; omega) HGD.out.holds.hlf HGD.out.holds.g1 HGD.out.holds.g2 (by rw [hD]; omega) (by show N < 900000; have := HFW.out; omega) y
      clear happ hy hD
      go_wp2_with (rw [HY.out])
      refine (left_any HAT.out (by omega) (by rw [HDD.out]; omega)).mono ?_
      rintro e w7 ⟨rfl, hb7⟩
      rw [HEHs.out, HDD.out]
      have HB7 := Lib.hid (HBL.out.trans (hb7.mono HBL.out.size))
      have HD7 := Lib.hid (HDK.out.keep hb7)
      have HS7 := Lib.hid (HAT.out.below hb7)
      clear hb7 hx u1
      have happ := app_any HD7.out 0 (d := ⟨b, m, N⟩) rfl HS7.out HZS.out HEB.out hsh HGD.out.holds.hlf HGD.out.holds.g1 HGD.out.holds.g2 (by rw [HDD.out]; omega) (by show N < 900000; have := HFW.out; omega) y
      have HAP := Lib.hid happ
      have hrm := app_room HGD.out (by omega) y hys
      rw [HEHs.out, HDD.out] at hrm
      clear happ
      go_wp2_with fail
      refine HAP.out.mono ?_
      rintro e w8 ⟨rfl, hS8, ⟨N2, hN2, hD8⟩, hF8⟩
      have hN2' : N2 ≤ 1000 + 1000 * (j + 1) := by have : N2 ≤ N + 1000 := hN2; have := HFW.out; omega
      have HN2 := Lib.hid hN2'
      have HB8 : Hid (Below w.heap.size w w8) := Lib.hid (HB7.out.trans (hF8.below HB7.out.size (fun k hk hz => by
        rcases hz with hz | hz
        · exact hz (HZ1.out k (Nat.lt_of_lt_of_le hk HWB.out))
        · have := HSB.out; omega)))
      clear hN2 hN2' hF8 HAP
      rcases hrm with ⟨c0, hr⟩ | ⟨c0, c1, hr⟩ | ⟨c0, c1, ha1, ha2, ha3, ha4, ha5, L2, hl2, hG2⟩
      · simp only [hr] at hS8 hD8 ⊢
        have HS8 := Lib.hid hS8
        have HD8 := Lib.hid hD8
        have hnil := (Hd.nil_size y).2 c0
        clear hS8 hD8 hr c0
        go_wp2_with fail
        refine (left_any HS8.out (by omega) (by rw [HDD.out]; omega)).mono ?_
        rintro e w9 ⟨rfl, hb9⟩
        rw [HEHs.out, HDD.out]
        have HB9 := Lib.hid (HB8.out.trans (hb9.mono HB8.out.size))
        have HD9 := Lib.hid (HD8.out.keep hb9)
        have HS9 := Lib.hid (HS8.out.below hb9)
        clear hb9
        go_wp2_with fail
        go_roundg (gk - 1)
        case measure => have := HGK.out; omega
        case rel => exact ⟨j + 1, N2, m, L, s, l, by omega, by go_num, by have := HGK.out; omega, HD9.out, HN2.out, HS9.out, HGD.out, HEB.out, HEHs.out, HB9.out⟩
      · simp only [hr] at hS8 hD8 ⊢
        have HS8 := Lib.hid hS8
        have HD8 := Lib.hid hD8
        have hnil : ¬ y.toList = [] := fun h => by have := (Hd.nil_size y).1 h; omega
        have hne : y.toList.isEmpty = false := by simpa using hnil
        have c2 : (h : Int) * 55 - 1 - (D : Int) < (y.size : Int) + 6 := by omega
        clear hS8 hD8 hr
        go_wp2_with fail
        refine (left_any HS8.out (by omega) (by rw [HDD.out]; omega)).mono ?_
        rintro e w9 ⟨rfl, hb9⟩
        rw [HEHs.out, HDD.out]
        have HB9 := Lib.hid (HB8.out.trans (hb9.mono HB8.out.size))
        have HD9 := Lib.hid (HD8.out.keep hb9)
        have HS9 := Lib.hid (HS8.out.below hb9)
        clear hb9
        go_wp2_with fail
        go_roundg (gk - 1)
        case measure => have := HGK.out; omega
        case rel => exact ⟨j + 1, N2, m, L, s, l, by omega, by go_num, by have := HGK.out; omega, HD9.out, HN2.out, HS9.out, HGD.out, HEB.out, HEHs.out, HB9.out⟩
      · obtain ⟨⟨E2, s2, m2⟩, hr2⟩ : ∃ r, appR m s y = r := ⟨_, rfl⟩
        simp only [hr2] at ha1 ha2 ha3 ha4 ha5 hG2
        simp only [hr2] at hS8 hD8 ⊢
        subst ha1
        have HS8 := Lib.hid hS8
        have HD8 := Lib.hid hD8
        have HG2 := Lib.hid hG2
        have HEB2 : Hid (s2.b = b) := Lib.hid (ha3.trans HEB.out)
        have HEH2 : Hid (s2.h = h) := Lib.hid ha4
        have HDS2 : Hid (s2.data.size = D + (6 + y.size)) := Lib.hid ha5
        have hnil : ¬ y.toList = [] := fun h => by have := (Hd.nil_size y).1 h; omega
        have hne : y.toList.isEmpty = false := by simpa using hnil
        have c2 : ¬ (h : Int) * 55 - 1 - (D : Int) < (y.size : Int) + 6 := by omega
        clear hS8 hD8 hr2 ha2 ha3 ha4 ha5 hG2 hl2
        go_wp2_with fail
        refine (left_any HS8.out (by rw [HEH2.out]; omega) (by rw [HDS2.out]; omega)).mono ?_
        rintro e w9 ⟨rfl, hb9⟩
        rw [HEH2.out, HDS2.out]
        have HB9 := Lib.hid (HB8.out.trans (hb9.mono HB8.out.size))
        have HD9 := Lib.hid (HD8.out.keep hb9)
        have HS9 := Lib.hid (HS8.out.below hb9)
        have hcast : ((D + (6 + y.size) : Nat) : Int) = (D : Int) + (6 + (y.size : Int)) := by omega
        rw [hcast]
        have hcmp : ((h : Int) * 55 - 1 - ((D : Int) + (6 + (y.size : Int))) == (h : Int) * 55 - 1 - (D : Int) - (y.size : Int) - 6) = true := by simp; omega
        have hcm2 : ((h : Int) * 55 - 1 - ((D : Int) + (6 + (y.size : Int))) != (h : Int) * 55 - 1 - (D : Int) - (y.size : Int) - 6) = false := by simp; omega
        clear hb9 hcast
        go_wp2_with fail
        go_roundg (gk - 1)
        case measure => have := HGK.out; omega
        case rel => exact ⟨j + 1, N2, m2, L2, s2, l ++ [y], by omega, by go_num, by have := HGK.out; omega, HD9.out, HN2.out, HS9.out, HG2.out, HEB2.out, HEH2.out, HB9.out⟩
    · obtain rfl : M = j := by omega
      go_wp2_with fail
      exact bodyPost_ret (v := .bool true) (by simp [results, Tryd.results8, go_sem]) rfl ⟨rfl, HBL.out⟩

end Go.Proofs.YtekpbpcfeopilaaDoor.Ro
