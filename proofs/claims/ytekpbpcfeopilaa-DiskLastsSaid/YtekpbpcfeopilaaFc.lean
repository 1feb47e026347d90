/- DiskLasts: the walk. -/
import Derived.Test.YtekpbpcfeopilaaEb
import Derived.Test.YtekpbpcfeopilaaFb
import Derived.IntWalk
namespace Go.Proofs.Ytekpbpcfeopilaa.Fc
open Go Go.RowKit Go.Joins Go.Proofs.YtekpbpcfeopilaaCore Go.Proofs.Ytekpbpcfeopilaa.Dm Go.Proofs.Ytekpbpcfeopilaa.Dr Go.Proofs.Ytekpbpcfeopilaa.Da Go.Proofs.Ytekpbpcfeopilaa.Df Go.Proofs.Ytekpbpcfeopilaa.Dg Go.Proofs.Ytekpbpcfeopilaa.Dh Go.Proofs.Ytekpbpcfeopilaa.Di Go.Proofs.Ytekpbpcfeopilaa.Dj Go.Proofs.Ytekpbpcfeopilaa.Dk Go.Proofs.Ytekpbpcfeopilaa.Dl Go.Proofs.Ytekpbpcfeopilaa.Dn Go.Proofs.Ytekpbpcfeopilaa.Dp Go.Proofs.Ytekpbpcfeopilaa.Dq Go.Proofs.Ytekpbpcfeopilaa.Ds Go.Proofs.Ytekpbpcfeopilaa.Dt Go.Proofs.Ytekpbpcfeopilaa.Du Go.Proofs.Ytekpbpcfeopilaa.Dv Go.Proofs.Ytekpbpcfeopilaa.Dw Go.Proofs.Ytekpbpcfeopilaa.Ea Go.Proofs.Ytekpbpcfeopilaa.Eb Go.Proofs.Ytekpbpcfeopilaa.Fa Go.Proofs.Ytekpbpcfeopilaa.Fb Go.Proofs.Ytekpbpcfeopilaa.Sys Go.Proofs.Ytekpbpcfeopilaa.Reg Go.Proofs.YtekpbpcfeopilaaW.PrintWords Go.Proofs.YtekpbpcfeopilaaW.PrintLast Go.Proofs.YtekpbpcfeopilaaW.PrintMore

theorem infoRow : (Try.prog.info? 35).map (fun i => (i.zero, i.size, i.bytes)) = some (some (.slice none 0 0), 1, 24) := by kernel_rfl
theorem none_eq : sectorB ⟨#[]⟩ = noneS := by rfl

/-- While the rows are laid. -/
structure AInv (w : World) (b1 b2 mb : Nat) (gk : Nat) (v : Value) (wr : World) (k : Nat) (vs : List Value) (gs : List Nat) (Z : Nat → Prop) : Prop where
  hi : k ≤ 4
  slot : v = .int .i64 k
  ghost : gk + k = 4
  sys : LS 9 35 w wr b1 b2 (newM [4]) (newM [4]) 0 0 [] mb vs gs (List.replicate k [noneS]) Z
def ARel (w : World) (b1 b2 mb : Nat) (gk : Nat) (v : Value) (wr : World) : Prop := ∃ k vs gs Z, AInv w b1 b2 mb gk v wr k vs gs Z

structure HeldAt (b i : Nat) (v : Value) (W : World) : Prop where
  cell : W.cell? ⟨b, i, none⟩ = some v
/-- While the rows are cut. -/
structure CInv (w : World) (b1 b2 mb q n : Nat) (o : Obj) (m : MDisk) (may : List (List ByteArray)) (gk : Nat) (v : Value) (wr : World) (j : Nat) (vs : List Value) (gs : List Nat) (Z : Nat → Prop) : Prop where
  hi : j ≤ 4
  slot : v = .int .i64 j
  ghost : gk + j = 4
  sys : LS 9 35 w wr b1 b2 m m n n [(q, o)] mb vs gs (cutTo may j) Z
def CRel (w : World) (b1 b2 mb q n : Nat) (o : Obj) (m : MDisk) (may : List (List ByteArray)) (gk : Nat) (v : Value) (wr : World) : Prop := ∃ j vs gs Z, CInv w b1 b2 mb q n o m may gk v wr j vs gs Z
/-- While they are read. -/
structure DInv (w : World) (b1 b2 mb n : Nat) (m1 m2 : MDisk) (vs : List Value) (gs : List Nat) (may : List (List ByteArray)) (Z : Nat → Prop) (gk : Nat) (v : Value) (wr : World) (j : Nat) : Prop where
  hi : j ≤ 4
  slot : v = .int .i64 j
  ghost : gk + j = 4
  sys : LS 9 35 w wr b1 b2 m1 m2 n n [] mb vs gs may Z
def DRel (w : World) (b1 b2 mb n : Nat) (m1 m2 : MDisk) (vs : List Value) (gs : List Nat) (may : List (List ByteArray)) (Z : Nat → Prop) (gk : Nat) (v : Value) (wr : World) : Prop := ∃ j, DInv w b1 b2 mb n m1 m2 vs gs may Z gk v wr j
structure EInv (w : World) (b1 b2 mb n : Nat) (m1 m2 : MDisk) (vs : List Value) (gs : List Nat) (may : List (List ByteArray)) (Z : Nat → Prop) (ys : List ByteArray) (s : ByteArray) (ny : Nat) (gk : Nat) (u v : Value) (wr : World) (c : Nat) (b : Bool) : Prop where
  hi : c ≤ ny
  there : u = .bool b
  slot : v = .int .i64 c
  ghost : gk + c = ny
  seen : b = false → s ∈ ys.drop c
  sys : LS 9 35 w wr b1 b2 m1 m2 n n [] mb vs gs may Z
def ERel (w : World) (b1 b2 mb n : Nat) (m1 m2 : MDisk) (vs : List Value) (gs : List Nat) (may : List (List ByteArray)) (Z : Nat → Prop) (ys : List ByteArray) (s : ByteArray) (ny : Nat) (gk : Nat) (u v : Value) (wr : World) : Prop := ∃ c b, EInv w b1 b2 mb n m1 m2 vs gs may Z ys s ny gk u v wr c b
/-- Behind each call. -/
structure BInv (w : World) (b1 b2 mb M : Nat) (gk : Nat) (v : Value) (wr : World) (k n : Nat) (vs : List Value) (gs : List Nat) (Z : Nat → Prop) (L : List ByteArray) (Q : List (Int × ByteArray)) (may : List (List ByteArray)) : Prop where
  hi : k ≤ M
  slot : v = .int .i64 k
  ghost : gk + k = M
  few : n ≤ k
  short : ∀ ys ∈ may, ys.length ≤ k + 1
  ok : May L Q may
  sys : LS 9 35 w wr b1 b2 (four L Q) (four L Q) n n [] mb vs gs may Z
def BRel (w : World) (b1 b2 mb M : Nat) (gk : Nat) (v : Value) (wr : World) : Prop := ∃ k n vs gs Z L Q may, BInv w b1 b2 mb M gk v wr k n vs gs Z L Q may

set_option maxHeartbeats 40000000 in
set_option maxRecDepth 100000 in
theorem diskLasts (A : Option Addr) (cc : Nat) (xs : List ActT) (kp : Int) (w : World) (hC : actK.C w A xs.length xs) (hcc : xs.length ≤ cc) (hkp : 0 ≤ kp ∧ kp ≤ 18446744073709551615) :
    Calls Try.prog 8 #[.slice A xs.length cc, .int .u64 kp] w fun e w' => e = .returned (.bool true) ∧ Below w.heap.size w w' := by
  have HC := Lib.hid hC
  have HKP := Lib.hid hkp
  clear hC hkp
  have hC1 := lit_C .i64 w 3 [4] (by simp)
  obtain ⟨wl, hwl⟩ : ∃ wl, w.alloc (.cells (encs (Value.int .i64) [4]).toArray 3) = wl := ⟨_, rfl⟩
  have hbl : Below w.heap.size w wl := by rw [← hwl]; exact (Below.refl _ _).alloc (Nat.le_refl _) _
  have hzl : wl.heap.size = w.heap.size + 1 := by rw [← hwl]; simp
  have hwl' : w.alloc (.cells #[.int .i64 4] 3) = wl := hwl
  rw [hwl] at hC1
  have HC1 := Lib.hid hC1
  have HBL := Lib.hid hbl
  clear hwl hC1 hbl
  go_enter Try.func8, Try.ntmps8
  go_wp2_with (rw [hwl'])
  refine (new_z ((Dks.nil w).keep HBL.out) (some ⟨w.heap.size, 0, none⟩) 1 [4] HC1.out (by simp)).mono ?_
  rintro e w1 ⟨rfl, hs1, hb1⟩
  rw [hzl, List.nil_append] at hs1
  rw [hzl]
  have HS1 := Lib.hid hs1
  have HB1 := Lib.hid (HBL.out.trans (hb1.mono HBL.out.size))
  clear hs1 hwl' hb1 hzl
  have hC2 := lit_C .i64 w1 3 [4] (by simp)
  obtain ⟨wl2, hwl2⟩ : ∃ wl2, w1.alloc (.cells (encs (Value.int .i64) [4]).toArray 3) = wl2 := ⟨_, rfl⟩
  have hbl2 : Below w1.heap.size w1 wl2 := by rw [← hwl2]; exact (Below.refl _ _).alloc (Nat.le_refl _) _
  have hwl2' : w1.alloc (.cells #[.int .i64 4] 3) = wl2 := hwl2
  rw [hwl2] at hC2
  have HC2 := Lib.hid hC2
  have HBL2 := Lib.hid hbl2
  clear hwl2 hC2 hbl2
  go_wp2_with (rw [hwl2'])
  refine (new_z (HS1.out.keep HBL2.out) (some ⟨w1.heap.size, 0, none⟩) 1 [4] HC2.out (by simp)).mono ?_
  rintro e w2 ⟨rfl, hs2, hb2⟩
  obtain ⟨b2, hb2z⟩ : ∃ b2, wl2.heap.size = b2 := ⟨_, rfl⟩
  rw [hb2z] at hs2
  rw [hb2z]
  have HS2 := Lib.hid hs2
  have HB2 := Lib.hid (HB1.out.trans ((HBL2.out.mono HB1.out.size).trans (hb2.mono (Nat.le_trans HB1.out.size HBL2.out.size))))
  clear hs2 hwl2' hb2 hb2z
  have hmk : (Instr.makeSlice 61 (.int .i64 4) (.int .i64 4)).run Try.prog w2 = .ok (.slice (some ⟨w2.heap.size, 0, none⟩) 4 4) (w2.alloc (.cells (madeCells #[.slice none 0 0] 4) 35)) := print_make_of (P := Try.prog) 61 35 (.slice none 0 0) 24 Try.underlying61 infoRow rfl (by decide) 4 (by omega) w2
  obtain ⟨w3, hw3⟩ : ∃ w3, w2.alloc (.cells (madeCells #[.slice none 0 0] 4) 35) = w3 := ⟨_, rfl⟩
  rw [hw3] at hmk
  go_wp2_with fail
  have hls : LS 9 35 w w3 (w.heap.size + 1) b2 (newM [4]) (newM [4]) 0 0 [] w2.heap.size (List.replicate 4 (.slice none 0 0)) [] [] (fun k => k < w.heap.size ∨ k = w2.heap.size) := by
    have hb3 : Below w2.heap.size w2 w3 := by rw [← hw3]; exact (Below.refl _ _).alloc (Nat.le_refl _) _
    have hh : w3.heap[w2.heap.size]? = some (.cells (madeCells #[.slice none 0 0] 4) 35 (0, 0)) := by rw [← hw3]; exact heap_alloc_new _ _
    refine ⟨(HS2.out.below hb3).mono (fun k hk => ?_), fun k hk => .inl hk, ⟨hh.trans (by rw [show madeCells #[Value.slice none 0 0] 4 = (List.replicate 4 (Value.slice none 0 0)).toArray from Array.ext' (by rw [toList_madeCells_one])]), rfl, rfl, by simp, .inr rfl, by simp, by simp, by simp, fun i xs h => by simp at h⟩, ⟨HB2.out.size, by simp⟩, by simp, HB2.out.trans (hb3.mono HB2.out.size)⟩
    rcases hk with hk | hk
    · exact .inl hk
    · exact .inr ⟨by omega, by rw [hk]; exact heap_lt hh⟩
  obtain ⟨mb, hmb⟩ : ∃ mb, w2.heap.size = mb := ⟨_, rfl⟩
  rw [hmb] at hls
  rw [hmb]
  have HLS := Lib.hid hls
  clear hls hw3 hmk hmb HS2 HB2 HBL2 HC2 HB1 HS1 HC1 HBL
  go_loopg [29] 4 (fun gk v wr => ARel w (w.heap.size + 1) b2 mb gk v wr)
  case atStart => exact ⟨0, _, _, _, ⟨by omega, rfl, rfl, HLS.out⟩⟩
  case round =>
    obtain ⟨k, vs, gs, Z, hk, rfl, hgk, hls⟩ := hrel
    have HG := Lib.hid hgk
    have HL := Lib.hid hls
    clear hgk hls HLS
    by_cases hlt : k < 4
    · have hltI : (k : Int) < 4 := by omega
      go_wp2_with fail
      refine (sector_any ⟨#[]⟩ _).mono ?_
      rintro e w4 ⟨rfl, hb4⟩
      rw [none_eq]
      have hl4 := HL.out.keep hb4
      clear hb4
      have ht5 := Txs.one 9 w4 noneS
      obtain ⟨w5, hw5⟩ : ∃ w5, w4.alloc (.cells #[.string noneS] 9) = w5 := ⟨_, rfl⟩
      have hb5 : Below w4.heap.size w4 w5 := by rw [← hw5]; exact (Below.refl _ _).alloc (Nat.le_refl _) _
      rw [hw5] at ht5
      have hl6 := hl4.add (by simp; omega) hb5 ht5 (Nat.le_refl _)
      rw [List.length_replicate, ← List.replicate_succ'] at hl6
      obtain ⟨vk, hvk⟩ : ∃ vk, vs[k]? = some vk := ⟨_, List.getElem?_eq_getElem (by rw [hl4.rows.v4]; exact hlt)⟩
      have hc5 := (hl4.keep hb5).cell k hvk
      have hf5 := (hl4.keep hb5).free k
      have HL6 := Lib.hid hl6
      clear hl4 ht5 hb5 hl6 hvk
      go_wp2_with (rw [hw5])
      go_roundg (gk - 1)
      case measure => have := HG.out; omega
      case rel => exact ⟨k + 1, _, _, _, ⟨by omega, by go_num, by have := HG.out; omega, HL6.out⟩⟩
    · obtain rfl : k = 4 := by omega
      obtain ⟨M, hM⟩ : ∃ M : Nat, min xs.length 60 = M := ⟨_, rfl⟩
      have hMi : min (xs.length : Int) 60 = (M : Int) := by omega
      have hM1 : M ≤ xs.length := by omega
      have hM30 : M ≤ 60 := by omega
      have hlen := HC.out.2.1
      have hMc : M ≤ cc := by omega
      clear hM
      go_wp2_with fail
      go_loopg [44] M (fun gk v wr => BRel w (w.heap.size + 1) b2 mb M gk v wr)
      case atStart => exact ⟨0, 0, _, _, _, _, _, _, ⟨Nat.zero_le _, rfl, rfl, Nat.le_refl _, by simp, May.new, HL.out⟩⟩
      case round =>
        obtain ⟨k, n, vs, gs, Z, L, Q, may, hk, rfl, hgk, hn, hsh, hmay, hls⟩ := hrel
        have HG := Lib.hid hgk
        have HL := Lib.hid hls
        have HM := Lib.hid hmay
        have HSH := Lib.hid hsh
        clear hgk hls hmay hsh
        by_cases hlt : k < M
        · obtain ⟨ad, x, rfl, hxx, hcells⟩ := act_at HC.out k (by omega)
          obtain ⟨a0, a1, a2, a3, a4, A5, n5, a5, hC5⟩ := hcells
          have g0 := pw_cell_below HL.out.bel a0
          have g1 := pw_cell_below HL.out.bel a1
          have g2 := pw_cell_below HL.out.bel a2
          have g3 := pw_cell_below HL.out.bel a3
          have g4 := pw_cell_below HL.out.bel a4
          have g5 := pw_cell_below HL.out.bel a5
          have hltI : (k : Int) < (M : Int) := by omega
          obtain ⟨x0, x1, x2, x3, xd, xk⟩ := x
          simp only at g0 g1 g2 g3 g4 g5
          have hbox := HL.out.box (.cells #[.int .i64 x0, .int .i64 x1, .int .i64 x2, .int .i64 x3, .string xd, .slice A5 xk.length n5] 52 (0, 0))
          obtain ⟨wb, hwb⟩ : ∃ wb, wr.alloc (.cells #[.int .i64 x0, .int .i64 x1, .int .i64 x2, .int .i64 x3, .string xd, .slice A5 xk.length n5] 52) = wb := ⟨_, rfl⟩
          rw [hwb] at hbox
          obtain ⟨q, hq⟩ : ∃ q, wr.heap.size = q := ⟨_, rfl⟩
          rw [hq] at hbox
          have HBX := Lib.hid hbox
          have c0 : wb.cell? ⟨q, 0, none⟩ = some (.int .i64 x0) := HBX.out.kcell (List.mem_cons_self ..) 0 rfl
          have c2 : wb.cell? ⟨q, 2, none⟩ = some (.int .i64 x2) := HBX.out.kcell (List.mem_cons_self ..) 2 rfl
          have c4 : wb.cell? ⟨q, 4, none⟩ = some (.string xd) := HBX.out.kcell (List.mem_cons_self ..) 4 rfl
          clear a0 a1 a2 a3 a4 a5 hxx hC5 HL hbox
          obtain ⟨r, hr⟩ : ∃ r, x0.tmod 10 = r := ⟨_, rfl⟩
          obtain ⟨j, hj⟩ : ∃ j : Nat, (max 0 x2) % 4 = (j : Int) := ⟨((max 0 x2) % 4).toNat, by omega⟩
          have hj4 : j < 4 := by omega
          have hx2 : 0 ≤ max 0 x2 := by omega
          by_cases r2 : r = 2
          · subst r2
            go_wp2_with (first | (rw [hwb]) | (rw [hj]))
            refine (ls_flush1 HBX.out (by omega) 0).mono ?_
            rintro e wc ⟨rfl, hlc⟩
            rw [four_flush] at hlc
            have HLC := Lib.hid hlc
            clear hlc c0 c2 c4 hwb
            go_wp2_with fail
            refine (ls_flush2 HLC.out (by omega) 0).mono ?_
            rintro e wd ⟨rfl, hld⟩
            rw [four_flush] at hld
            have HLD := Lib.hid hld
            obtain ⟨ob, hob⟩ : ∃ ob, Obj.cells #[.int .i64 x0, .int .i64 x1, .int .i64 x2, .int .i64 x3, .string xd, .slice A5 xk.length n5] 52 (0, 0) = ob := ⟨_, rfl⟩
            rw [hob] at HLD
            clear hld hob HLC HBX
            go_wp2_with fail
            obtain ⟨gO, rfl⟩ : ∃ gO : Nat, gO = gk := ⟨_, rfl⟩
            go_loopg [62] 4 (fun gk v wr => CRel w (w.heap.size + 1) b2 mb q n ob (four (putQ (fun _ => true) 0 Q L) []) may gk v wr)
            case atStart => exact ⟨0, _, _, _, ⟨by omega, rfl, rfl, by rw [cut_zero]; exact HLD.out⟩⟩
            case round =>
              obtain ⟨i, vs2, gs2, Z2, hi4, rfl, hgi, hli⟩ := hrel
              have HGI := Lib.hid hgi
              have HLI := Lib.hid hli
              clear hgi hli
              by_cases hlti : i < 4
              · have hltiI : (i : Int) < 4 := by omega
                obtain ⟨ys, hys, hy0⟩ := HM.out.some i hlti
                have hyc : (cutTo may i)[i]? = some ys := (cut_at may i).trans hys
                obtain ⟨vi, gi, hvi, hgi, hti⟩ := HLI.out.rows.at_ i ys hyc
                obtain ⟨off, cap, rfl, hle, hcm, hocm, _, hlast⟩ := hti.last hy0
                obtain ⟨ny, hny⟩ : ∃ ny, ys.length = ny := ⟨_, rfl⟩
                rw [hny] at hvi hy0 hle hlast
                have hci := HLI.out.cell i hvi
                have hfi := HLI.out.free i
                have hny1 : (1 : Int) ≤ (ny : Int) := by omega
                have hny2 : (ny : Int) ≤ 61 := by
                  have := HSH.out ys (List.mem_of_getElem? hys)
                  omega
                obtain ⟨p, hp⟩ : ∃ p : Nat, ny - 1 = p := ⟨_, rfl⟩
                have hwp : IntKind.i64.wrap ((ny : Int) - 1) = (p : Int) := by rw [IntWalk.i64_in _ (by omega)]; omega
                have hpn : (p : Int) ≤ (ny : Int) := by omega
                have hpc : ¬ cap = p := by omega
                have hp1 : ny - p = 1 := by omega
                rw [hp] at hlast
                have hnyc : (ny : Int) ≤ (cap : Int) := by omega
                have HYC := Lib.hid hyc
                have HVI := Lib.hid hvi
                have ht5 : Txs 9 wr.drew (.slice (some ⟨gi, off + p, none⟩) 1 (cap - p)) gi (lastT ys) := by
                  have h : Txs 9 wr.drew (.slice (some ⟨gi, off + p, none⟩) 1 (cap - p)) gi (ys.drop p) := hlast.at_ rfl
                  unfold lastT
                  rw [hny, hp]
                  exact h
                have hl6 := HLI.out.put hgi ((Fr.refl _ wr).drew) ht5 (.inl rfl)
                rw [cut_step hys] at hl6
                have HL6 := Lib.hid hl6
                have HGG := Lib.hid hgi
                have hml : maxLen = 9223372036854775807 := rfl
                have hcm2 : (cap : Int) ≤ 9223372036854775807 := by omega
                clear hml hyc hvi hlast hgi hys hp hl6 ht5 hny hti
                have hS0 : HeldAt mb i (.slice (some ⟨gi, off, none⟩) ny cap) wr.drew := ⟨hci⟩
                go_wp2_with fail
                refine wp_region_T 14 (HeldAt mb i (.slice (some ⟨gi, off, none⟩) ny cap)) (by kernel_rfl) ?_
                refine wpAnyT_take (i := 0) (v := ?mv1) rfl (by kernel_rfl) (by kernel_rfl) (by kernel_rfl) rfl rfl (by kernel_rfl) (by rfl) (fun _ _ _ h => h) (Or.inl ⟨by rfl, ?mh1⟩) (by assumption) ?mr1
                case mh1 => intro w hSw; (try have hSw1 := hSw.1); (try have hSw2 := hSw.2); go_simp; try with_reducible rfl
                (try simp only [Act.put]); (try simp only [List.getElem_toArray, List.getElem_cons_zero, List.getElem_cons_succ]); (try simp only [List.setIfInBounds_toArray]); (try simp only [List.set_cons_zero, List.set_cons_succ])
                refine wpAnyT_take (i := 1) (v := ?mv2) rfl (by kernel_rfl) (by kernel_rfl) (by kernel_rfl) rfl rfl (by kernel_rfl) (by rfl) (fun _ _ _ h => h) (Or.inl ⟨by rfl, ?mh2⟩) (by assumption) ?mr2
                case mh2 => intro w hSw; (try have hSw1 := hSw.1); (try have hSw2 := hSw.2); go_simp; try with_reducible rfl
                (try simp only [Act.put]); (try simp only [List.getElem_toArray, List.getElem_cons_zero, List.getElem_cons_succ]); (try simp only [List.setIfInBounds_toArray]); (try simp only [List.set_cons_zero, List.set_cons_succ])
                refine wpAnyT_take (i := 2) (v := ?mv3) rfl (by kernel_rfl) (by kernel_rfl) (by kernel_rfl) rfl rfl (by kernel_rfl) (by rfl) (fun _ _ _ h => h) (Or.inl ⟨by rfl, ?mh3⟩) (by assumption) ?mr3
                case mh3 => intro w hSw; (try have hSw1 := hSw.1); (try have hSw2 := hSw.2); go_simp; try with_reducible rfl
                (try simp only [Act.put]); (try simp only [List.getElem_toArray, List.getElem_cons_zero, List.getElem_cons_succ]); (try simp only [List.setIfInBounds_toArray]); (try simp only [List.set_cons_zero, List.set_cons_succ])
                refine wpAnyT_take (i := 3) (v := ?mv4) rfl (by kernel_rfl) (by kernel_rfl) (by kernel_rfl) rfl rfl (by kernel_rfl) (by rfl) (fun _ _ _ h => h) (Or.inl ⟨by rfl, ?mh4⟩) (by assumption) ?mr4
                case mh4 => intro w hSw; (try have hSw1 := hSw.1); (try have hSw2 := hSw.2); go_simp; try with_reducible rfl
                (try simp only [Act.put]); (try simp only [List.getElem_toArray, List.getElem_cons_zero, List.getElem_cons_succ]); (try simp only [List.setIfInBounds_toArray]); (try simp only [List.set_cons_zero, List.set_cons_succ])
                refine wpAnyT_take (i := 4) (v := ?mv5) rfl (by kernel_rfl) (by kernel_rfl) (by kernel_rfl) rfl rfl (by kernel_rfl) (by rfl) (fun _ _ _ h => h) (Or.inl ⟨by rfl, ?mh5⟩) (by assumption) ?mr5
                case mh5 => intro w hSw; (try have hSw1 := hSw.1); (try have hSw2 := hSw.2); go_simp; try with_reducible rfl
                (try simp only [Act.put]); (try simp only [List.getElem_toArray, List.getElem_cons_zero, List.getElem_cons_succ]); (try simp only [List.setIfInBounds_toArray]); (try simp only [List.set_cons_zero, List.set_cons_succ])
                refine wpAnyT_take (i := 5) (v := ?mv6) rfl (by kernel_rfl) (by kernel_rfl) (by kernel_rfl) rfl rfl (by kernel_rfl) (by rfl) (fun _ _ _ h => h) (Or.inl ⟨by rfl, ?mh6⟩) (by assumption) ?mr6
                case mh6 => intro w hSw; (try have hSw1 := hSw.1); (try have hSw2 := hSw.2); go_simp; try with_reducible rfl
                (try simp only [Act.put]); (try simp only [List.getElem_toArray, List.getElem_cons_zero, List.getElem_cons_succ]); (try simp only [List.setIfInBounds_toArray]); (try simp only [List.set_cons_zero, List.set_cons_succ])
                refine wpAnyT_take (i := 6) (v := ?mv7) rfl (by kernel_rfl) (by kernel_rfl) (by kernel_rfl) rfl rfl (by kernel_rfl) (by rfl) (fun _ _ _ h => h) (Or.inl ⟨by rfl, ?mh7⟩) (by assumption) ?mr7
                case mh7 => intro w hSw; (try have hSw1 := hSw.1); (try have hSw2 := hSw.2); go_simp; try with_reducible rfl
                (try simp only [Act.put]); (try simp only [List.getElem_toArray, List.getElem_cons_zero, List.getElem_cons_succ]); (try simp only [List.setIfInBounds_toArray]); (try simp only [List.set_cons_zero, List.set_cons_succ])
                refine wpAnyT_take (i := 7) (v := ?mv8) rfl (by kernel_rfl) (by kernel_rfl) (by kernel_rfl) rfl rfl (by kernel_rfl) (by rfl) (fun _ _ _ h => h) (Or.inl ⟨by rfl, ?mh8⟩) (by assumption) ?mr8
                case mh8 => intro w hSw; (try have hSw1 := hSw.1); (try have hSw2 := hSw.2); go_simp; try with_reducible rfl
                (try simp only [Act.put]); (try simp only [List.getElem_toArray, List.getElem_cons_zero, List.getElem_cons_succ]); (try simp only [List.setIfInBounds_toArray]); (try simp only [List.set_cons_zero, List.set_cons_succ])
                refine wpAnyT_take (i := 8) (v := ?mv9) rfl (by kernel_rfl) (by kernel_rfl) (by kernel_rfl) rfl rfl (by kernel_rfl) (by rfl) (fun _ _ _ h => h) (Or.inl ⟨by rfl, ?mh9⟩) (by assumption) ?mr9
                case mh9 => intro w hSw; (try have hSw1 := hSw.1); (try have hSw2 := hSw.2); go_simp; try with_reducible rfl
                (try simp only [Act.put]); (try simp only [List.getElem_toArray, List.getElem_cons_zero, List.getElem_cons_succ]); (try simp only [List.setIfInBounds_toArray]); (try simp only [List.set_cons_zero, List.set_cons_succ])
                refine wpAnyT_take (i := 9) (v := ?mv10) rfl (by kernel_rfl) (by kernel_rfl) (by kernel_rfl) rfl rfl (by kernel_rfl) (by rfl) (fun _ _ _ h => h) (Or.inl ⟨by rfl, ?mh10⟩) (by assumption) ?mr10
                case mh10 => intro w hSw; (try have hSw1 := hSw.1); (try have hSw2 := hSw.2); go_simp; try with_reducible rfl
                (try simp only [Act.put]); (try simp only [List.getElem_toArray, List.getElem_cons_zero, List.getElem_cons_succ]); (try simp only [List.setIfInBounds_toArray]); (try simp only [List.set_cons_zero, List.set_cons_succ])
                refine wpAnyT_take (i := 10) (v := ?mv11) rfl (by kernel_rfl) (by kernel_rfl) (by kernel_rfl) rfl rfl (by kernel_rfl) (by rfl) (fun _ _ _ h => h) (Or.inl ⟨by rfl, ?mh11⟩) (by assumption) ?mr11
                case mh11 => intro w hSw; (try have hSw1 := hSw.1); (try have hSw2 := hSw.2); go_simp; try with_reducible rfl
                (try simp only [Act.put]); (try simp only [List.getElem_toArray, List.getElem_cons_zero, List.getElem_cons_succ]); (try simp only [List.setIfInBounds_toArray]); (try simp only [List.set_cons_zero, List.set_cons_succ])
                refine wpAnyT_take (i := 11) (v := ?mv12) rfl (by kernel_rfl) (by kernel_rfl) (by kernel_rfl) rfl rfl (by kernel_rfl) (by rfl) (fun _ _ _ h => h) (Or.inl ⟨by rfl, ?mh12⟩) (by assumption) ?mr12
                case mh12 => intro w hSw; (try have hSw1 := hSw.1); (try have hSw2 := hSw.2); go_simp; try with_reducible rfl
                (try simp only [Act.put]); (try simp only [List.getElem_toArray, List.getElem_cons_zero, List.getElem_cons_succ]); (try simp only [List.setIfInBounds_toArray]); (try simp only [List.set_cons_zero, List.set_cons_succ])
                refine wpAnyT_take (i := 12) (v := ?mv13) rfl (by kernel_rfl) (by kernel_rfl) (by kernel_rfl) rfl rfl (by kernel_rfl) (by rfl) (fun _ _ _ h => h) (Or.inl ⟨by rfl, ?mh13⟩) (by assumption) ?mr13
                case mh13 => intro w hSw; (try have hSw1 := hSw.1); (try have hSw2 := hSw.2); go_simp; try with_reducible rfl
                (try simp only [Act.put]); (try simp only [List.getElem_toArray, List.getElem_cons_zero, List.getElem_cons_succ]); (try simp only [List.setIfInBounds_toArray]); (try simp only [List.set_cons_zero, List.set_cons_succ])
                refine wpAnyT_take (i := 13) (v := ?mv14) rfl (by kernel_rfl) (by kernel_rfl) (by kernel_rfl) rfl rfl (by kernel_rfl) (by rfl) (fun _ _ _ h => h) (Or.inl ⟨by rfl, ?mh14⟩) (by assumption) ?mr14
                case mh14 => intro w hSw; (try have hSw1 := hSw.1); (try have hSw2 := hSw.2); go_simp; try with_reducible rfl
                (try simp only [Act.put]); (try simp only [List.getElem_toArray, List.getElem_cons_zero, List.getElem_cons_succ]); (try simp only [List.setIfInBounds_toArray]); (try simp only [List.set_cons_zero, List.set_cons_succ])
                refine wpAnyT_one (j := 14) rfl (by kernel_rfl) (fun K hK => ?_)
                go_simp
                refine hK.out _ _ (fun _ => past_t ‹_›) ?_
                clear hK K
                (try simp only [Act.put]); (try simp only [List.getElem_toArray, List.getElem_cons_zero, List.getElem_cons_succ]); (try simp only [List.setIfInBounds_toArray]); (try simp only [List.set_cons_zero, List.set_cons_succ])
                refine wpAnyT_done (by kernel_rfl) ?_ _
                clear hS0 hci hfi
                go_wp2_with fail
                go_roundg (gk - 1)
                case measure => have := HGI.out; omega
                case rel => exact ⟨i + 1, _, _, _, ⟨by omega, by go_num, by have := HGI.out; omega, HL6.out⟩⟩
              · obtain rfl : i = 4 := by omega
                go_wp2_with fail
                go_roundg (gO - 1)
                case measure => have := HG.out; omega
                case rel =>
                  refine ⟨k + 1, n, vs2, gs2, Z2, _, _, _, ⟨by omega, by go_num, by have := HG.out; omega, by omega, ?_, HM.out.flush, ?_⟩⟩
                  · intro zs hz
                    obtain ⟨zz, hzz, rfl⟩ := List.mem_map.1 hz
                    have := HSH.out zz hzz
                    unfold lastT
                    rw [List.length_drop]
                    omega
                  · have e := cut_all may
                    rw [HM.out.m4] at e
                    rw [← e]
                    exact HLI.out.drop
          · have r2b : (r == 2) = false := by simpa using r2
            obtain ⟨p, hp⟩ : ∃ p : Nat, min (xd.size : Int) 50 = (p : Int) := ⟨(min (xd.size : Int) 50).toNat, by omega⟩
            have hpd : (p : Int) ≤ (xd.size : Int) := by omega
            obtain ⟨dt, hdt⟩ : ∃ dt, xd.extract 0 p = dt := ⟨_, rfl⟩
            have hdl : dt.size = p := by rw [← hdt, ByteArray.size_extract]; omega
            have hs64 : (sectorB dt).size = 64 := by unfold sectorB; rw [if_neg (by omega)]; exact secB_size dt 0
            obtain ⟨sx, hsx⟩ : ∃ sx, sectorB dt = sx := ⟨_, rfl⟩
            rw [hsx] at hs64
            have HSX := Lib.hid hsx
            have HS64 := Lib.hid hs64
            clear hsx hs64 hdl
            go_wp2_with (first | (rw [hwb]) | (rw [hj]) | (rw [hdt]))
            refine (sector_any dt _).mono ?_
            rintro e wc ⟨rfl, hbc⟩
            rw [HSX.out]
            have HLC := Lib.hid (HBX.out.keep hbc)
            clear hbc c0 c2 c4 hwb hdt
            go_wp2_with fail
            refine (ls_write1 HLC.out (by omega) 0 (j : Int) sx).mono ?_
            rintro e wd ⟨rfl, hld⟩
            rw [four_write HM.out.l4 j hj4 sx HS64.out] at hld
            rw [four_writeE HM.out.l4 j hj4 sx HS64.out]
            have HLD := Lib.hid hld
            clear hld
            go_wp2_with fail
            refine (ls_write2 HLD.out (by omega) 0 (j : Int) sx).mono ?_
            rintro e we ⟨rfl, hle⟩
            rw [four_write HM.out.l4 j hj4 sx HS64.out] at hle
            rw [four_writeE HM.out.l4 j hj4 sx HS64.out]
            obtain ⟨ys, hys, hy0⟩ := HM.out.some j hj4
            obtain ⟨vj, gj, hvj, hgj, htj⟩ := hle.rows.at_ j ys hys
            have hcj := hle.cell j hvj
            have hfj := hle.free j
            have hylen := HSH.out ys (List.mem_of_getElem? hys)
            have HLE := Lib.hid hle
            have HYS := Lib.hid hys
            have HGJ := Lib.hid hgj
            have HVJ := Lib.hid hvj
            have hmg : ¬ mb = gj := fun e => hle.rows.mbn (e ▸ List.mem_of_getElem? hgj)
            have HMG := Lib.hid hmg
            clear hmg
            have hjI : (j : Int) < 4 := by omega
            have hb6 : Below we.heap.size we (we.alloc (.cells #[.string sx] 9)) := (Below.refl _ _).alloc (Nat.le_refl _) _
            have hc6 : (we.alloc (.cells #[.string sx] 9)).cell? ⟨we.heap.size, 0, none⟩ = some (.string sx) := cell_of_block (heap_alloc_new _ _) 0
            have ht6 : Txs 9 (we.alloc (.cells #[.string sx] 9)) vj gj ys := htj.at_ (hb6.block _ htj.lt)
            obtain ⟨w6, hw6⟩ : ∃ w6, we.alloc (.cells #[.string sx] 9) = w6 := ⟨_, rfl⟩
            obtain ⟨a6, ha6⟩ : ∃ a6, we.heap.size = a6 := ⟨_, rfl⟩
            rw [hw6] at hb6 hc6 ht6
            rw [ha6] at hc6
            have HB6 := Lib.hid hb6
            have HC6 := Lib.hid hc6
            have HT6 := Lib.hid ht6
            clear hle hys hvj hgj hb6 hc6 ht6 htj
            obtain ⟨i0, hi0, hz0, hz1, hz2⟩ := info_parts infoStr
            have HI0 := Lib.hid hi0
            have HZ0 := Lib.hid hz0
            have HZ1 := Lib.hid hz1
            have HZ2 := Lib.hid hz2
            clear hi0 hz0 hz1 hz2
            go_wp2_with (first | (rw [hw6]) | (rw [ha6]) | (at_builtin; refine wpList_append_txs (T := 9) (t := 35) Try.underlying35 HI0.out HZ0.out HZ1.out HZ2.out rfl rfl (.tmp 105) (.tmp 107) rfl HT6.out (by omega) rfl ⟨a6, 0, none⟩ 1 sx rfl HC6.out ?_; intro o7 p7 g7 w7 ht7 hf7 hg7; have hc7 := hf7.cell (HLE.out.keep HB6.out |>.cell j HVJ.out) HMG.out; have hf8 := unfrozen_of_block (hf7.at_ (HLE.out.keep HB6.out).rows.block HMG.out) j; have HT7 := Lib.hid ht7; have HF7 := Lib.hid hf7; have HG7 := Lib.hid hg7; clear ht7 hf7 hg7))
            have hl9 := HLE.out.put HGJ.out ((Fr.of_below HB6.out).trans HF7.out) HT7.out (HG7.out.imp id (Nat.le_trans HB6.out.size))
            have hsh9 : ∀ zs ∈ may.set j (ys ++ [sx]), zs.length ≤ k + 1 + 1 := by
              intro zs hz
              rcases List.mem_or_eq_of_mem_set hz with hz | rfl
              · have := HSH.out zs hz; omega
              · rw [List.length_append, List.length_singleton]; omega
            have HL9 := Lib.hid hl9.drop
            have HSH9 := Lib.hid hsh9
            clear hl9 hsh9
            go_roundg (gk - 1)
            case measure => have := HG.out; omega
            case rel => exact ⟨k + 1, n + 1, _, _, _, _, _, _, ⟨by omega, by go_num, by have := HG.out; omega, by omega, HSH9.out, HM.out.add j hj4 sx ys HYS.out, HL9.out⟩⟩
        · obtain rfl : k = M := by omega
          go_wp2_with fail
          refine (ls_crash1 HL.out (by omega) 59 1 kp HKP.out).mono ?_
          rintro e wc ⟨rfl, hlc⟩
          have HLC := Lib.hid hlc
          clear hlc
          go_wp2_with fail
          refine (ls_crash2 HLC.out (by omega) 59 1 18446744073709551615 (by simp)).mono ?_
          rintro e wd ⟨rfl, hld⟩
          obtain ⟨mx, hmx⟩ : ∃ mx, crashM [kp] (four L Q) = mx := ⟨_, rfl⟩
          obtain ⟨my, hmy⟩ : ∃ my, crashM [18446744073709551615] (four L Q) = my := ⟨_, rfl⟩
          rw [hmx, hmy] at hld
          have HMX := Lib.hid hmx
          have HMY := Lib.hid hmy
          have HLD := Lib.hid hld
          clear hld HLC hmx hmy
          go_wp2_with fail
          go_loopg [120] 4 (fun gk v wr => DRel w (w.heap.size + 1) b2 mb n mx my vs gs may Z gk v wr)
          case atStart => exact ⟨0, ⟨by omega, rfl, rfl, HLD.out⟩⟩
          case round =>
            obtain ⟨i, hi4, rfl, hgi, hli⟩ := hrel
            have HGI := Lib.hid hgi
            have HLI := Lib.hid hli
            clear hgi hli HLD
            obtain ⟨gO, rfl⟩ : ∃ gO : Nat, gO = gk := ⟨_, rfl⟩
            by_cases hlti : i < 4
            · have hltiI : (i : Int) < 4 := by omega
              obtain ⟨ys, hys, hy0⟩ := HM.out.some i hlti
              obtain ⟨hf1, hr1⟩ := HM.out.read [kp] i hlti hys
              obtain ⟨hf2, hr2⟩ := HM.out.readAll i hlti hys
              rw [HMX.out] at hf1 hr1
              rw [HMY.out] at hf2 hr2
              obtain ⟨s, hs⟩ : ∃ s, readM mx 0 (i : Int) = s := ⟨_, rfl⟩
              obtain ⟨t, ht⟩ : ∃ t, readM my 0 (i : Int) = t := ⟨_, rfl⟩
              rw [hs] at hr1
              rw [ht] at hr2
              have HF1 := Lib.hid hf1
              have HF2 := Lib.hid hf2
              have HS := Lib.hid hs
              have HT := Lib.hid ht
              have HR1 := Lib.hid hr1
              obtain ⟨vi, gi, hvi, hgi, hti⟩ := HLI.out.rows.at_ i ys hys
              obtain ⟨off, cap, rfl, hle, hcm, hocm, hcells, _⟩ := hti.last hy0
              obtain ⟨ny, hny⟩ : ∃ ny, ys.length = ny := ⟨_, rfl⟩
              rw [hny] at hvi hy0 hle
              have hny1 : (1 : Int) ≤ (ny : Int) := by omega
              have hny2 : (ny : Int) ≤ 61 := by
                have := HSH.out ys (List.mem_of_getElem? hys)
                omega
              obtain ⟨p, hp⟩ : ∃ p : Nat, ny - 1 = p := ⟨_, rfl⟩
              have hwp : IntKind.i64.wrap ((ny : Int) - 1) = (p : Int) := by rw [IntWalk.i64_in _ (by omega)]; omega
              have hpn : (p : Int) < (ny : Int) := by omega
              have hyl : ys[p]? = some t := by
                rw [List.getLast?_eq_getElem?, hny, hp] at hr2
                exact hr2
              have HYL := Lib.hid hyl
              have HVI := Lib.hid hvi
              have HTI := Lib.hid hti
              have HNY := Lib.hid hny
              have HYS := Lib.hid hys
              clear hf1 hr1 hf2 hr2 hs ht hyl hvi hti hcells hny hys hgi hp
              go_wp2_with fail
              refine (ls_read1 HLI.out 0 (i : Int)).mono ?_
              rintro e we ⟨rfl, hle⟩
              simp only
              rw [HS.out, HF1.out]
              have HLE := Lib.hid hle
              clear hle
              go_wp2_with fail
              refine (ls_read2 HLE.out 0 (i : Int)).mono ?_
              rintro e wf ⟨rfl, hlf⟩
              simp only
              rw [HT.out, HF2.out]
              have HLF := Lib.hid hlf
              have hci := hlf.cell i HVI.out
              have hct := hlf.text HYS.out HVI.out HYL.out
              clear hlf
              go_wp2_with fail
              go_quiet (fail)
              obtain ⟨wg, hwg⟩ : ∃ wg, wf.drewN nq = wg := ⟨_, rfl⟩
              rw [hwg]
              have hlg := HLF.out.keep (Go.Proofs.YtekpbpcfeopilaaCore.below_drewN nq)
              rw [hwg] at hlg
              have HLG := Lib.hid hlg
              have hcg := hlg.cell i HVI.out
              clear hlg hwg hci hct HLF
              go_wp2_with fail
              obtain ⟨gI, rfl⟩ : ∃ gI : Nat, gI = gO := ⟨_, rfl⟩
              go_loopg [19, 162] ny (fun gk u v wr => ERel w (w.heap.size + 1) b2 mb n mx my vs gs may Z ys s ny gk u v wr)
              case atStart => exact ⟨0, false, ⟨by omega, rfl, rfl, rfl, fun _ => HR1.out, HLG.out⟩⟩
              case round =>
                obtain ⟨c, b, hc, rfl, rfl, hgc, hseen, hlc⟩ := hrel
                have HGC := Lib.hid hgc
                have HSEEN := Lib.hid hseen
                have HLC := Lib.hid hlc
                clear hgc hseen hlc HLG hcg
                by_cases hltc : c < ny
                · have hltcI : (c : Int) < (ny : Int) := by omega
                  have hcl : c < ys.length := by rw [HNY.out]; exact hltc
                  obtain ⟨yc, hyc⟩ : ∃ yc, ys[c]? = some yc := ⟨_, List.getElem?_eq_getElem hcl⟩
                  have hct := HLC.out.text HYS.out HVI.out hyc
                  have hdc : ys.drop c = yc :: ys.drop (c + 1) := by
                    rw [List.getElem?_eq_getElem hcl] at hyc
                    injection hyc with hyc
                    rw [← hyc, List.drop_eq_getElem_cons hcl]
                  obtain ⟨bq, hbq⟩ : ∃ bq, (yc.toList == s.toList) = bq := ⟨_, rfl⟩
                  have hseen2 : (b || bq) = false → s ∈ ys.drop (c + 1) := fun h => by
                    rw [Bool.or_eq_false_iff] at h
                    have h1 := HSEEN.out h.1
                    rw [hdc] at h1
                    rcases List.mem_cons.1 h1 with h2 | h2
                    · rw [h.2, h2] at hbq
                      simp at hbq
                    · exact h2
                  have HSEEN2 := Lib.hid hseen2
                  clear hseen2 hyc hdc
                  cases b
                  all_goals
                    go_wp2_with (first | (rw [hbq]))
                    go_roundg (gk - 1)
                    case measure => have := HGC.out; omega
                    case rel => exact ⟨c + 1, _, ⟨by omega, rfl, by go_num, by have := HGC.out; omega, HSEEN2.out, HLC.out⟩⟩
                · obtain rfl : c = ny := by omega
                  have hb : b = true := by
                    cases b
                    · have h := HSEEN.out rfl
                      rw [List.drop_of_length_le (by rw [HNY.out]; exact Nat.le_refl _)] at h
                      cases h
                    · rfl
                  subst hb
                  go_wp2_with fail
                  go_roundg (gI - 1)
                  case measure => have := HGI.out; omega
                  case rel => exact ⟨i + 1, ⟨by omega, by go_num, by have := HGI.out; omega, HLC.out⟩⟩
            · obtain rfl : i = 4 := by omega
              go_wp2_with fail
              refine (wakes_any _).mono ?_
              rintro e we ⟨rfl, hbe⟩
              have HBE := Lib.hid (HLI.out.bel.trans (hbe.mono HLI.out.bel.size))
              clear hbe
              go_wp2_with fail
              refine bodyPost_ret (v := .bool true) (by simp [results, Try.results8, go_sem]) rfl ?_
              exact ⟨rfl, HBE.out⟩

end Go.Proofs.Ytekpbpcfeopilaa.Fc
