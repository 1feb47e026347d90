/- StreamLasts: the walk. -/
import Derived.Test.YtekpbpcfeopilaaDoorNy
import Derived.Test.YtekpbpcfeopilaaDoorOpens
namespace Go.Proofs.YtekpbpcfeopilaaDoor.Ls
open Go Go.RowKit Go.Joins Go.Proofs.YtekpbpcfeopilaaDoorCore Go.Proofs.YtekpbpcfeopilaaDoor.Dm Go.Proofs.YtekpbpcfeopilaaDoor.Dr Go.Proofs.YtekpbpcfeopilaaDoor.Da Go.Proofs.YtekpbpcfeopilaaDoor.Dl Go.Proofs.YtekpbpcfeopilaaDoor.Dn Go.Proofs.YtekpbpcfeopilaaDoor.Ds Go.Proofs.YtekpbpcfeopilaaDoor.Dt Go.Proofs.YtekpbpcfeopilaaDoor.Dw Go.Proofs.YtekpbpcfeopilaaDoor.Sys Go.Proofs.YtekpbpcfeopilaaDoor.PStrm Go.Proofs.YtekpbpcfeopilaaDoor.Sm Go.Proofs.YtekpbpcfeopilaaDoor.Lw Go.Proofs.YtekpbpcfeopilaaDoor.Fp Go.Proofs.YtekpbpcfeopilaaDoor.Sp Go.Proofs.YtekpbpcfeopilaaDoor.Fz Go.Proofs.YtekpbpcfeopilaaDoor.Hd Go.Proofs.YtekpbpcfeopilaaDoor.St Go.Proofs.YtekpbpcfeopilaaDoor.Ap Go.Proofs.YtekpbpcfeopilaaDoor.Rs Go.Proofs.YtekpbpcfeopilaaDoor.Op Go.Proofs.YtekpbpcfeopilaaDoor.Cm Go.Proofs.YtekpbpcfeopilaaDoor.Ws Go.Proofs.YtekpbpcfeopilaaDoor.Ny Go.Proofs.YtekpbpcfeopilaaDoor.Reg Go.Proofs.YtekpbpcfeopilaaDoorW.PrintWords Go.Proofs.YtekpbpcfeopilaaDoorW.PrintLast Go.Proofs.YtekpbpcfeopilaaDoorW.PrintMore
set_option linter.unusedSimpArgs false
set_option linter.unusedVariables false

theorem size_pos {q : Nat} (h1 : 3 ≤ q) (h2 : q ≤ 62) : 1 ≤ sizeH q ∧ sizeH q ≤ 30 := by unfold sizeH; omega
abbrev lossK : Kd (Int × Int) := Kd.pair (Kd.int .i64) (Kd.int .u64)

/-- The cells of one loss. -/
structure LossCells (w : World) (a : Addr) (x : Int × Int) : Prop where
  c0 : w.cell? a = some (.int .i64 x.1)
  c1 : w.cell? ⟨a.block, a.off + 1, none⟩ = some (.int .u64 x.2)
theorem LossCells.below {w w' : World} {a : Addr} {x : Int × Int} (h : LossCells w a x) (hb : Below w.heap.size w w') : LossCells w' a x := ⟨pw_cell_below hb h.c0, pw_cell_below hb h.c1⟩
theorem loss_at {w : World} {A : Option Addr} {n : Nat} {xs : List (Int × Int)} (h : lossK.C w A n xs) (i : Nat) (hi : i < n) : ∃ ad x, A = some ad ∧ xs[i]? = some x ∧ LossCells w (ad.add (i * 2)) x := by
  have hl : xs.length = n := h.1
  obtain ⟨ad, ha, hc⟩ := h.2.2 (by omega)
  obtain ⟨c, hcl, hK, hcell⟩ := hc i (xs[i]'(by omega)) (List.getElem?_eq_getElem (by omega))
  obtain ⟨c0, r0, rfl, k0, k1⟩ := hK
  obtain rfl : c0 = _ := k0
  obtain rfl : r0 = _ := k1
  refine ⟨ad, xs[i]'(by omega), ha, List.getElem?_eq_getElem (by omega), ?_⟩
  exact ⟨hcell 0 _ rfl, (congrArg w.cell? (add_field ad (i * 2) 1 (by decide))).symm.trans (hcell 1 _ rfl)⟩

/-- What was told, and what lies in the region. -/
structure Knows (lst told : List ByteArray) (mb : ByteArray) : Prop where
  may : (lst = told) ∨ (0 < mb.size ∧ lst = told ++ [mb])

/-- At the head of a round. -/
structure OInv (w : World) (b q K B : Nat) (gk : Nat) (vt vm vi vn : Value) (wr : World) (n j : Nat) (Z : Nat → Prop) (N : Nat) (m : MDisk) (L : List ByteArray) (lst told : List ByteArray) (mb : ByteArray) : Prop where
  nle : n ≤ K
  jle : j ≤ B
  sm : vm = .string mb
  si : vi = .int .i64 j
  sn : vn = .int .i64 n
  ghost : gk + n = K
  len : L.length = q
  z1 : ∀ k, k < w.heap.size → Z k
  dks : Dks Z wr [⟨b, m, N⟩]
  few : N ≤ 1000 * n + 1000 * j
  live : Live m 0 L []
  calm : m.tleft = 0
  lie : Lie L lst (2 * n)
  knows : Knows lst told mb
  own : Kd.R Kd.string 9 wr w.heap.size (fun k => Z k) vt told
  short : lst.length ≤ j
  below : Below w.heap.size w wr
def ORel (w : World) (b q K B : Nat) (gk : Nat) (vt vm vi vn : Value) (wr : World) : Prop := ∃ n j Z N m L lst told mb, OInv w b q K B gk vt vm vi vn wr n j Z N m L lst told mb

/-- While records are appended. -/
structure IInv (w : World) (b q B sb n : Nat) (T : Prop) (gk : Nat) (vt vm vi ve : Value) (wr : World) (j : Nat) (Z : Nat → Prop) (N : Nat) (m : MDisk) (L : List ByteArray) (lst told : List ByteArray) (mb : ByteArray) (s : MSt) (E : Int) : Prop where
  jle : j ≤ B
  sm : vm = .string mb
  si : vi = .int .i64 j
  se : ve = .int .i64 E
  ghost : gk + j = B
  len : L.length = q
  z1 : ∀ k, k < w.heap.size → Z k
  zs : Z sb
  sbw : w.heap.size ≤ sb
  dks : Dks Z wr [⟨b, m, N⟩]
  few : N ≤ 1000 * (n + 1) + 1000 * j
  at_ : SAt wr sb s
  eb : s.b = b
  lie : Lie L lst (2 * n + 1)
  st : (E = 0 ∧ Sound m 0 L s told ∧ lst = told ∧ (s.g : Int) ≤ 2 * n + 1 ∧ (T ∨ m.tleft = 0)) ∨ (E = 11 ∧ T ∧ Dead m 0 L ∧ Knows lst told mb)
  own : Kd.R Kd.string 9 wr w.heap.size (fun k => Z k ∧ k ≠ sb) vt told
  short : lst.length ≤ j
  below : Below w.heap.size w wr
def IRel (w : World) (b q B sb n : Nat) (T : Prop) (gk : Nat) (vt vm vi ve : Value) (wr : World) : Prop := ∃ j Z N m L lst told mb s E, IInv w b q B sb n T gk vt vm vi ve wr j Z N m L lst told mb s E

set_option maxHeartbeats 40000000 in
set_option maxRecDepth 100000 in
theorem law (size : Int) (A1 : Option Addr) (c1 : Nat) (l1 : List ByteArray) (A2 : Option Addr) (c2 : Nat) (l2 : List (Int × Int)) (w : World) (hC : Kd.C Kd.string w A1 l1.length l1) (hcc : l1.length ≤ c1) (hC2 : lossK.C w A2 l2.length l2) (hcc2 : l2.length ≤ c2)
    (hw2 : ∀ x ∈ l2, x.1 ≤ 9223372036854775807 ∧ 0 ≤ x.2 ∧ x.2 ≤ 18446744073709551615) :
    Calls Tryd.prog 10 #[.int .i64 size, .slice A1 l1.length c1, .slice A2 l2.length c2] w fun e w' => e = .returned (.bool true) ∧ Below w.heap.size w w' := by
  obtain ⟨n, hn⟩ : ∃ n : Nat, max 0 size % 60 = (n : Int) := ⟨(max 0 size % 60).toNat, by omega⟩
  have hn60 : n < 60 := by omega
  obtain ⟨B, hB⟩ : ∃ B : Nat, min l1.length 40 = B := ⟨_, rfl⟩
  have hBi : min (l1.length : Int) 40 = (B : Int) := by omega
  have hBc : B ≤ c1 := by omega
  have hBl : B ≤ l1.length := by omega
  have hB40 : B ≤ 40 := by omega
  obtain ⟨KK, hKK⟩ : ∃ KK : Nat, min l2.length 10 = KK := ⟨_, rfl⟩
  have hKi : min (l2.length : Int) 10 = (KK : Int) := by omega
  have hKc : KK ≤ c2 := by omega
  have hKl : KK ≤ l2.length := by omega
  have hK10 : KK ≤ 10 := by omega
  obtain ⟨q, hq⟩ : ∃ q, 3 + n = q := ⟨_, rfl⟩
  have v1 : (3 : Int) + (n : Int) = (q : Int) := by omega
  have v2 : IntKind.i64.wrap (q : Int) = (q : Int) := IntWalk.i64_in _ (by omega)
  have hq3 : 3 ≤ q ∧ q ≤ 62 := by omega
  have HC := Lib.hid hC
  have HC2 := Lib.hid hC2
  have HW2 := Lib.hid hw2
  clear hC hC2 hw2 hB hKK hq
  go_enter Tryd.func10, Tryd.ntmps10
  go_wp2_with fail
  have hC1 := lit_C .i64 w 3 [(q : Int)] (by simp)
  obtain ⟨w1, hw1⟩ : ∃ w1, w.alloc (.cells (encs (Value.int .i64) [(q : Int)]).toArray 3) = w1 := ⟨_, rfl⟩
  have hb1 : Below w.heap.size w w1 := by rw [← hw1]; exact (Below.refl _ _).alloc (Nat.le_refl _) _
  rw [hw1] at hC1
  have hnw := new_z (Dks.nil w1) (some ⟨w.heap.size, 0, none⟩) 1 [(q : Int)] hC1 (by simp)
  obtain ⟨b, hb⟩ : ∃ b, w1.heap.size = b := ⟨_, rfl⟩
  rw [hb] at hnw
  have HNW := Lib.hid hnw
  have HB1 := Lib.hid hb1
  have HWB : Hid (w.heap.size ≤ b) := Lib.hid (by rw [← hb]; exact hb1.size)
  clear hC1 hnw hb1 hb
  change Calls _ _ #[.slice (some ⟨w.heap.size, 0, none⟩) 1 1] (w.alloc (.cells (encs (Value.int .i64) [(q : Int)]).toArray 3)) _
  rw [hw1]
  refine HNW.out.mono ?_
  rintro e w2 ⟨rfl, hD2, hb2⟩
  rw [List.nil_append] at hD2
  have HB2 := Lib.hid (HB1.out.trans (hb2.mono HWB.out))
  have HD2 := Lib.hid hD2
  have hL0 := new_live q (by omega)
  have e5 : (List.replicate q noneS).length = q := List.length_replicate ..
  have hr0 := new_rec q (by omega) (sizeH (List.replicate q noneS).length)
  have hsz := size_pos hq3.1 hq3.2
  have hlie : Lie (List.replicate q noneS) [] 0 := ⟨hr0.1, by rw [e5]; show 0 < _; omega, by rw [hr0.2]; exact Int.le_refl _⟩
  have HL0 := Lib.hid hL0
  have HLI := Lib.hid hlie
  have HE5 := Lib.hid e5
  obtain ⟨L0, hLe⟩ : ∃ L0, List.replicate q noneS = L0 := ⟨_, rfl⟩
  clear hD2 hb2 HNW hw1 hL0 hlie e5 hr0 hLe
  go_wp2_with fail
  refine (wakes_any w2).mono ?_
  rintro e w3 ⟨rfl, hb3⟩
  have HB3 := Lib.hid (HB2.out.trans (hb3.mono HB2.out.size))
  have HD3 := Lib.hid (HD2.out.keep hb3)
  clear hb3
  go_wp2_with fail
  go_loopg [8, 9, 10, 11] KK (fun gk vt vm vi vn wr => ORel w b q KK B gk vt vm vi vn wr)
  case atStart => exact ⟨0, 0, (fun k => k < b), 0, _, _, [], [], ⟨#[]⟩, ⟨Nat.zero_le _, Nat.zero_le _, rfl, rfl, rfl, rfl, HE5.out, fun k hk => Nat.lt_of_lt_of_le hk HWB.out, HD3.out, by omega, HL0.out, rfl, HLI.out, ⟨.inl rfl⟩, Kd.R_nil _ _ _ _ _, Nat.zero_le _, HB3.out⟩⟩
  case round =>
    clear HD2 HD3 HL0 HLI HE5
    obtain ⟨n, j, Z, N, m, L, lst, told, mb, hn, hj, rfl, rfl, rfl, hg, hlen, hz1, hdk, hfew, hlive, hcalm, hlie, hkn, hown, hsh, hbel⟩ := hrel
    have HGK := Lib.hid hg
    have HLN := Lib.hid hlen
    have HZ1 := Lib.hid hz1
    have HDK := Lib.hid hdk
    have HFW := Lib.hid hfew
    have HLV := Lib.hid hlive
    have HCA := Lib.hid hcalm
    have HLI := Lib.hid hlie
    have HKN := Lib.hid hkn
    have HOW := Lib.hid hown
    have HSH := Lib.hid hsh
    have HBL := Lib.hid hbel
    clear hg hlen hz1 hdk hfew hlive hcalm hlie hkn hown hsh hbel
    by_cases hlt : n < KK
    case' pos =>
      have hla := loss_at HC2.out n (by omega)
      obtain ⟨ad, x, rfl, hx, hlc⟩ := hla
      have hxw := HW2.out x (List.mem_of_getElem? hx)
      obtain ⟨x1, x2⟩ := x
      have hlc0 := hlc
      have hlc := hlc.below HBL.out
      have c0 := hlc.c0
      have c1 := hlc.c1
      clear hx
      go_wp2_with fail
      have hS0 : wr.drew.cell? (ad.add (n * 2)) = some (.int .i64 x1) ∧ wr.drew.cell? ⟨(ad.add (n * 2)).block, (ad.add (n * 2)).off + 1, none⟩ = some (.int .u64 x2) := ⟨c0, c1⟩
      refine wp_region_held_drew (S := fun w' => w'.cell? (ad.add (n * 2)) = some (.int .i64 x1) ∧ w'.cell? ⟨(ad.add (n * 2)).block, (ad.add (n * 2)).off + 1, none⟩ = some (.int .u64 x2)) (by kernel_rfl) hS0 (fun hHeld => ?_)
      refine wpAnyH_take (i := 0) (v := ?mv1) rfl (by kernel_rfl) (by kernel_rfl) (by kernel_rfl) (fun _ _ _ h => h) (Or.inl ⟨by rfl, ?mh1⟩) (by assumption) ?mr1
      case mh1 => intro w hSw; (try dsimp only at hSw); go_simp; try with_reducible rfl
      (try simp only [Act.put]); (try simp only [List.getElem_toArray, List.getElem_cons_zero, List.getElem_cons_succ]); (try simp only [List.setIfInBounds_toArray]); (try simp only [List.set_cons_zero, List.set_cons_succ])
      refine wpAnyH_take (i := 1) (v := ?mv2) rfl (by kernel_rfl) (by kernel_rfl) (by kernel_rfl) (fun _ _ _ h => h) (Or.inl ⟨by rfl, ?mh2⟩) (by assumption) ?mr2
      case mh2 => intro w hSw; (try dsimp only at hSw); go_simp; try with_reducible rfl
      (try simp only [Act.put]); (try simp only [List.getElem_toArray, List.getElem_cons_zero, List.getElem_cons_succ]); (try simp only [List.setIfInBounds_toArray]); (try simp only [List.set_cons_zero, List.set_cons_succ])
      refine wpAnyH_take (i := 2) (v := ?mv3) rfl (by kernel_rfl) (by kernel_rfl) (by kernel_rfl) (fun _ _ _ h => h) (Or.inl ⟨by rfl, ?mh3⟩) (by assumption) ?mr3
      case mh3 => intro w hSw; (try dsimp only at hSw); go_simp; try with_reducible rfl
      (try simp only [Act.put]); (try simp only [List.getElem_toArray, List.getElem_cons_zero, List.getElem_cons_succ]); (try simp only [List.setIfInBounds_toArray]); (try simp only [List.set_cons_zero, List.set_cons_succ])
      refine wpAnyH_take (i := 3) (v := ?mv4) rfl (by kernel_rfl) (by kernel_rfl) (by kernel_rfl) (fun _ _ _ h => h) (Or.inl ⟨by rfl, ?mh4⟩) (by assumption) ?mr4
      case mh4 => intro w hSw; (try dsimp only at hSw); go_simp; try with_reducible rfl
      (try simp only [Act.put]); (try simp only [List.getElem_toArray, List.getElem_cons_zero, List.getElem_cons_succ]); (try simp only [List.setIfInBounds_toArray]); (try simp only [List.set_cons_zero, List.set_cons_succ])
      refine wpAnyH_take (i := 4) (v := ?mv5) rfl (by kernel_rfl) (by kernel_rfl) (by kernel_rfl) (fun _ _ _ h => h) (Or.inl ⟨by rfl, ?mh5⟩) (by assumption) ?mr5
      case mh5 => intro w hSw; (try dsimp only at hSw); go_simp; try with_reducible rfl
      (try simp only [Act.put]); (try simp only [List.getElem_toArray, List.getElem_cons_zero, List.getElem_cons_succ]); (try simp only [List.setIfInBounds_toArray]); (try simp only [List.set_cons_zero, List.set_cons_succ])
      refine wpAnyH_take (i := 5) (v := ?mv6) rfl (by kernel_rfl) (by kernel_rfl) (by kernel_rfl) (fun _ _ _ h => h) (Or.inl ⟨by rfl, ?mh6⟩) (by assumption) ?mr6
      case mh6 => intro w hSw; (try dsimp only at hSw); go_simp; try with_reducible rfl
      (try simp only [Act.put]); (try simp only [List.getElem_toArray, List.getElem_cons_zero, List.getElem_cons_succ]); (try simp only [List.setIfInBounds_toArray]); (try simp only [List.set_cons_zero, List.set_cons_succ])
      refine wpAnyH_take (i := 6) (v := ?mv7) rfl (by kernel_rfl) (by kernel_rfl) (by kernel_rfl) (fun _ _ _ h => h) (Or.inl ⟨by rfl, ?mh7⟩) (by assumption) ?mr7
      case mh7 => intro w hSw; (try dsimp only at hSw); go_simp; try with_reducible rfl
      (try simp only [Act.put]); (try simp only [List.getElem_toArray, List.getElem_cons_zero, List.getElem_cons_succ]); (try simp only [List.setIfInBounds_toArray]); (try simp only [List.set_cons_zero, List.set_cons_succ])
      refine wpAnyH_take (i := 7) (v := ?mv8) rfl (by kernel_rfl) (by kernel_rfl) (by kernel_rfl) (fun _ _ _ h => h) (Or.inl ⟨by rfl, ?mh8⟩) (by assumption) ?mr8
      case mh8 => intro w hSw; (try dsimp only at hSw); go_simp; try with_reducible rfl
      (try simp only [Act.put]); (try simp only [List.getElem_toArray, List.getElem_cons_zero, List.getElem_cons_succ]); (try simp only [List.setIfInBounds_toArray]); (try simp only [List.set_cons_zero, List.set_cons_succ])
      refine wpAnyH_take (i := 8) (v := ?mv9) rfl (by kernel_rfl) (by kernel_rfl) (by kernel_rfl) (fun _ _ _ h => h) (Or.inl ⟨by rfl, ?mh9⟩) (by assumption) ?mr9
      case mh9 => intro w hSw; (try dsimp only at hSw); go_simp; try with_reducible rfl
      (try simp only [Act.put]); (try simp only [List.getElem_toArray, List.getElem_cons_zero, List.getElem_cons_succ]); (try simp only [List.setIfInBounds_toArray]); (try simp only [List.set_cons_zero, List.set_cons_succ])
      refine wpAnyH_take (i := 9) (v := ?mv10) rfl (by kernel_rfl) (by kernel_rfl) (by kernel_rfl) (fun _ _ _ h => h) (Or.inl ⟨by rfl, ?mh10⟩) (by assumption) ?mr10
      case mh10 => intro w hSw; (try dsimp only at hSw); go_simp; try with_reducible rfl
      (try simp only [Act.put]); (try simp only [List.getElem_toArray, List.getElem_cons_zero, List.getElem_cons_succ]); (try simp only [List.setIfInBounds_toArray]); (try simp only [List.set_cons_zero, List.set_cons_succ])
      refine wpAnyH_take (i := 10) (v := ?mv11) rfl (by kernel_rfl) (by kernel_rfl) (by kernel_rfl) (fun _ _ _ h => h) (Or.inl ⟨by rfl, ?mh11⟩) (by assumption) ?mr11
      case mh11 => intro w hSw; (try dsimp only at hSw); go_simp; try with_reducible rfl
      (try simp only [Act.put]); (try simp only [List.getElem_toArray, List.getElem_cons_zero, List.getElem_cons_succ]); (try simp only [List.setIfInBounds_toArray]); (try simp only [List.set_cons_zero, List.set_cons_succ])
      refine wpAnyH_ready (rs := [11]) (by kernel_rfl) (by simp) ?_
      refine AllReadyH.cons rfl (fun K hK => ?_) AllReadyH.nil
      go_simp
      have hlc5 := lit_C .u64 wr 62 [x2] (by simp)
      obtain ⟨w5, hw5⟩ : ∃ w5, (wr.alloc (.cells #[.int .u64 x2] 62)).drew = w5 := ⟨_, rfl⟩
      have hb5 : Below wr.heap.size wr w5 := by rw [← hw5]; exact ((Below.refl _ _).alloc (Nat.le_refl _) _).drew
      have hC5 : Kd.C (Kd.int .u64) w5 (some ⟨wr.heap.size, 0, none⟩) [x2].length [x2] := by rw [← hw5]; exact Kd.C_drew hlc5
      have hsz5 : wr.heap.size < w5.heap.size := by rw [← hw5]; simp [World.drew]
      have hS5 : w5.cell? (ad.add (n * 2)) = some (.int .i64 x1) ∧ w5.cell? ⟨(ad.add (n * 2)).block, (ad.add (n * 2)).off + 1, none⟩ = some (.int .u64 x2) := ⟨pw_cell_below hb5 c0, pw_cell_below hb5 c1⟩
      rw [hw5]
      have HB5 := Lib.hid (HBL.out.trans (hb5.mono HBL.out.size))
      have hcut := cut_z (HDK.out.below hb5) 0 (d := ⟨b, m, N⟩) rfl 0 x1 hxw.1 (some ⟨wr.heap.size, 0, none⟩) 1 [x2] (by simp) (fun x hx => by rw [List.mem_singleton.1 hx]; exact hxw.2) (fun W hW => C_fr hC5 hW (fun hs => hs (.inr ⟨Nat.le_refl _, hsz5⟩)))
      have hadz : Z (ad.add (n * 2)).block := HZ1.out _ (by
        have := World.block_lt_of_cell? _ _ hlc0.c0
        exact this)
      have HCUT := Lib.hid hcut
      have HOW5 := Lib.hid (Kd.R_below HOW.out hb5)
      clear hlc5 hC5 hcut hw5
      refine hK.out _ _ hS5 (fun hHeld => ?_)
      clear hK K
      (try simp only [Act.put]); (try simp only [List.getElem_toArray, List.getElem_cons_zero, List.getElem_cons_succ]); (try simp only [List.setIfInBounds_toArray]); (try simp only [List.set_cons_zero, List.set_cons_succ])
      refine wpAnyH_ready (rs := [12]) (by kernel_rfl) (by simp) ?_
      refine AllReadyH.cons rfl (fun K hK => ?_) AllReadyH.nil
      go_simp
      go_at_call 32
      refine HCUT.out.mono ?_
      rintro e wr ⟨rfl, hd6, hf6⟩
      have hS6 : wr.cell? (ad.add (n * 2)) = some (.int .i64 x1) ∧ wr.cell? ⟨(ad.add (n * 2)).block, (ad.add (n * 2)).off + 1, none⟩ = some (.int .u64 x2) := ⟨hf6.cell hS5.1 (fun h => h (.inl hadz)), hf6.cell hS5.2 (fun h => h (.inl hadz))⟩
      have HBL := Lib.hid (HB5.out.trans (hf6.below HB5.out.size (fun k hk h => h (.inl (HZ1.out k hk)))))
      have HDK := Lib.hid (hd6.mono (Z' := Z) (fun k hk => .inl hk))
      have HOW := Lib.hid (Rfr HOW5.out hf6 (fun k hk _ h => h (.inl hk)))
      have HLV := Lib.hid (cut_live HLV.out 0 x1 [x2])
      have HT : Hid (n < KK ∨ (cutM m 0 x1 [x2]).tleft = 0) := Lib.hid (.inl hlt)
      obtain ⟨m, hm⟩ : ∃ m', cutM m 0 x1 [x2] = m' := ⟨_, rfl⟩
      rw [show (({ b := b, m := _, n := N } : DK).m) = _ from rfl, hm] at HDK
      rw [hm] at HLV HT
      clear hd6 hf6 hm HCUT HB5 HOW5
      refine hK.out _ _ hS6 (fun hHeld => ?_)
      clear hK K
      (try simp only [Act.put]); (try simp only [List.getElem_toArray, List.getElem_cons_zero, List.getElem_cons_succ]); (try simp only [List.setIfInBounds_toArray]); (try simp only [List.set_cons_zero, List.set_cons_succ])
      refine wpAnyH_done (by kernel_rfl) ?_ _
      clear hS0 hS5 hS6 hHeld c0 c1 hlc hlc0 hxw hadz hb5 hsz5
      go_wp2_with fail
    case' neg =>
      have HT : Hid (n < KK ∨ m.tleft = 0) := Lib.hid (.inr HCA.out)
      go_wp2_with fail
    all_goals
      have hlenq := HLN.out
      have hsz1 : 0 < sizeH L.length := by rw [hlenq]; omega
      have hall := open_all HDK.out 0 (d := ⟨b, m, N⟩) rfl HLV.out (by omega) hsz1 (by show N < 900000; have := HFW.out; omega)
      rw [HLI.out.recs] at hall
      have hout := open_out b HLV.out hsz1 HLI.out (by omega)
      have hcalmo : m.tleft = 0 → (resR m (Op.preS b 0 L) lst).1 = 0 := fun hc => by
        have := open_calm b HLV.out hc hsz1 (by rw [HLI.out.recs]; exact HLI.out.fits) (by have := HLI.out.gen; omega)
        rw [HLI.out.recs] at this
        exact this.1
      have hcalm2 : m.tleft = 0 → (resR m (Op.preS b 0 L) lst).2.2.tleft = 0 := fun hc => by
        have := open_calm b HLV.out hc hsz1 (by rw [HLI.out.recs]; exact HLI.out.fits) (by have := HLI.out.gen; omega)
        rw [HLI.out.recs] at this
        obtain ⟨_, _, _, _, L', _, hG⟩ := this
        exact hG.calm
      have HALL := Lib.hid hall
      have HOUT := Lib.hid hout
      have HCM := Lib.hid hcalmo
      have HCM2 := Lib.hid hcalm2
      clear hall hout hcalmo hcalm2
      refine HALL.out.mono ?_
      intro e w4 hp
      rcases hp with ⟨hne, rfl, ⟨N4, hN4, hD4⟩, hF4⟩ | ⟨he0, sb, A4, c4, Z', rfl, hcl4, hz1, hz2, hsb, hzs, hS, hR, ⟨N', hN', hD4⟩, hF4⟩
      · obtain ⟨e11, L', hd', hl', hlie'⟩ : _ ∧ _ := by
          rcases HOUT.out with ⟨h0, _⟩ | h
          · exact absurd h0 hne
          · exact h
        have hnK : n < KK := by
          rcases HT.out with h | h
          · exact h
          · exact absurd (HCM.out h) hne
        rw [e11]
        obtain ⟨m4, hm4⟩ : ∃ m4, (resR m (Op.preS b 0 L) lst).2.2 = m4 := ⟨_, rfl⟩
        simp only [hm4] at hD4 hd'
        have HD4 := Lib.hid hD4
        have HB4 : Hid (Below w.heap.size w w4) := Lib.hid (HBL.out.trans (hF4.below HBL.out.size (fun k hk hz => hz (HZ1.out k hk))))
        have HOW4 := Lib.hid (Rfr HOW.out hF4 (fun k hk _ hs => hs hk))
        have HL4 := Lib.hid (hl'.trans HLN.out)
        have HDE := Lib.hid hd'
        have HLI4 := Lib.hid hlie'
        have HN4 : Hid (N4 ≤ N + 1000) := Lib.hid hN4
        clear hne hN4 hD4 hF4 e11 hd' hl' hlie' hm4 HALL HOUT HCM HCM2
        first
        | exact absurd hnK hlt
        | (go_wp2_with fail
           refine (on_z HD4.out 0 (d := ⟨b, m4, N4⟩) rfl).mono ?_
           rintro e w5 ⟨rfl, hd5, hf5⟩
           have HD5 := Lib.hid hd5
           have HB5 : Hid (Below w.heap.size w w5) := Lib.hid (HB4.out.trans (hf5.below HB4.out.size (fun k hk hz => hz (HZ1.out k hk))))
           have HOW5 := Lib.hid (Rfr HOW4.out hf5 (fun k hk _ hs => hs hk))
           clear hd5 hf5
           go_wp2_with fail
           go_roundg (gk - 1)
           case measure => have := HGK.out; omega
           case rel => exact ⟨n + 1, j, Z, N4, onM m4, L', lst, told, mb, ⟨by omega, hj, rfl, rfl, by go_num, by have := HGK.out; omega, HL4.out, HZ1.out, HD5.out, by have := HN4.out; have := HFW.out; omega, (on_dead HDE.out).1, (on_dead HDE.out).2, HLI4.out.mono (by omega), HKN.out, HOW5.out, HSH.out, HB5.out⟩⟩)
      · have hso : ((resR m (Op.preS b 0 L) lst).2.1.b = b ∧ ((resR m (Op.preS b 0 L) lst).2.1.g : Int) = genOf L (sizeH L.length) + 1 ∧ (resR m (Op.preS b 0 L) lst).2.1.h = sizeH L.length ∧ ∃ L', L'.length = L.length ∧ Sound (resR m (Op.preS b 0 L) lst).2.2 0 L' (resR m (Op.preS b 0 L) lst).2.1 lst) := by
          rcases HOUT.out with ⟨_, h⟩ | ⟨h, _⟩
          · exact h
          · exact absurd (he0.symm.trans h) (by decide)
        obtain ⟨hsb1, hsg1, hsh1, L4, hl4, hS4⟩ := hso
        have HT4 : Hid (n < KK ∨ (resR m (Op.preS b 0 L) lst).2.2.tleft = 0) := Lib.hid (HT.out.imp id HCM2.out)
        obtain ⟨⟨E4, s4, m4⟩, hr4⟩ : ∃ r, resR m (Op.preS b 0 L) lst = r := ⟨_, rfl⟩
        rw [hr4] at hS hD4 HT4 hsb1 hsg1 hsh1 hS4
        simp only at hS hD4 HT4 hsb1 hsg1 hsh1 hS4
        have HB4 : Hid (Below w.heap.size w w4) := Lib.hid (HBL.out.trans (hF4.below HBL.out.size (fun k hk hz => hz (HZ1.out k hk))))
        have HD4 := Lib.hid hD4
        have HS4 := Lib.hid hS
        have HSO4 := Lib.hid hS4
        have HEB := Lib.hid hsb1
        have HEH : Hid (s4.h ≤ 30) := Lib.hid (by rw [hsh1, hlenq]; exact hsz.2)
        have HGE : Hid ((s4.g : Int) ≤ 2 * n + 1) := Lib.hid (by have := HLI.out.gen; omega)
        have HL4 : Hid (L4.length = q) := Lib.hid (hl4.trans hlenq)
        have HR4 := Lib.hid (Kd.R_mono (Kd.R_bound hR) (ok' := fun k => wr.heap.size ≤ k) (fun k hk => hk.2.1))
        have HTL : Hid (∀ k, u8.ownBlock = some k → k < wr.heap.size) := Lib.hid (fun k hk => ((Kd.R_bound HOW.out).1 k hk).2.2.1)
        have HZ4 : Hid (∀ k, k < w.heap.size → Z' k) := Lib.hid (fun k hk => hz1 k (HZ1.out k hk))
        have HZS := Lib.hid hzs
        have HSB : Hid (w.heap.size ≤ sb) := Lib.hid (Nat.le_trans HBL.out.size hsb)
        have HN4 : Hid (N' ≤ N + 1000) := Lib.hid hN'
        have HOW4 : Hid (Kd.R Kd.string 9 w4 w.heap.size (fun k => Z' k ∧ k ≠ sb) u8 told) := Lib.hid (Kd.R_mono (Rfr (Kd.R_bound HOW.out) hF4 (fun k hk _ hs => hs hk.1)) (fun k hk => ⟨hz1 k hk.1, by have := hk.2.2.1; omega⟩))
        clear he0 hcl4 hz1 hz2 hsb hzs hS hR hN' hD4 hF4 hsb1 hsg1 hsh1 hl4 hS4 hr4 HALL HOUT HCM HCM2 HT HOW HDK
        have hll : lst.length ≤ 40 := by have := HSH.out; omega
        have hkn : (lst = told ∧ mb.size = 0) ∨ (lst = told ∧ 0 < mb.size) ∨ (0 < mb.size ∧ lst = told ++ [mb]) := by
          rcases HKN.out.may with h | h
          · by_cases h0 : mb.size = 0
            · exact .inl ⟨h, h0⟩
            · exact .inr (.inl ⟨h, by omega⟩)
          · exact .inr (.inr h)
        rcases hkn with ⟨hl, hmb0⟩ | ⟨hl, hmb0⟩ | ⟨hmb0, hl⟩
        case' inr.inl =>
          have hmnil : mb.toList = [] := (Hd.nil_size mb).2 hmb0
          have hne : mb.toList.isEmpty = true := by rw [hmnil]; rfl
          rw [← hl] at HOW4
          obtain ⟨At, ct, hvt, hct, _⟩ := Kd.R_reads HOW4.out
          subst hvt
          clear hmb0 hl
          go_wp2_with fail
          clear hmnil hne
        case' inr.inr.inl =>
          have hmnil : ¬ mb.toList = [] := fun h => by have := (Hd.nil_size mb).1 h; omega
          have hne : mb.toList.isEmpty = false := by simpa using hmnil
          rw [← hl] at HOW4
          obtain ⟨At, ct, hvt, hct, _⟩ := Kd.R_reads HOW4.out
          subst hvt
          clear hmb0 hl
          go_wp2_with fail
          clear hmnil hne
        case' inr.inr.inr =>
          have hmnil : ¬ mb.toList = [] := fun h => by have := (Hd.nil_size mb).1 h; omega
          have hne : mb.toList.isEmpty = false := by simpa using hmnil
          obtain ⟨At, ct, hvt, hct, _⟩ := Kd.R_reads HOW4.out
          subst hvt
          obtain ⟨_, _, hcl⟩ := Kd.reads_of_C (d := ByteArray.empty) (Kd.R_reads' HR4.out).2.2
          have hl3n : lst.length = told.length + 1 := by rw [hl]; simp
          obtain ⟨ad4, rfl, hcl4⟩ := hcl (by omega)
          have hx4 := hcl4 told.length (by omega)
          rw [show lst.getD told.length ByteArray.empty = mb by rw [hl, List.getD_eq_getElem?_getD]; simp] at hx4
          have HL := Lib.hid hl
          have hl3 : (lst.length : Int) = (told.length : Int) + 1 := by omega
          have how := Kd.R_mono HOW4.out (ok' := fun k => (Z' k ∧ k ≠ sb) ∨ w4.heap.size ≤ k) (fun k hk => .inl hk)
          have HOW9 := Lib.hid how
          have hln : (told.length + 1) * 16 ≤ 140737488355328 := by omega
          clear hmb0 hl hcl hcl4 how hl3n
          go_wp2_with (at_builtin; go_must ((refine Kd.R_append Kd.string (w0 := w) w.heap.size rfl (.tmp 80) (.tmp 82) 31 9 (.string ⟨#[]⟩) 16 rfl Tryd.underlying31 PStrm.info9 rfl (by decide) (by omega) _ told mb [.string mb] (fun k => (Z' k ∧ k ≠ sb) ∨ w4.heap.size ≤ k) (fun _ => False) rfl rfl rfl (fun _ hk => hk.elim) (fun k hk => .inr hk) HOW9.out HB4.out HB4.out.size hln ?_; intro v9 w9 ho9 hb9 hg9 hat9)))
          rw [← HL.out] at ho9
          have HD9 := Lib.hid (HD4.out.own (Fr.of_grown hg9 (S := fun k => Z' k ∨ w4.heap.size ≤ k) (fun k hk => by
            rcases HOW9.out.1 k hk with h | h
            · exact .inl h.1
            · exact .inr h)) (fun k hk hs => by
              rcases hs with hs | hs
              · exact hs
              · omega))
          have hsb8 := HS4.out.lt
          have HS9 := Lib.hid (HS4.out.fr (Fr.of_grown hg9 (S := fun k => k ≠ sb) (fun k hk => by
            rcases HOW9.out.1 k hk with h | h
            · exact h.2
            · omega)) (fun h => h rfl))
          have HOWX := Lib.hid (Kd.R_mono (Kd.R_bound ho9) (ok' := fun k => more Z' w4 w9 k ∧ k ≠ sb) (fun k hk => by
            rcases hk.1 with h | h
            · exact ⟨.inl h.1, h.2⟩
            · exact ⟨.inr ⟨h, hk.2.2.1⟩, by omega⟩))
          have HB9 := Lib.hid hb9
          have HZ9 : Hid (∀ k, k < w.heap.size → more Z' w4 w9 k) := Lib.hid (fun k hk => .inl (HZ4.out k hk))
          have HZS9 : Hid (more Z' w4 w9 sb) := Lib.hid (.inl HZS.out)
          have HR9 := Lib.hid (Kd.R_grown HR4.out hg9 (fun k hk e => by have := HTL.out k e.symm; omega))
          clear ho9 hb9 hg9 hat9 hsb8 HD4 HS4 HB4 HZ4 HZS HOW4 HOW9 HR4 HL hmnil hne hx4 hl3 hln
          obtain ⟨Z9, hZ9⟩ : ∃ Z9, more Z' w4 w9 = Z9 := ⟨_, rfl⟩
          rw [hZ9] at HD9 HZS9
          simp only [hZ9] at HOWX HZ9
          clear hZ9
          obtain ⟨w4, rfl⟩ : ∃ x, x = w9 := ⟨_, rfl⟩
          obtain ⟨Z', rfl⟩ : ∃ x, x = Z9 := ⟨_, rfl⟩
          have HD4 := HD9
          have HS4 := HS9
          have HB4 := HB9
          have HZ4 := HZ9
          have HZS := HZS9
          have HOW4 := HOWX
          have HR4 := HR9
          clear HD9 HS9 HB9 HZ9 HZS9 HOWX HR9
          obtain ⟨At, ct, hvt, hct, _⟩ := Kd.R_reads HOW4.out
          subst hvt
        all_goals
          clear HTL HKN
          have hRb := Kd.R_reads' HR4.out
          have hR2 := Kd.R_reads' HOW4.out
          have hqf : precinctlaw08_equal.f (lst.length + 1) lst lst = some true := by rw [equal_f lst lst (Nat.le_trans hll (by decide))]; simp
          have heq := precinctlaw08_equal.calls (lst.length + 1) _ c4 lst _ ct lst true w4 hRb.2.2 hRb.2.1 hR2.2.2 hct hqf
          have HEQ := Lib.hid heq
          clear heq hRb hR2 hqf
          refine HEQ.out.mono ?_
          rintro e w5 ⟨rfl, hd5⟩
          have hb5 := Drawn0.below hd5
          have HB5 := Lib.hid (HB4.out.trans (hb5.mono HB4.out.size))
          have HD5 := Lib.hid (HD4.out.keep hb5)
          have HS5 := Lib.hid (HS4.out.below hb5)
          have HOW5 := Lib.hid (Kd.R_below HOW4.out hb5)
          clear HEQ hb5 hd5 HB4 HD4 HS4 HOW4 HR4
          go_wp2_with fail
          go_loopg [8, 9, 10, 14] (B - j) (fun gk vt vm vi ve wr => IRel w b q B sb n (n < KK) gk vt vm vi ve wr)
          case atStart =>
            refine ⟨j, Z', N', m4, L4, lst, lst, ⟨#[]⟩, s4, 0, ⟨hj, rfl, rfl, rfl, by omega, HL4.out, HZ4.out, HZS.out, HSB.out, HD5.out, by have := HN4.out; have := HFW.out; omega, HS5.out, HEB.out, HSO4.out.lie.mono HGE.out, .inl ⟨rfl, HSO4.out, rfl, HGE.out, HT4.out⟩, HOW5.out, HSH.out, HB5.out⟩⟩
          case round =>
            have HGKO := HGK
            have HJ0 := Lib.hid hj
            clear HSO4 HEB HEH HGE HL4 HZ4 HZS HSB HD5 HS5 HT4 HOW5 HB5 HSH HLI HLN HZ1 HFW HN4 HLV HBL HGK hll hct hlenq hsz1 hj HCA
            clear Z' N' m4 L4 s4
            obtain ⟨j2, Z2, N2, m2, L2, lst2, told2, mb2, s2, E2, hjle, rfl, rfl, rfl, hg2, hlen2, hz12, hzs2, hsb2, hdk2, hfew2, hat2, heb2, hlie2, hst2, hown2, hsh2, hbel2⟩ := hrel
            have HGK := Lib.hid hg2
            have HLN := Lib.hid hlen2
            have HZ1 := Lib.hid hz12
            have HZS := Lib.hid hzs2
            have HSB := Lib.hid hsb2
            have HDK := Lib.hid hdk2
            have HFW := Lib.hid hfew2
            have HAT := Lib.hid hat2
            have HEB := Lib.hid heb2
            have HLI := Lib.hid hlie2
            have HOW := Lib.hid hown2
            have HSH := Lib.hid hsh2
            have HBL := Lib.hid hbel2
            clear hg2 hlen2 hz12 hzs2 hsb2 hdk2 hfew2 hat2 heb2 hlie2 hown2 hsh2 hbel2
            rcases hst2 with ⟨rfl, hso, hlt2, hge, hT⟩ | ⟨rfl, hT, hdead, hkn⟩
            · have HSO := Lib.hid hso
              have HGE := Lib.hid hge
              have HT := Lib.hid hT
              have HLT := Lib.hid hlt2
              clear hso hge hT hlt2
              by_cases hjB : j2 < B
              · obtain ⟨_, _, hcl⟩ := Kd.reads_of_C (d := ByteArray.empty) HC.out
                obtain ⟨ad1, hA1, hcl2⟩ := hcl (by omega)
                have hx := hcl2 j2 (by omega)
                obtain ⟨x, hxe⟩ : ∃ x, l1.getD j2 ByteArray.empty = x := ⟨_, rfl⟩
                rw [show l1.getD j2 _ = x from hxe] at hx
                have hx := pw_cell_below HBL.out hx
                obtain ⟨y6, hy6⟩ : ∃ y6 : Nat, min x.size 500 = y6 := ⟨_, rfl⟩
                have u1 : min (x.size : Int) 500 = (y6 : Int) := by omega
                have u2 : y6 ≤ x.size := by omega
                have u3 : y6 ≤ 500 := by omega
                clear hcl hcl2 hxe hy6
                obtain ⟨y, hy⟩ : ∃ y, x.extract 0 y6 = y := ⟨_, rfl⟩
                have HY := Lib.hid hy
                clear hy
                subst hA1
                go_wp2_with fail
                go_quiet (fail)
                go_wp2_with (rw [HY.out])
                obtain ⟨w6, hw6⟩ : ∃ w6, wr.drewN nq = w6 := ⟨_, rfl⟩
                have hb6 : Below wr.heap.size wr w6 := by rw [← hw6]; exact Go.Proofs.YtekpbpcfeopilaaDoorCore.below_drewN _
                rw [hw6]
                have HB6 := Lib.hid (HBL.out.trans (hb6.mono HBL.out.size))
                have HD6 := Lib.hid (HDK.out.keep hb6)
                have HS6 := Lib.hid (HAT.out.below hb6)
                have HOW6 := Lib.hid (Kd.R_below HOW.out hb6)
                have hsq : s2.h ≤ 30 := by
                  have h1 := HSO.out.h
                  rw [HLN.out] at h1
                  omega
                have hfit := HSO.out.fits
                have happ := app_any HD6.out 0 (d := ⟨b, m2, N2⟩) rfl HS6.out HZS.out HEB.out (by omega) HSO.out.holds.hlf HSO.out.holds.g1 HSO.out.holds.g2 (by omega) (by show N2 < 900000; have := HFW.out; omega) y
                have HAP := Lib.hid happ
                clear happ hb6 hw6 hx u1 u2 u3
                refine HAP.out.mono ?_
                rintro e w8 ⟨rfl, hS8, ⟨N8, hN8, hD8⟩, hF8⟩
                have HN8 : Hid (N8 ≤ 1000 * (n + 1) + 1000 * (j2 + 1)) := Lib.hid (by have : N8 ≤ N2 + 1000 := hN8; have := HFW.out; omega)
                have HB8 : Hid (Below w.heap.size w w8) := Lib.hid (HB6.out.trans (hF8.below HB6.out.size (fun k hk hz => by
                  rcases hz with hz | hz
                  · exact hz (HZ1.out k hk)
                  · have := HSB.out; omega)))
                have HOW8 := Lib.hid (Rfr HOW6.out hF8 (fun k hk _ hs => by
                  rcases hs with hs | hs
                  · exact hs hk.1
                  · exact hk.2 hs))
                have hap := app_any_out HSO.out (by omega) y
                have hperr := putS_err y
                have hll2 : told2.length ≤ 40 := by have h1 := HSH.out; rw [HLT.out] at h1; omega
                have hcalm : m2.tleft = 0 → (appR m2 s2 y).1 ≠ 11 ∧ ((appR m2 s2 y).1 = 0 → (appR m2 s2 y).2.2.tleft = 0) := fun hc => by
                  rcases app_calm (to_good HSO.out hc) (by omega) y with ⟨h1, _⟩ | ⟨h1, _⟩ | ⟨h1, _, _, _, _, _, _, L', _, hG⟩
                  · rw [h1]
                    refine ⟨?_, fun _ => hc⟩
                    show (putS y).2 ≠ 11
                    omega
                  · rw [h1]
                    exact ⟨by show (12 : Int) ≠ 11; decide, fun _ => hc⟩
                  · rw [h1]
                    exact ⟨by decide, fun _ => hG.calm⟩
                clear hN8 hF8 HAP HOW HOW6 HD6 HS6 HB6 HAT HDK
                rcases hap with ⟨hr, hne⟩ | ⟨hr, _⟩ | ⟨ha1, hok, ha2, ha3, ha4, L8, hl8, hG8⟩ | ⟨ha1, hok, L8, hd8, hl8, hg8, hf8, hr8⟩
                · rw [hr] at hS8 hD8 ⊢
                  simp only at hS8 hD8 ⊢
                  have HS8 := Lib.hid hS8
                  have HD8 := Lib.hid hD8
                  have hq0 : ((putS y).2 == 0) = false := by simpa using hne
                  have hq1 : ((putS y).2 == 11) = false := by rw [beq_eq_false_iff_ne]; omega
                  clear hS8 hD8 hr hne hperr hcalm
                  go_wp2_with fail
                  go_roundg (gk - 1)
                  case measure => have := HGK.out; omega
                  case rel => exact ⟨j2 + 1, Z2, N8, m2, L2, lst2, told2, mb2, s2, 0, ⟨by omega, rfl, by go_num, rfl, by have := HGK.out; omega, HLN.out, HZ1.out, HZS.out, HSB.out, HD8.out, HN8.out, HS8.out, HEB.out, HLI.out, .inl ⟨rfl, HSO.out, HLT.out, HGE.out, HT.out⟩, HOW8.out, by have := HSH.out; omega, HB8.out⟩⟩
                · rw [hr] at hS8 hD8 ⊢
                  simp only at hS8 hD8 ⊢
                  have HS8 := Lib.hid hS8
                  have HD8 := Lib.hid hD8
                  clear hS8 hD8 hr hperr hcalm
                  go_wp2_with fail
                  go_roundg (gk - 1)
                  case measure => have := HGK.out; omega
                  case rel => exact ⟨j2 + 1, Z2, N8, m2, L2, lst2, told2, mb2, s2, 0, ⟨by omega, rfl, by go_num, rfl, by have := HGK.out; omega, HLN.out, HZ1.out, HZS.out, HSB.out, HD8.out, HN8.out, HS8.out, HEB.out, HLI.out, .inl ⟨rfl, HSO.out, HLT.out, HGE.out, HT.out⟩, HOW8.out, by have := HSH.out; omega, HB8.out⟩⟩
                · obtain ⟨⟨E8, s8, m8⟩, hr2⟩ : ∃ r, appR m2 s2 y = r := ⟨_, rfl⟩
                  rw [hr2] at hS8 hD8 ha1 ha2 ha3 ha4 hG8 hcalm ⊢
                  simp only at hS8 hD8 ha1 ha2 ha3 ha4 hG8 hcalm ⊢
                  subst ha1
                  have HS8 := Lib.hid hS8
                  have HD8 := Lib.hid hD8
                  have HG8 := Lib.hid hG8
                  have HT8 : Hid (n < KK ∨ m8.tleft = 0) := Lib.hid (HT.out.imp id (fun h => (hcalm h).2 rfl))
                  have HL8 := Lib.hid (hl8.trans HLN.out)
                  have HEB8 : Hid (s8.b = b) := Lib.hid (ha3.trans HEB.out)
                  have HGE8 : Hid ((s8.g : Int) ≤ 2 * n + 1) := Lib.hid (by rw [ha2]; exact HGE.out)
                  have how := Kd.R_mono HOW8.out (ok' := fun k => (Z2 k ∧ k ≠ sb) ∨ w8.heap.size ≤ k) (fun k hk => .inl hk)
                  have HOW9 := Lib.hid how
                  have hln : (told2.length + 1) * 16 ≤ 140737488355328 := by omega
                  clear hS8 hD8 hr2 ha2 ha3 ha4 hG8 hl8 how hcalm hperr hok
                  go_wp2_with (at_builtin; go_must ((refine Kd.R_append Kd.string (w0 := w) w.heap.size rfl (.tmp 114) (.tmp 116) 31 9 (.string ⟨#[]⟩) 16 rfl Tryd.underlying31 PStrm.info9 rfl (by decide) (by omega) _ told2 y [.string y] (fun k => (Z2 k ∧ k ≠ sb) ∨ w8.heap.size ≤ k) (fun _ => False) rfl rfl rfl (fun _ hk => hk.elim) (fun k hk => .inr hk) HOW9.out HB8.out HB8.out.size hln ?_; intro v9 w9 ho9 hb9 hg9 hat9)))
                  have HD9 := Lib.hid (HD8.out.own (Fr.of_grown hg9 (S := fun k => Z2 k ∨ w8.heap.size ≤ k) (fun k hk => by
                    rcases HOW9.out.1 k hk with h | h
                    · exact .inl h.1
                    · exact .inr h)) (fun k hk hs => by
                      rcases hs with hs | hs
                      · exact hs
                      · omega))
                  have hsb8 := HS8.out.lt
                  have HS9 := Lib.hid (HS8.out.fr (Fr.of_grown hg9 (S := fun k => k ≠ sb) (fun k hk => by
                    rcases HOW9.out.1 k hk with h | h
                    · exact h.2
                    · omega)) (fun h => h rfl))
                  have HOWX := Lib.hid (Kd.R_mono (Kd.R_bound ho9) (ok' := fun k => more Z2 w8 w9 k ∧ k ≠ sb) (fun k hk => by
                    rcases hk.1 with h | h
                    · exact ⟨.inl h.1, h.2⟩
                    · exact ⟨.inr ⟨h, hk.2.2.1⟩, by omega⟩))
                  have HB9 := Lib.hid hb9
                  clear ho9 hb9 hg9 hat9
                  go_roundg (gk - 1)
                  case measure => have := HGK.out; omega
                  case rel => exact ⟨j2 + 1, more Z2 w8 w9, N8, m8, L8, told2 ++ [y], told2 ++ [y], mb2, s8, 0, ⟨by omega, rfl, by go_num, rfl, by have := HGK.out; omega, HL8.out, fun k hk => .inl (HZ1.out k hk), .inl HZS.out, HSB.out, HD9.out, HN8.out, HS9.out, HEB8.out, HG8.out.lie.mono HGE8.out, .inl ⟨rfl, HG8.out, rfl, HGE8.out, HT8.out⟩, HOWX.out, by rw [List.length_append, List.length_singleton]; have h1 := HSH.out; rw [HLT.out] at h1; omega, HB9.out⟩⟩
                · obtain ⟨lst8, hlie8, hk8⟩ := app_lie HSO.out hl8 hg8 hf8 hr8
                  have hT8 : n < KK := by
                    rcases HT.out with h | h
                    · exact h
                    · exact absurd ha1 (hcalm h).1
                  obtain ⟨⟨E8, s8, m8⟩, hr2⟩ : ∃ r, appR m2 s2 y = r := ⟨_, rfl⟩
                  have hsb8b : (appR m2 s2 y).2.1.b = s2.b := appR_b m2 s2 y
                  rw [hr2] at hS8 hD8 ha1 hd8 hsb8b ⊢
                  simp only at hS8 hD8 ha1 hd8 hsb8b ⊢
                  subst ha1
                  have HS8 := Lib.hid hS8
                  have HD8 := Lib.hid hD8
                  have HDE := Lib.hid hd8
                  have HL8 := Lib.hid (hl8.trans HLN.out)
                  have HLI8 := Lib.hid (hlie8.mono HGE.out)
                  have HEB8 : Hid (s8.b = b) := Lib.hid (hsb8b.trans HEB.out)
                  have HKN8 : Hid (Knows lst8 told2 y) := Lib.hid (by
                    rcases hk8 with h | h
                    · exact ⟨.inl h⟩
                    · exact ⟨.inr ⟨hok.1, h⟩⟩)
                  have HSH8 : Hid (lst8.length ≤ j2 + 1) := Lib.hid (by
                    have h1 := HSH.out
                    rw [HLT.out] at h1
                    rcases hk8 with h | h
                    · rw [h]; omega
                    · rw [h, List.length_append, List.length_singleton]; omega)
                  clear hS8 hD8 hr2 hd8 hl8 hg8 hf8 hr8 hlie8 hk8 hcalm hperr hok hsb8b
                  go_wp2_with fail
                  go_roundg (gk - 1)
                  case measure => have := HGK.out; omega
                  case rel => exact ⟨j2 + 1, Z2, N8, m8, L8, lst8, told2, y, s8, 11, ⟨by omega, rfl, by go_num, rfl, by have := HGK.out; omega, HL8.out, HZ1.out, HZS.out, HSB.out, HD8.out, HN8.out, HS8.out, HEB8.out, HLI8.out, .inr ⟨rfl, hT8, HDE.out, HKN8.out⟩, HOW8.out, HSH8.out, HB8.out⟩⟩
              · obtain rfl : j2 = B := by omega
                have hlen2 := HLN.out
                have hsz2 : 0 < sizeH L2.length := by rw [hlen2]; omega
                clear HAT
                go_wp2_with fail
                refine (on_z HDK.out 0 (d := ⟨b, m2, N2⟩) rfl).mono ?_
                rintro e w6 ⟨rfl, hd6, hf6⟩
                have HD6 := Lib.hid hd6
                have HB6 : Hid (Below w.heap.size w w6) := Lib.hid (HBL.out.trans (hf6.below HBL.out.size (fun k hk hz => hz (HZ1.out k hk))))
                have HOW6 := Lib.hid (Rfr HOW.out hf6 (fun k hk _ hs => hs hk.1))
                have hon := on_live HSO.out.live
                have hlie := HLI.out
                have ho := opened hd6 0 (d := ⟨b, onM m2, N2⟩) rfl hon.1 hon.2 (by omega) hsz2 (by show N2 < 900000; have := HFW.out; omega) (by rw [hlie.recs]; exact hlie.fits) (by have := hlie.gen; omega)
                rw [hlie.recs, HLT.out] at ho
                have HO := Lib.hid ho
                have hll2 : told2.length ≤ 40 := by have h1 := HSH.out; rw [HLT.out] at h1; omega
                clear hd6 hf6 hon hlie ho hlen2 hsz2
                go_wp2_with fail
                refine HO.out.mono ?_
                rintro e w9 ⟨sb9, A9, c9, Z9, m9, s9, L9, N9, rfl, _, _, _, _, _, _, _, _, hR9, _, _, hF9, _, _⟩
                have HR9 := Lib.hid hR9
                have HB9 : Hid (Below w.heap.size w w9) := Lib.hid (HB6.out.trans (hF9.below HB6.out.size (fun k hk hz => hz (HZ1.out k hk))))
                have HOW9 := Lib.hid (Rfr HOW6.out hF9 (fun k hk _ hs => hs hk.1))
                clear hR9 hF9 HO
                obtain ⟨Al, cl, hle, hcl9, _⟩ := Kd.R_reads HOW9.out
                subst hle
                have hCa := (Kd.R_reads' HOW9.out).2.2
                have hRb := Kd.R_reads' HR9.out
                have hqf : precinctlaw08_equal.f (told2.length + 1) told2 told2 = some true := by rw [equal_f told2 told2 (Nat.le_trans hll2 (by decide))]; simp
                have heq := precinctlaw08_equal.calls (told2.length + 1) A9 c9 told2 Al cl told2 true w9 hRb.2.2 hRb.2.1 hCa hcl9 hqf
                have HEQ := Lib.hid heq
                clear hCa hRb heq hqf
                go_wp2_with fail
                refine HEQ.out.mono ?_
                rintro e w10 ⟨rfl, hd10⟩
                have HB10 := Lib.hid (HB9.out.trans ((Drawn0.below hd10).mono HB9.out.size))
                clear hd10 HEQ
                go_wp2_with fail
                exact bodyPost_ret (v := .bool true) (by simp [results, Tryd.results10, go_sem]) rfl ⟨rfl, HB10.out⟩
            · have HDE := Lib.hid hdead
              have HKN := Lib.hid hkn
              clear hdead hkn
              go_wp2_with fail
              all_goals
                refine (on_z HDK.out 0 (d := ⟨b, m2, N2⟩) rfl).mono ?_
                rintro e w6 ⟨rfl, hd6, hf6⟩
                have HD6 := Lib.hid hd6
                have HB6 : Hid (Below w.heap.size w w6) := Lib.hid (HBL.out.trans (hf6.below HBL.out.size (fun k hk hz => hz (HZ1.out k hk))))
                have HOW6 := Lib.hid (Rfr HOW.out hf6 (fun k hk _ hs => hs hk.1))
                clear hd6 hf6
                go_wp2_with fail
                go_roundg (KK - n - 1)
                case measure => have := HGKO.out; omega
                case rel => exact ⟨n + 1, j2, Z2, N2, onM m2, L2, lst2, told2, mb2, ⟨by omega, hjle, rfl, rfl, by go_num, by omega, HLN.out, HZ1.out, HD6.out, by have := HFW.out; omega, (on_dead HDE.out).1, (on_dead HDE.out).2, HLI.out.mono (by omega), HKN.out, Kd.R_mono HOW6.out (fun k hk => hk.1), HSH.out, HB6.out⟩⟩

end Go.Proofs.YtekpbpcfeopilaaDoor.Ls
