/- StreamAny: the walk. -/
import Derived.Test.YtekpbpcfeopilaaDoorNy
namespace Go.Proofs.YtekpbpcfeopilaaDoor.Ay
open Go Go.RowKit Go.Joins Go.Proofs.YtekpbpcfeopilaaDoorCore Go.Proofs.YtekpbpcfeopilaaDoor.Dm Go.Proofs.YtekpbpcfeopilaaDoor.Dr Go.Proofs.YtekpbpcfeopilaaDoor.Da Go.Proofs.YtekpbpcfeopilaaDoor.Dl Go.Proofs.YtekpbpcfeopilaaDoor.Ds Go.Proofs.YtekpbpcfeopilaaDoor.Dt Go.Proofs.YtekpbpcfeopilaaDoor.Dw Go.Proofs.YtekpbpcfeopilaaDoor.Sys Go.Proofs.YtekpbpcfeopilaaDoor.PStrm Go.Proofs.YtekpbpcfeopilaaDoor.Sm Go.Proofs.YtekpbpcfeopilaaDoor.Lw Go.Proofs.YtekpbpcfeopilaaDoor.Fp Go.Proofs.YtekpbpcfeopilaaDoor.Sp Go.Proofs.YtekpbpcfeopilaaDoor.Fz Go.Proofs.YtekpbpcfeopilaaDoor.Hd Go.Proofs.YtekpbpcfeopilaaDoor.St Go.Proofs.YtekpbpcfeopilaaDoor.Ap Go.Proofs.YtekpbpcfeopilaaDoor.Rs Go.Proofs.YtekpbpcfeopilaaDoor.Op Go.Proofs.YtekpbpcfeopilaaDoor.Cm Go.Proofs.YtekpbpcfeopilaaDoor.Ws Go.Proofs.YtekpbpcfeopilaaDoor.Ny Go.Proofs.YtekpbpcfeopilaaDoorW.PrintWords Go.Proofs.YtekpbpcfeopilaaDoorW.PrintLast Go.Proofs.YtekpbpcfeopilaaDoorW.PrintMore

/-- Behind some appends: the disk, the stream, the records. -/
structure AInv (w : World) (b sb g0 M : Nat) (gk : Nat) (o v : Value) (wr : World) (j : Nat) (Z : Nat → Prop) (N : Nat) (m : MDisk) (L : List ByteArray) (s : MSt) (l : List ByteArray) : Prop where
  le : j ≤ M
  slot : v = .int .i64 j
  ghost : gk + j = M
  long : L.length ≤ 62
  z1 : ∀ k, k < w.heap.size → Z k
  zs : Z sb
  sbw : w.heap.size ≤ sb
  dks : Dks Z wr [⟨b, m, N⟩]
  few : N ≤ 1000 + 1000 * j
  at_ : SAt wr sb s
  good : Cm.Good m 0 L s l
  eb : s.b = b
  gen : s.g = g0
  own : Kd.R Kd.string 9 wr w.heap.size (fun k => Z k ∧ k ≠ sb) o l
  below : Below w.heap.size w wr
def ARel (w : World) (b sb g0 M : Nat) (gk : Nat) (o v : Value) (wr : World) : Prop := ∃ j Z N m L s l, AInv w b sb g0 M gk o v wr j Z N m L s l

/-- Behind some losses of power. -/
structure CInv (w : World) (b : Nat) (o : Value) (l : List ByteArray) (gk : Nat) (v : Value) (wr : World) (j : Nat) (Z : Nat → Prop) (N : Nat) (m : MDisk) (L : List ByteArray) (s : MSt) : Prop where
  le : j ≤ 2
  slot : v = .int .i64 j
  ghost : gk + j = 2
  long : L.length ≤ 62
  z1 : ∀ k, k < w.heap.size → Z k
  dks : Dks Z wr [⟨b, m, N⟩]
  few : N ≤ 21000 + 1000 * j
  good : Cm.Good m 0 L s l
  gen : s.g ≤ 281474976710647 + j
  own : Kd.R Kd.string 9 wr w.heap.size (fun k => Z k) o l
  below : Below w.heap.size w wr
def CRel (w : World) (b : Nat) (o : Value) (l : List ByteArray) (gk : Nat) (v : Value) (wr : World) : Prop := ∃ j Z N m L s, CInv w b o l gk v wr j Z N m L s

theorem size_pos {q : Nat} (h1 : 3 ≤ q) (h2 : q ≤ 62) : 1 ≤ sizeH q ∧ sizeH q ≤ 30 := by unfold sizeH; omega

set_option maxHeartbeats 16000000 in
set_option maxRecDepth 100000 in
theorem law (size : Int) (img : ByteArray) (A : Option Addr) (cc : Nat) (l0 : List ByteArray) (w : World) (hC : Kd.C Kd.string w A l0.length l0) (hcc : l0.length ≤ cc) :
    Calls Tryd.prog 9 #[.int .i64 size, .string img, .slice A l0.length cc] w fun e w' => e = .returned (.bool true) ∧ Below w.heap.size w w' := by
  obtain ⟨n, hn⟩ : ∃ n : Nat, max 0 size % 60 = (n : Int) := ⟨(max 0 size % 60).toNat, by omega⟩
  have hn60 : n < 60 := by omega
  obtain ⟨M, hM⟩ : ∃ M : Nat, min l0.length 20 = M := ⟨_, rfl⟩
  have hMi : min (l0.length : Int) 20 = (M : Int) := by omega
  have hMc : M ≤ cc := by omega
  have hMl : M ≤ l0.length := by omega
  have hM20 : M ≤ 20 := by omega
  obtain ⟨q, hq⟩ : ∃ q, 3 + n = q := ⟨_, rfl⟩
  have v1 : (3 : Int) + (n : Int) = (q : Int) := by omega
  have v2 : IntKind.i64.wrap (q : Int) = (q : Int) := IntWalk.i64_in _ (by omega)
  have hq3 : 3 ≤ q ∧ q ≤ 62 := by omega
  have HC := Lib.hid hC
  clear hC hM hq
  go_enter Tryd.func9, Tryd.ntmps9
  go_wp2_with fail
  have hC1 := lit_C .i64 w 3 [(q : Int)] (by simp)
  obtain ⟨w1, hw1⟩ : ∃ w1, w.alloc (.cells (encs (Value.int .i64) [(q : Int)]).toArray 3) = w1 := ⟨_, rfl⟩
  have hb1 : Below w.heap.size w w1 := by rw [← hw1]; exact (Below.refl _ _).alloc (Nat.le_refl _) _
  rw [hw1] at hC1
  have hnw := new_z (Dks.nil w1) (some ⟨w.heap.size, 0, none⟩) 1 [(q : Int)] hC1 (by simp)
  obtain ⟨b, hb⟩ : ∃ b, w1.heap.size = b := ⟨_, rfl⟩
  rw [hb] at hnw
  have HNW := Lib.hid hnw
  have HB1 := Lib.hid hb1
  have HWB : Hid (w.heap.size ≤ b) := Lib.hid (by rw [← hb]; exact hb1.size)
  clear hC1 hnw hb1 hb
  change Calls _ _ #[.slice (some ⟨w.heap.size, 0, none⟩) 1 1] (w.alloc (.cells (encs (Value.int .i64) [(q : Int)]).toArray 3)) _
  rw [hw1]
  refine HNW.out.mono ?_
  rintro e w2 ⟨rfl, hD2, hb2⟩
  rw [List.nil_append] at hD2
  have HB2 := Lib.hid (HB1.out.trans (hb2.mono HWB.out))
  have HD2 := Lib.hid hD2
  obtain ⟨hL0, hc0, hl0⟩ := laid_live q (by omega) img
  have HL0 := Lib.hid hL0
  have HC0 := Lib.hid hc0
  have HLL := Lib.hid hl0
  clear hD2 hb2 HNW hw1 hL0 hc0 hl0
  go_wp2_with fail
  refine (lay_z HD2.out 0 (d := ⟨b, newM [(q : Int)], 0⟩) rfl 0 img).mono ?_
  rintro e w3 ⟨rfl, hD3, hF3⟩
  have HD3 := Lib.hid hD3
  have HB3 : Hid (Below w.heap.size w w3) := Lib.hid (HB2.out.trans (hF3.below HB2.out.size (fun k hk hz => hz (Nat.lt_of_lt_of_le hk HWB.out))))
  obtain ⟨m0, hm0⟩ : ∃ m0, layM (newM [(q : Int)]) 0 img = m0 := ⟨_, rfl⟩
  rw [show (({ b := b, m := newM [(q : Int)], n := 0 } : DK).m) = newM [(q : Int)] from rfl, hm0] at hD3
  have HD3 := Lib.hid hD3
  have hL0 := HL0.out
  have hc0 := HC0.out
  rw [hm0] at hL0 hc0
  obtain ⟨L0, hLe⟩ : ∃ L0, layL q img = L0 := ⟨_, rfl⟩
  have hl0 := HLL.out
  rw [hLe] at hL0 hl0
  have HL0 := Lib.hid hL0
  have HC0 := Lib.hid hc0
  have HLL := Lib.hid hl0
  have hsz := size_pos hq3.1 hq3.2
  have hall := open_all hD3 0 (d := ⟨b, m0, 0⟩) rfl hL0 (by omega) (by rw [hl0]; omega) (by show 0 < 900000; omega)
  have hany := open_calm_any (m := m0) (k := 0) (L := L0) b
  have HAL := Lib.hid hall
  have HAN := Lib.hid hany
  clear hD3 hF3 hm0 hL0 hc0 hLe hl0 hall hany
  go_wp2_with fail
  refine HAL.out.mono ?_
  intro e w4 hp
  rcases hp with ⟨hne, rfl, hdk, hF4⟩ | ⟨he0, sb, A4, c4, Z', rfl, hcl4, hz1, hz2, hsb, hzs, hS, hR, ⟨N', hN', hD4⟩, hF4⟩
  · have h12 : (resR m0 (Op.preS b 0 L0) (recOf sumN L0 (sizeH L0.length))).1 = 12 := by
      rcases HAN.out with h | ⟨h1, h2⟩
      · exact h
      · obtain ⟨h3, _⟩ := open_calm b HL0.out HC0.out (by rw [HLL.out]; omega) h1 h2
        exact absurd h3 hne
    rw [h12]
    have HB4 : Hid (Below w.heap.size w w4) := Lib.hid (HB3.out.trans (hF4.below HB3.out.size (fun k hk hz => hz (Nat.lt_of_lt_of_le hk HWB.out))))
    clear hne hdk hF4 h12 HAN HAL
    go_wp2_with fail
    refine (wakes_any w4).mono ?_
    rintro e w5 ⟨rfl, hb5⟩
    have HB5 := Lib.hid (HB4.out.trans (hb5.mono HB4.out.size))
    clear hb5
    go_wp2_with fail
    refine (wakes_any w5).mono ?_
    rintro e w6 ⟨rfl, hb6⟩
    have HB6 := Lib.hid (HB5.out.trans (hb6.mono HB5.out.size))
    clear hb6
    go_wp2_with fail
    exact bodyPost_ret (v := .bool true) (by simp [results, Tryd.results9, go_sem]) rfl ⟨rfl, HB6.out⟩
  · have hop : (dataOf sumN (recOf sumN L0 (sizeH L0.length))).length < 55 * sizeH L0.length ∧ genOf L0 (sizeH L0.length) < 281474976710655 := by
      rcases HAN.out with h | h
      · exact absurd (he0.symm.trans h) (by decide)
      · exact h
    obtain ⟨_, ho2, _, _, L4, hl4, hG4⟩ := open_calm b HL0.out HC0.out (by rw [HLL.out]; omega) hop.1 hop.2
    obtain ⟨⟨E4, s4, m4⟩, hr4⟩ : ∃ r, resR m0 (Op.preS b 0 L0) (recOf sumN L0 (sizeH L0.length)) = r := ⟨_, rfl⟩
    rw [hr4] at hS hD4 hG4 ho2
    simp only at hS hD4 hG4 ho2
    obtain ⟨rc, hrc⟩ : ∃ rc, recOf sumN L0 (sizeH L0.length) = rc := ⟨_, rfl⟩
    rw [hrc] at hR hG4 ⊢
    have HB4 : Hid (Below w.heap.size w w4) := Lib.hid (HB3.out.trans (hF4.below HB3.out.size (fun k hk hz => hz (Nat.lt_of_lt_of_le hk HWB.out))))
    have HD4 := Lib.hid hD4
    have HS4 := Lib.hid hS
    have HG4 := Lib.hid hG4
    have HEB := Lib.hid ho2
    have HL4 : Hid (L4.length ≤ 62) := Lib.hid (by rw [hl4, HLL.out]; omega)
    have HR4 := Lib.hid (Kd.R_lower hR HB3.out.size)
    have HZ1 : Hid (∀ k, k < w.heap.size → Z' k) := Lib.hid (fun k hk => hz1 k (Nat.lt_of_lt_of_le hk HWB.out))
    have HZS := Lib.hid hzs
    have HSB : Hid (w.heap.size ≤ sb) := Lib.hid (Nat.le_trans HB3.out.size hsb)
    have HN4 : Hid (N' ≤ 1000) := Lib.hid (by have : N' ≤ 0 + 1000 := hN'; omega)
    clear he0 hcl4 hz1 hz2 hsb hzs hS hR hN' hD4 hF4 hop ho2 hl4 hG4 hr4 hrc HAN HAL HL0 HC0 HD3
    go_wp2_with fail
    refine (wakes_any w4).mono ?_
    rintro e w5 ⟨rfl, hb5⟩
    have HB5 := Lib.hid (HB4.out.trans (hb5.mono HB4.out.size))
    have HD5 := Lib.hid (HD4.out.keep hb5)
    have HS5 := Lib.hid (HS4.out.below hb5)
    have HR5 := Lib.hid (Kd.R_below HR4.out hb5)
    clear hb5
    go_wp2_with fail
    refine (gen_any HS5.out).mono ?_
    rintro e w6 ⟨rfl, hb6⟩
    have HB6 := Lib.hid (HB5.out.trans (hb6.mono HB5.out.size))
    have HD6 := Lib.hid (HD5.out.keep hb6)
    have HS6 := Lib.hid (HS5.out.below hb6)
    have HR6 := Lib.hid (Kd.R_below HR5.out hb6)
    clear hb6
    obtain ⟨g4, hg4⟩ : ∃ g4, s4.g = g4 := ⟨_, rfl⟩
    rw [hg4]
    have HGE := Lib.hid hg4
    clear hg4
    by_cases hbig : (281474976710647 : Int) < (g4 : Int)
    · go_wp2_with fail
      exact bodyPost_ret (v := .bool true) (by simp [results, Tryd.results9, go_sem]) rfl ⟨rfl, HB6.out⟩
    · go_wp2_with fail
      go_loopg [9, 60] M (fun gk o v wr => ARel w b sb g4 M gk o v wr)
      case atStart => exact ⟨0, Z', N', m4, L4, s4, rc, ⟨Nat.zero_le _, rfl, rfl, HL4.out, HZ1.out, HZS.out, HSB.out, HD6.out, by have := HN4.out; omega, HS6.out, HG4.out, HEB.out, HGE.out, HR6.out, HB6.out⟩⟩
      case round =>
        obtain ⟨j, Z, N, m, L, s, l, hj, rfl, hg, hlong, hz1, hzs, hsbw, hdk, hfew, hat, hgd, heb, hgen, hown, hbel⟩ := hrel
        have HGK := Lib.hid hg
        have HLG := Lib.hid hlong
        have HZ1 := Lib.hid hz1
        have HZS := Lib.hid hzs
        have HSB := Lib.hid hsbw
        have HDK := Lib.hid hdk
        have HFW := Lib.hid hfew
        have HAT := Lib.hid hat
        have HGD := Lib.hid hgd
        have HEB := Lib.hid heb
        have HGN := Lib.hid hgen
        have HOW := Lib.hid hown
        have HBL := Lib.hid hbel
        have hl62 : s.h ≤ 30 := by have h1 := hgd.h; have h2 : sizeH L.length ≤ 30 := by unfold sizeH; omega
                                   omega
        have hfit := hgd.fits
        have hll : l.length ≤ 1700 := by
          have h1 := framesL_long (sm := sumN) (l.map toL)
          have h2 := congrArg List.length hgd.data
          unfold dataOf at h2
          rw [List.length_map] at h1
          have h3 : s.data.data.toList.length = s.data.size := by simp
          omega
        clear hg hlong hz1 hzs hsbw hdk hfew hat hgd heb hgen hown hbel
        by_cases hlt : j < M
        · obtain ⟨_, _, hcl⟩ := Kd.reads_of_C (d := ByteArray.empty) HC.out
          obtain ⟨ad, rfl, hcl2⟩ := hcl (by omega)
          have hx := hcl2 j (by omega)
          obtain ⟨x, hxe⟩ : ∃ x, l0.getD j ByteArray.empty = x := ⟨_, rfl⟩
          rw [show l0.getD j _ = x from hxe] at hx
          have hx := pw_cell_below HBL.out hx
          clear hcl hcl2 hxe
          go_wp2_with fail
          have happ := app_any HDK.out 0 (d := ⟨b, m, N⟩) rfl HAT.out HZS.out HEB.out (by omega) HGD.out.holds.hlf HGD.out.holds.g1 HGD.out.holds.g2 (by omega) (by show N < 900000; have := HFW.out; omega) x
          refine happ.mono ?_
          rintro e w8 ⟨rfl, hS8, ⟨N2, hN2, hD8⟩, hF8⟩
          have hN2' : N2 ≤ 1000 + 1000 * (j + 1) := by have : N2 ≤ N + 1000 := hN2; have := HFW.out; omega
          have HN2 := Lib.hid hN2'
          have HB8 : Hid (Below w.heap.size w w8) := Lib.hid (HBL.out.trans (hF8.below HBL.out.size (fun k hk hz => by
            rcases hz with hz | hz
            · exact hz (HZ1.out k hk)
            · have := HSB.out; omega)))
          have HOW8 := Lib.hid (Rfr HOW.out hF8 (fun k hk _ hs => by
            rcases hs with hs | hs
            · exact hs hk.1
            · exact hk.2 hs))
          have hap := app_calm HGD.out (by omega) x
          clear hN2 hN2' hF8 happ hx
          rcases hap with ⟨hr, hne⟩ | ⟨hr, _, _⟩ | ⟨ha1, _, _, ha2, ha3, ha4, ha5, L2, hl2, hG2⟩
          · rw [hr] at hS8 hD8 ⊢
            simp only at hS8 hD8 ⊢
            have HS8 := Lib.hid hS8
            have HD8 := Lib.hid hD8
            have hne0 : ((putS x).2 == 0) = false := by simpa using hne
            clear hS8 hD8 hr hne
            go_wp2_with fail
            go_roundg (gk - 1)
            case measure => have := HGK.out; omega
            case rel => exact ⟨j + 1, Z, N2, m, L, s, l, ⟨by omega, by go_num, by have := HGK.out; omega, HLG.out, HZ1.out, HZS.out, HSB.out, HD8.out, HN2.out, HS8.out, HGD.out, HEB.out, HGN.out, HOW8.out, HB8.out⟩⟩
          · rw [hr] at hS8 hD8 ⊢
            simp only at hS8 hD8 ⊢
            have HS8 := Lib.hid hS8
            have HD8 := Lib.hid hD8
            clear hS8 hD8 hr
            go_wp2_with fail
            go_roundg (gk - 1)
            case measure => have := HGK.out; omega
            case rel => exact ⟨j + 1, Z, N2, m, L, s, l, ⟨by omega, by go_num, by have := HGK.out; omega, HLG.out, HZ1.out, HZS.out, HSB.out, HD8.out, HN2.out, HS8.out, HGD.out, HEB.out, HGN.out, HOW8.out, HB8.out⟩⟩
          · obtain ⟨⟨E2, s2, m2⟩, hr2⟩ : ∃ r, appR m s x = r := ⟨_, rfl⟩
            rw [hr2] at hS8 hD8 ha1 ha2 ha3 ha4 ha5 hG2 ⊢
            simp only at hS8 hD8 ha1 ha2 ha3 ha4 ha5 hG2 ⊢
            subst ha1
            have HS8 := Lib.hid hS8
            have HD8 := Lib.hid hD8
            have HG2 := Lib.hid hG2
            have HL2 := Lib.hid hl2
            have HEB2 : Hid (s2.b = b) := Lib.hid (ha3.trans HEB.out)
            have HGN2 : Hid (s2.g = g4) := Lib.hid (ha2.trans HGN.out)
            have how := Kd.R_mono HOW8.out (ok' := fun k => (Z k ∧ k ≠ sb) ∨ w8.heap.size ≤ k) (fun k hk => .inl hk)
            have HOW9 := Lib.hid how
            have hln : (l.length + 1) * 16 ≤ 140737488355328 := by omega
            clear hS8 hD8 hr2 ha2 ha3 ha4 ha5 hG2 hl2 how
            go_wp2_with (at_builtin; go_must ((refine Kd.R_append Kd.string (w0 := w) w.heap.size rfl (.tmp 68) (.tmp 70) 31 9 (.string ⟨#[]⟩) 16 rfl Tryd.underlying31 PStrm.info9 rfl (by decide) (by omega) _ l x [.string x] (fun k => (Z k ∧ k ≠ sb) ∨ w8.heap.size ≤ k) (fun _ => False) rfl rfl rfl (fun _ hk => hk.elim) (fun k hk => .inr hk) HOW9.out HB8.out HB8.out.size hln ?_; intro v9 w9 ho9 hb9 hg9 hat9)))
            have hgo := hat9
            have HD9 := Lib.hid (HD8.out.own (Fr.of_grown hg9 (S := fun k => Z k ∨ w8.heap.size ≤ k) (fun k hk => by
              rcases HOW9.out.1 k hk with h | h
              · exact .inl h.1
              · exact .inr h)) (fun k hk hs => by
                rcases hs with hs | hs
                · exact hs
                · omega))
            have hsb8 := HS8.out.lt
            have HS9 := Lib.hid (HS8.out.fr (Fr.of_grown hg9 (S := fun k => k ≠ sb) (fun k hk => by
              rcases HOW9.out.1 k hk with h | h
              · exact h.2
              · omega)) (fun h => h rfl))
            have HOWX := Lib.hid (Kd.R_mono (Kd.R_bound ho9) (ok' := fun k => more Z w8 w9 k ∧ k ≠ sb) (fun k hk => by
              rcases hk.1 with h | h
              · exact ⟨.inl h.1, h.2⟩
              · exact ⟨.inr ⟨h, hk.2.2.1⟩, by omega⟩))
            have HB9 := Lib.hid hb9
            clear ho9 hb9 hg9 hat9 hgo
            go_wp2_with fail
            go_roundg (gk - 1)
            case measure => have := HGK.out; omega
            case rel => exact ⟨j + 1, more Z w8 w9, N2, m2, L2, s2, l ++ [x], ⟨by omega, by go_num, by have := HGK.out; omega, by have := HLG.out; have := HL2.out; omega, fun k hk => .inl (HZ1.out k hk), .inl HZS.out, HSB.out, HD9.out, HN2.out, HS9.out, HG2.out, HEB2.out, HGN2.out, HOWX.out, HB9.out⟩⟩
        · obtain rfl : M = j := by omega
          go_wp2_with fail
          have HNB : Hid (N ≤ 21000) := Lib.hid (by have := HFW.out; omega)
          have HGB : Hid (s.g ≤ 281474976710647) := Lib.hid (by rw [HGN.out]; omega)
          go_loopg [73] 2 (fun gk v wr => CRel w b u9 l gk v wr)
          case atStart => exact ⟨0, Z, N, m, L, s, ⟨by omega, rfl, rfl, HLG.out, HZ1.out, HDK.out, by have := HNB.out; omega, HGD.out, HGB.out, Kd.R_mono HOW.out (fun k hk => hk.1), HBL.out⟩⟩
          case round =>
            clear HDK HGD HOW HBL HZS HAT HEB HGN HNB HGB HLG HZ1 HFW HGK hl62 hfit
            clear Z N m L s
            obtain ⟨j, Z, N, m, L, s, hj, rfl, hg, hlong, hz1, hdk, hfew, hgd, hgen, hown, hbel⟩ := hrel
            have HGK := Lib.hid hg
            have HLG := Lib.hid hlong
            have HZ1 := Lib.hid hz1
            have HDK := Lib.hid hdk
            have HFW := Lib.hid hfew
            have HGD := Lib.hid hgd
            have HGN := Lib.hid hgen
            have HOW := Lib.hid hown
            have HBL := Lib.hid hbel
            clear hg hlong hz1 hdk hfew hgd hgen hown hbel
            by_cases hlt : j < 2
            · go_wp2_with fail
              have hcz := crash_z HDK.out 0 (d := ⟨b, m, N⟩) rfl (by show N ≤ 1000000; have := HFW.out; omega) none 0 [] (by simp) (fun W _ => Kd.C_of_reads (d := (0 : Int)) (h1 := fun _ => rfl) ⟨rfl, by simp, fun h => absurd h (by simp)⟩)
              refine hcz.mono ?_
              rintro e w8 ⟨rfl, hD8, hF8⟩
              have HD8 := Lib.hid hD8
              have HB8 : Hid (Below w.heap.size w w8) := Lib.hid (HBL.out.trans (hF8.below HBL.out.size (fun k hk hz => hz (HZ1.out k hk))))
              have HOW8 := Lib.hid (Rfr HOW.out hF8 (fun k hk _ hs => hs hk))
              have hcr := crash_live HGD.out.live []
              have hrc := good_rec HGD.out
              have hgs := HGD.out
              have hq1 : 0 < sizeH L.length := by
                have h1 := hgs.fits
                rw [← hgs.h]; omega
              have hfi : (dataOf sumN l).length < 55 * sizeH L.length := by
                have h1 := hgs.fits
                have h2 := congrArg List.length hgs.data
                have h3 : s.data.data.toList.length = s.data.size := by simp
                rw [← hgs.h]; omega
              have ho := opened hD8 0 (d := ⟨b, crashM [] m, N⟩) rfl hcr.1 hcr.2 (by have := HLG.out; omega) hq1 (by show N < 900000; have := HFW.out; omega) (by rw [hrc.1]; exact hfi) (by rw [hrc.2.1]; have := HGN.out; omega)
              rw [hrc.1, hrc.2.1] at ho
              have HO := Lib.hid ho
              clear hD8 hF8 hcr hrc hgs hq1 hfi ho hcz
              go_wp2_with fail
              refine HO.out.mono ?_
              rintro e w9 ⟨sb9, A9, c9, Z9, m9, s9, L9, N9, rfl, hz91, hz92, hsb9, hzs9, hS9, hsb9b, hsg9, hsh9, hR9, hN9, hD9, hF9, hl9, hG9⟩
              have HD9 := Lib.hid hD9
              have HG9 := Lib.hid hG9
              have HR9 := Lib.hid hR9
              have HB9 : Hid (Below w.heap.size w w9) := Lib.hid (HB8.out.trans (hF9.below HB8.out.size (fun k hk hz => hz (HZ1.out k hk))))
              have HOW9 := Lib.hid (Rfr HOW8.out hF9 (fun k hk _ hs => hs hk))
              have HZ9 : Hid (∀ k, Z k → Z9 k) := Lib.hid hz91
              have HN9 : Hid (N9 ≤ N + 1000) := Lib.hid hN9
              have HL9 := Lib.hid hl9
              have HS9 := Lib.hid hsg9
              clear hz91 hz92 hsb9 hzs9 hS9 hsb9b hsg9 hsh9 hR9 hN9 hD9 hF9 hl9 hG9 HO
              obtain ⟨Al, cl, hle, hcl9, _⟩ := Kd.R_reads HOW9.out
              subst hle
              have hCa := (Kd.R_reads' HOW9.out).2.2
              have hRb := Kd.R_reads' HR9.out
              have heq := precinctlaw08_equal.calls (l.length + 1) Al cl l A9 c9 l true w9 hCa hcl9 hRb.2.2 hRb.2.1 (by rw [equal_f l l (by omega)]; simp)
              have HEQ := Lib.hid heq
              clear hCa hRb heq
              go_wp2_with fail
              refine HEQ.out.mono ?_
              rintro e w10 ⟨rfl, hd10⟩
              have hb10 := Drawn0.below hd10
              have HB10 := Lib.hid (HB9.out.trans (hb10.mono HB9.out.size))
              have HD10 := Lib.hid (HD9.out.keep hb10)
              have HOW10 := Lib.hid (Kd.R_below HOW9.out hb10)
              clear hb10 hd10 HEQ
              go_wp2_with fail
              go_roundg (gk - 1)
              case measure => have := HGK.out; omega
              case rel => exact ⟨j + 1, Z9, N9, m9, L9, s9, ⟨by omega, by go_num, by have := HGK.out; omega, by have := HLG.out; have := HL9.out; omega, fun k hk => HZ9.out k (HZ1.out k hk), HD10.out, by have := HN9.out; have := HFW.out; omega, HG9.out, by have := HS9.out; have := HGN.out; omega, Kd.R_mono HOW10.out (fun k hk => HZ9.out k hk), HB10.out⟩⟩
            · obtain rfl : j = 2 := by omega
              go_wp2_with fail
              exact bodyPost_ret (v := .bool true) (by simp [results, Tryd.results9, go_sem]) rfl ⟨rfl, HBL.out⟩

end Go.Proofs.YtekpbpcfeopilaaDoor.Ay
