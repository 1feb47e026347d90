/- Reset; read; Open. -/
import Derived.Test.YtekpbpcfeopilaaDoorK4

set_option linter.unusedSimpArgs false
set_option linter.unusedVariables false

/-! Reset. -/
namespace Go.Proofs.YtekpbpcfeopilaaDoor.Rs
open Go Go.RowKit Go.Joins Go.Proofs.YtekpbpcfeopilaaDoorCore Go.Proofs.YtekpbpcfeopilaaDoor.Bld Go.Proofs.YtekpbpcfeopilaaDoor.Join Go.Proofs.YtekpbpcfeopilaaDoor.Dm Go.Proofs.YtekpbpcfeopilaaDoor.Dr Go.Proofs.YtekpbpcfeopilaaDoor.Da Go.Proofs.YtekpbpcfeopilaaDoor.Dk Go.Proofs.YtekpbpcfeopilaaDoor.Dl Go.Proofs.YtekpbpcfeopilaaDoor.Dw Go.Proofs.YtekpbpcfeopilaaDoor.Sys Go.Proofs.YtekpbpcfeopilaaDoor.Areas Go.Proofs.YtekpbpcfeopilaaDoor.Back Go.Proofs.YtekpbpcfeopilaaDoor.PAreas Go.Proofs.YtekpbpcfeopilaaDoor.Sm Go.Proofs.YtekpbpcfeopilaaDoor.Lw Go.Proofs.YtekpbpcfeopilaaDoor.Fp Go.Proofs.YtekpbpcfeopilaaDoor.Sp Go.Proofs.YtekpbpcfeopilaaDoor.Fz Go.Proofs.YtekpbpcfeopilaaDoor.Hd Go.Proofs.YtekpbpcfeopilaaDoor.Reg Go.Proofs.YtekpbpcfeopilaaDoor.St Go.Proofs.YtekpbpcfeopilaaDoor.Ap Go.Proofs.YtekpbpcfeopilaaDoorW.PrintWords Go.Proofs.YtekpbpcfeopilaaDoorW.PrintLast Go.Proofs.YtekpbpcfeopilaaDoorW.PrintMore

def resE : List ByteArray → Int
  | [] => 0
  | b :: r => if (putS b).2 = 0 then resE r else (putS b).2
/-- What a Reset answers, and leaves. -/
def resR (m : MDisk) (s : MSt) (l : List ByteArray) : Int × MSt × MDisk :=
  if s.broken = true then (13, s, m)
  else if resE l ≠ 0 then (resE l, s, m)
  else if (s.h : Int) * 55 - 1 < ((dataOf sumN l).length : Int) ∨ 281474976710655 ≤ s.g then (12, s, m)
  else if (resetW s.rg s.h s.g s.half m (mkB (dataOf sumN l))).1 = 0 then (0, { s with g := s.g + 1, half := 1 - s.half, data := mkB (dataOf sumN l) }, (resetW s.rg s.h s.g s.half m (mkB (dataOf sumN l))).2)
  else ((resetW s.rg s.h s.g s.half m (mkB (dataOf sumN l))).1, { s with broken := true }, (resetW s.rg s.h s.g s.half m (mkB (dataOf sumN l))).2)

theorem builderF_fr {T e : TypeId} {B b : Nat} {bs : List Value} {w w1 : World} {S : Nat → Prop} (h : Lib.IsBuilderF T e B b bs w) (f : Fr S w w1) (hS : ∀ k, B ≤ k → k < w.heap.size → ¬ S k) : Lib.IsBuilderF T e B b bs w1 := by
  have k : ∀ p, Lib.BuilderAtF T e B b p bs w → Lib.BuilderAtF T e B b p bs w1 := by
    rintro p ⟨h1, v, h2, h3, h4⟩
    refine ⟨h1, v, f.at_ h2 (hS b h1 (heap_lt h2)), ⟨h3.1, h3.2.imp id ?_⟩, h4⟩
    rintro ⟨g, cap, cur, fz, k1, k2, k3, k4⟩
    exact ⟨g, cap, cur, fz, k1, k2, f.at_ k3 (hS g k2 (heap_lt k3)), k4⟩
  rcases h with h | h
  · exact Or.inl (k _ h)
  · exact Or.inr (k _ h)
theorem builderF_kept {T e : TypeId} {B b : Nat} {bs : List Value} {w w1 : World} (h : Lib.IsBuilderF T e B b bs w) (hb : Below w.heap.size w w1) : Lib.IsBuilderF T e B b bs w1 := builderF_fr (S := fun _ => False) h (Fr.of_below hb) (fun _ _ _ h => h)
/-- A stream's disk, region and generation, as a region reads them. -/
structure HeldH (sb db : Nat) (rg g : Int) (w' : World) : Prop where
  c0 : w'.cell? ⟨sb, 0, none⟩ = some (.pointer (some ⟨db, 0, none⟩))
  c1 : w'.cell? ⟨sb, 1, none⟩ = some (.int .i64 rg)
  c3 : w'.cell? ⟨sb, 3, none⟩ = some (.int .i64 g)
theorem HeldH.below {sb db : Nat} {rg g : Int} {w w' : World} (h : HeldH sb db rg g w) (hb : Below w.heap.size w w') : HeldH sb db rg g w' := ⟨pw_cell_below hb h.c0, pw_cell_below hb h.c1, pw_cell_below hb h.c3⟩
theorem HeldH.of {sb : Nat} {s : MSt} {w : World} (h : SAt w sb s) : HeldH sb s.b s.rg s.g w := ⟨cell_of_block h 0, cell_of_block h 1, cell_of_block h 3⟩
theorem R_others {α : Type} {dk : Kd α} {e base u b : Nat} {ok : Nat → Prop} {w w' : World} {v : Value} {xs : List α} (h : dk.R e w base ok v xs) (hE : ∀ q ∈ e :: dk.E, q ≠ u) (ho : Lib.OthersKept u (some b) w w') (hb : ¬ ok b) : dk.R e w' base ok v xs := by
  have h2 := Kd.R_step (Kd.R_bound h) (w1 := w') (fun k hk _ => by
    obtain ⟨hok, _, _, q, hq, cells, hh⟩ := hk
    rw [hh]
    exact ho k _ hh (by rintro e; injection e with e; subst e; exact hb hok) (by intro c fz e; injection e with _ e _; exact hE q hq e))
  exact Kd.R_mono h2 (fun k hk => hk.1)
theorem lies_others {G : Nat → Nat} {c b0 b : Nat} {w w' : World} {m : MDisk} {rv kv : Value} {gs : List Nat} (h : Lies TP G c w b0 m rv kv gs) (ho : Lib.OthersKept 5 (some b) w w') (hb : G b < c) : Lies TP G c w' b0 m rv kv gs where
  head := ho b0 _ h.head (by rintro e; injection e with e; subst e; have := h.colour; omega) (by intro c fz e; injection e with _ e _; exact absurd e (by decide))
  colour := h.colour
  row := R_others h.row (by decide) ho (by omega)
  keep := R_others h.keep (by decide) ho (by omega)
  len := h.len
  regs := fun i hi => by
    obtain ⟨g, hg, h0, lv, qv, hh, hl, hq⟩ := h.regs i hi
    exact ⟨g, hg, h0, lv, qv, ho g _ hh (by rintro e; injection e with e; subst e; omega) (by intro c fz e; injection e with _ e _; exact absurd e (by decide)), R_others hl (by decide) ho (by omega), R_others hq (by decide) ho (by omega)⟩
theorem dks_others {Z : Nat → Prop} {w w' : World} {ds : List DK} {b : Nat} (h : Dks Z w ds) (ho : Lib.OthersKept 5 (some b) w w') (hz : Z b) (hs : w.heap.size ≤ w'.heap.size) : Dks Z w' ds := by
  obtain ⟨h0, G, h1, h2⟩ := h
  refine ⟨fun k hk => Nat.lt_of_lt_of_le (h0 k hk) hs, G, fun i d hi => ?_, h2⟩
  obtain ⟨⟨rv, kv, gs, h3⟩, h4⟩ := h1 i d hi
  have hz0 := h2 b hz
  exact ⟨⟨rv, kv, gs, lies_others h3 ho (by omega)⟩, h4⟩
theorem put_fine {b : ByteArray} (h : (putS b).2 = 0) : okB b ∧ (putS b).1 = mkB (frameL sumN (toL b)) := by
  unfold putS at h ⊢
  split at h
  · cases h
  · rename_i h0
    rw [if_neg h0]
    split at h
    · cases h
    · rename_i h1
      rw [if_neg h1]
      exact ⟨⟨by omega, by omega⟩, rfl⟩
theorem resE_at (l : List ByteArray) (k : Nat) (h : k < l.length) : resE (l.drop k) = if (putS l[k]).2 = 0 then resE (l.drop (k + 1)) else (putS l[k]).2 := by
  rw [List.drop_eq_getElem_cons h, resE]
theorem data_at (l : List ByteArray) (k : Nat) (h : k < l.length) : dataOf sumN (l.take (k + 1)) = dataOf sumN (l.take k) ++ frameL sumN (toL l[k]) := by
  rw [List.take_succ_eq_append_getElem h, dataOf_snoc]

structure FInv (l : List ByteArray) (w2 : World) (gk : Nat) (v : Value) (wr : World) (k : Nat) : Prop where
  le : k ≤ l.length
  slot : v = .int .i64 k
  ghost : gk + k = l.length
  bld : Lib.IsBuilder 79 5 w2.heap.size w2.heap.size (Lib.byteCells (dataOf sumN (l.take k))) wr
  below : Below w2.heap.size w2 wr
  err : resE l = resE (l.drop k)
  short : (dataOf sumN (l.take k)).length ≤ 4102 * k
def FRel (l : List ByteArray) (w2 : World) (gk : Nat) (v : Value) (wr : World) : Prop := ∃ k, FInv l w2 gk v wr k

set_option maxHeartbeats 16000000 in
set_option maxRecDepth 100000 in
theorem res_any {Z : Nat → Prop} {w : World} {ds : List DK} (hD : Dks Z w ds) (i : Nat) {d : DK} (hi : ds[i]? = some d) {sb : Nat} {s : MSt} (hS : SAt w sb s) (hZ : Z sb) (hb : s.b = d.b) (hh : s.h ≤ 300) (hf : s.half ≤ 1) (hn : d.n < 900000)
    (A : Option Addr) (cc : Nat) (l : List ByteArray) (hC : Kd.C Kd.string w A l.length l) (hcc : l.length ≤ cc) (hl : l.length ≤ 1000000) (h1 : s.broken = false) :
    Calls Tryd.prog 25 #[.pointer (some ⟨sb, 0, none⟩), .slice A l.length cc] w fun e w' => StepPost Z w ds i d sb (resR d.m s l) e w' := by
  have hm : (if s.broken = true then (13 : Int) else 0) = 0 := by rw [h1]; rfl
  have HM := Lib.hid hm
  have HDK := Lib.hid hD
  have HI := Lib.hid hi
  have HS := Lib.hid hS
  have HB := Lib.hid hb
  have HC := Lib.hid hC
  have HNB := Lib.hid h1
  clear hD hi hS hb hC h1 hm
  go_enter Tryd.func25, Tryd.ntmps25
  go_wp2_with fail
  refine (may_any HS.out).mono ?_
  rintro e w2 ⟨rfl, hb2⟩
  rw [HM.out]
  have HB2 := Lib.hid hb2
  clear hb2
  go_wp2_with fail
  go_loopg [24] l.length (fun gk v wr => FRel l w2 gk v wr)
  case atStart => exact ⟨0, Nat.zero_le _, rfl, by omega, Lib.fresh_isBuilder _ _ w2, (Below.refl _ _).alloc (Nat.le_refl _) _, by rw [List.drop_zero], by rw [List.take_zero]; exact Nat.le_refl _⟩
  case round =>
    obtain ⟨k, hk, rfl, hg, hbd, hbel, her, hsh⟩ := hrel
    have HG := Lib.hid hg
    have HBD := Lib.hid hbd
    have HBE := Lib.hid hbel
    have HER := Lib.hid her
    have HSH := Lib.hid hsh
    clear hg hbd hbel her hsh
    by_cases hlt : k < l.length
    · obtain ⟨ad, e, hx⟩ := Kd.at_string HC.out (k : Int) (by omega) (by omega)
      cases e
      rw [Int.toNat_natCast] at hx
      have hx := pw_cell_below (HB2.out.trans (HBE.out.mono HB2.out.size)) hx
      obtain ⟨b, hb0⟩ : ∃ b, rdOf ByteArray.empty l (k : Int) = b := ⟨_, rfl⟩
      have hb1 : l[k] = b := by rw [← hb0]; simp [rdOf, hlt]
      rw [hb0] at hx
      have hre := resE_at l k hlt
      have hda := data_at l k hlt
      rw [hb1] at hre hda
      have HRE := Lib.hid hre
      have HDA := Lib.hid hda
      clear hb0 hb1 hre hda
      go_wp2_with fail
      refine (put_any b _).mono ?_
      rintro e w3 ⟨rfl, hb3⟩
      have HBE3 := Lib.hid (HBE.out.trans (hb3.mono HBE.out.size))
      have HBD3 := Lib.hid (builder_kept HBD.out hb3)
      clear hb3
      obtain ⟨E, hE⟩ : ∃ E, (putS b).2 = E := ⟨_, rfl⟩
      obtain ⟨f, hfe⟩ : ∃ f, (putS b).1 = f := ⟨_, rfl⟩
      have HE := Lib.hid hE
      have HF := Lib.hid hfe
      rw [hE, hfe]
      clear hE hfe hx
      by_cases hE0 : E = 0
      · subst hE0
        have hpf := put_fine HE.out
        have hfs : f.size ≤ 4102 := by rw [← HF.out, hpf.2, size_mkB, frameL_length, toL_length]; have := hpf.1.2; omega
        have HPF := Lib.hid hpf
        clear hpf
        go_wp2_with fail
        refine (write_any w2.heap.size w2.heap.size _ f _ HBD3.out (by rw [Lib.byteCells_length]; have := HSH.out; omega) HBE3.out.size).mono ?_
        rintro e w4 ⟨rfl, hb4, hl4, -⟩
        have HBD4 : Hid (Lib.IsBuilder 79 5 w2.heap.size w2.heap.size (Lib.byteCells (dataOf sumN (l.take (k + 1)))) w4) := by
          have := hb4
          rw [str_cells] at this
          show Lib.IsBuilder _ _ _ _ _ _
          rw [HDA.out, ← to_mk (frameL sumN (toL b)), ← HPF.out.2, HF.out]
          simpa [Lib.byteCells, toL] using this
        have HBE4 := Lib.hid (HBE3.out.trans hl4)
        clear hb4 hl4 HBD3
        go_wp2_with fail
        go_roundg (gk - 1)
        case measure => have := HG.out; omega
        case rel => exact ⟨k + 1, by omega, by go_num, by have := HG.out; omega, HBD4.out, HBE4.out, by rw [HER.out, HRE.out, if_pos HE.out], by rw [HDA.out, List.length_append, frameL_length, toL_length]; have := HSH.out; have := HPF.out.1.2; omega⟩
      · have hE1 : (E == 0) = false := by simpa using hE0
        have hR : resR d.m s l = (E, s, d.m) := by
          have e : resE l = E := by rw [HER.out, HRE.out, if_neg (by rw [HE.out]; exact hE0), HE.out]
          unfold resR
          rw [if_neg (by rw [HNB.out]; decide), if_pos (by rw [e]; exact hE0), e]
        have HR := Lib.hid hR
        clear hR hE0
        go_wp2_with fail
        refine bodyPost_ret (v := .int .i64 E) (by simp [results, Tryd.results25, go_sem]) rfl ?_
        rw [HR.out]
        exact keepS HDK.out HI.out HS.out (HB2.out.trans (HBE3.out.mono HB2.out.size))
    · obtain rfl : k = l.length := by omega
      have hE0 : resE l = 0 := by rw [HER.out, List.drop_of_length_le (Nat.le_refl _)]; rfl
      have hbd2 := HBD.out
      rw [List.take_of_length_le (Nat.le_refl _)] at hbd2
      have hsh2 := HSH.out
      rw [List.take_of_length_le (Nat.le_refl _)] at hsh2
      have HE0 := Lib.hid hE0
      have HBD2 := Lib.hid hbd2
      have HSH2 := Lib.hid hsh2
      clear hE0 hbd2 hsh2 HBD HSH
      obtain ⟨D, hDe⟩ : ∃ D, dataOf sumN l = D := ⟨_, rfl⟩
      rw [hDe] at HBD2 HSH2
      have HDE := Lib.hid hDe
      clear hDe
      go_wp2_with fail
      refine (Tryd.Builder_Len w2.heap.size w2.heap.size (Lib.byteCells D) wr HBD2.out).mono ?_
      rintro e w3 ⟨rfl, rfl⟩
      rw [Lib.byteCells_length]
      have HS3 := Lib.hid ((HS.out.below HB2.out).below HBE.out)
      go_wp2_with fail
      refine (cap_any HS3.out (by omega)).mono ?_
      rintro e w4 ⟨rfl, rfl⟩
      by_cases hfull : (s.h : Int) * 55 - 1 < (D.length : Int) ∨ 281474976710655 ≤ s.g
      · have hR : resR d.m s l = (12, s, d.m) := by
          unfold resR
          rw [if_neg (by rw [HNB.out]; decide), if_neg (by rw [HE0.out]; decide), HDE.out, if_pos hfull]
        have HR := Lib.hid hR
        obtain ⟨G, hG⟩ : ∃ G : Int, (s.g : Int) = G := ⟨_, rfl⟩
        have c3 : w4.cell? ⟨sb, 3, none⟩ = some (.int .i64 G) := by rw [← hG]; exact cell_of_block HS3.out 3
        have HB4 := Lib.hid (HB2.out.trans (HBE.out.mono HB2.out.size))
        clear hR
        by_cases q1 : (s.h : Int) * 55 - 1 < (D.length : Int)
        · clear hfull hG
          go_wp2_with fail
          refine bodyPost_ret (v := .int .i64 12) (by simp [results, Tryd.results25, go_sem]) rfl ?_
          rw [HR.out]
          exact keepS HDK.out HI.out HS.out HB4.out
        · have q2 : (281474976710655 : Int) ≤ G := by omega
          clear hfull hG
          go_wp2_with fail
          refine bodyPost_ret (v := .int .i64 12) (by simp [results, Tryd.results25, go_sem]) rfl ?_
          rw [HR.out]
          exact keepS HDK.out HI.out HS.out HB4.out
      · obtain ⟨G, hG⟩ : ∃ G : Int, (s.g : Int) = G := ⟨_, rfl⟩
        have c3 : w4.cell? ⟨sb, 3, none⟩ = some (.int .i64 G) := by rw [← hG]; exact cell_of_block HS3.out 3
        have q1 : ¬ (s.h : Int) * 55 - 1 < (D.length : Int) := fun h => hfull (.inl h)
        have q2 : ¬ (281474976710655 : Int) ≤ G := by omega
        have c4 : w4.cell? ⟨sb, 4, none⟩ = some (.int .i64 (s.half : Int)) := cell_of_block HS3.out 4
        obtain ⟨hn2, hhn⟩ : ∃ q : Nat, 1 - s.half = q := ⟨_, rfl⟩
        have q3 : (1 : Int) - (s.half : Int) = (hn2 : Int) := by omega
        have hf2 : hn2 ≤ 1 := by omega
        have q4 : IntKind.i64.wrap (hn2 : Int) = (hn2 : Int) := IntWalk.i64_in _ (by omega)
        have q5 : IntKind.i64.wrap (G + 1) = G + 1 := IntWalk.i64_in _ (by omega)
        have HHN := Lib.hid hhn
        have HFL := Lib.hid hfull
        have HGE := Lib.hid hG
        clear hfull hG hhn
        have hGn : G + 1 = ((s.g + 1 : Nat) : Int) := by have := HGE.out; omega
        have HGN := Lib.hid hGn
        clear hGn
        go_wp2_with fail
        refine wp_region_T 11 (HeldG sb G) (by kernel_rfl) ?_
        have hS0 : HeldG sb G w4.drew := ⟨c3⟩
        refine wpAnyT_take (i := 0) (v := ?mv1) rfl (by kernel_rfl) (by kernel_rfl) (by kernel_rfl) rfl rfl (by kernel_rfl) (by rfl) (fun _ _ _ h => h) (Or.inl ⟨by rfl, ?mh1⟩) (by assumption) ?mr1
        case mh1 => intro w hSw; (try have hSw1 := hSw.1); (try have hSw2 := hSw.2); (try have hSw3 := hSw.3); go_simp; try with_reducible rfl
        (try simp only [Act.put]); (try simp only [List.getElem_toArray, List.getElem_cons_zero, List.getElem_cons_succ]); (try simp only [List.setIfInBounds_toArray]); (try simp only [List.set_cons_zero, List.set_cons_succ])
        refine wpAnyT_take (i := 1) (v := ?mv2) rfl (by kernel_rfl) (by kernel_rfl) (by kernel_rfl) rfl rfl (by kernel_rfl) (by rfl) (fun _ _ _ h => h) (Or.inl ⟨by rfl, ?mh2⟩) (by assumption) ?mr2
        case mh2 => intro w hSw; (try have hSw1 := hSw.1); (try have hSw2 := hSw.2); (try have hSw3 := hSw.3); go_simp; try with_reducible rfl
        (try simp only [Act.put]); (try simp only [List.getElem_toArray, List.getElem_cons_zero, List.getElem_cons_succ]); (try simp only [List.setIfInBounds_toArray]); (try simp only [List.set_cons_zero, List.set_cons_succ])
        refine wpAnyT_take (i := 2) (v := ?mv3) rfl (by kernel_rfl) (by kernel_rfl) (by kernel_rfl) rfl rfl (by kernel_rfl) (by rfl) (fun _ _ _ h => h) (Or.inl ⟨by rfl, ?mh3⟩) (by assumption) ?mr3
        case mh3 => intro w hSw; (try have hSw1 := hSw.1); (try have hSw2 := hSw.2); (try have hSw3 := hSw.3); go_simp; try with_reducible rfl
        (try simp only [Act.put]); (try simp only [List.getElem_toArray, List.getElem_cons_zero, List.getElem_cons_succ]); (try simp only [List.setIfInBounds_toArray]); (try simp only [List.set_cons_zero, List.set_cons_succ])
        refine wpAnyT_take (i := 3) (v := ?mv4) rfl (by kernel_rfl) (by kernel_rfl) (by kernel_rfl) rfl rfl (by kernel_rfl) (by rfl) (fun _ _ _ h => h) (Or.inl ⟨by rfl, ?mh4⟩) (by assumption) ?mr4
        case mh4 => intro w hSw; (try have hSw1 := hSw.1); (try have hSw2 := hSw.2); (try have hSw3 := hSw.3); go_simp; try with_reducible rfl
        (try simp only [Act.put]); (try simp only [List.getElem_toArray, List.getElem_cons_zero, List.getElem_cons_succ]); (try simp only [List.setIfInBounds_toArray]); (try simp only [List.set_cons_zero, List.set_cons_succ])
        refine wpAnyT_take (i := 4) (v := ?mv5) rfl (by kernel_rfl) (by kernel_rfl) (by kernel_rfl) rfl rfl (by kernel_rfl) (by rfl) (fun _ _ _ h => h) (Or.inl ⟨by rfl, ?mh5⟩) (by assumption) ?mr5
        case mh5 => intro w hSw; (try have hSw1 := hSw.1); (try have hSw2 := hSw.2); (try have hSw3 := hSw.3); go_simp; try with_reducible rfl
        (try simp only [Act.put]); (try simp only [List.getElem_toArray, List.getElem_cons_zero, List.getElem_cons_succ]); (try simp only [List.setIfInBounds_toArray]); (try simp only [List.set_cons_zero, List.set_cons_succ])
        refine wpAnyT_one (j := 5) rfl (by kernel_rfl) (fun K hK => ?_)
        go_simp
        go_at_call 40
        refine (Tryd.Builder_String_any_f w2.heap.size w2.heap.size D _ (builderF_kept (Lib.IsBuilderF.of HBD2.out) ((Below.refl w4.heap.size w4).drew)) HBE.out.size).mono ?_
        rintro e w5 ⟨rfl, hbf5, hb5⟩
        have HBF5 := Lib.hid hbf5
        have HBE5 := Lib.hid (HBE.out.trans (((Below.refl w2.heap.size w4).drew).trans hb5))
        have hsb2 : sb < w2.heap.size := (HS.out.below HB2.out).lt
        have hS5 : HeldG sb G w5 := ⟨below_cellB hb5 hsb2 hS0.cell⟩
        clear hbf5 hb5
        refine hK.out _ _ (fun _ => hS5) ?_
        clear hK K
        (try simp only [Act.put]); (try simp only [List.getElem_toArray, List.getElem_cons_zero, List.getElem_cons_succ]); (try simp only [List.setIfInBounds_toArray]); (try simp only [List.set_cons_zero, List.set_cons_succ])
        refine wpAnyT_one (j := 6) rfl (by kernel_rfl) (fun K hK => ?_)
        go_simp
        rw [HGN.out]
        have hDl : (⟨D.toArray⟩ : ByteArray) = mkB D := rfl
        rw [hDl]
        obtain ⟨cs, hcs⟩ : ∃ cs, splitL ((s.g + 1 : Nat) : Int) ((mkB D).size / 55 + 1) ((0 : Nat) : Int) (mkB D) = cs := ⟨_, rfl⟩
        have HCS := Lib.hid hcs
        go_at_call 19
        refine (split_any (s.g + 1) 0 (mkB D) w5 (by omega) (by have := HFL.out; omega) (by rw [size_mkB]; omega) (by omega)).mono ?_
        rintro e w6 ⟨A6, n6, rfl, hR6, hb6, hc6⟩
        rw [HCS.out] at hR6 hc6 ⊢
        have hS6 := hS5.below hb6
        have HBF6 := Lib.hid (builderF_kept HBF5.out hb6)
        have HBE6 := Lib.hid (HBE5.out.trans (hb6.mono HBE5.out.size))
        have HB06 := Lib.hid (HB2.out.trans (HBE6.out.mono HB2.out.size))
        have hle5 : w.heap.size ≤ w5.heap.size := Nat.le_trans HB2.out.size HBE5.out.size
        have hR6' : Kd.R Kd.string 9 w6 0 (more Z w w6) (.slice A6 cs.length n6) cs := Kd.R_lower (Kd.R_mono (Kd.R_bound hR6) (fun k hk => .inr ⟨Nat.le_trans hle5 hk.2.1, hk.2.2.1⟩)) (Nat.zero_le _)
        have HR6 := Lib.hid hR6'
        have hcl : cs.length ≤ (mkB D).size / 55 + 1 := by rw [← hcs]; exact splitL_length _ _ _ _
        rw [size_mkB] at hcl
        have hnc : d.n + cs.length < 1000000 := by omega
        have hncl : cs.length ≤ 400 := by omega
        clear hR6 hR6' hb6 hcs hcl
        refine hK.out _ _ (fun _ => hS6) ?_
        clear hK K
        (try simp only [Act.put]); (try simp only [List.getElem_toArray, List.getElem_cons_zero, List.getElem_cons_succ]); (try simp only [List.setIfInBounds_toArray]); (try simp only [List.set_cons_zero, List.set_cons_succ])
        refine wpAnyT_take (i := 7) (v := ?mv6) rfl (by kernel_rfl) (by kernel_rfl) (by kernel_rfl) rfl rfl (by kernel_rfl) (by rfl) (fun _ _ _ h => h) (Or.inl ⟨by rfl, ?mh6⟩) (by assumption) ?mr6
        case mh6 => intro w hSw; (try have hSw1 := hSw.1); (try have hSw2 := hSw.2); (try have hSw3 := hSw.3); go_simp; try with_reducible rfl
        (try simp only [Act.put]); (try simp only [List.getElem_toArray, List.getElem_cons_zero, List.getElem_cons_succ]); (try simp only [List.setIfInBounds_toArray]); (try simp only [List.set_cons_zero, List.set_cons_succ])
        refine wpAnyT_take (i := 8) (v := ?mv7) rfl (by kernel_rfl) (by kernel_rfl) (by kernel_rfl) rfl rfl (by kernel_rfl) (by rfl) (fun _ _ _ h => h) (Or.inl ⟨by rfl, ?mh7⟩) (by assumption) ?mr7
        case mh7 => intro w hSw; (try have hSw1 := hSw.1); (try have hSw2 := hSw.2); (try have hSw3 := hSw.3); go_simp; try with_reducible rfl
        (try simp only [Act.put]); (try simp only [List.getElem_toArray, List.getElem_cons_zero, List.getElem_cons_succ]); (try simp only [List.setIfInBounds_toArray]); (try simp only [List.set_cons_zero, List.set_cons_succ])
        refine wpAnyT_take (i := 9) (v := ?mv8) rfl (by kernel_rfl) (by kernel_rfl) (by kernel_rfl) rfl rfl (by kernel_rfl) (by rfl) (fun _ _ _ h => h) (Or.inl ⟨by rfl, ?mh8⟩) (by assumption) ?mr8
        case mh8 => intro w hSw; (try have hSw1 := hSw.1); (try have hSw2 := hSw.2); (try have hSw3 := hSw.3); go_simp; try with_reducible rfl
        (try simp only [Act.put]); (try simp only [List.getElem_toArray, List.getElem_cons_zero, List.getElem_cons_succ]); (try simp only [List.setIfInBounds_toArray]); (try simp only [List.set_cons_zero, List.set_cons_succ])
        refine wpAnyT_one (j := 10) rfl (by kernel_rfl) (fun K hK => ?_)
        go_simp
        refine hK.out _ _ (fun _ => hS6) ?_
        clear hK K
        (try simp only [Act.put]); (try simp only [List.getElem_toArray, List.getElem_cons_zero, List.getElem_cons_succ]); (try simp only [List.setIfInBounds_toArray]); (try simp only [List.set_cons_zero, List.set_cons_succ])
        refine wpAnyT_one (j := 11) rfl (by kernel_rfl) (fun K hK => ?_)
        go_simp
        refine hK.out _ _ (fun _ => hS6) ?_
        clear hK K
        (try simp only [Act.put]); (try simp only [List.getElem_toArray, List.getElem_cons_zero, List.getElem_cons_succ]); (try simp only [List.setIfInBounds_toArray]); (try simp only [List.set_cons_zero, List.set_cons_succ])
        refine wpAnyT_done (by kernel_rfl) ?_ _
        have HD6 := Lib.hid (HDK.out.below HB06.out)
        have HS6 := Lib.hid (HS.out.below HB06.out)
        have HGB : Hid (0 ≤ G ∧ G < 281474976710655) := Lib.hid (by have := HGE.out; omega)
        clear c3 c4 hS0 hS5 hS6 q1 q2 q3 q4 q5
        go_wp2_with fail
        refine (lay_any HD6.out i HI.out HS6.out (.inl hZ) HB.out (by omega) hn2 0 hf2 (by omega) _ n6 cs HR6.out hnc).mono ?_
        rintro e w7 ⟨rfl, ⟨N7, hN7, hD7⟩, hF7⟩
        have HD7 := Lib.hid hD7
        have HS7 := Lib.hid (HS6.out.fr hF7 (fun h => h (.inl hZ)))
        have HFB7 : Hid (Fr (fun k => ¬ more Z w w6 k) w6 w7) := Lib.hid hF7
        have HF07 : Hid (Fr (fun k => ¬ Z k ∨ k = sb) w w7) := Lib.hid (((Fr.of_below (S := fun _ => False) HB06.out).mono (fun _ h => h.elim)).trans (hF7.mono (fun k hk => .inl (fun h => hk (.inl h)))))
        clear hD7 hF7
        have hRW : resetW s.rg s.h s.g s.half d.m (mkB D) = if (layW s.rg d.m ((1 + hn2 * s.h + 0 : Nat) : Int) cs).1 = 0 then layW s.rg (layW s.rg d.m ((1 + hn2 * s.h + 0 : Nat) : Int) cs).2 0 [headS (s.g + 1) hn2] else layW s.rg d.m ((1 + hn2 * s.h + 0 : Nat) : Int) cs := by
          unfold resetW
          rw [HHN.out, ← HCS.out, Nat.add_zero]
          rfl
        have hRR : resR d.m s l = if (resetW s.rg s.h s.g s.half d.m (mkB D)).1 = 0 then (0, { s with g := s.g + 1, half := hn2, data := mkB D }, (resetW s.rg s.h s.g s.half d.m (mkB D)).2) else ((resetW s.rg s.h s.g s.half d.m (mkB D)).1, { s with broken := true }, (resetW s.rg s.h s.g s.half d.m (mkB D)).2) := by
          unfold resR
          rw [if_neg (by rw [HNB.out]; decide), if_neg (by rw [HE0.out]; decide), HDE.out, if_neg HFL.out, HHN.out]
        rw [hRW] at hRR
        obtain ⟨E1, hE1⟩ : ∃ E1, (layW s.rg d.m ((1 + hn2 * s.h + 0 : Nat) : Int) cs).1 = E1 := ⟨_, rfl⟩
        obtain ⟨m1, hm1⟩ : ∃ m1, (layW s.rg d.m ((1 + hn2 * s.h + 0 : Nat) : Int) cs).2 = m1 := ⟨_, rfl⟩
        rw [hE1, hm1] at hRR
        rw [hm1] at HD7
        rw [hE1]
        by_cases hE10 : E1 = 0
        · subst hE10
          rw [if_pos rfl] at hRR
          have HRR := Lib.hid hRR
          clear hRR hRW hE1 hm1
          have c0 : w7.cell? ⟨sb, 0, none⟩ = some (.pointer (some ⟨d.b, 0, none⟩)) := by rw [← HB.out]; exact cell_of_block HS7.out 0
          have c1 : w7.cell? ⟨sb, 1, none⟩ = some (.int .i64 s.rg) := cell_of_block HS7.out 1
          have c3 : w7.cell? ⟨sb, 3, none⟩ = some (.int .i64 G) := by rw [← HGE.out]; exact cell_of_block HS7.out 3
          have q5 : IntKind.i64.wrap (G + 1) = G + 1 := IntWalk.i64_in _ (by have := HGB.out; omega)
          have hS0 : HeldH sb d.b s.rg G w7.drew := ⟨c0, c1, c3⟩
          have hN7' : N7 < 1000000 := by omega
          have HN7 := Lib.hid hN7'
          clear hN7' c0 c1 c3
          go_wp2_with fail
          refine wp_region_T 16 (HeldH sb d.b s.rg G) (by kernel_rfl) ?_
          refine wpAnyT_take (i := 0) (v := ?mv9) rfl (by kernel_rfl) (by kernel_rfl) (by kernel_rfl) rfl rfl (by kernel_rfl) (by rfl) (fun _ _ _ h => h) (Or.inl ⟨by rfl, ?mh9⟩) (by assumption) ?mr9
          case mh9 => intro w hSw; (try have hSw1 := hSw.1); (try have hSw2 := hSw.2); (try have hSw3 := hSw.3); go_simp; try with_reducible rfl
          (try simp only [Act.put]); (try simp only [List.getElem_toArray, List.getElem_cons_zero, List.getElem_cons_succ]); (try simp only [List.setIfInBounds_toArray]); (try simp only [List.set_cons_zero, List.set_cons_succ])
          refine wpAnyT_take (i := 1) (v := ?mv10) rfl (by kernel_rfl) (by kernel_rfl) (by kernel_rfl) rfl rfl (by kernel_rfl) (by rfl) (fun _ _ _ h => h) (Or.inl ⟨by rfl, ?mh10⟩) (by assumption) ?mr10
          case mh10 => intro w hSw; (try have hSw1 := hSw.1); (try have hSw2 := hSw.2); (try have hSw3 := hSw.3); go_simp; try with_reducible rfl
          (try simp only [Act.put]); (try simp only [List.getElem_toArray, List.getElem_cons_zero, List.getElem_cons_succ]); (try simp only [List.setIfInBounds_toArray]); (try simp only [List.set_cons_zero, List.set_cons_succ])
          refine wpAnyT_take (i := 2) (v := ?mv11) rfl (by kernel_rfl) (by kernel_rfl) (by kernel_rfl) rfl rfl (by kernel_rfl) (by rfl) (fun _ _ _ h => h) (Or.inl ⟨by rfl, ?mh11⟩) (by assumption) ?mr11
          case mh11 => intro w hSw; (try have hSw1 := hSw.1); (try have hSw2 := hSw.2); (try have hSw3 := hSw.3); go_simp; try with_reducible rfl
          (try simp only [Act.put]); (try simp only [List.getElem_toArray, List.getElem_cons_zero, List.getElem_cons_succ]); (try simp only [List.setIfInBounds_toArray]); (try simp only [List.set_cons_zero, List.set_cons_succ])
          refine wpAnyT_take (i := 3) (v := ?mv12) rfl (by kernel_rfl) (by kernel_rfl) (by kernel_rfl) rfl rfl (by kernel_rfl) (by rfl) (fun _ _ _ h => h) (Or.inl ⟨by rfl, ?mh12⟩) (by assumption) ?mr12
          case mh12 => intro w hSw; (try have hSw1 := hSw.1); (try have hSw2 := hSw.2); (try have hSw3 := hSw.3); go_simp; try with_reducible rfl
          (try simp only [Act.put]); (try simp only [List.getElem_toArray, List.getElem_cons_zero, List.getElem_cons_succ]); (try simp only [List.setIfInBounds_toArray]); (try simp only [List.set_cons_zero, List.set_cons_succ])
          refine wpAnyT_take (i := 4) (v := ?mv13) rfl (by kernel_rfl) (by kernel_rfl) (by kernel_rfl) rfl rfl (by kernel_rfl) (by rfl) (fun _ _ _ h => h) (Or.inl ⟨by rfl, ?mh13⟩) (by assumption) ?mr13
          case mh13 => intro w hSw; (try have hSw1 := hSw.1); (try have hSw2 := hSw.2); (try have hSw3 := hSw.3); go_simp; try with_reducible rfl
          (try simp only [Act.put]); (try simp only [List.getElem_toArray, List.getElem_cons_zero, List.getElem_cons_succ]); (try simp only [List.setIfInBounds_toArray]); (try simp only [List.set_cons_zero, List.set_cons_succ])
          refine wpAnyT_take (i := 5) (v := ?mv14) rfl (by kernel_rfl) (by kernel_rfl) (by kernel_rfl) rfl rfl (by kernel_rfl) (by rfl) (fun _ _ _ h => h) (Or.inl ⟨by rfl, ?mh14⟩) (by assumption) ?mr14
          case mh14 => intro w hSw; (try have hSw1 := hSw.1); (try have hSw2 := hSw.2); (try have hSw3 := hSw.3); go_simp; try with_reducible rfl
          (try simp only [Act.put]); (try simp only [List.getElem_toArray, List.getElem_cons_zero, List.getElem_cons_succ]); (try simp only [List.setIfInBounds_toArray]); (try simp only [List.set_cons_zero, List.set_cons_succ])
          refine wpAnyT_take (i := 6) (v := ?mv15) rfl (by kernel_rfl) (by kernel_rfl) (by kernel_rfl) rfl rfl (by kernel_rfl) (by rfl) (fun _ _ _ h => h) (Or.inl ⟨by rfl, ?mh15⟩) (by assumption) ?mr15
          case mh15 => intro w hSw; (try have hSw1 := hSw.1); (try have hSw2 := hSw.2); (try have hSw3 := hSw.3); go_simp; try with_reducible rfl
          (try simp only [Act.put]); (try simp only [List.getElem_toArray, List.getElem_cons_zero, List.getElem_cons_succ]); (try simp only [List.setIfInBounds_toArray]); (try simp only [List.set_cons_zero, List.set_cons_succ])
          refine wpAnyT_take (i := 7) (v := ?mv16) rfl (by kernel_rfl) (by kernel_rfl) (by kernel_rfl) rfl rfl (by kernel_rfl) (by rfl) (fun _ _ _ h => h) (Or.inl ⟨by rfl, ?mh16⟩) (by assumption) ?mr16
          case mh16 => intro w hSw; (try have hSw1 := hSw.1); (try have hSw2 := hSw.2); (try have hSw3 := hSw.3); go_simp; try with_reducible rfl
          (try simp only [Act.put]); (try simp only [List.getElem_toArray, List.getElem_cons_zero, List.getElem_cons_succ]); (try simp only [List.setIfInBounds_toArray]); (try simp only [List.set_cons_zero, List.set_cons_succ])
          refine wpAnyT_take (i := 8) (v := ?mv17) rfl (by kernel_rfl) (by kernel_rfl) (by kernel_rfl) rfl rfl (by kernel_rfl) (by rfl) (fun _ _ _ h => h) (Or.inl ⟨by rfl, ?mh17⟩) (by assumption) ?mr17
          case mh17 => intro w hSw; (try have hSw1 := hSw.1); (try have hSw2 := hSw.2); (try have hSw3 := hSw.3); go_simp; try with_reducible rfl
          (try simp only [Act.put]); (try simp only [List.getElem_toArray, List.getElem_cons_zero, List.getElem_cons_succ]); (try simp only [List.setIfInBounds_toArray]); (try simp only [List.set_cons_zero, List.set_cons_succ])
          refine wpAnyT_take (i := 9) (v := ?mv18) rfl (by kernel_rfl) (by kernel_rfl) (by kernel_rfl) rfl rfl (by kernel_rfl) (by rfl) (fun _ _ _ h => h) (Or.inl ⟨by rfl, ?mh18⟩) (by assumption) ?mr18
          case mh18 => intro w hSw; (try have hSw1 := hSw.1); (try have hSw2 := hSw.2); (try have hSw3 := hSw.3); go_simp; try with_reducible rfl
          (try simp only [Act.put]); (try simp only [List.getElem_toArray, List.getElem_cons_zero, List.getElem_cons_succ]); (try simp only [List.setIfInBounds_toArray]); (try simp only [List.set_cons_zero, List.set_cons_succ])
          refine wpAnyT_take (i := 10) (v := ?mv19) rfl (by kernel_rfl) (by kernel_rfl) (by kernel_rfl) rfl rfl (by kernel_rfl) (by rfl) (fun _ _ _ h => h) (Or.inl ⟨by rfl, ?mh19⟩) (by assumption) ?mr19
          case mh19 => intro w hSw; (try have hSw1 := hSw.1); (try have hSw2 := hSw.2); (try have hSw3 := hSw.3); go_simp; try with_reducible rfl
          (try simp only [Act.put]); (try simp only [List.getElem_toArray, List.getElem_cons_zero, List.getElem_cons_succ]); (try simp only [List.setIfInBounds_toArray]); (try simp only [List.set_cons_zero, List.set_cons_succ])
          refine wpAnyT_take (i := 11) (v := ?mv20) rfl (by kernel_rfl) (by kernel_rfl) (by kernel_rfl) rfl rfl (by kernel_rfl) (by rfl) (fun _ _ _ h => h) (Or.inl ⟨by rfl, ?mh20⟩) (by assumption) ?mr20
          case mh20 => intro w hSw; (try have hSw1 := hSw.1); (try have hSw2 := hSw.2); (try have hSw3 := hSw.3); go_simp; try with_reducible rfl
          (try simp only [Act.put]); (try simp only [List.getElem_toArray, List.getElem_cons_zero, List.getElem_cons_succ]); (try simp only [List.setIfInBounds_toArray]); (try simp only [List.set_cons_zero, List.set_cons_succ])
          refine wpAnyT_take (i := 12) (v := ?mv21) rfl (by kernel_rfl) (by kernel_rfl) (by kernel_rfl) rfl rfl (by kernel_rfl) (by rfl) (fun _ _ _ h => h) (Or.inl ⟨by rfl, ?mh21⟩) (by assumption) ?mr21
          case mh21 => intro w hSw; (try have hSw1 := hSw.1); (try have hSw2 := hSw.2); (try have hSw3 := hSw.3); go_simp; try with_reducible rfl
          (try simp only [Act.put]); (try simp only [List.getElem_toArray, List.getElem_cons_zero, List.getElem_cons_succ]); (try simp only [List.setIfInBounds_toArray]); (try simp only [List.set_cons_zero, List.set_cons_succ])
          refine wpAnyT_take (i := 13) (v := ?mv22) rfl (by kernel_rfl) (by kernel_rfl) (by kernel_rfl) rfl rfl (by kernel_rfl) (by rfl) (fun _ _ _ h => h) (Or.inl ⟨by rfl, ?mh22⟩) (by assumption) ?mr22
          case mh22 => intro w hSw; (try have hSw1 := hSw.1); (try have hSw2 := hSw.2); (try have hSw3 := hSw.3); go_simp; try with_reducible rfl
          (try simp only [Act.put]); (try simp only [List.getElem_toArray, List.getElem_cons_zero, List.getElem_cons_succ]); (try simp only [List.setIfInBounds_toArray]); (try simp only [List.set_cons_zero, List.set_cons_succ])
          refine wpAnyT_one (j := 14) rfl (by kernel_rfl) (fun K hK => ?_)
          go_simp
          rw [HGN.out]
          go_at_call 58
          refine (head_any (s.g + 1) hn2 (by have := HFL.out; omega) hf2 _).mono ?_
          rintro e w8 ⟨rfl, hb8⟩
          have hb78 : Below w7.heap.size w7 w8 := ((Below.refl w7.heap.size w7).drew).trans hb8
          have HD8 := Lib.hid (HD7.out.keep hb78)
          have HS8 := Lib.hid (HS7.out.below hb78)
          have HFB8 := Lib.hid (HFB7.out.trans ((Fr.of_below (S := fun _ => False) hb78).mono (fun _ h => h.elim)))
          have HF08 := Lib.hid (HF07.out.trans ((Fr.of_below (S := fun _ => False) hb78).mono (fun _ h => h.elim)))
          have hS8 := hS0.below hb8
          clear hb8 hb78
          refine hK.out _ _ (fun _ => hS8) ?_
          clear hK K
          (try simp only [Act.put]); (try simp only [List.getElem_toArray, List.getElem_cons_zero, List.getElem_cons_succ]); (try simp only [List.setIfInBounds_toArray]); (try simp only [List.set_cons_zero, List.set_cons_succ])
          refine wpAnyT_one (j := 15) rfl (by kernel_rfl) (fun K hK => ?_)
          go_simp
          go_at_call 57
          obtain ⟨hd, hhd⟩ : ∃ hd, headS (s.g + 1) hn2 = hd := ⟨_, rfl⟩
          rw [hhd] at HRR ⊢
          refine (write_z HD8.out i (set_at HI.out _) HN7.out s.rg 0 hd).mono ?_
          rintro e w9 ⟨rfl, hd9, hf9⟩
          rw [List.set_set] at hd9
          rw [show (({ b := d.b, m := m1, n := N7 } : DK).m) = m1 from rfl] at hd9 ⊢
          have hS9' := HS8.out.fr hf9 (fun h => h (.inl hZ))
          have hS9 : HeldH sb d.b s.rg G w9 := by rw [← HB.out, ← HGE.out]; exact HeldH.of hS9'
          have HS9 := Lib.hid hS9'
          have HD9 := Lib.hid hd9
          have HFB9 := Lib.hid (HFB8.out.trans hf9)
          have HF09 := Lib.hid (HF08.out.trans (hf9.mono (fun k hk => .inl (fun h => hk (.inl h)))))
          clear hd9 hf9 hS9' hhd
          refine hK.out _ _ (fun _ => hS9) ?_
          clear hK K
          (try simp only [Act.put]); (try simp only [List.getElem_toArray, List.getElem_cons_zero, List.getElem_cons_succ]); (try simp only [List.setIfInBounds_toArray]); (try simp only [List.set_cons_zero, List.set_cons_succ])
          refine wpAnyT_one (j := 16) rfl (by kernel_rfl) (fun K hK => ?_)
          go_simp
          refine hK.out _ _ (fun _ => hS9) ?_
          clear hK K
          (try simp only [Act.put]); (try simp only [List.getElem_toArray, List.getElem_cons_zero, List.getElem_cons_succ]); (try simp only [List.setIfInBounds_toArray]); (try simp only [List.set_cons_zero, List.set_cons_succ])
          refine wpAnyT_done (by kernel_rfl) ?_ _
          clear hS0 hS8 hS9
          have hHR : resR d.m s l = if writeE m1 s.rg 0 hd = 0 then (if flushE (writeM m1 s.rg 0 hd) s.rg = 0 then (0, { s with g := s.g + 1, half := hn2, data := mkB D }, flushM (writeM m1 s.rg 0 hd) s.rg) else (flushE (writeM m1 s.rg 0 hd) s.rg, { s with broken := true }, flushM (writeM m1 s.rg 0 hd) s.rg)) else (writeE m1 s.rg 0 hd, { s with broken := true }, writeM m1 s.rg 0 hd) := by
            rw [HRR.out]
            by_cases hw : writeE m1 s.rg 0 hd = 0
            · rw [layW_ok hw, if_pos hw]
              rfl
            · rw [layW_no hw, if_neg hw, if_neg hw]
          obtain ⟨E2, hE2⟩ : ∃ E2, writeE m1 s.rg 0 hd = E2 := ⟨_, rfl⟩
          obtain ⟨m2, hm2⟩ : ∃ m2, writeM m1 s.rg 0 hd = m2 := ⟨_, rfl⟩
          rw [hE2, hm2] at hHR
          rw [hm2] at HD9
          rw [hE2]
          clear hE2 hm2 HRR
          by_cases hE20 : E2 = 0
          · subst hE20
            rw [if_pos rfl] at hHR
            have HHR := Lib.hid hHR
            have c0 : w9.cell? ⟨sb, 0, none⟩ = some (.pointer (some ⟨d.b, 0, none⟩)) := by rw [← HB.out]; exact cell_of_block HS9.out 0
            have c1 : w9.cell? ⟨sb, 1, none⟩ = some (.int .i64 s.rg) := cell_of_block HS9.out 1
            have hD10 := HD9.out.keep ((Below.refl w9.heap.size w9).drew)
            have HD10 := Lib.hid hD10
            have hN9 : N7 + 1 ≤ 1000000 := by have := HN7.out; omega
            clear hHR hD10 HN7
            go_wp2_with fail
            go_still_tail 8, (by kernel_rfl)
            change wpList _ _ _ _ _ w9.drew
            clear c0 c1
            go_wp2_with fail
            refine (flush_z HD10.out i (set_at HI.out _) hN9 s.rg).mono ?_
            rintro e w10 ⟨rfl, hd10, hf10⟩
            rw [List.set_set] at hd10
            rw [show (({ b := d.b, m := m2, n := N7 + 1 } : DK).m) = m2 from rfl, show (({ b := d.b, m := m2, n := N7 + 1 } : DK).n) = N7 + 1 from rfl] at hd10
            rw [show (({ b := d.b, m := m2, n := N7 + 1 } : DK).m) = m2 from rfl]
            have hf910 : Fr (fun k => ¬ more Z w w6 k) w9 w10 := ((Fr.of_below (S := fun _ => False) ((Below.refl w9.heap.size w9).drew)).mono (fun _ h => h.elim)).trans hf10
            have HD11 := Lib.hid hd10
            have HS11 := Lib.hid (HS9.out.fr hf910 (fun h => h (.inl hZ)))
            have HFB11 := Lib.hid (HFB9.out.trans hf910)
            have HF11 := Lib.hid (HF09.out.trans (hf910.mono (fun k hk => .inl (fun h => hk (.inl h)))))
            have hN8 : N7 + 1 ≤ d.n + 1000 := by omega
            have HN8 := Lib.hid hN8
            clear hd10 hf10 hf910 hN9 hN8 HD10
            have hHR := HHR.out
            obtain ⟨E3, hE3⟩ : ∃ E3, flushE m2 s.rg = E3 := ⟨_, rfl⟩
            obtain ⟨m3, hm3⟩ : ∃ m3, flushM m2 s.rg = m3 := ⟨_, rfl⟩
            rw [hE3, hm3] at hHR
            rw [hm3] at HD11
            rw [hE3]
            clear hE3 hm3 HHR
            by_cases hE30 : E3 = 0
            · subst hE30
              rw [if_pos rfl] at hHR
              have HHR := Lib.hid hHR
              have c3 : w10.cell? ⟨sb, 3, none⟩ = some (.int .i64 G) := by rw [← HGE.out]; exact cell_of_block HS11.out 3
              have q5 : IntKind.i64.wrap (G + 1) = G + 1 := IntWalk.i64_in _ (by have := HGB.out; omega)
              have hS0 : HeldG sb G w10.drew := ⟨c3⟩
              have hBF10 : Lib.IsBuilderF 79 5 w2.heap.size w2.heap.size (Lib.byteCells D) w10.drew := builderF_kept (builderF_fr HBF6.out HFB11.out (fun k h1 h2 h => h (.inr ⟨Nat.le_trans HB2.out.size h1, h2⟩))) ((Below.refl w10.heap.size w10).drew)
              have HBF10 := Lib.hid hBF10
              clear hHR hBF10
              go_wp2_with fail
              refine wp_region_T 12 (HeldG sb G) (by kernel_rfl) ?_
              refine wpAnyT_take (i := 0) (v := ?mv23) rfl (by kernel_rfl) (by kernel_rfl) (by kernel_rfl) rfl rfl (by kernel_rfl) (by rfl) (fun _ _ _ h => h) (Or.inl ⟨by rfl, ?mh23⟩) (by assumption) ?mr23
              case mh23 => intro w hSw; (try have hSw1 := hSw.1); (try have hSw2 := hSw.2); (try have hSw3 := hSw.3); go_simp; try with_reducible rfl
              (try simp only [Act.put]); (try simp only [List.getElem_toArray, List.getElem_cons_zero, List.getElem_cons_succ]); (try simp only [List.setIfInBounds_toArray]); (try simp only [List.set_cons_zero, List.set_cons_succ])
              refine wpAnyT_take (i := 3) (v := ?mv24) rfl (by kernel_rfl) (by kernel_rfl) (by kernel_rfl) rfl rfl (by kernel_rfl) (by rfl) (fun _ _ _ h => h) (Or.inl ⟨by rfl, ?mh24⟩) (by assumption) ?mr24
              case mh24 => intro w hSw; (try have hSw1 := hSw.1); (try have hSw2 := hSw.2); (try have hSw3 := hSw.3); go_simp; try with_reducible rfl
              (try simp only [Act.put]); (try simp only [List.getElem_toArray, List.getElem_cons_zero, List.getElem_cons_succ]); (try simp only [List.setIfInBounds_toArray]); (try simp only [List.set_cons_zero, List.set_cons_succ])
              refine wpAnyT_take (i := 4) (v := ?mv25) rfl (by kernel_rfl) (by kernel_rfl) (by kernel_rfl) rfl rfl (by kernel_rfl) (by rfl) (fun _ _ _ h => h) (Or.inl ⟨by rfl, ?mh25⟩) (by assumption) ?mr25
              case mh25 => intro w hSw; (try have hSw1 := hSw.1); (try have hSw2 := hSw.2); (try have hSw3 := hSw.3); go_simp; try with_reducible rfl
              (try simp only [Act.put]); (try simp only [List.getElem_toArray, List.getElem_cons_zero, List.getElem_cons_succ]); (try simp only [List.setIfInBounds_toArray]); (try simp only [List.set_cons_zero, List.set_cons_succ])
              refine wpAnyT_take (i := 5) (v := ?mv26) rfl (by kernel_rfl) (by kernel_rfl) (by kernel_rfl) rfl rfl (by kernel_rfl) (by rfl) (fun _ _ _ h => h) (Or.inl ⟨by rfl, ?mh26⟩) (by assumption) ?mr26
              case mh26 => intro w hSw; (try have hSw1 := hSw.1); (try have hSw2 := hSw.2); (try have hSw3 := hSw.3); go_simp; try with_reducible rfl
              (try simp only [Act.put]); (try simp only [List.getElem_toArray, List.getElem_cons_zero, List.getElem_cons_succ]); (try simp only [List.setIfInBounds_toArray]); (try simp only [List.set_cons_zero, List.set_cons_succ])
              refine wpAnyT_take (i := 6) (v := ?mv27) rfl (by kernel_rfl) (by kernel_rfl) (by kernel_rfl) rfl rfl (by kernel_rfl) (by rfl) (fun _ _ _ h => h) (Or.inl ⟨by rfl, ?mh27⟩) (by assumption) ?mr27
              case mh27 => intro w hSw; (try have hSw1 := hSw.1); (try have hSw2 := hSw.2); (try have hSw3 := hSw.3); go_simp; try with_reducible rfl
              (try simp only [Act.put]); (try simp only [List.getElem_toArray, List.getElem_cons_zero, List.getElem_cons_succ]); (try simp only [List.setIfInBounds_toArray]); (try simp only [List.set_cons_zero, List.set_cons_succ])
              refine wpAnyT_take (i := 7) (v := ?mv28) rfl (by kernel_rfl) (by kernel_rfl) (by kernel_rfl) rfl rfl (by kernel_rfl) (by rfl) (fun _ _ _ h => h) (Or.inl ⟨by rfl, ?mh28⟩) (by assumption) ?mr28
              case mh28 => intro w hSw; (try have hSw1 := hSw.1); (try have hSw2 := hSw.2); (try have hSw3 := hSw.3); go_simp; try with_reducible rfl
              (try simp only [Act.put]); (try simp only [List.getElem_toArray, List.getElem_cons_zero, List.getElem_cons_succ]); (try simp only [List.setIfInBounds_toArray]); (try simp only [List.set_cons_zero, List.set_cons_succ])
              refine wpAnyT_takeU (i := 1) (v := ?mv29) rfl (by kernel_rfl) (by kernel_rfl) (by kernel_rfl) rfl (fun _ _ _ h => h) (Or.inl ⟨by rfl, ?mh29⟩) (fun h => by first | assumption | exact absurd (h.symm.trans (by kernel_rfl)) (by decide : ¬ false = true)) ?mr29
              case mh29 => intro w _; go_simp; try with_reducible rfl
              (try simp only [Act.put]); (try simp only [List.getElem_toArray, List.getElem_cons_zero, List.getElem_cons_succ]); (try simp only [List.setIfInBounds_toArray]); (try simp only [List.set_cons_zero, List.set_cons_succ])
              refine wpAnyT_takeU (i := 2) (v := ?mv30) rfl (by kernel_rfl) (by kernel_rfl) (by kernel_rfl) rfl (fun _ _ _ h => h) (Or.inl ⟨by rfl, ?mh30⟩) (fun h => by first | assumption | exact absurd (h.symm.trans (by kernel_rfl)) (by decide : ¬ false = true)) ?mr30
              case mh30 => intro w _; go_simp; try with_reducible rfl
              (try simp only [Act.put]); (try simp only [List.getElem_toArray, List.getElem_cons_zero, List.getElem_cons_succ]); (try simp only [List.setIfInBounds_toArray]); (try simp only [List.set_cons_zero, List.set_cons_succ])
              refine wpAnyT_takeU (i := 8) (v := ?mv31) rfl (by kernel_rfl) (by kernel_rfl) (by kernel_rfl) rfl (fun _ _ _ h => h) (Or.inl ⟨by rfl, ?mh31⟩) (fun h => by first | assumption | exact absurd (h.symm.trans (by kernel_rfl)) (by decide : ¬ false = true)) ?mr31
              case mh31 => intro w _; go_simp; try with_reducible rfl
              (try simp only [Act.put]); (try simp only [List.getElem_toArray, List.getElem_cons_zero, List.getElem_cons_succ]); (try simp only [List.setIfInBounds_toArray]); (try simp only [List.set_cons_zero, List.set_cons_succ])
              refine wpAnyT_one (j := 9) rfl (by kernel_rfl) (fun K hK => ?_)
              go_simp
              go_at_call 40
              have hB10 : w2.heap.size ≤ w10.heap.size := Nat.le_trans HBE6.out.size HFB11.out.size
              refine (Tryd.Builder_String_any_k w2.heap.size w2.heap.size D _ HBF10.out hB10).mono ?_
              rintro e w11 ⟨rfl, -, hb11, ho11⟩
              have hsb2 : sb < w2.heap.size := (HS.out.below HB2.out).lt
              have hS12 : SAt w11 sb s := (hb11.block sb hsb2).trans (show w10.drew.heap[sb]? = _ from HS11.out)
              have HS12 := Lib.hid hS12
              have hb6 : w2.heap.size < w6.heap.size := by
                rcases HBF6.out with hx | hx <;> exact (by obtain ⟨_, v, h2, _⟩ := hx; exact heap_lt h2)
              have HD12 := Lib.hid (dks_others (HD11.out.keep ((Below.refl w10.heap.size w10).drew)) ho11 (.inr ⟨HB2.out.size, hb6⟩) hb11.size)
              have hF12 : Fr (fun k => ¬ Z k ∨ k = sb) w w11 := HF11.out.trans ⟨hb11.os, hb11.tape, hb11.output, hb11.size, fun k hk hn => hb11.block k (by
                have hz : Z k := Classical.byContradiction fun hz => hn (.inl hz)
                have := HDK.out.1 k hz
                have := HB2.out.size
                omega)⟩
              have HF12 := Lib.hid hF12
              have hS5 : HeldG sb G w11 := ⟨by rw [← HGE.out]; exact cell_of_block hS12 3⟩
              have c3' : w11.cell? ⟨sb, 3, none⟩ = some (.int .i64 (s.g : Int)) := cell_of_block hS12 3
              have f3 : w11.frozen? ⟨sb, 3, none⟩ = false := unfrozen_of_block hS12 3
              clear hb11 ho11 hF12 hS12 hS0
              refine hK.out _ _ (fun _ => hS5) ?_
              clear hK K
              (try simp only [Act.put]); (try simp only [List.getElem_toArray, List.getElem_cons_zero, List.getElem_cons_succ]); (try simp only [List.setIfInBounds_toArray]); (try simp only [List.set_cons_zero, List.set_cons_succ])
              refine wpAnyT_takeU (i := 10) (v := ?mv32) rfl (by kernel_rfl) (by kernel_rfl) (by kernel_rfl) rfl (fun _ _ _ h => h) (Or.inl ⟨by rfl, ?mh32⟩) (fun h => by first | assumption | exact absurd (h.symm.trans (by kernel_rfl)) (by decide : ¬ false = true)) ?mr32
              case mh32 => intro w _; go_simp; try with_reducible rfl
              (try simp only [Act.put]); (try simp only [List.getElem_toArray, List.getElem_cons_zero, List.getElem_cons_succ]); (try simp only [List.setIfInBounds_toArray]); (try simp only [List.set_cons_zero, List.set_cons_succ])
              refine wpAnyT_takeU (i := 11) (v := ?mv33) rfl (by kernel_rfl) (by kernel_rfl) (by kernel_rfl) rfl (fun _ _ _ h => h) (Or.inl ⟨by rfl, ?mh33⟩) (fun h => by first | assumption | exact absurd (h.symm.trans (by kernel_rfl)) (by decide : ¬ false = true)) ?mr33
              case mh33 => intro w _; go_simp; try with_reducible rfl
              (try simp only [Act.put]); (try simp only [List.getElem_toArray, List.getElem_cons_zero, List.getElem_cons_succ]); (try simp only [List.setIfInBounds_toArray]); (try simp only [List.set_cons_zero, List.set_cons_succ])
              refine wpAnyT_one (j := 12) rfl (by kernel_rfl) (fun K hK => ?_)
              go_simp
              obtain ⟨w12, hw12⟩ : ∃ w12, w11.setCell ⟨sb, 3, none⟩ (.int .i64 (G + 1)) = w12 := ⟨_, rfl⟩
              have hS13 : SAt w12 sb { s with g := s.g + 1 } := by
                have := block_setCell HS12.out (i := 3) (.int .i64 (G + 1))
                rw [hw12] at this
                unfold SAt
                rw [this, HGN.out]
                simp [MSt.cells]
              have hf12 : Fr (fun k => k = sb) w11 w12 := by rw [← hw12]; exact Fr.setAt (Fr.refl _ _) rfl
              have HS13 := Lib.hid hS13
              have HF13 := Lib.hid hf12
              rw [hw12]
              clear hS13 hf12 hw12 c3' f3 hS5
              refine hK.out _ _ (fun h => absurd (h.symm.trans (by kernel_rfl)) (by decide : ¬ false = true)) ?_
              clear hK K
              (try simp only [Act.put]); (try simp only [List.getElem_toArray, List.getElem_cons_zero, List.getElem_cons_succ]); (try simp only [List.setIfInBounds_toArray]); (try simp only [List.set_cons_zero, List.set_cons_succ])
              refine wpAnyT_takeU (i := 13) (v := ?mv34) rfl (by kernel_rfl) (by kernel_rfl) (by kernel_rfl) rfl (fun _ _ _ h => h) (Or.inl ⟨by rfl, ?mh34⟩) (fun h => by first | assumption | exact absurd (h.symm.trans (by kernel_rfl)) (by decide : ¬ false = true)) ?mr34
              case mh34 => intro w _; go_simp; try with_reducible rfl
              (try simp only [Act.put]); (try simp only [List.getElem_toArray, List.getElem_cons_zero, List.getElem_cons_succ]); (try simp only [List.setIfInBounds_toArray]); (try simp only [List.set_cons_zero, List.set_cons_succ])
              refine wpAnyT_takeU (i := 14) (v := ?mv35) rfl (by kernel_rfl) (by kernel_rfl) (by kernel_rfl) rfl (fun _ _ _ h => h) (Or.inl ⟨by rfl, ?mh35⟩) (fun h => by first | assumption | exact absurd (h.symm.trans (by kernel_rfl)) (by decide : ¬ false = true)) ?mr35
              case mh35 => intro w _; go_simp; try with_reducible rfl
              (try simp only [Act.put]); (try simp only [List.getElem_toArray, List.getElem_cons_zero, List.getElem_cons_succ]); (try simp only [List.setIfInBounds_toArray]); (try simp only [List.set_cons_zero, List.set_cons_succ])
              have c4' : w12.cell? ⟨sb, 4, none⟩ = some (.int .i64 (s.half : Int)) := cell_of_block HS13.out 4
              have f4 : w12.frozen? ⟨sb, 4, none⟩ = false := unfrozen_of_block HS13.out 4
              refine wpAnyT_one (j := 15) rfl (by kernel_rfl) (fun K hK => ?_)
              go_simp
              obtain ⟨w13, hw13⟩ : ∃ w13, w12.setCell ⟨sb, 4, none⟩ (.int .i64 (hn2 : Int)) = w13 := ⟨_, rfl⟩
              have hS14 : SAt w13 sb { s with g := s.g + 1, half := hn2 } := by
                have := block_setCell HS13.out (i := 4) (.int .i64 (hn2 : Int))
                rw [hw13] at this
                unfold SAt
                rw [this]
                simp [MSt.cells]
              have hf13 : Fr (fun k => k = sb) w11 w13 := HF13.out.trans (by rw [← hw13]; exact Fr.setAt (Fr.refl _ _) rfl)
              have HS14 := Lib.hid hS14
              have HF14 := Lib.hid hf13
              rw [hw13]
              clear hS14 hf13 hw13 c4' f4
              refine hK.out _ _ (fun h => absurd (h.symm.trans (by kernel_rfl)) (by decide : ¬ false = true)) ?_
              clear hK K
              (try simp only [Act.put]); (try simp only [List.getElem_toArray, List.getElem_cons_zero, List.getElem_cons_succ]); (try simp only [List.setIfInBounds_toArray]); (try simp only [List.set_cons_zero, List.set_cons_succ])
              refine wpAnyT_takeU (i := 16) (v := ?mv36) rfl (by kernel_rfl) (by kernel_rfl) (by kernel_rfl) rfl (fun _ _ _ h => h) (Or.inl ⟨by rfl, ?mh36⟩) (fun h => by first | assumption | exact absurd (h.symm.trans (by kernel_rfl)) (by decide : ¬ false = true)) ?mr36
              case mh36 => intro w _; go_simp; try with_reducible rfl
              (try simp only [Act.put]); (try simp only [List.getElem_toArray, List.getElem_cons_zero, List.getElem_cons_succ]); (try simp only [List.setIfInBounds_toArray]); (try simp only [List.set_cons_zero, List.set_cons_succ])
              refine wpAnyT_takeU (i := 17) (v := ?mv37) rfl (by kernel_rfl) (by kernel_rfl) (by kernel_rfl) rfl (fun _ _ _ h => h) (Or.inl ⟨by rfl, ?mh37⟩) (fun h => by first | assumption | exact absurd (h.symm.trans (by kernel_rfl)) (by decide : ¬ false = true)) ?mr37
              case mh37 => intro w _; go_simp; try with_reducible rfl
              (try simp only [Act.put]); (try simp only [List.getElem_toArray, List.getElem_cons_zero, List.getElem_cons_succ]); (try simp only [List.setIfInBounds_toArray]); (try simp only [List.set_cons_zero, List.set_cons_succ])
              have c5' : w13.cell? ⟨sb, 5, none⟩ = some (.string s.data) := cell_of_block HS14.out 5
              have f5 : w13.frozen? ⟨sb, 5, none⟩ = false := unfrozen_of_block HS14.out 5
              refine wpAnyT_one (j := 18) rfl (by kernel_rfl) (fun K hK => ?_)
              go_simp
              obtain ⟨w14, hw14⟩ : ∃ w14, w13.setCell ⟨sb, 5, none⟩ (.string (mkB D)) = w14 := ⟨_, rfl⟩
              have hS15 : SAt w14 sb { s with g := s.g + 1, half := hn2, data := mkB D } := by
                have := block_setCell HS14.out (i := 5) (.string (mkB D))
                rw [hw14] at this
                unfold SAt
                rw [this]
                simp [MSt.cells]
              have hf14 : Fr (fun k => k = sb) w11 w14 := HF14.out.trans (by rw [← hw14]; exact Fr.setAt (Fr.refl _ _) rfl)
              have HS15 := Lib.hid hS15
              have HF15 := Lib.hid hf14
              rw [hw14]
              clear hS15 hf14 hw14 c5' f5
              refine hK.out _ _ (fun h => absurd (h.symm.trans (by kernel_rfl)) (by decide : ¬ false = true)) ?_
              clear hK K
              (try simp only [Act.put]); (try simp only [List.getElem_toArray, List.getElem_cons_zero, List.getElem_cons_succ]); (try simp only [List.setIfInBounds_toArray]); (try simp only [List.set_cons_zero, List.set_cons_succ])
              refine wpAnyT_done (by kernel_rfl) ?_ _
              go_wp2_with fail
              refine bodyPost_ret (v := .int .i64 0) (by simp [results, Tryd.results25, go_sem]) rfl ?_
              rw [HHR.out]
              exact ⟨rfl, HS15.out, ⟨N7 + 1, HN8.out, (HD12.out.own HF15.out (fun k _ hk => by rw [hk]; exact .inl hZ)).mono (fun k hk => .inl (.inl hk))⟩, HF12.out.trans (HF15.out.mono (fun k hk => .inr hk))⟩
            · rw [if_neg hE30] at hHR
              have HHR := Lib.hid hHR
              have hE4 : (E3 == 0) = false := by simpa using hE30
              clear hHR
              go_wp2_with fail
              refine (failed_any HS11.out E3 hE30).mono ?_
              rintro e w11 ⟨rfl, hS12, hF12⟩
              have HS12 := Lib.hid hS12
              have HD12 := Lib.hid (HD11.out.own hF12 (fun k _ hk => by rw [hk]; exact .inl hZ))
              have HF12 := Lib.hid (HF11.out.trans (hF12.mono (fun k hk => .inr hk)))
              clear hS12 hF12
              go_wp2_with fail
              refine bodyPost_ret (v := .int .i64 E3) (by simp [results, Tryd.results25, go_sem]) rfl ?_
              rw [HHR.out]
              exact ⟨rfl, HS12.out, ⟨N7 + 1, HN8.out, HD12.out.mono (fun k hk => .inl (.inl hk))⟩, HF12.out⟩
          · rw [if_neg hE20] at hHR
            have HHR := Lib.hid hHR
            have hE3 : (E2 == 0) = false := by simpa using hE20
            have hN8 : N7 + 1 ≤ d.n + 1000 := by omega
            have HN8 := Lib.hid hN8
            clear hHR hN8
            go_wp2_with fail
            refine (failed_any HS9.out E2 hE20).mono ?_
            rintro e w10 ⟨rfl, hS10, hF10⟩
            have HS10 := Lib.hid hS10
            have HD10 := Lib.hid (HD9.out.own hF10 (fun k _ hk => by rw [hk]; exact .inl hZ))
            have HF10 := Lib.hid (HF09.out.trans (hF10.mono (fun k hk => .inr hk)))
            clear hS10 hF10
            go_wp2_with fail
            refine bodyPost_ret (v := .int .i64 E2) (by simp [results, Tryd.results25, go_sem]) rfl ?_
            rw [HHR.out]
            exact ⟨rfl, HS10.out, ⟨N7 + 1, HN8.out, HD10.out.mono (fun k hk => .inl (.inl hk))⟩, HF10.out⟩
        · rw [if_neg hE10] at hRR
          have hlw : layW s.rg d.m ((1 + hn2 * s.h + 0 : Nat) : Int) cs = (E1, m1) := by rw [← hE1, ← hm1]
          rw [hlw, if_neg hE10] at hRR
          have HRR := Lib.hid hRR
          have hE2 : (E1 == 0) = false := by simpa using hE10
          clear hRR hRW hE1 hm1 hlw
          go_wp2_with fail
          refine (failed_any HS7.out E1 hE10).mono ?_
          rintro e w8 ⟨rfl, hS8, hF8⟩
          have HS8 := Lib.hid hS8
          have HD8 := Lib.hid (HD7.out.own hF8 (fun k _ hk => by rw [hk]; exact .inl hZ))
          have HF8 := Lib.hid (HF07.out.trans (hF8.mono (fun k hk => .inr hk)))
          have HN7 : Hid (N7 ≤ d.n + 1000) := Lib.hid (by omega)
          clear hS8 hF8
          go_wp2_with fail
          refine bodyPost_ret (v := .int .i64 E1) (by simp [results, Tryd.results25, go_sem]) rfl ?_
          rw [HRR.out]
          exact ⟨rfl, HS8.out, ⟨N7, HN7.out, HD8.out.mono (fun k hk => .inl (.inl hk))⟩, HF8.out⟩

set_option maxHeartbeats 8000000 in
set_option maxRecDepth 100000 in
theorem res_broken {Z : Nat → Prop} {w : World} {ds : List DK} (hD : Dks Z w ds) (i : Nat) {d : DK} (hi : ds[i]? = some d) {sb : Nat} {s : MSt} (hS : SAt w sb s) (v : Value) (h1 : s.broken = true) :
    Calls Tryd.prog 25 #[.pointer (some ⟨sb, 0, none⟩), v] w fun e w' => StepPost Z w ds i d sb (13, s, d.m) e w' := by
  have hm : (if s.broken = true then (13 : Int) else 0) = 13 := by rw [if_pos h1]
  have HM := Lib.hid hm
  have HDK := Lib.hid hD
  have HI := Lib.hid hi
  have HS := Lib.hid hS
  clear hD hi hS hm h1
  go_enter Tryd.func25, Tryd.ntmps25
  go_wp2_with fail
  refine (may_any HS.out).mono ?_
  rintro e w2 ⟨rfl, hb2⟩
  rw [HM.out]
  have HB2 := Lib.hid hb2
  clear hb2
  go_wp2_with fail
  exact bodyPost_ret (v := .int .i64 13) (by simp [results, Tryd.results25, go_sem]) rfl (keepS HDK.out HI.out HS.out HB2.out)
theorem res_all {Z : Nat → Prop} {w : World} {ds : List DK} (hD : Dks Z w ds) (i : Nat) {d : DK} (hi : ds[i]? = some d) {sb : Nat} {s : MSt} (hS : SAt w sb s) (hZ : Z sb) (hb : s.b = d.b) (hh : s.h ≤ 300) (hf : s.half ≤ 1) (hn : d.n < 900000)
    (A : Option Addr) (cc : Nat) (l : List ByteArray) (hC : Kd.C Kd.string w A l.length l) (hcc : l.length ≤ cc) (hl : l.length ≤ 1000000) :
    Calls Tryd.prog 25 #[.pointer (some ⟨sb, 0, none⟩), .slice A l.length cc] w fun e w' => StepPost Z w ds i d sb (resR d.m s l) e w' := by
  by_cases h1 : s.broken = true
  · have e : resR d.m s l = (13, s, d.m) := by unfold resR; rw [if_pos h1]
    rw [e]
    exact res_broken hD i hi hS _ h1
  · exact res_any hD i hi hS hZ hb hh hf hn A cc l hC hcc hl (by simpa using h1)

end Go.Proofs.YtekpbpcfeopilaaDoor.Rs

/-! read; Open. -/
namespace Go.Proofs.YtekpbpcfeopilaaDoor.Op
open Go Go.RowKit Go.Joins Go.Proofs.YtekpbpcfeopilaaDoorCore Go.Proofs.YtekpbpcfeopilaaDoor.Join Go.Proofs.YtekpbpcfeopilaaDoor.Dm Go.Proofs.YtekpbpcfeopilaaDoor.Dr Go.Proofs.YtekpbpcfeopilaaDoor.Da Go.Proofs.YtekpbpcfeopilaaDoor.Df Go.Proofs.YtekpbpcfeopilaaDoor.Dg Go.Proofs.YtekpbpcfeopilaaDoor.Dk Go.Proofs.YtekpbpcfeopilaaDoor.Dl Go.Proofs.YtekpbpcfeopilaaDoor.Dw Go.Proofs.YtekpbpcfeopilaaDoor.Sys Go.Proofs.YtekpbpcfeopilaaDoor.Areas Go.Proofs.YtekpbpcfeopilaaDoor.Back Go.Proofs.YtekpbpcfeopilaaDoor.PAreas Go.Proofs.YtekpbpcfeopilaaDoor.PStrm Go.Proofs.YtekpbpcfeopilaaDoor.Sm Go.Proofs.YtekpbpcfeopilaaDoor.Lw Go.Proofs.YtekpbpcfeopilaaDoor.Fp Go.Proofs.YtekpbpcfeopilaaDoor.Sp Go.Proofs.YtekpbpcfeopilaaDoor.Fz Go.Proofs.YtekpbpcfeopilaaDoor.Hd Go.Proofs.YtekpbpcfeopilaaDoor.Reg Go.Proofs.YtekpbpcfeopilaaDoor.St Go.Proofs.YtekpbpcfeopilaaDoor.Ap Go.Proofs.YtekpbpcfeopilaaDoor.Rs Go.Proofs.YtekpbpcfeopilaaDoorW.PrintWords Go.Proofs.YtekpbpcfeopilaaDoorW.PrintLast Go.Proofs.YtekpbpcfeopilaaDoorW.PrintMore

structure RInv (L : List ByteArray) (w : World) (gk : Nat) (o v : Value) (wr : World) (j : Nat) : Prop where
  le : j ≤ L.length
  slot : v = .int .i64 j
  ghost : gk + j = L.length
  own : Kd.R Kd.string 9 wr w.heap.size (fun _ => True) o (L.take j)
  below : Below w.heap.size w wr
def RRel (L : List ByteArray) (w : World) (gk : Nat) (o v : Value) (wr : World) : Prop := ∃ j, RInv L w gk o v wr j
theorem read_at {m : MDisk} {k : Nat} {L : List ByteArray} (h : Live m k L []) {j : Nat} (hj : j < L.length) : readM m (k : Int) (j : Int) = L[j] ∧ findM m (k : Int) (j : Int) = 0 := by
  have hf := h.find hj
  refine ⟨?_, hf⟩
  unfold readM
  rw [if_pos hf, Int.toNat_natCast, Int.toNat_natCast, h.reg]
  simp [lookQ, hj]

set_option maxHeartbeats 8000000 in
set_option maxRecDepth 100000 in
theorem read_any {Z : Nat → Prop} {w : World} {ds : List DK} (hD : Dks Z w ds) (i : Nat) {d : DK} (hi : ds[i]? = some d) {k : Nat} {L : List ByteArray} (hL : Live d.m k L []) (hn : L.length ≤ 100000) :
    Calls Tryd.prog 45 #[.pointer (some ⟨d.b, 0, none⟩), .int .i64 (k : Int)] w fun e w' => ∃ v, e = .returned (.tuple #[v, .int .i64 0]) ∧ Kd.R Kd.string 9 w' w.heap.size (fun _ => True) v L ∧ Below w.heap.size w w' := by
  have HD := Lib.hid hD
  have HI := Lib.hid hi
  have HL := Lib.hid hL
  have HSM := Lib.hid (sectors_of hL.reg)
  clear hD hi hL
  go_enter Tryd.func45, Tryd.ntmps45
  go_wp2_with fail
  refine (sectors_z HD.out i HI.out (k : Int)).mono ?_
  rintro e w2 ⟨rfl, hb2⟩
  rw [HSM.out]
  have HB2 := Lib.hid hb2
  clear hb2
  go_wp2_with fail
  go_loopg [6, 13] L.length (fun gk o v wr => RRel L w gk o v wr)
  case atStart => exact ⟨0, Nat.zero_le _, rfl, rfl, Kd.R_nil _ _ _ _ _, HB2.out⟩
  case round =>
    obtain ⟨j, hj, rfl, hg, hown, hbel⟩ := hrel
    have HG := Lib.hid hg
    have HO := Lib.hid hown
    have HB := Lib.hid hbel
    clear hg hown hbel
    by_cases hlt : j < L.length
    · obtain ⟨x, hx⟩ : ∃ x, L[j] = x := ⟨_, rfl⟩
      have hr := read_at HL.out hlt
      rw [hx] at hr
      have HRD := Lib.hid hr
      have htk : L.take (j + 1) = L.take j ++ [x] := by rw [List.take_succ_eq_append_getElem hlt, hx]
      have HTK := Lib.hid htk
      have hln : ((L.take j).length + 1) * 16 ≤ 140737488355328 := by rw [List.length_take]; omega
      clear hx hr htk
      go_wp2_with fail
      refine (read_z (HD.out.keep HB.out) i HI.out (k : Int) (j : Int)).mono ?_
      rintro e w3 ⟨rfl, hb3⟩
      rw [HRD.out.1, HRD.out.2]
      have HB3 := Lib.hid (HB.out.trans (hb3.mono HB.out.size))
      have HO3 := Lib.hid (Kd.R_below HO.out hb3)
      clear hb3
      go_wp2_with (at_builtin; go_must ((refine Kd.R_append Kd.string (w0 := w) w.heap.size rfl (.tmp 26) (.tmp 28) 31 9 (.string ⟨#[]⟩) 16 rfl Tryd.underlying31 PStrm.info9 rfl (by decide) (by omega) _ (L.take j) x [.string x] (fun _ => True) (fun _ => False) rfl rfl rfl (fun _ hk => hk.elim) (fun _ _ => trivial) HO3.out HB3.out HB3.out.size hln ?_; intro v5 w5 ho5 hb5 hg5 hat5)))
      rw [← HTK.out] at ho5
      have HO5 := Lib.hid ho5
      have HB5 := Lib.hid hb5
      clear ho5 hb5 hg5 hat5
      go_wp2_with fail
      go_roundg (gk - 1)
      case measure => have := HG.out; omega
      case rel => exact ⟨j + 1, by omega, by go_num, by have := HG.out; omega, HO5.out, HB5.out⟩
    · obtain rfl : j = L.length := by omega
      have hO := HO.out
      rw [List.take_of_length_le (Nat.le_refl _)] at hO
      have HO2 := Lib.hid hO
      clear hO
      go_wp2_with fail
      exact bodyPost_ret (v := .tuple #[_, .int .i64 0]) (by simp [results, Tryd.results45, go_sem]) rfl ⟨_, rfl, HO2.out, HB.out⟩

theorem C_sub {w : World} {ad : Addr} {n : Nat} {xs : List ByteArray} (h : Kd.C Kd.string w (some ad) n xs) (a m : Nat) (hm : a + m ≤ n) : Kd.C Kd.string w (some (ad.add a)) ((xs.drop a).take m).length ((xs.drop a).take m) := by
  obtain ⟨hl, h2, h3⟩ := Kd.reads_of_C h
  have hlen : ((xs.drop a).take m).length = m := by rw [List.length_take, List.length_drop]; omega
  refine Kd.C_of_reads (d := ByteArray.empty) (h1 := fun _ => rfl) ⟨rfl, by omega, fun hp => ⟨_, rfl, fun j hj => ?_⟩⟩
  obtain ⟨ad2, he, hc⟩ := h3 (by omega)
  injection he with he
  subst he
  have := hc (a + j) (by omega)
  rw [show ((ad.add a).add j) = ad.add (a + j) from Addr.add_add ad a j]
  rw [this]
  congr 2
  rw [List.getD_eq_getElem?_getD, List.getD_eq_getElem?_getD, List.getElem?_take, if_pos (by omega), List.getElem?_drop]

theorem joinL_len (g : Int) : ∀ (l : List ByteArray) (i : Nat), (joinL g l i).length ≤ 55 * l.length := by
  intro l
  induction l with
  | nil => intro i; exact Nat.zero_le _
  | cons s l ih =>
    intro i
    have h1 := parse_size s
    have h2 := ih (i + 1)
    have h3 : (Pars.parseS s).2.2.1.data.toList.length = (Pars.parseS s).2.2.1.size := by simp
    rw [joinL, List.length_cons]
    split
    · split
      · omega
      · rw [List.length_append]; omega
    · exact Nat.zero_le _
theorem recs_len (s : List UInt8) : (recs sumN s).length ≤ s.length := by
  obtain ⟨⟨p, hp⟩, _⟩ := recs_spec (sm := sumN) s
  have h1 := framesL_long (sm := sumN) ((recs sumN s).map toL)
  rw [List.length_map] at h1
  have h2 := congrArg List.length hp
  rw [List.length_append] at h2
  unfold dataOf at h2
  omega
/-- The stream that Open makes, ahead of its Reset. -/
def preS (b k : Nat) (L : List ByteArray) : MSt := ⟨b, k, sizeH L.length, (genOf L (sizeH L.length)).toNat, halfOf L, ⟨#[]⟩, false⟩

/-- What an Open answers, and leaves. -/
def OpenPost (Z : Nat → Prop) (w : World) (ds : List DK) (i : Nat) (d : DK) (r : Int × MSt × MDisk) (rc : List ByteArray) (e : Ending) (w' : World) : Prop :=
  (r.1 ≠ 0 ∧ e = .returned (.tuple #[.pointer none, .slice none 0 0, .int .i64 r.1]) ∧ (∃ N', N' ≤ d.n + 1000 ∧ Dks Z w' (ds.set i ⟨d.b, r.2.2, N'⟩)) ∧ Fr (fun k => ¬ Z k) w w') ∨
  (r.1 = 0 ∧ ∃ sb A c Z', e = .returned (.tuple #[.pointer (some ⟨sb, 0, none⟩), .slice A rc.length c, .int .i64 0]) ∧ rc.length ≤ c ∧ (∀ k, Z k → Z' k) ∧ (∀ k, Z' k → Z k ∨ w.heap.size ≤ k) ∧ w.heap.size ≤ sb ∧ Z' sb ∧ SAt w' sb r.2.1 ∧
    Kd.R Kd.string 9 w' w.heap.size (fun k => Z' k ∧ k ≠ sb) (.slice A rc.length c) rc ∧ (∃ N', N' ≤ d.n + 1000 ∧ Dks Z' w' (ds.set i ⟨d.b, r.2.2, N'⟩)) ∧ Fr (fun k => ¬ Z k) w w')

set_option maxHeartbeats 16000000 in
set_option maxRecDepth 100000 in
theorem open_ok {Z : Nat → Prop} {w : World} {ds : List DK} (hD : Dks Z w ds) (i : Nat) {d : DK} (hi : ds[i]? = some d) {k : Nat} {L : List ByteArray} (hL : Live d.m k L []) (hn : L.length ≤ 600) (h0 : 0 < sizeH L.length) (hp : (headOf L).2.2 = true) (hnd : d.n < 900000) :
    Calls Tryd.prog 21 #[.pointer (some ⟨d.b, 0, none⟩), .int .i64 (k : Int)] w fun e w' => OpenPost Z w ds i d (resR d.m (preS d.b k L) (recOf sumN L (sizeH L.length))) (recOf sumN L (sizeH L.length)) e w' := by
  obtain ⟨h, hh⟩ : ∃ h, sizeH L.length = h := ⟨_, rfl⟩
  have eh : sizeH L.length = (max 1 (min L.length 4096) - 1) / 2 := rfl
  rw [hh] at h0 eh
  have hlen : 1 + 2 * h ≤ L.length := by omega
  have hh300 : h ≤ 300 := by omega
  clear eh
  have HD := Lib.hid hD
  have HI := Lib.hid hi
  have HL := Lib.hid hL
  have HSM := Lib.hid (sectors_of hL.reg)
  have HH := Lib.hid hh
  clear hD hi hL hh
  go_enter Tryd.func21, Tryd.ntmps21
  go_wp2_with fail
  refine (sectors_z HD.out i HI.out (k : Int)).mono ?_
  rintro e w2 ⟨rfl, hb2⟩
  rw [HSM.out]
  have HB2 := Lib.hid hb2
  clear hb2
  go_wp2_with fail
  refine (stream_size.calls (L.length : Int) _ _ (size_f L.length)).mono ?_
  rintro e w3 ⟨rfl, hb3⟩
  rw [HH.out]
  have HB3 := Lib.hid (HB2.out.trans (hb3.mono HB2.out.size))
  have hz : ((h : Int) == 0) = false := by simp; omega
  clear hb3
  go_wp2_with fail
  refine (read_any (HD.out.keep HB3.out) i HI.out HL.out (by omega)).mono ?_
  rintro e w4 ⟨v4, rfl, hR4, hb4⟩
  have HB4 := Lib.hid (HB3.out.trans (hb4.mono HB3.out.size))
  obtain ⟨A, cc, rfl, hc4, hC4⟩ := Kd.R_reads hR4
  have HR4 := Lib.hid hR4
  have HC4 := Lib.hid hC4
  have hrd := Kd.reads_of_C (d := ByteArray.empty) hC4
  obtain ⟨ad, rfl, hcl⟩ := hrd.2.2 (by omega)
  obtain ⟨ab, cp, he, _⟩ := Kd.R_form HR4.out (by omega)
  simp only [Value.slice.injEq, Option.some.injEq, true_and] at he
  obtain ⟨he1, he3⟩ := he
  subst he1
  subst he3
  have hx0 := hcl 0 (by omega)
  obtain ⟨x0, hx0e⟩ : ∃ x0, L.getD 0 ByteArray.empty = x0 := ⟨_, rfl⟩
  rw [show L.getD 0 _ = x0 from hx0e] at hx0
  have HX0 := Lib.hid hx0e
  have h0l : 0 < L.length := by omega
  obtain ⟨w5, hw5⟩ : ∃ w5, w4.alloc (.cells #[.pointer (some ⟨d.b, 0, none⟩), .int .i64 (k : Int), .int .i64 (h : Int), .int .i64 0, .int .i64 1, .string ⟨#[]⟩, .bool false] 90) = w5 := ⟨_, rfl⟩
  obtain ⟨sb, hsb⟩ : ∃ sb, w4.heap.size = sb := ⟨_, rfl⟩
  have hb5 : Below w4.heap.size w4 w5 := by rw [← hw5]; exact (Below.refl _ _).alloc (Nat.le_refl _) _
  have hx5 : w5.cell? ⟨ab, 0, none⟩ = some (.string x0) := by
    have := pw_cell_below hb5 hx0
    rwa [Addr.add_zero'] at this
  have HB5 := Lib.hid (HB4.out.trans (hb5.mono HB4.out.size))
  have HR5 : Hid (Kd.R Kd.string 9 w5 w3.heap.size (fun k => k < sb) (.slice (some ⟨ab, 0, none⟩) L.length cc) L) := Lib.hid (Kd.R_below (Kd.R_mono (Kd.R_bound HR4.out) (fun k hk => by have := hk.2.2.1; omega)) hb5)
  have hS5 : SAt w5 sb ⟨d.b, k, h, 0, 1, ⟨#[]⟩, false⟩ := by
    rw [← hw5, ← hsb]
    exact heap_alloc_new _ _
  have HS5 := Lib.hid hS5
  clear hb4 hR4 hC4 hrd hcl hx0e hb5 hS5
  have h64 : x0.size = 64 := by
    have hw := (HD.out.wf HI.out).regs _ (List.mem_of_getElem? HL.out.reg)
    have hm : L.getD 0 ByteArray.empty ∈ L := by rw [List.getD_eq_getElem?_getD, List.getElem?_eq_getElem h0l]; exact List.getElem_mem h0l
    rw [HX0.out] at hm
    exact hw.l64 _ hm
  have hpf := parse_f h64
  have hho : headOf L = parseH x0 := by unfold headOf; rw [HX0.out]
  obtain ⟨g, kk, hgk⟩ : ∃ g kk, parseH x0 = (g, kk, true) := by
    rw [hho] at hp
    rcases parseH_cases x0 with ⟨g, kk, e⟩ | e
    · exact ⟨g, kk, e⟩
    · rw [e] at hp
      cases hp
  rw [hgk] at hpf hho
  have hbd := headOf_bd L
  rw [hho] at hbd
  have hk1 : kk ≤ 1 := hbd.2
  have HPF := Lib.hid hpf
  have HHO := Lib.hid hho
  have HBD := Lib.hid hbd
  clear hpf hho hbd hgk hp h64
  go_wp2_with (first | (rw [hw5]) | (rw [hsb]))
  refine (stream_parse.calls x0 _ _ _ _ HPF.out).mono ?_
  rintro e w6 ⟨rfl, hb6⟩
  have HB6 := Lib.hid (HB5.out.trans (hb6.mono HB5.out.size))
  have HR6 := Lib.hid (Kd.R_below HR5.out hb6)
  have HS6 := Lib.hid (HS5.out.below hb6)
  clear hb6 hw5 hx5 hx0
  have c3 : w6.cell? ⟨sb, 3, none⟩ = some (.int .i64 0) := cell_of_block HS6.out 3
  have c4 : w6.cell? ⟨sb, 4, none⟩ = some (.int .i64 1) := cell_of_block HS6.out 4
  have f3 : w6.frozen? ⟨sb, 3, none⟩ = false := unfrozen_of_block HS6.out 3
  have f4 : w6.frozen? ⟨sb, 4, none⟩ = false := unfrozen_of_block HS6.out 4
  have hsbw : w.heap.size ≤ sb := by rw [← hsb]; exact HB4.out.size
  obtain ⟨w7, hw7⟩ : ∃ w7, (w6.setCell ⟨sb, 3, none⟩ (.int .i64 (g : Int))).setCell ⟨sb, 4, none⟩ (.int .i64 (kk : Int)) = w7 := ⟨_, rfl⟩
  have hS7 : SAt w7 sb ⟨d.b, k, h, g, kk, ⟨#[]⟩, false⟩ := by
    have h1 := block_setCell HS6.out (i := 3) (.int .i64 (g : Int))
    have h2 := block_setCell h1 (i := 4) (.int .i64 (kk : Int))
    rw [hw7] at h2
    unfold SAt
    rw [h2]
    simp [MSt.cells]
  have hf7 : Fr (fun k => k = sb) w6 w7 := by rw [← hw7]; exact Fr.setAt (Fr.setAt (Fr.refl _ _) rfl) rfl
  have HS7 := Lib.hid hS7
  have HR7 := Lib.hid (Rfr HR6.out hf7 (fun k hk _ hs => by omega))
  have HB7 := Lib.hid (HB6.out.trans (hf7.below HB6.out.size (fun k hk hs => by omega)))
  clear hS7 hf7
  go_wp2_with (rw [hw7])
  refine (from_any HS7.out (by show h ≤ _; omega) hk1).mono ?_
  rintro e w8 ⟨rfl, hb8⟩
  have HB8 := Lib.hid (HB7.out.trans (hb8.mono HB7.out.size))
  have HR8 := Lib.hid (Kd.R_below HR7.out hb8)
  have HS8 := Lib.hid (HS7.out.below hb8)
  obtain ⟨fr, hfr⟩ : ∃ fr, 1 + kk * h = fr := ⟨_, rfl⟩
  have hfrl : fr + h ≤ L.length := by rw [← hfr]; have := mulh2 (h := h) hk1; omega
  rw [show (1 + MSt.half ⟨d.b, k, h, g, kk, ⟨#[]⟩, false⟩ * MSt.h ⟨d.b, k, h, g, kk, ⟨#[]⟩, false⟩) = fr from hfr]
  have HFR := Lib.hid hfr
  have v1 : IntKind.i64.wrap ((fr : Int) + (h : Int)) = ((fr + h : Nat) : Int) := by rw [IntWalk.i64_in _ (by omega)]; omega
  have v2 : fr + h ≤ cc := by omega
  clear hb8 c3 c4 f3 f4 hw7 hfr
  obtain ⟨l1, hl1⟩ : ∃ l1, (L.drop fr).take h = l1 := ⟨_, rfl⟩
  have hl1n : l1.length = h := by rw [← hl1, List.length_take, List.length_drop]; omega
  have hC1 := C_sub (Kd.R_reads' HR8.out).2.2 fr h hfrl
  rw [hl1, Go.Addr.add_plain0] at hC1
  have HC1 := Lib.hid hC1
  have HL1 := Lib.hid hl1
  have hj := join_any (some ⟨ab, fr, none⟩) (cc - fr) l1 (g : Int) w8 hC1 (by omega) (by omega)
  rw [hl1n] at hj
  have HJ := Lib.hid hj
  clear hC1 hl1 hj
  go_wp2_with fail
  refine HJ.out.mono ?_
  rintro e w9 ⟨rfl, hb9⟩
  have HB9 := Lib.hid (HB8.out.trans (hb9.mono HB8.out.size))
  have HR9 := Lib.hid (Kd.R_below HR8.out hb9)
  have HS9 := Lib.hid (HS8.out.below hb9)
  have hjl := joinL_len (g : Int) l1 0
  obtain ⟨jd, hjd⟩ : ∃ jd, joinL (g : Int) l1 0 = jd := ⟨_, rfl⟩
  rw [hjd] at hjl ⊢
  have HJD := Lib.hid hjd
  have hal := all_f (mkB jd) (by rw [size_mkB]; omega)
  obtain ⟨na, hal⟩ := hal
  rw [data_mkB] at hal
  have HAL := Lib.hid hal
  have hmk : (⟨jd.toArray⟩ : ByteArray) = mkB jd := rfl
  rw [hmk]
  clear hb9 hjd hal hmk HJ v1 v2
  go_wp2_with fail
  refine (frame_All.calls _ (mkB jd) _ _ _ HAL.out).mono ?_
  rintro e w10 ⟨v10, rfl, hR10, hb10⟩
  have HB10 := Lib.hid (HB9.out.trans (hb10.mono HB9.out.size))
  have HR10 := Lib.hid (Kd.R_below HR9.out hb10)
  have HS10 := Lib.hid (HS9.out.below hb10)
  have HREC := Lib.hid hR10
  clear hb10 hR10
  have c3 : w10.cell? ⟨sb, 3, none⟩ = some (.int .i64 (g : Int)) := cell_of_block HS10.out 3
  obtain ⟨A10, c10, rfl, hc10, -⟩ := Kd.R_reads HREC.out
  obtain ⟨q, hq⟩ : ∃ q, 2 * h = q := ⟨_, rfl⟩
  have v1 : (2 : Int) * (h : Int) = (q : Int) := by omega
  have v2 : IntKind.i64.wrap (q : Int) = (q : Int) := IntWalk.i64_in _ (by omega)
  obtain ⟨r, hr⟩ : ∃ r, 1 + q = r := ⟨_, rfl⟩
  have v3 : (1 : Int) + (q : Int) = (r : Int) := by omega
  have v4 : IntKind.i64.wrap (r : Int) = (r : Int) := IntWalk.i64_in _ (by omega)
  have v5 : r ≤ cc := by omega
  have v6 : 1 ≤ r := by omega
  have v7 : (1 : Int) ≤ (r : Int) := by omega
  have v8 : ¬ cc = 1 := by omega
  have hr1 : r - 1 = q := by omega
  obtain ⟨l2, hl2⟩ : ∃ l2, (L.drop 1).take q = l2 := ⟨_, rfl⟩
  have hl2n : l2.length = q := by rw [← hl2, List.length_take, List.length_drop]; omega
  have HL2 := Lib.hid hl2
  have HL2N := Lib.hid hl2n
  have HQ := Lib.hid hq
  have hql : q ≤ 600 := by omega
  have h1q : 1 + q ≤ L.length := by omega
  have HR1 := Lib.hid hr1
  clear hl2 hl2n hq hr hr1
  go_wp2_with fail
  refine wp_region_T 14 (HeldG sb (g : Int)) (by kernel_rfl) ?_
  have hS0 : HeldG sb (g : Int) w10.drew := ⟨c3⟩
  refine wpAnyT_take (i := 0) (v := ?mv1) rfl (by kernel_rfl) (by kernel_rfl) (by kernel_rfl) rfl rfl (by kernel_rfl) (by rfl) (fun _ _ _ h => h) (Or.inl ⟨by rfl, ?mh1⟩) (by assumption) ?mr1
  case mh1 => intro w hSw; (try have hSw1 := hSw.1); (try have hSw2 := hSw.2); (try have hSw3 := hSw.3); go_simp; try with_reducible rfl
  (try simp only [Act.put]); (try simp only [List.getElem_toArray, List.getElem_cons_zero, List.getElem_cons_succ]); (try simp only [List.setIfInBounds_toArray]); (try simp only [List.set_cons_zero, List.set_cons_succ])
  refine wpAnyT_take (i := 1) (v := ?mv2) rfl (by kernel_rfl) (by kernel_rfl) (by kernel_rfl) rfl rfl (by kernel_rfl) (by rfl) (fun _ _ _ h => h) (Or.inl ⟨by rfl, ?mh2⟩) (by assumption) ?mr2
  case mh2 => intro w hSw; (try have hSw1 := hSw.1); (try have hSw2 := hSw.2); (try have hSw3 := hSw.3); go_simp; try with_reducible rfl
  (try simp only [Act.put]); (try simp only [List.getElem_toArray, List.getElem_cons_zero, List.getElem_cons_succ]); (try simp only [List.setIfInBounds_toArray]); (try simp only [List.set_cons_zero, List.set_cons_succ])
  refine wpAnyT_take (i := 2) (v := ?mv3) rfl (by kernel_rfl) (by kernel_rfl) (by kernel_rfl) rfl rfl (by kernel_rfl) (by rfl) (fun _ _ _ h => h) (Or.inl ⟨by rfl, ?mh3⟩) (by assumption) ?mr3
  case mh3 => intro w hSw; (try have hSw1 := hSw.1); (try have hSw2 := hSw.2); (try have hSw3 := hSw.3); go_simp; try with_reducible rfl
  (try simp only [Act.put]); (try simp only [List.getElem_toArray, List.getElem_cons_zero, List.getElem_cons_succ]); (try simp only [List.setIfInBounds_toArray]); (try simp only [List.set_cons_zero, List.set_cons_succ])
  refine wpAnyT_take (i := 3) (v := ?mv4) rfl (by kernel_rfl) (by kernel_rfl) (by kernel_rfl) rfl rfl (by kernel_rfl) (by rfl) (fun _ _ _ h => h) (Or.inl ⟨by rfl, ?mh4⟩) (by assumption) ?mr4
  case mh4 => intro w hSw; (try have hSw1 := hSw.1); (try have hSw2 := hSw.2); (try have hSw3 := hSw.3); go_simp; try with_reducible rfl
  (try simp only [Act.put]); (try simp only [List.getElem_toArray, List.getElem_cons_zero, List.getElem_cons_succ]); (try simp only [List.setIfInBounds_toArray]); (try simp only [List.set_cons_zero, List.set_cons_succ])
  refine wpAnyT_take (i := 4) (v := ?mv5) rfl (by kernel_rfl) (by kernel_rfl) (by kernel_rfl) rfl rfl (by kernel_rfl) (by rfl) (fun _ _ _ h => h) (Or.inl ⟨by rfl, ?mh5⟩) (by assumption) ?mr5
  case mh5 => intro w hSw; (try have hSw1 := hSw.1); (try have hSw2 := hSw.2); (try have hSw3 := hSw.3); go_simp; try with_reducible rfl
  (try simp only [Act.put]); (try simp only [List.getElem_toArray, List.getElem_cons_zero, List.getElem_cons_succ]); (try simp only [List.setIfInBounds_toArray]); (try simp only [List.set_cons_zero, List.set_cons_succ])
  refine wpAnyT_take (i := 5) (v := ?mv6) rfl (by kernel_rfl) (by kernel_rfl) (by kernel_rfl) rfl rfl (by kernel_rfl) (by rfl) (fun _ _ _ h => h) (Or.inl ⟨by rfl, ?mh6⟩) (by assumption) ?mr6
  case mh6 => intro w hSw; (try have hSw1 := hSw.1); (try have hSw2 := hSw.2); (try have hSw3 := hSw.3); go_simp; try with_reducible rfl
  (try simp only [Act.put]); (try simp only [List.getElem_toArray, List.getElem_cons_zero, List.getElem_cons_succ]); (try simp only [List.setIfInBounds_toArray]); (try simp only [List.set_cons_zero, List.set_cons_succ])
  refine wpAnyT_take (i := 6) (v := ?mv7) rfl (by kernel_rfl) (by kernel_rfl) (by kernel_rfl) rfl rfl (by kernel_rfl) (by rfl) (fun _ _ _ h => h) (Or.inl ⟨by rfl, ?mh7⟩) (by assumption) ?mr7
  case mh7 => intro w hSw; (try have hSw1 := hSw.1); (try have hSw2 := hSw.2); (try have hSw3 := hSw.3); go_simp; try with_reducible rfl
  (try simp only [Act.put]); (try simp only [List.getElem_toArray, List.getElem_cons_zero, List.getElem_cons_succ]); (try simp only [List.setIfInBounds_toArray]); (try simp only [List.set_cons_zero, List.set_cons_succ])
  refine wpAnyT_take (i := 7) (v := ?mv8) rfl (by kernel_rfl) (by kernel_rfl) (by kernel_rfl) rfl rfl (by kernel_rfl) (by rfl) (fun _ _ _ h => h) (Or.inl ⟨by rfl, ?mh8⟩) (by assumption) ?mr8
  case mh8 => intro w hSw; (try have hSw1 := hSw.1); (try have hSw2 := hSw.2); (try have hSw3 := hSw.3); go_simp; try with_reducible rfl
  (try simp only [Act.put]); (try simp only [List.getElem_toArray, List.getElem_cons_zero, List.getElem_cons_succ]); (try simp only [List.setIfInBounds_toArray]); (try simp only [List.set_cons_zero, List.set_cons_succ])
  refine wpAnyT_take (i := 8) (v := ?mv9) rfl (by kernel_rfl) (by kernel_rfl) (by kernel_rfl) rfl rfl (by kernel_rfl) (by rfl) (fun _ _ _ h => h) (Or.inl ⟨by rfl, ?mh9⟩) (by assumption) ?mr9
  case mh9 => intro w hSw; (try have hSw1 := hSw.1); (try have hSw2 := hSw.2); (try have hSw3 := hSw.3); go_simp; try with_reducible rfl
  (try simp only [Act.put]); (try simp only [List.getElem_toArray, List.getElem_cons_zero, List.getElem_cons_succ]); (try simp only [List.setIfInBounds_toArray]); (try simp only [List.set_cons_zero, List.set_cons_succ])
  refine wpAnyT_take (i := 9) (v := ?mv10) rfl (by kernel_rfl) (by kernel_rfl) (by kernel_rfl) rfl rfl (by kernel_rfl) (by rfl) (fun _ _ _ h => h) (Or.inl ⟨by rfl, ?mh10⟩) (by assumption) ?mr10
  case mh10 => intro w hSw; (try have hSw1 := hSw.1); (try have hSw2 := hSw.2); (try have hSw3 := hSw.3); go_simp; try with_reducible rfl
  (try simp only [Act.put]); (try simp only [List.getElem_toArray, List.getElem_cons_zero, List.getElem_cons_succ]); (try simp only [List.setIfInBounds_toArray]); (try simp only [List.set_cons_zero, List.set_cons_succ])
  refine wpAnyT_one (j := 10) rfl (by kernel_rfl) (fun K hK => ?_)
  go_simp
  rw [HR1.out]
  have hC2 := C_sub (Kd.R_reads' (Kd.R_below HR10.out ((Below.refl w10.heap.size w10).drew))).2.2 1 q h1q
  rw [HL2.out, Go.Addr.add_plain0] at hC2
  have hnw := area_Newest.calls (l2.length + 1) (some ⟨ab, 1, none⟩) (cc - 1) l2 _ w10.drew hC2 (by rw [HL2N.out]; omega) (newest_f l2 (by rw [HL2N.out]; omega))
  rw [HL2N.out] at hnw
  go_at_call 15
  refine hnw.mono ?_
  rintro e w11 ⟨rfl, hb11⟩
  have hb1011 : Below w10.heap.size w10 w11 := ((Below.refl w10.heap.size w10).drew).trans hb11
  have HB11 := Lib.hid (HB10.out.trans (hb1011.mono HB10.out.size))
  have HS11 := Lib.hid (HS10.out.below hb1011)
  have HREC11 := Lib.hid (Kd.R_below HREC.out hb1011)
  have hsb10 : sb < w9.heap.size := HS9.out.lt
  obtain ⟨NL, hNL⟩ : ∃ NL, newL l2 0 = NL := ⟨_, rfl⟩
  have hgen : genOf L h = max (g : Int) NL := by unfold genOf; rw [HHO.out, HQ.out, HL2.out, hNL]
  rw [hNL]
  obtain ⟨G, hG⟩ : ∃ G : Nat, max (g : Int) NL = (G : Int) := ⟨(max (g : Int) NL).toNat, by omega⟩
  rw [hG] at hgen
  have HGEN := Lib.hid hgen
  have hS11 := hS0.below hb11
  clear hnw hb11 hb1011 hC2 hNL hgen
  refine hK.out _ _ (fun _ => hS11) ?_
  clear hK K
  (try simp only [Act.put]); (try simp only [List.getElem_toArray, List.getElem_cons_zero, List.getElem_cons_succ]); (try simp only [List.setIfInBounds_toArray]); (try simp only [List.set_cons_zero, List.set_cons_succ])
  refine wpAnyT_take (i := 11) (v := ?mv11) rfl (by kernel_rfl) (by kernel_rfl) (by kernel_rfl) rfl rfl (by kernel_rfl) (by rfl) (fun _ _ _ h => h) (Or.inl ⟨by rfl, ?mh11⟩) (by assumption) ?mr11
  case mh11 => intro w hSw; (try have hSw1 := hSw.1); (try have hSw2 := hSw.2); (try have hSw3 := hSw.3); go_simp; try with_reducible rfl
  (try simp only [Act.put]); (try simp only [List.getElem_toArray, List.getElem_cons_zero, List.getElem_cons_succ]); (try simp only [List.setIfInBounds_toArray]); (try simp only [List.set_cons_zero, List.set_cons_succ])
  refine wpAnyT_takeU (i := 12) (v := ?mv23) rfl (by kernel_rfl) (by kernel_rfl) (by kernel_rfl) rfl (fun _ _ _ h => h) (Or.inl ⟨by rfl, ?mh23⟩) (fun h => by first | assumption | exact absurd (h.symm.trans (by kernel_rfl)) (by decide : ¬ false = true)) ?mr23
  case mh23 => intro w _; go_simp; try with_reducible rfl
  (try simp only [Act.put]); (try simp only [List.getElem_toArray, List.getElem_cons_zero, List.getElem_cons_succ]); (try simp only [List.setIfInBounds_toArray]); (try simp only [List.set_cons_zero, List.set_cons_succ])
  refine wpAnyT_takeU (i := 13) (v := ?mv24) rfl (by kernel_rfl) (by kernel_rfl) (by kernel_rfl) rfl (fun _ _ _ h => h) (Or.inl ⟨by rfl, ?mh24⟩) (fun h => by first | assumption | exact absurd (h.symm.trans (by kernel_rfl)) (by decide : ¬ false = true)) ?mr24
  case mh24 => intro w _; go_simp; try with_reducible rfl
  (try simp only [Act.put]); (try simp only [List.getElem_toArray, List.getElem_cons_zero, List.getElem_cons_succ]); (try simp only [List.setIfInBounds_toArray]); (try simp only [List.set_cons_zero, List.set_cons_succ])
  have c3' : w11.cell? ⟨sb, 3, none⟩ = some (.int .i64 (g : Int)) := cell_of_block HS11.out 3
  have f3 : w11.frozen? ⟨sb, 3, none⟩ = false := unfrozen_of_block HS11.out 3
  refine wpAnyT_one (j := 14) rfl (by kernel_rfl) (fun K hK => ?_)
  go_simp
  obtain ⟨w12, hw12⟩ : ∃ w12, w11.setCell ⟨sb, 3, none⟩ (.int .i64 (G : Int)) = w12 := ⟨_, rfl⟩
  have hS12 : SAt w12 sb ⟨d.b, k, h, G, kk, ⟨#[]⟩, false⟩ := by
    have h1 := block_setCell HS11.out (i := 3) (.int .i64 (G : Int))
    rw [hw12] at h1
    unfold SAt
    rw [h1]
    simp [MSt.cells]
  have hf12 : Fr (fun k => k = sb) w11 w12 := by rw [← hw12]; exact Fr.setAt (Fr.refl _ _) rfl
  have HS12 := Lib.hid hS12
  have HB12 := Lib.hid (HB11.out.trans (hf12.below HB11.out.size (fun k hk hs => by omega)))
  have HREC12 := Lib.hid (Rfr (Kd.R_mono (Kd.R_bound HREC11.out) (ok' := fun k => w9.heap.size ≤ k) (fun k hk => hk.2.1)) hf12 (fun k hk _ hs => by omega))
  rw [hw12]
  clear hS12 hf12 hw12 c3' f3 hS0 hS11
  refine hK.out _ _ (fun h => absurd (h.symm.trans (by kernel_rfl)) (by decide : ¬ false = true)) ?_
  clear hK K
  (try simp only [Act.put]); (try simp only [List.getElem_toArray, List.getElem_cons_zero, List.getElem_cons_succ]); (try simp only [List.setIfInBounds_toArray]); (try simp only [List.set_cons_zero, List.set_cons_succ])
  refine wpAnyT_done (by kernel_rfl) ?_ _
  have hrl := recs_len jd
  have hsb12 : sb < w12.heap.size := HS12.out.lt
  have hR12 : Kd.R Kd.string 9 w12 w.heap.size (fun k => more Z w w12 k ∧ k ≠ sb) (.slice A10 (recs sumN jd).length c10) (recs sumN jd) := Kd.R_lower (Kd.R_mono (Kd.R_bound HREC12.out) (fun k hk => ⟨.inr ⟨Nat.le_trans HB9.out.size hk.1, hk.2.2.1⟩, by have := hk.1; omega⟩)) HB9.out.size
  have hC12 := (Kd.R_reads' hR12).2.2
  have hrec : recOf sumN L (sizeH L.length) = recs sumN jd := by
    rw [HH.out]
    unfold recOf
    rw [HHO.out]
    simp only [if_true]
    rw [HFR.out, HL1.out, HJD.out]
  have hpre : preS d.b k L = ⟨d.b, k, h, G, kk, ⟨#[]⟩, false⟩ := by
    unfold preS halfOf
    rw [HH.out, HHO.out, HGEN.out]
    rfl
  have HPRE := Lib.hid hpre
  have HR12 := Lib.hid hR12
  have HC12 := Lib.hid hC12
  clear hR12 hC12 hpre v1 v2 v3 v4 hG
  obtain ⟨rc, hrc⟩ : ∃ rc, recs sumN jd = rc := ⟨_, rfl⟩
  rw [hrc] at HR12 HC12 hrl hc10 hrec ⊢
  have HREQ := Lib.hid hrec
  have hrl2 : rc.length ≤ 1000000 := by omega
  clear hrc hrec HREC HREC11 HREC12 HAL
  go_wp2_with fail
  refine (res_all (HD.out.below HB12.out) i HI.out HS12.out (.inr ⟨hsbw, hsb12⟩) rfl hh300 hk1 hnd A10 c10 rc HC12.out hc10 hrl2).mono ?_
  rintro e w13 ⟨rfl, hS13, ⟨N', hN', hD13⟩, hF13⟩
  obtain ⟨⟨E, s13, m13⟩, hr⟩ : ∃ r, resR d.m ⟨d.b, k, h, G, kk, ⟨#[]⟩, false⟩ rc = r := ⟨_, rfl⟩
  rw [hr] at hS13 hD13 ⊢
  have HS13 := Lib.hid hS13
  have HD13 := Lib.hid hD13
  have HF13 := Lib.hid hF13
  have HFW : Hid (Fr (fun k => ¬ Z k) w w13) := Lib.hid (((Fr.of_below (S := fun _ => False) HB12.out).mono (fun _ h => h.elim)).trans (hF13.mono (fun j hj hz => by
    rcases hj with hj | hj
    · exact hj (.inl hz)
    · have := HD.out.1 j hz; omega)))
  have HR13 := Lib.hid (Rfr HR12.out hF13 (fun j hj _ hs => by
    rcases hs with hs | hs
    · exact hs hj.1
    · exact hj.2 hs))
  have HN := Lib.hid hN'
  have HRR := Lib.hid hr
  clear hS13 hD13 hF13 hN' hr
  change (match (Ending.returned (.int .i64 E)), w13 with | _, _ => _)
  by_cases hE : E = 0
  · subst hE
    go_wp2_with fail
    refine bodyPost_ret (v := .tuple #[.pointer (some ⟨sb, 0, none⟩), .slice A10 rc.length c10, .int .i64 0]) (by simp [results, Tryd.results21, go_sem]) rfl ?_
    rw [HREQ.out, HPRE.out, HRR.out]
    exact (.inr ⟨rfl, sb, A10, c10, more Z w w12, rfl, hc10, fun j hj => .inl hj, fun j hj => hj.imp id (fun h => h.1), hsbw, .inr ⟨hsbw, hsb12⟩, HS13.out, HR13.out, ⟨N', HN.out, HD13.out⟩, HFW.out⟩)
  · have hE1 : (E == 0) = false := by simpa using hE
    go_wp2_with fail
    refine bodyPost_ret (v := .tuple #[.pointer none, .slice none 0 0, .int .i64 E]) (by simp [results, Tryd.results21, go_sem]) rfl ?_
    rw [HREQ.out, HPRE.out, HRR.out]
    exact (.inl ⟨hE, rfl, ⟨N', HN.out, HD13.out.mono (fun j hj => .inl hj)⟩, HFW.out⟩)

set_option maxHeartbeats 16000000 in
set_option maxRecDepth 100000 in
theorem open_no {Z : Nat → Prop} {w : World} {ds : List DK} (hD : Dks Z w ds) (i : Nat) {d : DK} (hi : ds[i]? = some d) {k : Nat} {L : List ByteArray} (hL : Live d.m k L []) (hn : L.length ≤ 600) (h0 : 0 < sizeH L.length) (hp : ¬ (headOf L).2.2 = true) (hnd : d.n < 900000) :
    Calls Tryd.prog 21 #[.pointer (some ⟨d.b, 0, none⟩), .int .i64 (k : Int)] w fun e w' => OpenPost Z w ds i d (resR d.m (preS d.b k L) (recOf sumN L (sizeH L.length))) (recOf sumN L (sizeH L.length)) e w' := by
  obtain ⟨h, hh⟩ : ∃ h, sizeH L.length = h := ⟨_, rfl⟩
  have eh : sizeH L.length = (max 1 (min L.length 4096) - 1) / 2 := rfl
  rw [hh] at h0 eh
  have hlen : 1 + 2 * h ≤ L.length := by omega
  have hh300 : h ≤ 300 := by omega
  clear eh
  have HD := Lib.hid hD
  have HI := Lib.hid hi
  have HL := Lib.hid hL
  have HSM := Lib.hid (sectors_of hL.reg)
  have HH := Lib.hid hh
  clear hD hi hL hh
  go_enter Tryd.func21, Tryd.ntmps21
  go_wp2_with fail
  refine (sectors_z HD.out i HI.out (k : Int)).mono ?_
  rintro e w2 ⟨rfl, hb2⟩
  rw [HSM.out]
  have HB2 := Lib.hid hb2
  clear hb2
  go_wp2_with fail
  refine (stream_size.calls (L.length : Int) _ _ (size_f L.length)).mono ?_
  rintro e w3 ⟨rfl, hb3⟩
  rw [HH.out]
  have HB3 := Lib.hid (HB2.out.trans (hb3.mono HB2.out.size))
  have hz : ((h : Int) == 0) = false := by simp; omega
  clear hb3
  go_wp2_with fail
  refine (read_any (HD.out.keep HB3.out) i HI.out HL.out (by omega)).mono ?_
  rintro e w4 ⟨v4, rfl, hR4, hb4⟩
  have HB4 := Lib.hid (HB3.out.trans (hb4.mono HB3.out.size))
  obtain ⟨A, cc, rfl, hc4, hC4⟩ := Kd.R_reads hR4
  have HR4 := Lib.hid hR4
  have HC4 := Lib.hid hC4
  have hrd := Kd.reads_of_C (d := ByteArray.empty) hC4
  obtain ⟨ad, rfl, hcl⟩ := hrd.2.2 (by omega)
  obtain ⟨ab, cp, he, _⟩ := Kd.R_form HR4.out (by omega)
  simp only [Value.slice.injEq, Option.some.injEq, true_and] at he
  obtain ⟨he1, he3⟩ := he
  subst he1
  subst he3
  have hx0 := hcl 0 (by omega)
  obtain ⟨x0, hx0e⟩ : ∃ x0, L.getD 0 ByteArray.empty = x0 := ⟨_, rfl⟩
  rw [show L.getD 0 _ = x0 from hx0e] at hx0
  have HX0 := Lib.hid hx0e
  have h0l : 0 < L.length := by omega
  obtain ⟨w5, hw5⟩ : ∃ w5, w4.alloc (.cells #[.pointer (some ⟨d.b, 0, none⟩), .int .i64 (k : Int), .int .i64 (h : Int), .int .i64 0, .int .i64 1, .string ⟨#[]⟩, .bool false] 90) = w5 := ⟨_, rfl⟩
  obtain ⟨sb, hsb⟩ : ∃ sb, w4.heap.size = sb := ⟨_, rfl⟩
  have hb5 : Below w4.heap.size w4 w5 := by rw [← hw5]; exact (Below.refl _ _).alloc (Nat.le_refl _) _
  have hx5 : w5.cell? ⟨ab, 0, none⟩ = some (.string x0) := by
    have := pw_cell_below hb5 hx0
    rwa [Addr.add_zero'] at this
  have HB5 := Lib.hid (HB4.out.trans (hb5.mono HB4.out.size))
  have HR5 : Hid (Kd.R Kd.string 9 w5 w3.heap.size (fun k => k < sb) (.slice (some ⟨ab, 0, none⟩) L.length cc) L) := Lib.hid (Kd.R_below (Kd.R_mono (Kd.R_bound HR4.out) (fun k hk => by have := hk.2.2.1; omega)) hb5)
  have hS5 : SAt w5 sb ⟨d.b, k, h, 0, 1, ⟨#[]⟩, false⟩ := by
    rw [← hw5, ← hsb]
    exact heap_alloc_new _ _
  have HS5 := Lib.hid hS5
  clear hb4 hR4 hC4 hrd hcl hx0e hb5 hS5
  have h64 : x0.size = 64 := by
    have hw := (HD.out.wf HI.out).regs _ (List.mem_of_getElem? HL.out.reg)
    have hm : L.getD 0 ByteArray.empty ∈ L := by rw [List.getD_eq_getElem?_getD, List.getElem?_eq_getElem h0l]; exact List.getElem_mem h0l
    rw [HX0.out] at hm
    exact hw.l64 _ hm
  have hpf := parse_f h64
  have hho : headOf L = parseH x0 := by unfold headOf; rw [HX0.out]
  have hgk : parseH x0 = (0, 0, false) := by
    rw [hho] at hp
    rcases parseH_cases x0 with ⟨g, kk, e⟩ | e
    · rw [e] at hp
      exact absurd rfl hp
    · exact e
  rw [hgk] at hpf hho
  have HPF := Lib.hid hpf
  have HHO := Lib.hid hho
  clear hpf hho hgk hp h64
  go_wp2_with (first | (rw [hw5]) | (rw [hsb]))
  refine (stream_parse.calls x0 _ _ _ _ HPF.out).mono ?_
  rintro e w6 ⟨rfl, hb6⟩
  have HB6 := Lib.hid (HB5.out.trans (hb6.mono HB5.out.size))
  have HR6 := Lib.hid (Kd.R_below HR5.out hb6)
  have HS6 := Lib.hid (HS5.out.below hb6)
  clear hb6 hw5 hx5 hx0
  have c3 : w6.cell? ⟨sb, 3, none⟩ = some (.int .i64 0) := cell_of_block HS6.out 3
  have hsbw : w.heap.size ≤ sb := by rw [← hsb]; exact HB4.out.size
  obtain ⟨q, hq⟩ : ∃ q, 2 * h = q := ⟨_, rfl⟩
  have v1 : (2 : Int) * (h : Int) = (q : Int) := by omega
  have v2 : IntKind.i64.wrap (q : Int) = (q : Int) := IntWalk.i64_in _ (by omega)
  obtain ⟨r, hr⟩ : ∃ r, 1 + q = r := ⟨_, rfl⟩
  have v3 : (1 : Int) + (q : Int) = (r : Int) := by omega
  have v4 : IntKind.i64.wrap (r : Int) = (r : Int) := IntWalk.i64_in _ (by omega)
  have v5 : r ≤ cc := by omega
  have v6 : 1 ≤ r := by omega
  have v7 : (1 : Int) ≤ (r : Int) := by omega
  have v8 : ¬ cc = 1 := by omega
  have hr1 : r - 1 = q := by omega
  obtain ⟨l2, hl2⟩ : ∃ l2, (L.drop 1).take q = l2 := ⟨_, rfl⟩
  have hl2n : l2.length = q := by rw [← hl2, List.length_take, List.length_drop]; omega
  have HL2 := Lib.hid hl2
  have HL2N := Lib.hid hl2n
  have HQ := Lib.hid hq
  have hql : q ≤ 600 := by omega
  have h1q : 1 + q ≤ L.length := by omega
  have HR1 := Lib.hid hr1
  clear hl2 hl2n hq hr hr1
  go_wp2_with fail
  refine wp_region_T 14 (HeldG sb 0) (by kernel_rfl) ?_
  have hS0 : HeldG sb 0 w6.drew := ⟨c3⟩
  refine wpAnyT_take (i := 0) (v := ?mv12) rfl (by kernel_rfl) (by kernel_rfl) (by kernel_rfl) rfl rfl (by kernel_rfl) (by rfl) (fun _ _ _ h => h) (Or.inl ⟨by rfl, ?mh12⟩) (by assumption) ?mr12
  case mh12 => intro w hSw; (try have hSw1 := hSw.1); (try have hSw2 := hSw.2); (try have hSw3 := hSw.3); go_simp; try with_reducible rfl
  (try simp only [Act.put]); (try simp only [List.getElem_toArray, List.getElem_cons_zero, List.getElem_cons_succ]); (try simp only [List.setIfInBounds_toArray]); (try simp only [List.set_cons_zero, List.set_cons_succ])
  refine wpAnyT_take (i := 1) (v := ?mv13) rfl (by kernel_rfl) (by kernel_rfl) (by kernel_rfl) rfl rfl (by kernel_rfl) (by rfl) (fun _ _ _ h => h) (Or.inl ⟨by rfl, ?mh13⟩) (by assumption) ?mr13
  case mh13 => intro w hSw; (try have hSw1 := hSw.1); (try have hSw2 := hSw.2); (try have hSw3 := hSw.3); go_simp; try with_reducible rfl
  (try simp only [Act.put]); (try simp only [List.getElem_toArray, List.getElem_cons_zero, List.getElem_cons_succ]); (try simp only [List.setIfInBounds_toArray]); (try simp only [List.set_cons_zero, List.set_cons_succ])
  refine wpAnyT_take (i := 2) (v := ?mv14) rfl (by kernel_rfl) (by kernel_rfl) (by kernel_rfl) rfl rfl (by kernel_rfl) (by rfl) (fun _ _ _ h => h) (Or.inl ⟨by rfl, ?mh14⟩) (by assumption) ?mr14
  case mh14 => intro w hSw; (try have hSw1 := hSw.1); (try have hSw2 := hSw.2); (try have hSw3 := hSw.3); go_simp; try with_reducible rfl
  (try simp only [Act.put]); (try simp only [List.getElem_toArray, List.getElem_cons_zero, List.getElem_cons_succ]); (try simp only [List.setIfInBounds_toArray]); (try simp only [List.set_cons_zero, List.set_cons_succ])
  refine wpAnyT_take (i := 3) (v := ?mv15) rfl (by kernel_rfl) (by kernel_rfl) (by kernel_rfl) rfl rfl (by kernel_rfl) (by rfl) (fun _ _ _ h => h) (Or.inl ⟨by rfl, ?mh15⟩) (by assumption) ?mr15
  case mh15 => intro w hSw; (try have hSw1 := hSw.1); (try have hSw2 := hSw.2); (try have hSw3 := hSw.3); go_simp; try with_reducible rfl
  (try simp only [Act.put]); (try simp only [List.getElem_toArray, List.getElem_cons_zero, List.getElem_cons_succ]); (try simp only [List.setIfInBounds_toArray]); (try simp only [List.set_cons_zero, List.set_cons_succ])
  refine wpAnyT_take (i := 4) (v := ?mv16) rfl (by kernel_rfl) (by kernel_rfl) (by kernel_rfl) rfl rfl (by kernel_rfl) (by rfl) (fun _ _ _ h => h) (Or.inl ⟨by rfl, ?mh16⟩) (by assumption) ?mr16
  case mh16 => intro w hSw; (try have hSw1 := hSw.1); (try have hSw2 := hSw.2); (try have hSw3 := hSw.3); go_simp; try with_reducible rfl
  (try simp only [Act.put]); (try simp only [List.getElem_toArray, List.getElem_cons_zero, List.getElem_cons_succ]); (try simp only [List.setIfInBounds_toArray]); (try simp only [List.set_cons_zero, List.set_cons_succ])
  refine wpAnyT_take (i := 5) (v := ?mv17) rfl (by kernel_rfl) (by kernel_rfl) (by kernel_rfl) rfl rfl (by kernel_rfl) (by rfl) (fun _ _ _ h => h) (Or.inl ⟨by rfl, ?mh17⟩) (by assumption) ?mr17
  case mh17 => intro w hSw; (try have hSw1 := hSw.1); (try have hSw2 := hSw.2); (try have hSw3 := hSw.3); go_simp; try with_reducible rfl
  (try simp only [Act.put]); (try simp only [List.getElem_toArray, List.getElem_cons_zero, List.getElem_cons_succ]); (try simp only [List.setIfInBounds_toArray]); (try simp only [List.set_cons_zero, List.set_cons_succ])
  refine wpAnyT_take (i := 6) (v := ?mv18) rfl (by kernel_rfl) (by kernel_rfl) (by kernel_rfl) rfl rfl (by kernel_rfl) (by rfl) (fun _ _ _ h => h) (Or.inl ⟨by rfl, ?mh18⟩) (by assumption) ?mr18
  case mh18 => intro w hSw; (try have hSw1 := hSw.1); (try have hSw2 := hSw.2); (try have hSw3 := hSw.3); go_simp; try with_reducible rfl
  (try simp only [Act.put]); (try simp only [List.getElem_toArray, List.getElem_cons_zero, List.getElem_cons_succ]); (try simp only [List.setIfInBounds_toArray]); (try simp only [List.set_cons_zero, List.set_cons_succ])
  refine wpAnyT_take (i := 7) (v := ?mv19) rfl (by kernel_rfl) (by kernel_rfl) (by kernel_rfl) rfl rfl (by kernel_rfl) (by rfl) (fun _ _ _ h => h) (Or.inl ⟨by rfl, ?mh19⟩) (by assumption) ?mr19
  case mh19 => intro w hSw; (try have hSw1 := hSw.1); (try have hSw2 := hSw.2); (try have hSw3 := hSw.3); go_simp; try with_reducible rfl
  (try simp only [Act.put]); (try simp only [List.getElem_toArray, List.getElem_cons_zero, List.getElem_cons_succ]); (try simp only [List.setIfInBounds_toArray]); (try simp only [List.set_cons_zero, List.set_cons_succ])
  refine wpAnyT_take (i := 8) (v := ?mv20) rfl (by kernel_rfl) (by kernel_rfl) (by kernel_rfl) rfl rfl (by kernel_rfl) (by rfl) (fun _ _ _ h => h) (Or.inl ⟨by rfl, ?mh20⟩) (by assumption) ?mr20
  case mh20 => intro w hSw; (try have hSw1 := hSw.1); (try have hSw2 := hSw.2); (try have hSw3 := hSw.3); go_simp; try with_reducible rfl
  (try simp only [Act.put]); (try simp only [List.getElem_toArray, List.getElem_cons_zero, List.getElem_cons_succ]); (try simp only [List.setIfInBounds_toArray]); (try simp only [List.set_cons_zero, List.set_cons_succ])
  refine wpAnyT_take (i := 9) (v := ?mv21) rfl (by kernel_rfl) (by kernel_rfl) (by kernel_rfl) rfl rfl (by kernel_rfl) (by rfl) (fun _ _ _ h => h) (Or.inl ⟨by rfl, ?mh21⟩) (by assumption) ?mr21
  case mh21 => intro w hSw; (try have hSw1 := hSw.1); (try have hSw2 := hSw.2); (try have hSw3 := hSw.3); go_simp; try with_reducible rfl
  (try simp only [Act.put]); (try simp only [List.getElem_toArray, List.getElem_cons_zero, List.getElem_cons_succ]); (try simp only [List.setIfInBounds_toArray]); (try simp only [List.set_cons_zero, List.set_cons_succ])
  refine wpAnyT_one (j := 10) rfl (by kernel_rfl) (fun K hK => ?_)
  go_simp
  rw [HR1.out]
  have hC2 := C_sub (Kd.R_reads' (Kd.R_below HR6.out ((Below.refl w6.heap.size w6).drew))).2.2 1 q h1q
  rw [HL2.out, Go.Addr.add_plain0] at hC2
  have hnw := area_Newest.calls (l2.length + 1) (some ⟨ab, 1, none⟩) (cc - 1) l2 _ w6.drew hC2 (by rw [HL2N.out]; omega) (newest_f l2 (by rw [HL2N.out]; omega))
  rw [HL2N.out] at hnw
  go_at_call 15
  refine hnw.mono ?_
  rintro e w11 ⟨rfl, hb11⟩
  have hb1011 : Below w6.heap.size w6 w11 := ((Below.refl w6.heap.size w6).drew).trans hb11
  have HB11 := Lib.hid (HB6.out.trans (hb1011.mono HB6.out.size))
  have HS11 := Lib.hid (HS6.out.below hb1011)
  obtain ⟨NL, hNL⟩ : ∃ NL, newL l2 0 = NL := ⟨_, rfl⟩
  have hgen : genOf L h = max (0 : Int) NL := by unfold genOf; rw [HHO.out, HQ.out, HL2.out, hNL]; rfl
  rw [hNL]
  obtain ⟨G, hG⟩ : ∃ G : Nat, max (0 : Int) NL = (G : Int) := ⟨(max (0 : Int) NL).toNat, by omega⟩
  rw [hG] at hgen
  have HGEN := Lib.hid hgen
  have hS11 := hS0.below hb11
  clear hnw hb11 hb1011 hC2 hNL hgen
  refine hK.out _ _ (fun _ => hS11) ?_
  clear hK K
  (try simp only [Act.put]); (try simp only [List.getElem_toArray, List.getElem_cons_zero, List.getElem_cons_succ]); (try simp only [List.setIfInBounds_toArray]); (try simp only [List.set_cons_zero, List.set_cons_succ])
  refine wpAnyT_take (i := 11) (v := ?mv22) rfl (by kernel_rfl) (by kernel_rfl) (by kernel_rfl) rfl rfl (by kernel_rfl) (by rfl) (fun _ _ _ h => h) (Or.inl ⟨by rfl, ?mh22⟩) (by assumption) ?mr22
  case mh22 => intro w hSw; (try have hSw1 := hSw.1); (try have hSw2 := hSw.2); (try have hSw3 := hSw.3); go_simp; try with_reducible rfl
  (try simp only [Act.put]); (try simp only [List.getElem_toArray, List.getElem_cons_zero, List.getElem_cons_succ]); (try simp only [List.setIfInBounds_toArray]); (try simp only [List.set_cons_zero, List.set_cons_succ])
  refine wpAnyT_takeU (i := 12) (v := ?mv25) rfl (by kernel_rfl) (by kernel_rfl) (by kernel_rfl) rfl (fun _ _ _ h => h) (Or.inl ⟨by rfl, ?mh25⟩) (fun h => by first | assumption | exact absurd (h.symm.trans (by kernel_rfl)) (by decide : ¬ false = true)) ?mr25
  case mh25 => intro w _; go_simp; try with_reducible rfl
  (try simp only [Act.put]); (try simp only [List.getElem_toArray, List.getElem_cons_zero, List.getElem_cons_succ]); (try simp only [List.setIfInBounds_toArray]); (try simp only [List.set_cons_zero, List.set_cons_succ])
  refine wpAnyT_takeU (i := 13) (v := ?mv26) rfl (by kernel_rfl) (by kernel_rfl) (by kernel_rfl) rfl (fun _ _ _ h => h) (Or.inl ⟨by rfl, ?mh26⟩) (fun h => by first | assumption | exact absurd (h.symm.trans (by kernel_rfl)) (by decide : ¬ false = true)) ?mr26
  case mh26 => intro w _; go_simp; try with_reducible rfl
  (try simp only [Act.put]); (try simp only [List.getElem_toArray, List.getElem_cons_zero, List.getElem_cons_succ]); (try simp only [List.setIfInBounds_toArray]); (try simp only [List.set_cons_zero, List.set_cons_succ])
  have c3' : w11.cell? ⟨sb, 3, none⟩ = some (.int .i64 0) := cell_of_block HS11.out 3
  have f3 : w11.frozen? ⟨sb, 3, none⟩ = false := unfrozen_of_block HS11.out 3
  refine wpAnyT_one (j := 14) rfl (by kernel_rfl) (fun K hK => ?_)
  go_simp
  obtain ⟨w12, hw12⟩ : ∃ w12, w11.setCell ⟨sb, 3, none⟩ (.int .i64 (G : Int)) = w12 := ⟨_, rfl⟩
  have hS12 : SAt w12 sb ⟨d.b, k, h, G, 1, ⟨#[]⟩, false⟩ := by
    have h1 := block_setCell HS11.out (i := 3) (.int .i64 (G : Int))
    rw [hw12] at h1
    unfold SAt
    rw [h1]
    simp [MSt.cells]
  have hf12 : Fr (fun k => k = sb) w11 w12 := by rw [← hw12]; exact Fr.setAt (Fr.refl _ _) rfl
  have HS12 := Lib.hid hS12
  have HB12 := Lib.hid (HB11.out.trans (hf12.below HB11.out.size (fun k hk hs => by omega)))
  rw [hw12]
  clear hS12 hf12 hw12 c3' f3 hS0 hS11
  refine hK.out _ _ (fun h => absurd (h.symm.trans (by kernel_rfl)) (by decide : ¬ false = true)) ?_
  clear hK K
  (try simp only [Act.put]); (try simp only [List.getElem_toArray, List.getElem_cons_zero, List.getElem_cons_succ]); (try simp only [List.setIfInBounds_toArray]); (try simp only [List.set_cons_zero, List.set_cons_succ])
  refine wpAnyT_done (by kernel_rfl) ?_ _
  have hsb12 : sb < w12.heap.size := HS12.out.lt
  have hR12 : Kd.R Kd.string 9 w12 w.heap.size (fun k => more Z w w12 k ∧ k ≠ sb) (.slice none ([] : List ByteArray).length 0) ([] : List ByteArray) := Kd.R_nil _ _ _ _ _
  have hC12 := (Kd.R_reads' hR12).2.2
  have hrec : recOf sumN L (sizeH L.length) = [] := by
    rw [HH.out]
    unfold recOf
    rw [HHO.out]
    rfl
  have hpre : preS d.b k L = ⟨d.b, k, h, G, 1, ⟨#[]⟩, false⟩ := by
    unfold preS halfOf
    rw [HH.out, HHO.out, HGEN.out]
    rfl
  have HPRE := Lib.hid hpre
  have HR12 := Lib.hid hR12
  have HC12 := Lib.hid hC12
  clear hR12 hC12 hpre v1 v2 v3 v4 hG
  have HREQ := Lib.hid hrec
  clear hrec
  go_wp2_with fail
  refine (res_all (HD.out.below HB12.out) i HI.out HS12.out (.inr ⟨hsbw, hsb12⟩) rfl hh300 (Nat.le_refl _) hnd none 0 [] HC12.out (Nat.le_refl _) (Nat.zero_le _)).mono ?_
  rintro e w13 ⟨rfl, hS13, ⟨N', hN', hD13⟩, hF13⟩
  obtain ⟨⟨E, s13, m13⟩, hr⟩ : ∃ r, resR d.m ⟨d.b, k, h, G, 1, ⟨#[]⟩, false⟩ [] = r := ⟨_, rfl⟩
  rw [hr] at hS13 hD13 ⊢
  have HS13 := Lib.hid hS13
  have HD13 := Lib.hid hD13
  have HF13 := Lib.hid hF13
  have HFW : Hid (Fr (fun k => ¬ Z k) w w13) := Lib.hid (((Fr.of_below (S := fun _ => False) HB12.out).mono (fun _ h => h.elim)).trans (hF13.mono (fun j hj hz => by
    rcases hj with hj | hj
    · exact hj (.inl hz)
    · have := HD.out.1 j hz; omega)))
  have HR13 := Lib.hid (Rfr HR12.out hF13 (fun j hj _ hs => by
    rcases hs with hs | hs
    · exact hs hj.1
    · exact hj.2 hs))
  have HN := Lib.hid hN'
  have HRR := Lib.hid hr
  clear hS13 hD13 hF13 hN' hr
  change (match (Ending.returned (.int .i64 E)), w13 with | _, _ => _)
  by_cases hE : E = 0
  · subst hE
    go_wp2_with fail
    refine bodyPost_ret (v := .tuple #[.pointer (some ⟨sb, 0, none⟩), .slice none 0 0, .int .i64 0]) (by simp [results, Tryd.results21, go_sem]) rfl ?_
    rw [HREQ.out, HPRE.out, HRR.out]
    exact (.inr ⟨rfl, sb, none, 0, more Z w w12, rfl, Nat.le_refl _, fun j hj => .inl hj, fun j hj => hj.imp id (fun h => h.1), hsbw, .inr ⟨hsbw, hsb12⟩, HS13.out, HR13.out, ⟨N', HN.out, HD13.out⟩, HFW.out⟩)
  · have hE1 : (E == 0) = false := by simpa using hE
    go_wp2_with fail
    refine bodyPost_ret (v := .tuple #[.pointer none, .slice none 0 0, .int .i64 E]) (by simp [results, Tryd.results21, go_sem]) rfl ?_
    rw [HREQ.out, HPRE.out, HRR.out]
    exact (.inl ⟨hE, rfl, ⟨N', HN.out, HD13.out.mono (fun j hj => .inl hj)⟩, HFW.out⟩)

theorem open_all {Z : Nat → Prop} {w : World} {ds : List DK} (hD : Dks Z w ds) (i : Nat) {d : DK} (hi : ds[i]? = some d) {k : Nat} {L : List ByteArray} (hL : Live d.m k L []) (hn : L.length ≤ 600) (h0 : 0 < sizeH L.length) (hnd : d.n < 900000) :
    Calls Tryd.prog 21 #[.pointer (some ⟨d.b, 0, none⟩), .int .i64 (k : Int)] w fun e w' => OpenPost Z w ds i d (resR d.m (preS d.b k L) (recOf sumN L (sizeH L.length))) (recOf sumN L (sizeH L.length)) e w' := by
  by_cases hp : (headOf L).2.2 = true
  · exact open_ok hD i hi hL hn h0 hp hnd
  · exact open_no hD i hi hL hn h0 hp hnd

end Go.Proofs.YtekpbpcfeopilaaDoor.Op
