/- GrantLists: the walk. -/
import Derived.Test.YtifdfhonhphojaaRq
import Derived.Deep.RegionHeld
import Derived.Test.YtifdfhonhphojaaOpens
import Derived.IntWalk
namespace Go.Proofs.Ytifdfhonhphojaa.Gl
open Go Go.RowKit Go.Joins Go.Proofs.YtifdfhonhphojaaCore Go.Proofs.Ytifdfhonhphojaa.Fr Go.Proofs.Ytifdfhonhphojaa.Mp Go.Proofs.Ytifdfhonhphojaa.Ky Go.Proofs.Ytifdfhonhphojaa.Ko Go.Proofs.Ytifdfhonhphojaa.Named Go.Proofs.Ytifdfhonhphojaa.Tb Go.Proofs.Ytifdfhonhphojaa.Nw Go.Proofs.Ytifdfhonhphojaa.Oi Go.Proofs.Ytifdfhonhphojaa.O2 Go.Proofs.Ytifdfhonhphojaa.Rt Go.Proofs.Ytifdfhonhphojaa.Rd Go.Proofs.Ytifdfhonhphojaa.Ra Go.Proofs.Ytifdfhonhphojaa.Rb Go.Proofs.Ytifdfhonhphojaa.Pr Go.Proofs.Ytifdfhonhphojaa.Wk Go.Proofs.YtifdfhonhphojaaW.PrintWords Go.Proofs.YtifdfhonhphojaaW.PrintLast Go.Proofs.YtifdfhonhphojaaW.PrintMore

/-- The table and the map beside it, over the same keys. -/
structure LS (w0 w : World) (tb mb nb : Nat) (ks : List GKey) : Prop where
  tab : TabAt w tb mb ks
  map : MapIs encK Value.bool okK w nb (trues ks)
  ne : mb ≠ nb ∧ tb ≠ nb
  lo : w0.heap.size ≤ tb ∧ w0.heap.size ≤ mb ∧ w0.heap.size ≤ nb
  bel : Below w0.heap.size w0 w

section
variable {w0 w w' : World} {tb mb nb : Nat} {ks ks' : List GKey}
theorem LS.below (h : LS w0 w tb mb nb ks) (hb : Below w.heap.size w w') : LS w0 w' tb mb nb ks :=
  ⟨h.tab.below hb, h.map.fr (S := fun _ => False) (Fr.of_below hb) (fun h => h), h.ne, h.lo, h.bel.trans (hb.mono h.bel.size)⟩
/-- The table alone has turned. -/
theorem LS.frT (h : LS w0 w tb mb nb ks) (f : Fr (fun i => i = mb) w w') : MapIs encK Value.bool okK w' nb (trues ks) ∧ Below w0.heap.size w0 w' :=
  ⟨h.map.fr f (fun e => h.ne.1 e.symm), h.bel.trans (f.below h.bel.size (fun k hk e => by have := h.lo.2.1; omega))⟩
theorem LS.keep (h : LS w0 w tb mb nb ks) (ht : TabAt w' tb mb ks) (f : Fr (fun i => i = mb) w w') : LS w0 w' tb mb nb ks := ⟨ht, (h.frT f).1, h.ne, h.lo, (h.frT f).2⟩
end

/-- What Drop and Add of one key leave: the same list in order. -/
theorem again {ks : List GKey} (hn : ks.Nodup) {k : GKey} (hk : k ∈ ks) : sortK (ks.erase k ++ [k]) = sortK ks := by
  have hp : (ks.erase k ++ [k]).Perm ks := (List.perm_append_comm.trans (List.perm_cons_erase hk).symm)
  have hn2 : (ks.erase k ++ [k]).Nodup := hp.nodup_iff.2 hn
  have hs := sortK_sorted ks
  refine sortK_eq hn2 (hp.trans (sortK_perm ks).symm) (strict_of ((sortK_perm ks).nodup_iff.2 hn) hs)
theorem sortK_strict {ks : List GKey} (hn : ks.Nodup) : (sortK ks).Pairwise fun x y => ltK x y = true := strict_of ((sortK_perm ks).nodup_iff.2 hn) (sortK_sorted ks)
/-- A key that was let in can be let in again behind its Drop. -/
theorem addE_again {ks : List GKey} {k : GKey} (hn : ks.Nodup) (hk : k ∈ ks) (hc : 0 ≤ k.c ∧ k.c < 8) (hf : namedB k.f = true) (hl : ks.length ≤ 16) : addE (ks.erase k) k = 0 := by
  unfold addE
  rw [if_neg (by omega), if_neg (by rw [hf]; decide), if_neg (fun h => by rw [hn.mem_erase_iff] at h; exact h.1 rfl), if_neg]
  rw [List.length_erase_of_mem hk]
  have : 0 < ks.length := List.length_pos_of_mem hk
  omega

structure Fine (ks : List GKey) : Prop where
  nodup : ks.Nodup
  few : ks.length ≤ 16
  good : ∀ k ∈ ks, okK k ∧ (0 ≤ k.c ∧ k.c < 8) ∧ namedB k.f = true
theorem Fine.nil : Fine [] := ⟨List.nodup_nil, by simp, fun k hk => by cases hk⟩
theorem Fine.add {ks : List GKey} (h : Fine ks) {k : GKey} (he : addE ks k = 0) (hk : okK k) : Fine (ks ++ [k]) := by
  have hn := addE_new he
  unfold addE at he
  split at he
  · cases he
  · rename_i h1
    split at he
    · cases he
    · rename_i h2
      (try rw [if_neg hn] at he)
      split at he
      · cases he
      · rename_i h3
        refine ⟨?_, by rw [List.length_append, List.length_singleton]; omega, fun x hx => ?_⟩
        · exact List.nodup_append.2 ⟨h.nodup, by simp, fun a ha b hb => by rw [List.mem_singleton] at hb; subst hb; exact fun e => hn (e ▸ ha)⟩
        · rcases List.mem_append.1 hx with hx | hx
          · exact h.good x hx
          · rw [List.mem_singleton] at hx
            subst hx
            exact ⟨hk, by omega, by simpa using h2⟩

theorem geq_no {a b : ByteArray} (h : Op.bytesLess a.toList b.toList = true) (t : Nat) (w : World) : (binOp .geq t (.string a) (.string b)).run Try.prog w = .ok (.bool false) w := by
  show (Op.stringOp .geq a b).run Try.prog w = _
  unfold Op.stringOp
  simp only [h]
  rfl
theorem keys_fr {w w' : World} {A : Option Addr} {ks : List GKey} {mb : Nat} {l : List (GKey × Bool)} (h : KeysAt w A ks) (hm : MapIs encK Value.bool okK w mb l) (f : Fr (fun i => i = mb) w w') : KeysAt w' A ks := by
  intro i k hi
  obtain ⟨ad, h1, h2, h3⟩ := h i k hi
  have hne : (ad.add (i * 2)).block ≠ mb := fun e => by
    obtain ⟨es, c, hb, _⟩ := hm
    unfold World.cell? at h2
    rw [e, hb] at h2
    cases h2
  exact ⟨ad, h1, f.cell h2 hne, f.cell h3 hne⟩
structure L1 (M tb mb nb : Nat) (w : World) (gk : Nat) (v : Value) (wr : World) (j : Nat) (ks : List GKey) : Prop where
  hi : j ≤ M
  slot : v = .int .i64 j
  ghost : gk + j = M
  ls : LS w wr tb mb nb ks
  fine : Fine ks
def L1Rel (M tb mb nb : Nat) (w : World) (gk : Nat) (v : Value) (wr : World) : Prop := ∃ j ks, L1 M tb mb nb w gk v wr j ks

set_option maxHeartbeats 16000000 in
set_option maxRecDepth 100000 in
theorem law (A : Option Addr) (cc : Nat) (xs : List GKey) (at_ : Int) (w : World) (hE : KeysAt w A xs) (hcc : xs.length ≤ cc) (hm : xs.length ≤ 9223372036854775807) (hoks : ∀ x ∈ xs, okK x) (hat : (Lit.int .i64 at_).wf = true) :
    Calls Try.prog 8 #[.slice A xs.length cc, .int .i64 at_] w fun e w' => e = .returned (.bool true) ∧ Below w.heap.size w w' := by
  obtain ⟨M, hM⟩ : ∃ M : Nat, min xs.length 40 = M := ⟨_, rfl⟩
  have hMi : min (xs.length : Int) 40 = (M : Int) := by omega
  have hM1 : M ≤ xs.length := by omega
  have hM40 : M ≤ 40 := by omega
  have hMc : M ≤ cc := by omega
  have hmm := @run_makeMap Try.prog
  have HE := Lib.hid hE
  have HOKS := Lib.hid hoks
  have HAT := Lib.hid hat
  have hn := new_any none 0 [] w (KeysAt.nil _ _) (by simp) (by simp) (by simp)
  clear hE hoks hM hat
  go_enter Try.func8, Try.ntmps8
  go_wp2_with fail
  refine hn.mono ?_
  rintro e w2 ⟨hb2, h⟩
  rcases h with ⟨h, _⟩ | ⟨_, tb, mb, htb, hmb, rfl, ht⟩
  · exact absurd rfl h
  have HT2 : Hid (TabAt w2 tb mb []) := Lib.hid ht
  have HB2 := Lib.hid hb2
  have HTB := Lib.hid htb
  have HMB := Lib.hid hmb
  clear ht hb2 htb hmb hn
  go_wp2_with fail
  refine (wakes_any _).mono ?_
  rintro e w3 ⟨rfl, hb3⟩
  have HT3 := Lib.hid (HT2.out.below hb3)
  have HB3 := Lib.hid (HB2.out.trans (hb3.mono HB2.out.size))
  clear hb3 HT2
  obtain ⟨w4, hw4⟩ : ∃ w4, w3.alloc (.map #[] 0) = w4 := ⟨_, rfl⟩
  have hb4 : Below w3.heap.size w3 w4 := by rw [← hw4]; exact (Below.refl _ _).alloc (Nat.le_refl _) _
  have hm4 : MapIs encK Value.bool okK w4 w3.heap.size (trues []) := by rw [← hw4]; exact MapIs.made (V := Bool) encK Value.bool okK w3
  have hne : mb < w3.heap.size ∧ tb < w3.heap.size := by
    obtain ⟨es, c, hb, _⟩ := HT3.out.map
    exact ⟨heap_lt hb, heap_lt HT3.out.head⟩
  obtain ⟨nb, hnb⟩ : ∃ nb, w3.heap.size = nb := ⟨_, rfl⟩
  rw [hnb] at hm4 hne
  have HL4 : Hid (LS w w4 tb mb nb []) := Lib.hid ⟨HT3.out.below hb4, hm4, ⟨by omega, by omega⟩, ⟨HTB.out, HMB.out, by have := HB3.out.size; omega⟩, HB3.out.trans (hb4.mono HB3.out.size)⟩
  clear hb4 hm4 hne HT3
  go_wp2_with (first | (rw [hw4]) | (rw [hnb]))
  clear hw4 hnb
  go_loopg [33] M (fun gk v wr => L1Rel M tb mb nb w gk v wr)
  case atStart => exact ⟨0, [], Nat.zero_le _, rfl, rfl, HL4.out, Fine.nil⟩
  case round =>
    obtain ⟨j, ks, hj, rfl, hg, hls, hfine⟩ := hrel
    have HG := Lib.hid hg
    have HL := Lib.hid hls
    have HF := Lib.hid hfine
    clear hg hls hfine HL4
    by_cases hlt : j < M
    · have hI : (j : Int) < (M : Int) := by omega
      have hjl : j < xs.length := by omega
      obtain ⟨y, hy⟩ : ∃ y, xs[j]? = some y := ⟨_, List.getElem?_eq_getElem hjl⟩
      obtain ⟨ad, rfl, hc1, hc2⟩ := HE.out j y hy
      have e1 := pw_below HL.out.bel hc1
      have e2 := pw_below HL.out.bel hc2
      have hky := HOKS.out y (List.mem_of_getElem? hy)
      have HKY := Lib.hid hky
      clear hy hc1 hc2 hky
      obtain ⟨wb, hwb⟩ : ∃ wb, wr.alloc (.cells #[.int .i64 y.c, .string y.f] 36) = wb := ⟨_, rfl⟩
      have hbb : Below wr.heap.size wr wb := by rw [← hwb]; exact (Below.refl _ _).alloc (Nat.le_refl _) _
      have hk := cells_two wr (.int .i64 y.c) (.string y.f) 36
      rw [hwb] at hk
      obtain ⟨q, hq⟩ : ∃ q, wr.heap.size = q := ⟨_, rfl⟩
      rw [hq] at hk
      have HK0 := Lib.hid hk.1
      have HK1 := Lib.hid hk.2
      obtain ⟨k0, k1⟩ := hk
      have HLb := Lib.hid (HL.out.below hbb)
      clear hbb
      go_wp2_with (first | (rw [hwb]) | (rw [hq]))
      refine (add_any HLb.out.tab HKY.out).mono ?_
      rintro e w5 ⟨rfl, ht5, hf5⟩
      have HT5 := Lib.hid ht5
      have HM5 := Lib.hid (HLb.out.frT hf5)
      by_cases hE : addE ks y = 0
      · rw [hE]
        have HEq := Lib.hid hE
        have hqm : ¬ q = mb := by
          obtain ⟨es, c, hb, _⟩ := HL.out.map
          obtain ⟨es2, c2, hb2, _⟩ := HL.out.tab.map
          have := heap_lt hb2
          omega
        have m0 := hf5.cell k0 hqm
        have m1 := hf5.cell k1 hqm
        have hin : ¬ y ∈ ks := addE_new hE
        have haT : addT ks y = ks ++ [y] := by unfold addT; rw [if_pos hE]
        rw [haT] at HT5
        obtain ⟨w6, hst, hm6, hf6, hs6⟩ := HM5.out.1.store encK_M Try.underlying59 HKY.out true
        rw [put_trues hin] at hm6
        have hst' : (Instr.mapUpdate 59 (.map (some nb)) (.agg #[.int .i64 y.c, .string y.f]) (.bool true)).run Try.prog w5 = .ok () w6 := hst
        have HL6 : Hid (LS w w6 tb mb nb (ks ++ [y])) := Lib.hid ⟨HT5.out.fr hf6 HLb.out.ne.2 HLb.out.ne.1, hm6, HLb.out.ne, HLb.out.lo, HM5.out.2.trans (hf6.below HM5.out.2.size (fun k hk e => by have := HLb.out.lo.2.2; omega))⟩
        have HF6 := Lib.hid (HF.out.add HEq.out HKY.out)
        clear hE ht5 hf5 k0 k1 hqm hst hm6 hf6 hs6 hin haT
        go_wp2_with fail
        go_roundg (gk - 1)
        case measure => have := HG.out; omega
        case rel => exact ⟨j + 1, _, by omega, by go_num, by have := HG.out; omega, HL6.out, HF6.out⟩
      · have haT : addT ks y = ks := by unfold addT; rw [if_neg hE]
        rw [haT] at ht5
        have HL6 : Hid (LS w w5 tb mb nb ks) := Lib.hid (HLb.out.keep ht5 hf5)
        obtain ⟨E, hEE⟩ : ∃ E, addE ks y = E := ⟨_, rfl⟩
        rw [hEE] at hE
        rw [hEE]
        have hE0 : (E == 0) = false := by simpa using hE
        clear ht5 hf5 k0 k1 haT hEE
        go_wp2_with fail
        go_roundg (gk - 1)
        case measure => have := HG.out; omega
        case rel => exact ⟨j + 1, _, by omega, by go_num, by have := HG.out; omega, HL6.out, HF.out⟩
    · obtain rfl : j = M := by omega
      go_wp2_with fail
      have hfew := HF.out.few
      refine (list_any HL.out.tab (by omega)).mono ?_
      rintro e w5 ⟨v5, rfl, hown, -, hb5⟩
      obtain ⟨A5, c5, rfl, hc5, hl5, hK5⟩ := KeysAt.owns hown
      obtain ⟨all, hall⟩ : ∃ all, sortK ks = all := ⟨_, rfl⟩
      rw [hall] at hK5 hl5
      have HALL := Lib.hid hall
      obtain ⟨n, hn⟩ : ∃ n, ks.length = n := ⟨_, rfl⟩
      rw [hn] at hc5 hl5 hfew
      rw [hn]
      have HN := Lib.hid hn
      have HLN := Lib.hid hl5
      have HK5 := Lib.hid hK5
      have HL5 := Lib.hid (HL.out.below hb5)
      clear hown hb5 hK5 hl5 hall hn
      go_wp2_with fail
      go_loopg [48] n (fun gk v wr => ∃ i : Nat, i ≤ n ∧ v = .int .i64 i ∧ gk + i = n ∧ Below w5.heap.size w5 wr)
      case atStart => exact ⟨0, Nat.zero_le _, rfl, rfl, Below.refl _ _⟩
      case round =>
        obtain ⟨i, hi, rfl, hg, hbw⟩ := hrel
        have HG2 := Lib.hid hg
        have HBW := Lib.hid hbw
        clear hg hbw
        by_cases hlt2 : i < n
        · have hI : (i : Int) < (n : Int) := by omega
          have hil : i < all.length := by rw [HLN.out]; exact hlt2
          obtain ⟨y, hy⟩ : ∃ y, all[i]? = some y := ⟨_, List.getElem?_eq_getElem hil⟩
          obtain ⟨ad, rfl, hc1, hc2⟩ := HK5.out i y hy
          have HY := Lib.hid hy
          have e1 := pw_below HBW.out hc1
          have e2 := pw_below HBW.out hc2
          obtain ⟨wb, hwb⟩ : ∃ wb, wr.alloc (.cells #[.int .i64 y.c, .string y.f] 48) = wb := ⟨_, rfl⟩
          have hbb : Below wr.heap.size wr wb := by rw [← hwb]; exact (Below.refl _ _).alloc (Nat.le_refl _) _
          have hk := cells_two wr (.int .i64 y.c) (.string y.f) 48
          rw [hwb] at hk
          obtain ⟨q, hq⟩ : ∃ q, wr.heap.size = q := ⟨_, rfl⟩
          rw [hq] at hk
          obtain ⟨k0, k1⟩ := hk
          have HBb := Lib.hid (HBW.out.trans (hbb.mono HBW.out.size))
          have hin : y ∈ ks := (sortK_perm ks).mem_iff.1 (by rw [HALL.out]; exact List.mem_of_getElem? hy)
          have hlk : ∀ a, (Instr.lookup 59 (.map (some nb)) (.agg #[.int .i64 y.c, .string y.f]) false).run Try.prog (wb.drewN a) = .ok (.bool true) (wb.drewN a) := by
            intro a
            have hm := (HL5.out.map.fr (S := fun _ => False) (Fr.of_below (HBb.out.trans (below_drewN a))) (fun h => h)).lookup encK_M Try.underlying59 (z := .bool false) (Try.zeroValue4 _) ((HF.out.good y hin).1)
            rw [look_trues, decide_eq_true hin] at hm
            exact hm
          have HLK := Lib.hid hlk
          clear hy hc1 hc2 hbb hlk hin
          by_cases hi0 : i = 0
          · have hI0 : ¬ 0 < i := by omega
            clear hi0
            go_wp2_with (first | (rw [hwb]) | (rw [hq]))
            go_quiet ((rw [HLK.out]; exact ⟨rfl, rfl⟩))
            have HBn := Lib.hid (HBb.out.trans (Go.Proofs.YtifdfhonhphojaaCore.below_drewN (w := wb) nq))
            go_wp2_with fail
            go_roundg (gk - 1)
            case measure => have := HG2.out; omega
            case rel => exact ⟨i + 1, by omega, by go_num, by have := HG2.out; omega, HBn.out⟩
          · obtain ⟨p, hp⟩ : ∃ p, i = p + 1 := ⟨i - 1, by omega⟩
            have hpl : p < all.length := by omega
            obtain ⟨z, hz⟩ : ∃ z, all[p]? = some z := ⟨_, List.getElem?_eq_getElem hpl⟩
            obtain ⟨ad2, hae, hd1, hd2⟩ := HK5.out p z hz
            injection hae with hae
            subst hae
            have f1 := pw_below HBb.out hd1
            have f2 := pw_below HBb.out hd2
            have hlt0 : ltK z y = true := by
              have h1 := (sortK_strict HF.out.nodup)
              rw [HALL.out] at h1
              have h2 := List.pairwise_iff_getElem.1 h1 p i (by omega) (by omega) (by omega)
              rw [List.getElem?_eq_getElem hpl] at hz
              have h3 := HY.out
              rw [List.getElem?_eq_getElem hil] at h3
              injection hz with hz
              injection h3 with h3
              rwa [hz, h3] at h2
            have hw1 : IntKind.i64.wrap ((i : Int) - 1) = (p : Int) := by rw [IntWalk.i64_in _ (by omega)]; omega
            have hI0 : 0 < i := by omega
            have hpn : p < n := by omega
            have HP := Lib.hid hp
            clear hp hpl hz hd1 hd2 hi0
            rcases (lt_iff z y).1 hlt0 with hA | ⟨hA, hA2⟩
            · have hq1 : ¬ (y.c < z.c) := by omega
              have hq2 : ¬ (z.c = y.c) := by omega
              clear hlt0
              go_wp2_with (first | (rw [hwb]) | (rw [hq]))
              go_quiet ((rw [HLK.out]; exact ⟨rfl, rfl⟩))
              have HBn := Lib.hid (HBb.out.trans (Go.Proofs.YtifdfhonhphojaaCore.below_drewN (w := wb) nq))
              go_wp2_with fail
              go_roundg (gk - 1)
              case measure => have := HG2.out; omega
              case rel => exact ⟨i + 1, by omega, by go_num, by have := HG2.out; omega, HBn.out⟩
            · have hA3 : Op.bytesLess z.f.toList y.f.toList = true := hA2
              have hge : ∀ a, (binOp .geq 9 (.string z.f) (.string y.f)).run Try.prog (wb.drewN a) = .ok (.bool false) (wb.drewN a) := fun a => geq_no hA3 _ _
              have HGE := Lib.hid hge
              clear hlt0 hA2 hA3 hge
              go_wp2_with (first | (rw [hwb]) | (rw [hq]))
              go_quiet ((first | (rw [HLK.out]; exact ⟨rfl, rfl⟩) | (rw [HGE.out]; exact ⟨rfl, rfl⟩)))
              have HBn := Lib.hid (HBb.out.trans (Go.Proofs.YtifdfhonhphojaaCore.below_drewN (w := wb) nq))
              go_wp2_with fail
              go_roundg (gk - 1)
              case measure => have := HG2.out; omega
              case rel => exact ⟨i + 1, by omega, by go_num, by have := HG2.out; omega, HBn.out⟩
        · obtain rfl : n = i := by omega
          have hlr := HL5.out.below HBW.out
          have hln := hlr.map.len Try.underlying59 3
          rw [show (trues ks).length = n by rw [← HN.out]; simp [trues]] at hln
          have hln' : (Builtin.len_ #[59] 3 #[Value.map (some nb)]).run Try.prog wr = .ok (.int .i64 n) wr := hln
          have HLR := Lib.hid hlr
          have HKR := Lib.hid (HK5.out.below HBW.out)
          clear hln hlr hlt2
          by_cases hn0 : n = 0
          · subst hn0
            go_wp2_with fail
            refine bodyPost_ret (v := .bool true) (by simp [results, Try.results8, go_sem]) rfl ⟨rfl, HLR.out.bel⟩
          · have hn1 : 0 < n := by omega
            have hnb : ((n : Int) == 0) = false := by simpa using hn0
            obtain ⟨p, hp⟩ : ∃ p : Nat, max 0 at_ % (n : Int) = (p : Int) := ⟨(max 0 at_ % (n : Int)).toNat, by have := Int.emod_nonneg (max 0 at_) (show (n : Int) ≠ 0 by omega); omega⟩
            have hpn : p < n := by have := Int.emod_lt_of_pos (max 0 at_) (show (0 : Int) < n by omega); omega
            obtain ⟨y, hy⟩ : ∃ y, all[p]? = some y := ⟨_, List.getElem?_eq_getElem (by rw [HLN.out]; exact hpn)⟩
            obtain ⟨ad, rfl, hc1, hc2⟩ := HKR.out p y hy
            have hyk : y ∈ ks := (sortK_perm ks).mem_iff.1 (by rw [HALL.out]; exact List.mem_of_getElem? hy)
            have HYK := Lib.hid hyk
            have HKY := Lib.hid (HF.out.good y hyk).1
            obtain ⟨wb, hwb⟩ : ∃ wb, wr.alloc (.cells #[.int .i64 y.c, .string y.f] 48) = wb := ⟨_, rfl⟩
            have hbb : Below wr.heap.size wr wb := by rw [← hwb]; exact (Below.refl _ _).alloc (Nat.le_refl _) _
            have hk := cells_two wr (.int .i64 y.c) (.string y.f) 48
            rw [hwb] at hk
            obtain ⟨q, hq⟩ : ∃ q, wr.heap.size = q := ⟨_, rfl⟩
            rw [hq] at hk
            obtain ⟨k0, k1⟩ := hk
            have HLb := Lib.hid (HLR.out.below hbb)
            have HKb := Lib.hid (HKR.out.below hbb)
            have hqm : ¬ q = mb := by
              obtain ⟨es, c, hb, _⟩ := HLR.out.tab.map
              have := heap_lt hb
              omega
            clear hy hbb hyk hn0
            go_wp2_with (first | (rw [hwb]) | (rw [hq]))
            refine (drop_any HLb.out.tab HKY.out).mono ?_
            rintro e w6 ⟨rfl, ht6, hf6⟩
            rw [show dropE ks y = 0 from by unfold dropE; rw [if_pos HYK.out]]
            have HT6 := Lib.hid ht6
            have HB6 := Lib.hid (HLb.out.frT hf6).2
            have HK6 := Lib.hid (keys_fr HKb.out HLb.out.tab.map hf6)
            have m0 := hf6.cell k0 hqm
            have m1 := hf6.cell k1 hqm
            clear ht6 hf6 k0 k1 hwb hq hc1 hc2
            go_wp2_with fail
            refine (has_any HT6.out HKY.out).mono ?_
            rintro e w7 ⟨rfl, hb7⟩
            have hno : ¬ y ∈ ks.erase y := by rw [HF.out.nodup.mem_erase_iff]; exact fun h => h.1 rfl
            rw [decide_eq_false hno]
            have HT7 := Lib.hid (HT6.out.below hb7)
            have HK7 := Lib.hid (HK6.out.below hb7)
            have HB7 := Lib.hid (HB6.out.trans (hb7.mono HB6.out.size))
            have m0 := pw_below hb7 m0
            have m1 := pw_below hb7 m1
            clear hb7 hno
            go_wp2_with fail
            have hel : (ks.erase y).length = n - 1 := by rw [List.length_erase_of_mem HYK.out, HN.out]
            refine (list_any HT7.out (by rw [hel]; omega)).mono ?_
            rintro e w8 ⟨v8, rfl, hown, -, hb8⟩
            obtain ⟨A8, c8, rfl, hc8, -, -⟩ := KeysAt.owns hown
            rw [hel]
            have hw1 : IntKind.i64.wrap ((n : Int) - 1) = ((n - 1 : Nat) : Int) := by rw [IntWalk.i64_in _ (by omega)]; omega
            have hw2 : ((n - 1 : Nat) : Int) = (n : Int) - 1 := by omega
            have HT8 := Lib.hid (HT7.out.below hb8)
            have HK8 := Lib.hid (HK7.out.below hb8)
            have HB8 := Lib.hid (HB7.out.trans (hb8.mono HB7.out.size))
            have m0 := pw_below hb8 m0
            have m1 := pw_below hb8 m1
            clear hown hb8 hel hw1 hc8
            go_wp2_with fail
            have hgd := HF.out.good y HYK.out
            have hea := addE_again HF.out.nodup HYK.out hgd.2.1 hgd.2.2 (by rw [HN.out]; exact hfew)
            have haT : addT (ks.erase y) y = ks.erase y ++ [y] := by unfold addT; rw [if_pos hea]
            have hel : (ks.erase y ++ [y]).length = n := by rw [List.length_append, List.length_erase_of_mem HYK.out, HN.out, List.length_singleton]; omega
            have hag := again HF.out.nodup HYK.out
            refine (add_any HT8.out HKY.out).mono ?_
            rintro e w9 ⟨rfl, ht9, hf9⟩
            rw [haT] at ht9
            rw [hea]
            have HT9 := Lib.hid ht9
            have HB9 := Lib.hid (HB8.out.trans (hf9.below HB8.out.size (fun k hk e => by have := HLb.out.lo.2.1; omega)))
            have HK9 := Lib.hid (keys_fr HK8.out HT8.out.map hf9)
            have HEL := Lib.hid hel
            have HAG := Lib.hid hag
            clear m0 m1 hgd hea haT ht9 hf9 hag hel
            go_wp2_with fail
            refine (list_any HT9.out (by rw [HEL.out]; omega)).mono ?_
            rintro e w10 ⟨v10, rfl, hown, -, hb10⟩
            rw [HAG.out, HALL.out] at hown
            obtain ⟨A10, c10, rfl, hc10, -, hK10⟩ := KeysAt.owns hown
            rw [HEL.out] at hc10
            rw [HEL.out]
            have HK10 := Lib.hid hK10
            have HKA := Lib.hid (HK9.out.below hb10)
            have HB10 := Lib.hid (HB9.out.trans (hb10.mono HB9.out.size))
            clear hown hb10 hK10
            go_wp2_with fail
            go_loopg [145] n (fun gk v wr => ∃ i : Nat, i ≤ n ∧ v = .int .i64 i ∧ gk + i = n ∧ Below w10.heap.size w10 wr)
            case atStart => exact ⟨0, Nat.zero_le _, rfl, rfl, Below.refl _ _⟩
            case round =>
              obtain ⟨i, hi, rfl, hg, hbw⟩ := hrel
              have HG3 := Lib.hid hg
              have HBW3 := Lib.hid hbw
              clear hg hbw
              by_cases hlt3 : i < n
              · obtain ⟨x, hx⟩ : ∃ x, all[i]? = some x := ⟨_, List.getElem?_eq_getElem (by rw [HLN.out]; exact hlt3)⟩
                obtain ⟨a10, rfl, hc1, hc2⟩ := HK10.out i x hx
                obtain ⟨a2, hae, hd1, hd2⟩ := HKA.out i x hx
                injection hae with hae
                subst hae
                have e1 := pw_below HBW3.out hc1
                have e2 := pw_below HBW3.out hc2
                obtain ⟨xc, xf⟩ := x
                simp only at e1 e2 hd1 hd2
                obtain ⟨wd, hwd⟩ : ∃ wd, wr.alloc (.cells #[.int .i64 xc, .string xf] 48) = wd := ⟨_, rfl⟩
                have hbb : Below wr.heap.size wr wd := by rw [← hwd]; exact (Below.refl _ _).alloc (Nat.le_refl _) _
                have hk := cells_two wr (.int .i64 xc) (.string xf) 48
                rw [hwd] at hk
                obtain ⟨q3, hq3⟩ : ∃ q3, wr.heap.size = q3 := ⟨_, rfl⟩
                rw [hq3] at hk
                obtain ⟨k0, k1⟩ := hk
                have HBd := Lib.hid (HBW3.out.trans (hbb.mono HBW3.out.size))
                have f1 := pw_below HBd.out hd1
                have f2 := pw_below HBd.out hd2
                have hqe := fun a => ne_if ⟨xc, xf⟩ ⟨xc, xf⟩ (wd.drewN a)
                simp only [show (!decide ((⟨xc, xf⟩ : GKey) = ⟨xc, xf⟩)) = false by simp] at hqe
                have HQ := Lib.hid hqe
                have hIn : i < n := hlt3
                clear hx hc1 hc2 hd1 hd2 hbb hqe hlt3
                go_wp2_with (first | (rw [hwd]) | (rw [hq3]))
                go_quiet ((rw [HQ.out]; exact ⟨rfl, rfl⟩))
                have HBn := Lib.hid (HBd.out.trans (Go.Proofs.YtifdfhonhphojaaCore.below_drewN (w := wd) nq))
                go_wp2_with fail
                go_roundg (gk - 1)
                case measure => have := HG3.out; omega
                case rel => exact ⟨i + 1, by omega, by go_num, by have := HG3.out; omega, HBn.out⟩
              · obtain rfl : n = i := by omega
                go_wp2_with fail
                exact bodyPost_ret (v := .bool true) (by simp [results, Try.results8, go_sem]) rfl ⟨rfl, HB10.out.trans (HBW3.out.mono HB10.out.size)⟩

def keyK : Kd (Int × ByteArray) := Kd.pair (Kd.int .i64) Kd.string
def toK (x : Int × ByteArray) : GKey := ⟨x.1, x.2⟩
theorem keys_of {w : World} {A : Option Addr} {n : Nat} {xs : List (Int × ByteArray)} (h : keyK.C w A n xs) : KeysAt w A (xs.map toK) := by
  obtain ⟨hl, _, hc⟩ := h
  intro i e hi
  rw [List.getElem?_map] at hi
  cases he : xs[i]? with
  | none => rw [he] at hi; cases hi
  | some e0 =>
    rw [he] at hi
    injection hi with hi
    subst hi
    have hil := (List.getElem?_eq_some_iff.1 he).1
    obtain ⟨ad, ha, hc⟩ := hc (by omega)
    obtain ⟨c, _, hr, hcell⟩ := hc i e0 he
    obtain ⟨c2, c3, rfl, h2, h3⟩ := hr
    obtain rfl : c2 = [.int .i64 e0.1] := h2
    obtain rfl : c3 = [.string e0.2] := h3
    refine ⟨ad, ha, hcell 0 _ rfl, ?_⟩
    exact (congrArg w.cell? (add_field ad (i * 2) 1 (by decide))).symm.trans (hcell 1 _ rfl)

theorem law2 (A : Option Addr) (cc : Nat) (xs : List (Int × ByteArray)) (at_ : Int) (w : World) (hC : keyK.C w A xs.length xs) (hcc : xs.length ≤ cc) (ha : (Lit.int .i64 at_).wf = true) (hoks : ∀ x ∈ xs, (Lit.int .i64 x.1).wf = true ∧ x.2.size ≤ 140737488351232) :
    Calls Try.prog 8 #[.slice A xs.length cc, .int .i64 at_] w fun e w' => e = .returned (.bool true) ∧ Below w.heap.size w w' := by
  have h := law A cc (xs.map toK) at_ w (keys_of hC) (by rw [List.length_map]; exact hcc) (by rw [List.length_map]; exact hC.2.1) (fun x hx => by
    obtain ⟨y, hy, rfl⟩ := List.mem_map.1 hx
    have := hoks y hy
    exact ⟨this.1, by have := this.2; show y.2.size ≤ maxLen; unfold maxLen; omega⟩) ha
  rw [List.length_map] at h
  exact h

end Go.Proofs.Ytifdfhonhphojaa.Gl
