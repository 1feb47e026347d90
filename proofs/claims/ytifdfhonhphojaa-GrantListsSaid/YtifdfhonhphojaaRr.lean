/- The document's Reach. -/
import Derived.Test.YtifdfhonhphojaaRi
namespace Go.Proofs.Ytifdfhonhphojaa.Rr
open Go Go.RowKit Go.Proofs.YtifdfhonhphojaaCore Go.Proofs.Ytifdfhonhphojaa.Fr Go.Proofs.Ytifdfhonhphojaa.Rp Go.Proofs.Ytifdfhonhphojaa.Rw Go.Proofs.Ytifdfhonhphojaa.Oi Go.Proofs.Ytifdfhonhphojaa.Ri

theorem own_mono {T base base' : Nat} {w : World} {v : Value} {xs : List Int} (h : OwnI T w base v xs) (hb : base' ≤ base) : OwnI T w base' v xs :=
  ⟨h.1, h.2.imp id fun ⟨g, cap, cur, h1, h2, h3⟩ => ⟨g, cap, cur, h1, Nat.le_trans hb h2, h3⟩⟩
theorem fold_take {es : Edges} {i : Nat} {e : Int × Int} (h : es[i]? = some e) (out : List Int) : (es.take (i + 1)).foldl stepR out = stepR ((es.take i).foldl stepR out) e := by
  have hj := (List.getElem?_eq_some_iff.1 h).1
  rw [List.take_succ_eq_append_getElem hj]
  have : es[i] = e := by rw [List.getElem?_eq_getElem hj] at h; injection h
  rw [this, List.foldl_append]
  rfl
theorem step_len (out : List Int) (e : Int × Int) : (stepR out e).length ≤ out.length + 1 := by
  unfold stepR
  split
  · rw [ins_len]; exact Nat.le_refl _
  · split
    · rw [ins_len]; exact Nat.le_refl _
    · omega
theorem fold_len : ∀ (l : Edges) (out : List Int), (l.foldl stepR out).length ≤ out.length + l.length
  | [], _ => by simp
  | e :: l, out => by
    have h1 := fold_len l (stepR out e)
    have h2 := step_len out e
    rw [List.foldl_cons, List.length_cons]
    omega
theorem rounds_len (es : Edges) : ∀ (k : Nat) (out : List Int), (rounds es k out).length ≤ out.length + k * es.length
  | 0, _ => by simp [rounds]
  | k + 1, out => by
    have h1 := rounds_len es k (roundR es out)
    have h2 := fold_len es out
    unfold rounds
    unfold roundR at h1 ⊢
    rw [Nat.add_mul, Nat.one_mul]
    omega

structure KInv (es : Edges) (a : Int) (w : World) (gk : Nat) (o v : Value) (wr : World) (k : Nat) : Prop where
  hi : k ≤ es.length + 1
  slot : v = .int .i64 k
  ghost : gk + k = es.length + 1
  own : OwnI 3 wr w.heap.size o (rounds es k [a])
  bel : Below w.heap.size w wr
def KRel (es : Edges) (a : Int) (w : World) (gk : Nat) (o v : Value) (wr : World) : Prop := ∃ k, KInv es a w gk o v wr k
structure JInv (es : Edges) (w : World) (out0 : List Int) (gk : Nat) (o v : Value) (wr : World) (i : Nat) : Prop where
  hi : i ≤ es.length
  slot : v = .int .i64 i
  ghost : gk + i = es.length
  own : OwnI 3 wr w.heap.size o ((es.take i).foldl stepR out0)
  bel : Below w.heap.size w wr
def JRel (es : Edges) (w : World) (out0 : List Int) (gk : Nat) (o v : Value) (wr : World) : Prop := ∃ i, JInv es w out0 gk o v wr i

set_option maxHeartbeats 16000000 in
set_option maxRecDepth 100000 in
theorem rreach_any (a : Int) (A : Option Addr) (cc : Nat) (es : Edges) (w : World) (hE : EdgesAt w A es) (hl : es.length ≤ 500) :
    Calls Try.prog 12 #[.int .i64 a, .slice A es.length cc] w fun e w' => ∃ v, e = .returned v ∧ OwnI 3 w' w.heap.size v (rounds es (es.length + 1) [a]) ∧ Below w.heap.size w w' := by
  have HE := Lib.hid hE
  obtain ⟨M, hM⟩ : ∃ M, es.length = M := ⟨_, rfl⟩
  have HM := Lib.hid hM
  rw [hM] at hl
  obtain ⟨w1, hw1⟩ : ∃ w1, w.alloc (.cells #[.int .i64 a] 3) = w1 := ⟨_, rfl⟩
  have ho : OwnI 3 w1 w.heap.size (.slice (some ⟨w.heap.size, 0, none⟩) 1 1) [a] := by
    rw [← hw1]
    exact ⟨rfl, .inr ⟨w.heap.size, 1, _, rfl, Nat.le_refl _, heap_alloc_new _ _, Nat.le_refl _, by unfold maxLen; omega, rfl, rfl⟩⟩
  have hb1 : Below w.heap.size w w1 := by rw [← hw1]; exact (Below.refl _ _).alloc (Nat.le_refl _) _
  have HO := Lib.hid ho
  have HB1 := Lib.hid hb1
  clear hE ho hb1
  rw [hM]
  clear hM
  go_enter Try.func12, Try.ntmps12
  go_wp2_with (rw [hw1])
  go_loopg [5, 6] (M + 1) (fun gk o v wr => KRel es a w gk o v wr)
  case atStart => exact ⟨0, ⟨Nat.zero_le _, rfl, by rw [HM.out], HO.out, HB1.out⟩⟩
  case round =>
    obtain ⟨k, hk, rfl, hg, hown, hbel⟩ := hrel
    rw [HM.out] at hk hg
    have HG := Lib.hid hg
    have HOW := Lib.hid hown
    have HB := Lib.hid hbel
    clear hg hown hbel HO HB1 hw1
    by_cases hlt : k ≤ M
    · have hI : (k : Int) ≤ (M : Int) := by omega
      have hrl : (rounds es k [a]).length ≤ 300000 := by
        have h := rounds_len es k [a]
        have h2 : k * es.length ≤ 500 * 500 := Nat.mul_le_mul (by omega) (by rw [HM.out]; exact hl)
        rw [List.length_singleton] at h
        omega
      go_wp2_with fail
      obtain ⟨gO, rfl⟩ : ∃ gO : Nat, gO = gk := ⟨_, rfl⟩
      obtain ⟨wo, rfl⟩ : ∃ wo : World, wo = wr := ⟨_, rfl⟩
      go_loopg [5, 7] M (fun gk o v wr => JRel es w (rounds es k [a]) gk o v wr)
      case atStart => exact ⟨0, ⟨Nat.zero_le _, rfl, by rw [HM.out]; rfl, HOW.out, HB.out⟩⟩
      case round =>
        obtain ⟨i, hi, rfl, hgi, howi, hbi⟩ := hrel
        rw [HM.out] at hi hgi
        have HGI := Lib.hid hgi
        have HOI := Lib.hid howi
        have HBI := Lib.hid hbi
        clear hgi howi hbi
        obtain ⟨out, hout⟩ : ∃ out, (es.take i).foldl stepR (rounds es k [a]) = out := ⟨_, rfl⟩
        have hol : out.length ≤ 400000 := by
          have h := fold_len (es.take i) (rounds es k [a])
          rw [hout] at h
          have h2 : (es.take i).length ≤ M := by rw [List.length_take]; omega
          omega
        have HOUT := Lib.hid hout
        rw [hout] at HOI
        clear hout
        by_cases hlti : i < M
        · have hiI : (i : Int) < (M : Int) := by omega
          have hil : i < es.length := by rw [HM.out]; exact hlti
          obtain ⟨⟨ea, eb⟩, hei⟩ : ∃ e, es[i]? = some e := ⟨_, List.getElem?_eq_getElem hil⟩
          obtain ⟨ad, rfl, k0, k1⟩ := HE.out i _ hei
          have m0 := pw_below HBI.out k0
          have m1 := pw_below HBI.out k1
          have HEI := Lib.hid hei
          have hints := (IntsAt.owns HOI.out).2
          have HIN := Lib.hid hints
          simp only at m0 m1
          clear hei k0 k1 hints
          go_wp2_with fail
          refine (in_any HIN.out ea (by omega)).mono ?_
          rintro e w' ⟨rfl, rfl⟩
          obtain ⟨ba, hba⟩ : ∃ ba, decide (ea ∈ out) = ba := ⟨_, rfl⟩
          rw [hba]
          have HBA := Lib.hid hba
          clear hba
          go_wp2_with fail
          refine (in_any HIN.out eb (by omega)).mono ?_
          rintro e w' ⟨rfl, rfl⟩
          obtain ⟨bb, hbb⟩ : ∃ bb, decide (eb ∈ out) = bb := ⟨_, rfl⟩
          rw [hbb]
          have HBB := Lib.hid hbb
          clear hbb
          have hstep : (es.take (i + 1)).foldl stepR (rounds es k [a]) = if ba = true ∧ bb = false then ins out eb else if bb = true ∧ ba = false then ins out ea else out := by
            rw [fold_take HEI.out, HOUT.out]
            unfold stepR
            simp only
            have e1 : ea ∈ out ↔ ba = true := by rw [← HBA.out]; simp
            have e2 : eb ∈ out ↔ bb = true := by rw [← HBB.out]; simp
            simp only [e1, e2, Bool.not_eq_true]
          have HST := Lib.hid hstep
          clear hstep
          cases ba <;> cases bb
          · have h := HST.out
            rw [if_neg (by simp), if_neg (by simp)] at h
            have HF := Lib.hid h
            clear h
            go_wp2_with fail
            go_roundg (gk - 1)
            case measure => have := HGI.out; omega
            case rel => exact ⟨i + 1, ⟨by rw [HM.out]; omega, by go_num, by have := HGI.out; rw [HM.out]; omega, by rw [HF.out]; exact HOI.out, HBI.out⟩⟩
          · have h := HST.out
            rw [if_neg (by simp), if_pos (by simp)] at h
            have HF := Lib.hid h
            clear h
            go_wp2_with fail
            refine (with_any HIN.out ea (by omega)).mono ?_
            rintro e w3 ⟨v3, rfl, ho3, hb3⟩
            have HO3 := Lib.hid (own_mono ho3 HBI.out.size)
            have HB3 := Lib.hid (HBI.out.trans (hb3.mono HBI.out.size))
            clear ho3 hb3
            go_wp2_with fail
            go_roundg (gk - 1)
            case measure => have := HGI.out; omega
            case rel => exact ⟨i + 1, ⟨by rw [HM.out]; omega, by go_num, by have := HGI.out; rw [HM.out]; omega, by rw [HF.out]; exact HO3.out, HB3.out⟩⟩
          · have h := HST.out
            rw [if_pos (by simp)] at h
            have HF := Lib.hid h
            clear h
            go_wp2_with fail
            refine (with_any HIN.out eb (by omega)).mono ?_
            rintro e w3 ⟨v3, rfl, ho3, hb3⟩
            have HO3 := Lib.hid (own_mono ho3 HBI.out.size)
            have HB3 := Lib.hid (HBI.out.trans (hb3.mono HBI.out.size))
            clear ho3 hb3
            go_wp2_with fail
            go_roundg (gk - 1)
            case measure => have := HGI.out; omega
            case rel => exact ⟨i + 1, ⟨by rw [HM.out]; omega, by go_num, by have := HGI.out; rw [HM.out]; omega, by rw [HF.out]; exact HO3.out, HB3.out⟩⟩
          · have h := HST.out
            rw [if_neg (by simp), if_neg (by simp)] at h
            have HF := Lib.hid h
            clear h
            go_wp2_with fail
            go_roundg (gk - 1)
            case measure => have := HGI.out; omega
            case rel => exact ⟨i + 1, ⟨by rw [HM.out]; omega, by go_num, by have := HGI.out; rw [HM.out]; omega, by rw [HF.out]; exact HOI.out, HBI.out⟩⟩
        · obtain rfl : i = M := by omega
          have hall : rounds es (k + 1) [a] = out := by
            rw [Rp.rounds_succ, roundR, ← HOUT.out, List.take_of_length_le (by rw [HM.out]; exact Nat.le_refl _)]
          have HA := Lib.hid hall
          clear hall
          go_wp2_with fail
          go_roundg (gO - 1)
          case measure => have := HG.out; omega
          case rel => exact ⟨k + 1, ⟨by rw [HM.out]; omega, by go_num, by have := HG.out; rw [HM.out]; omega, by rw [HA.out]; exact HOI.out, HBI.out⟩⟩
    · obtain rfl : k = M + 1 := by omega
      go_wp2_with fail
      go_ret
      exact ⟨_, rfl, HOW.out, HB.out⟩

end Go.Proofs.Ytifdfhonhphojaa.Rr
