/- The program's disk: none, Image, slices.Repeat. -/
import Derived.Test.YtekpbpcfeopilaaDn
import Derived.Test.YtekpbpcfeopilaaShelf
namespace Go.Proofs.Ytekpbpcfeopilaa.Dp
open Go Go.RowKit Go.Joins Go.Proofs.YtekpbpcfeopilaaCore Go.Proofs.Ytekpbpcfeopilaa.Dm Go.Proofs.Ytekpbpcfeopilaa.Dr Go.Proofs.Ytekpbpcfeopilaa.Da Go.Proofs.Ytekpbpcfeopilaa.Df Go.Proofs.Ytekpbpcfeopilaa.Dg Go.Proofs.Ytekpbpcfeopilaa.Dh Go.Proofs.Ytekpbpcfeopilaa.Di Go.Proofs.Ytekpbpcfeopilaa.Dj Go.Proofs.Ytekpbpcfeopilaa.Dk Go.Proofs.Ytekpbpcfeopilaa.Dl Go.Proofs.Ytekpbpcfeopilaa.Dn Go.Proofs.YtekpbpcfeopilaaW.PrintWords Go.Proofs.YtekpbpcfeopilaaW.PrintLast Go.Proofs.YtekpbpcfeopilaaW.PrintMore

theorem noneS_size : noneS.size = 64 := by rfl

set_option maxHeartbeats 4000000 in
set_option maxRecDepth 100000 in
theorem none_any (w : World) : Calls Try.prog 42 #[] w fun e w' => e = .returned (.string noneS) ∧ Below w.heap.size w w' := by
  go_enter Try.func42, Try.ntmps42
  go_wp2_with fail
  refine (Try.strings_Repeat ⟨#[0]⟩ 64 w (by omega) (by show 1 * 64 ≤ _; omega)).mono ?_
  rintro e w1 ⟨rfl, hb1⟩
  have e : (⟨(Lib.repeatL (⟨#[0]⟩ : ByteArray).data.toList 64).toArray⟩ : ByteArray) = noneS := by rfl
  rw [e]
  go_wp2_with fail
  exact bodyPost_ret (v := .string noneS) (by simp [results, Try.results42, go_sem]) rfl ⟨rfl, hb1⟩

/-! Image -/
def catB (l : List ByteArray) : ByteArray := ⟨(l.map (·.data.toList)).flatten.toArray⟩
def imageM (m : MDisk) (n : Int) : ByteArray := if 0 ≤ n then ((m.regs[n.toNat]?).map (fun r => catB r.lasts)).getD ⟨#[]⟩ else ⟨#[]⟩

theorem join_nil_sep (l : List (List UInt8)) : Lib.join l [] = l.flatten := by
  simp [Lib.join, List.intercalate]
  induction l with
  | nil => rfl
  | cons a l ih =>
    cases l with
    | nil => simp
    | cons b l => simp [List.intersperse] at ih ⊢; exact ih

theorem flat_len (l : List ByteArray) (h : ∀ s ∈ l, s.size = 64) : (l.map (·.data.toList)).flatten.length = 64 * l.length := by
  induction l with
  | nil => rfl
  | cons a l ih =>
    have h1 : a.data.toList.length = 64 := by rw [data_length]; exact h a (by simp)
    simp only [List.map_cons, List.flatten_cons, List.length_append, List.length_cons, h1, ih (fun s hs => h s (by simp [hs]))]
    omega

set_option maxHeartbeats 4000000 in
set_option maxRecDepth 100000 in
theorem image_nil (n : Int) (w : World) : Calls Try.prog 23 #[.pointer none, .int .i64 n] w fun e w' => e = .returned (.string ⟨#[]⟩) ∧ Below w.heap.size w w' := by
  go_enter Try.func23, Try.ntmps23
  go_wp2_with fail
  refine (at_nil _ _).mono ?_
  rintro e w1 ⟨rfl, hb1⟩
  go_wp2_with fail
  exact bodyPost_ret (v := .string ⟨#[]⟩) (by simp [results, Try.results23, go_sem]) rfl ⟨rfl, hb1⟩

set_option maxHeartbeats 4000000 in
set_option maxRecDepth 100000 in
theorem image_any {G : Nat → Nat} {c : Nat} {w : World} {b : Nat} {m : MDisk} {rv kv : Value} {gs : List Nat} (h : Lies TP G c w b m rv kv gs) {N : Nat} (hm : Wf N m) (n : Int) :
    Calls Try.prog 23 #[.pointer (some ⟨b, 0, none⟩), .int .i64 n] w fun e w' => e = .returned (.string (imageM m n)) ∧ Below w.heap.size w w' := by
  have H := Lib.hid h
  have HM := Lib.hid hm
  clear h hm
  by_cases hn : 0 ≤ n ∧ n < m.regs.length
  · obtain ⟨k, rfl⟩ : ∃ k : Nat, n = (k : Int) := ⟨n.toNat, by omega⟩
    have hk1 : k < m.regs.length := by omega
    obtain ⟨g, eg, _⟩ := H.out.regs k hk1
    have ep : regP gs (k : Int) = some ⟨g, 0, none⟩ := by rw [regP_nat, eg]; rfl
    have EP := Lib.hid ep
    have EG := Lib.hid eg
    have ev : Hid (imageM m (k : Int) = catB m.regs[k].lasts) := by show _ = _; unfold imageM; rw [if_pos hn.1, Int.toNat_natCast]; simp [hk1]
    clear ep eg hn
    go_enter Try.func23, Try.ntmps23
    go_wp2_with fail
    refine (at_any H.out (k : Int)).mono ?_
    rintro e w1 ⟨rfl, hb1⟩
    rw [EP.out]
    have H1 := Lib.hid (H.out.below hb1)
    obtain ⟨g2, hg2, hr⟩ := H1.out.regs k hk1
    rw [EG.out] at hg2
    obtain rfl : g = g2 := by simpa using hg2
    obtain ⟨_, lv, qv, hb, hl, hq⟩ := hr
    have hW := HM.out.regs _ (List.getElem_mem hk1)
    obtain ⟨r, hr0⟩ : ∃ r, m.regs[k] = r := ⟨_, rfl⟩
    rw [hr0] at hl hq hW ev
    by_cases h0 : r.lasts = []
    · rw [h0] at hl
      obtain ⟨A, cc, rfl, _, _⟩ := Kd.R_reads hl
      have hx0 : w1.cell? ⟨g, 0, none⟩ = some (.slice A 0 cc) := cell_of_block hb 0
      have ev2 : Hid (imageM m (k : Int) = ⟨#[]⟩) := by show _ = _; rw [ev.out, h0]; rfl
      clear hl hq hb hg2 hr0 h0 hW
      go_wp2_with fail
      refine (Try.strings_Join_none A cc ⟨#[]⟩ w1).mono ?_
      rintro e w2 ⟨rfl, rfl⟩
      go_wp2_with fail
      exact bodyPost_ret (v := .string ⟨#[]⟩) (by simp [results, Try.results23, go_sem]) rfl ⟨by rw [ev2.out], hb1⟩
    · have hpos : 0 < r.lasts.length := List.length_pos_iff.2 h0
      obtain ⟨q, cap, rfl, _, hqlt, _⟩ := Kd.R_form hl hpos
      obtain ⟨_, hcap, hC⟩ := Kd.R_reads' hl
      have hx0 : w1.cell? ⟨g, 0, none⟩ = some (.slice (some ⟨q, 0, none⟩) r.lasts.length cap) := cell_of_block hb 0
      have hcells : ∀ (j : Nat) x, r.lasts[j]? = some x → w1.cell? ⟨q, 0 + j, none⟩ = some (.string x) := fun j x hj => by
        have hjl := (List.getElem?_eq_some_iff.1 hj).1
        obtain ⟨ad, had, hx⟩ := Kd.at_string hC (j : Int) (by omega) (by omega)
        injection had with had
        subst had
        rw [Int.toNat_natCast, Addr.add_plain0] at hx
        have e : rdOf ByteArray.empty r.lasts (j : Int) = x := by simp [rdOf, hj]
        rw [e] at hx
        rw [Nat.zero_add]
        exact hx
      have HCE := Lib.hid hcells
      have hfl := flat_len r.lasts hW.l64
      have hfew := hW.few
      have HFL := Lib.hid hfl
      clear hl hq hb hg2 hr0 h0 hW hC hcells hfl
      go_wp2_with fail
      refine (Try.strings_Join q 0 cap r.lasts ⟨#[]⟩ w1 HCE.out hqlt (by omega) (by omega) (by
        show (Lib.join _ []).length ≤ _
        rw [join_nil_sep, HFL.out]
        omega)).mono ?_
      rintro e w2 ⟨rfl, hb2⟩
      have ej : (⟨(Lib.join (r.lasts.map (·.data.toList)) (⟨#[]⟩ : ByteArray).data.toList).toArray⟩ : ByteArray) = catB r.lasts := by
        show (⟨(Lib.join (r.lasts.map (·.data.toList)) []).toArray⟩ : ByteArray) = _
        rw [join_nil_sep]
        rfl
      rw [ej]
      clear ej
      go_wp2_with fail
      exact bodyPost_ret (v := .string (catB r.lasts)) (by simp [results, Try.results23, go_sem]) rfl ⟨by rw [ev.out], hb1.trans (hb2.mono hb1.size)⟩
  · have ev : Hid (imageM m n = ⟨#[]⟩) := by
      show _ = _
      unfold imageM
      split
      · rw [List.getElem?_eq_none (by omega)]; rfl
      · rfl
    have ep : regP gs n = none := by
      by_cases h0 : n < 0
      · exact regP_neg h0
      · obtain ⟨k, rfl⟩ : ∃ k : Nat, n = (k : Int) := ⟨n.toNat, by omega⟩
        rw [regP_nat, List.getElem?_eq_none (by have := H.out.len; omega)]
        rfl
    have EP := Lib.hid ep
    clear ep hn
    go_enter Try.func23, Try.ntmps23
    go_wp2_with fail
    refine (at_any H.out n).mono ?_
    rintro e w1 ⟨rfl, hb1⟩
    rw [EP.out]
    go_wp2_with fail
    exact bodyPost_ret (v := .string ⟨#[]⟩) (by simp [results, Try.results23, go_sem]) rfl ⟨by rw [ev.out], hb1⟩

end Go.Proofs.Ytekpbpcfeopilaa.Dp
