/- The program's disk: none; The program's disk: slices.Repeat of one text, New; A region that draws its order, whose last operations write what its loads read: a condition S on the world is kept till operation t comes up. Over no program. (After the shape of the library's law for regions whose loads are held.); The program's disk: New; The program's disk: Lay; What was made stays well made; plain; The statements' own: wakes; DiskNil; Several disks beside one another, and what is none of theirs. -/
import Derived.Test.YtekpbpcfeopilaaDoorK1
import Derived.Test.YtekpbpcfeopilaaDoorShelf
import Derived.Deep.RegionLaw
import Derived.OrdersHeld
import Derived.Deep.RegionHeld

set_option linter.unusedSimpArgs false
set_option linter.unusedVariables false

/-! The program's disk: none. -/
namespace Go.Proofs.YtekpbpcfeopilaaDoor.Dp
open Go Go.RowKit Go.Joins Go.Proofs.YtekpbpcfeopilaaDoorCore Go.Proofs.YtekpbpcfeopilaaDoor.Dm Go.Proofs.YtekpbpcfeopilaaDoor.Dr Go.Proofs.YtekpbpcfeopilaaDoor.Da Go.Proofs.YtekpbpcfeopilaaDoor.Df Go.Proofs.YtekpbpcfeopilaaDoor.Dg Go.Proofs.YtekpbpcfeopilaaDoor.Dh Go.Proofs.YtekpbpcfeopilaaDoor.Di Go.Proofs.YtekpbpcfeopilaaDoor.Dj Go.Proofs.YtekpbpcfeopilaaDoor.Dk Go.Proofs.YtekpbpcfeopilaaDoor.Dl Go.Proofs.YtekpbpcfeopilaaDoor.Dn Go.Proofs.YtekpbpcfeopilaaDoorW.PrintWords Go.Proofs.YtekpbpcfeopilaaDoorW.PrintLast Go.Proofs.YtekpbpcfeopilaaDoorW.PrintMore

set_option maxHeartbeats 4000000 in
set_option maxRecDepth 100000 in
theorem none_any (w : World) : Calls Tryd.prog 50 #[] w fun e w' => e = .returned (.string noneS) ∧ Below w.heap.size w w' := by
  go_enter Tryd.func50, Tryd.ntmps50
  go_wp2_with fail
  refine (Tryd.strings_Repeat ⟨#[0]⟩ 64 w (by omega) (by show 1 * 64 ≤ _; omega)).mono ?_
  rintro e w1 ⟨rfl, hb1⟩
  have e : (⟨(Lib.repeatL (⟨#[0]⟩ : ByteArray).data.toList 64).toArray⟩ : ByteArray) = noneS := by rfl
  rw [e]
  go_wp2_with fail
  exact bodyPost_ret (v := .string noneS) (by simp [results, Tryd.results50, go_sem]) rfl ⟨rfl, hb1⟩

end Go.Proofs.YtekpbpcfeopilaaDoor.Dp

/-! The program's disk: slices.Repeat of one text, New. -/
namespace Go.Proofs.YtekpbpcfeopilaaDoor.Dq
open Go Go.RowKit Go.Joins Go.Proofs.YtekpbpcfeopilaaDoorCore Go.Proofs.YtekpbpcfeopilaaDoor.Dm Go.Proofs.YtekpbpcfeopilaaDoor.Dr Go.Proofs.YtekpbpcfeopilaaDoor.Da Go.Proofs.YtekpbpcfeopilaaDoor.Df Go.Proofs.YtekpbpcfeopilaaDoor.Dg Go.Proofs.YtekpbpcfeopilaaDoor.Dh Go.Proofs.YtekpbpcfeopilaaDoor.Di Go.Proofs.YtekpbpcfeopilaaDoor.Dj Go.Proofs.YtekpbpcfeopilaaDoor.Dk Go.Proofs.YtekpbpcfeopilaaDoor.Dl Go.Proofs.YtekpbpcfeopilaaDoor.Dn Go.Proofs.YtekpbpcfeopilaaDoor.Dp Go.Proofs.YtekpbpcfeopilaaDoorW.PrintWords Go.Proofs.YtekpbpcfeopilaaDoorW.PrintLast Go.Proofs.YtekpbpcfeopilaaDoorW.PrintMore

theorem infoStr : (Tryd.prog.info? 9).map (fun i => (i.zero, i.size, i.bytes)) = some (some (.string ⟨#[]⟩), 1, 16) := by kernel_rfl

/-- k texts, then empty ones. -/
def curK (s : ByteArray) (N k : Nat) : List Value := List.replicate k (.string s) ++ List.replicate (N - k) (.string ⟨#[]⟩)
theorem curK_length (s : ByteArray) (N k : Nat) (h : k ≤ N) : (curK s N k).length = N := by simp [curK]; omega
theorem curK_splice (s : ByteArray) (N k c : Nat) (h : k + c ≤ N) : splice (curK s N k) k (List.replicate c (.string s)) = curK s N (k + c) := by
  unfold splice curK
  rw [List.take_append_of_le_length (by simp), List.take_of_length_le (by simp), List.drop_append]
  have e1 : (List.replicate k (Value.string s)).drop (k + (List.replicate c (Value.string s)).length) = [] := by apply List.drop_eq_nil_of_le; simp
  rw [e1]
  simp only [List.nil_append, List.length_replicate, List.drop_replicate]
  rw [← List.append_assoc, List.replicate_append_replicate]
  congr 2
  omega
theorem curK_at (s : ByteArray) (N k j : Nat) (h : j < k) : (curK s N k)[j]? = some (.string s) := by
  unfold curK
  rw [List.getElem?_append_left (by simpa using h)]
  simp [h]

structure ReInv (s : ByteArray) (N g : Nat) (w : World) (gk : Nat) (v : Value) (wr : World) (k : Nat) : Prop where
  lo : 1 ≤ k
  hi : k ≤ N
  slot : v = .int .i64 k
  ghost : gk + k = N
  row : wr.heap[g]? = some (.cells (curK s N k).toArray 9 (0, 0))
  bel : Below w.heap.size w wr
def ReRel (s : ByteArray) (N g : Nat) (w : World) (gk : Nat) (v : Value) (wr : World) : Prop := ∃ k, ReInv s N g w gk v wr k

theorem R_of_row {w w1 : World} {g N : Nat} {s : ByteArray} (hg : w.heap.size ≤ g) (hN : N ≤ 4096) (h : w1.heap[g]? = some (.cells (curK s N N).toArray 9 (0, 0))) : Kd.string.R 9 w1 w.heap.size (fun _ => True) (.slice (some ⟨g, 0, none⟩) N N) (List.replicate N s) := by
  have e : curK s N N = encs Value.string (List.replicate N s) := by simp [curK, encs]
  rw [e] at h
  refine Kd.R_of_own (h1 := fun _ => rfl) ?_ (fun _ _ => trivial)
  have hl : (encs Value.string (List.replicate N s)).length = N := by simp [encs]
  refine ⟨by rw [hl]; simp, .inr ⟨g, N, (encs Value.string (List.replicate N s)).toArray, by simp, hg, h, by simp, by unfold maxLen; omega, by simp [encs], ?_⟩⟩
  rw [List.length_replicate, Nat.mul_one]
  exact List.take_of_length_le (by rw [hl]; exact Nat.le_refl _)

set_option maxHeartbeats 4000000 in
set_option maxRecDepth 100000 in
theorem repeat_any (ad : Addr) (s : ByteArray) (N : Nat) (hN : N ≤ 4096) (w : World) (hc : w.cell? ad = some (.string s)) :
    Calls Tryd.prog 49 #[.slice (some ad) 1 1, .int .i64 (N : Int)] w fun e w' => ∃ v, e = .returned v ∧ Kd.string.R 9 w' w.heap.size (fun _ => True) v (List.replicate N s) ∧ Below w.heap.size w w' := by
  have hmk := print_make_of (P := Tryd.prog) 31 9 (.string ⟨#[]⟩) 16 Tryd.underlying31 infoStr rfl (by decide) N (by omega)
  have hs1 : (Tryd.prog.info? 9).map (·.size) = some 1 := by kernel_rfl
  have hn0 : decide ((N : Int) < 0) = false := by simp
  have hn1 : decide ((9223372036854775807 : Int) < (N : Int)) = false := by simp; omega
  go_enter Tryd.func49, Tryd.ntmps49
  go_wp2_with fail
  refine (Tryd.bits_Mul 1 N (by omega) (by omega) w).mono ?_
  rintro e w1 ⟨rfl, rfl⟩
  have e1 : (1 * N / 18446744073709551616 : Nat) = 0 := by omega
  have e2 : (1 * N % 18446744073709551616 : Nat) = N := by omega
  rw [e1, e2]
  clear e1 e2
  obtain ⟨wm, hwm⟩ : ∃ wm, w1.alloc (.cells (madeCells #[.string ⟨#[]⟩] N) 9) = wm := ⟨_, rfl⟩
  have hbm : Below w1.heap.size w1 wm := by rw [← hwm]; exact (Below.refl _ _).alloc (Nat.le_refl _) _
  have hrm : wm.heap[w1.heap.size]? = some (.cells (curK s N 0).toArray 9 (0, 0)) := by
    rw [← hwm, heap_alloc_new]
    have e : madeCells #[Value.string ⟨#[]⟩] N = (curK s N 0).toArray := by
      apply Array.toList_inj.1
      rw [toList_madeCells_one]
      simp [curK]
    rw [e]
  have hcm : wm.cell? ad = some (.string s) := pw_cell_below hbm hc
  have HBM := Lib.hid hbm
  have HRM := Lib.hid hrm
  clear hbm hrm
  by_cases h0 : N = 0
  · subst h0
    have HMN : Hid (Nat.min 1 0 = 0) := rfl
    have hmk0 : ∀ W : World, (Instr.makeSlice 31 (.int .i64 0) (.int .i64 0)).run Tryd.prog W = .ok (.slice (some ⟨W.heap.size, 0, none⟩) 0 0) (W.alloc (.cells (madeCells #[.string ⟨#[]⟩] 0) 9)) := hmk
    go_wp2_with (first | (rw [hwm]) | ((with_reducible refine wpList_copy_nothing rfl (.tmp 31) (.tmp 32) _ _ rfl 9 Tryd.underlying31 hs1 (some ⟨w1.heap.size, 0, none⟩) (some ad) 0 0 1 1 rfl rfl ?cE ?_); (case cE => exact HMN.out)))
    clear hwm
    go_loopg [8] 0 (fun gk v wr => v = .int .i64 0 ∧ wr = wm)
    case atStart => exact ⟨rfl, rfl⟩
    case round =>
      obtain ⟨rfl, rfl⟩ := hrel
      go_wp2_with fail
      refine bodyPost_ret (v := .slice (some ⟨w1.heap.size, 0, none⟩) 0 0) (by simp [results, Tryd.results49, go_sem]) rfl ?_
      exact ⟨_, rfl, R_of_row (Nat.le_refl _) hN (by have := HRM.out; exact this), HBM.out⟩
  · have hcs : ∀ j v, ([Value.string s] : List Value)[j]? = some v → wm.cell? (ad.add j) = some v := fun j v hj => by
      match j, hj with
      | 0, hj =>
        have e : (Value.string s) = v := by simpa using hj
        rw [← e, show ad.add 0 = ad from by unfold Addr.add; split <;> simp_all]
        exact hcm
      | j + 1, hj => simp at hj
    have HCS := Lib.hid hcs
    have hcl := curK_length s N 0 (Nat.zero_le _)
    have HMN : Hid (Nat.min 1 N = 1) := by show _ = _; exact Nat.min_eq_left (by omega)
    have HCL := Lib.hid hcl
    clear hcs hcl
    go_wp2_with (first | (rw [hwm]) | ((with_reducible refine wpList_copy_splice rfl (.tmp 31) (.tmp 32) _ _ rfl 9 Tryd.underlying31 hs1 (some ⟨w1.heap.size, 0, none⟩) (some ad) N N 1 1 rfl rfl w1.heap.size 0 (curK s N 0) 9 HRM.out [.string s] ?cN ?cP ?cF ?cO w1.heap.size w1 HBM.out (Nat.le_refl _) ?_); go_loud ((case cN => exact HMN.out.symm); (case cP => exact fun _ => ⟨rfl, ad, rfl, HCS.out⟩); (case cF => rw [HCL.out]; show 0 + 1 ≤ N; omega); (case cO => intro v hv; rw [List.mem_singleton.1 hv]; rfl); intro w2 hr2 hb2; have HR2 : Hid (w2.heap[w1.heap.size]? = some (.cells (curK s N 1).toArray 9 (0, 0))) := (by have e := curK_splice s N 0 1 (by omega); show _ = _; rw [Nat.zero_add] at e; rw [← e]; exact hr2.out); have HB2 := Lib.hid hb2; clear hr2 hb2)))
    clear hwm
    go_loopg [8] (N - 1) (fun gk v wr => ReRel s N w1.heap.size w1 gk v wr)
    case atStart => exact ⟨1, ⟨Nat.le_refl _, by omega, rfl, by omega, HR2.out, HB2.out⟩⟩
    case round =>
      obtain ⟨k, hk1, hk2, rfl, hgk, hrow, hbel⟩ := hrel
      have HG := Lib.hid hgk
      have HR := Lib.hid hrow
      have HB := Lib.hid hbel
      clear hgk hrow hbel HR2 HB2 HRM HBM HCS HCL
      by_cases hlt : k < N
      · have hne : (N = k) = False := by simp; omega
        have hmin : Nat.min k (N - k) = min k (N - k) := rfl
        obtain ⟨cn, hcn⟩ : ∃ cn, min k (N - k) = cn := ⟨_, rfl⟩
        have HCN := Lib.hid hcn
        have hcn2 : k + cn ≤ N := by omega
        have hcn3 : 1 ≤ cn := by omega
        have hcs : ∀ j v, (List.replicate cn (Value.string s))[j]? = some v → wr.cell? ((⟨w1.heap.size, 0, none⟩ : Addr).add j) = some v := fun j v hj => by
          have hjl : j < cn := by have := (List.getElem?_eq_some_iff.1 hj).1; simpa using this
          rw [List.getElem?_replicate, if_pos hjl] at hj
          rw [Addr.add_plain0, cell_of_row wr _ j _ _ _ HR.out]
          rw [← hj]
          have := curK_at s N k j (by omega)
          simpa using this
        have HCS := Lib.hid hcs
        have HMN2 : Hid ((List.replicate cn (Value.string s)).length = Nat.min k (N - k)) := by show _ = _; rw [hmin, hcn]; simp
        have HCL : Hid (k + (List.replicate cn (Value.string s)).length ≤ (curK s N k).length) := by show _ ≤ _; rw [curK_length s N k (by omega)]; simp; omega
        have HW : Hid (IntKind.i64.wrap ((k : Int) + (cn : Int)) = (k : Int) + (cn : Int)) := IntWalk.i64_in _ (by omega)
        clear hcs hmin hcn
        go_wp2_with fail
        go_region_law (refine step_copy_splice rfl (.tmp 41) (.tmp 44) 31 31 rfl 9 Tryd.underlying31 hs1 (some ⟨w1.heap.size, k, none⟩) (some ⟨w1.heap.size, 0, none⟩) (N - k) (N - k) k N (by simp [Act.eval, Act.put]) (by simp [Act.eval, Act.put]) w1.heap.size k (curK s N k) 9 (by exact HR.out) (List.replicate cn (.string s)) (by exact HMN2.out) (by exact fun _ => ⟨rfl, _, rfl, HCS.out⟩) (by exact HCL.out) (by intro v hv; rw [List.eq_of_mem_replicate hv]; rfl) w1.heap.size w1 (by exact below_drew HB.out) (Nat.le_refl _) ?_; intro w2 hr2 hb2; have HR2 : Hid (w2.heap[w1.heap.size]? = some (.cells (curK s N (k + cn)).toArray 9 (0, 0))) := (by have e := curK_splice s N k cn hcn2; show _ = _; rw [← e]; exact hr2.out); have HB2 := Lib.hid hb2; clear hr2 hb2)
        go_wp2_with fail
        go_roundg (N - (k + cn))
        case measure => have := HG.out; omega
        case rel => exact ⟨k + cn, ⟨by omega, hcn2, (by rw [HW.out]; go_num), by omega, HR2.out, HB2.out⟩⟩
      · obtain rfl : k = N := by omega
        go_wp2_with fail
        refine bodyPost_ret (v := .slice (some ⟨w1.heap.size, 0, none⟩) k k) (by simp [results, Tryd.results49, go_sem]) rfl ?_
        exact ⟨_, rfl, R_of_row (Nat.le_refl _) hN HR.out, HB.out⟩

end Go.Proofs.YtekpbpcfeopilaaDoor.Dq

/-! A region that draws its order, whose last operations write what its loads read: a condition S on the world is kept till operation t comes up. Over no program. (After the shape of the library's law for regions whose loads are held.) -/
namespace Go.Proofs.YtekpbpcfeopilaaDoor.Reg
open Go

section
variable {P : Program} {ops : Array Oper} {Q : Exit → Act → World → Prop} {md : Region.Mode} {S : World → Prop} {t : Nat}

def wpAnyT (P : Program) (md : Region.Mode) (ops : Array Oper) (Q : Exit → Act → World → Prop) (S : World → Prop) (t : Nat) : Nat → Array Bool → Act → World → Prop
  | 0, listed, a, w => Region.ready md ops listed = [] ∧ Q .normal a w
  | fuel + 1, listed, a, w =>
    (Region.ready md ops listed = [] → Q .normal a w) ∧
    ∀ i ∈ Region.ready md ops listed, wpOp P ops Q i (fun a' w' => ((listed.setIfInBounds i true).getD t true = false → S w') ∧ wpAnyT P md ops Q S t fuel (listed.setIfInBounds i true) a' w') a w

theorem wpAny_of_T : ∀ (fuel : Nat) (listed : Array Bool) (a : Act) (w : World), wpAnyT P md ops Q S t fuel listed a w → wpAny P md ops Q fuel listed a w
  | 0, _, _, _, h => h
  | fuel + 1, _, _, _, h => ⟨h.1, fun i hi => wpOp_mono (fun a' w' h' => wpAny_of_T fuel _ a' w' h'.2) (h.2 i hi)⟩

theorem wpAnyT_first {i : Nat} {oi : Oper} {v : Value} (hi : ops[i]? = some oi) (hsel : ∀ (j : Nat) (o : Oper) cs b, ops[j]? = some o → o.op ≠ .select cs b)
    (hit : i ≠ t) {ot : Oper} (ht : ops[t]? = some ot) (hwait : ∃ e ∈ ot.after, Region.binds md e = true ∧ e.on = i)
    (hQ : ∀ c a w, Q (.panic c) (a.put oi.dst v) w → Q (.panic c) a w) :
    ∀ (fuel : Nat) (listed : Array Bool) (a : Act) (w : World),
      (∀ j oj, ops[j]? = some oj → j ≠ i → listed.getD j true = false → (∀ e ∈ oj.after, Region.binds md e = true → e.on ≠ i) → oi.apart ops oj = true) →
      i ∈ Region.ready md ops listed → YieldsIf P ops S oi v a → listed.getD t true = false → S w →
      wpAnyT P md ops Q S t fuel (listed.setIfInBounds i true) (a.put oi.dst v) w → wpAnyT P md ops Q S t (fuel + 1) listed a w := by
  intro fuel
  induction fuel with
  | zero =>
    intro listed a w _ hr hy _ hS H
    refine ⟨fun h => (by rw [h] at hr; cases hr), fun j hj => ?_⟩
    by_cases hji : j = i
    · subst hji; exact hy.wpOp hi hS ⟨fun _ => hS, H⟩
    · have := ready_mono hj hji
      rw [H.1] at this
      cases this
  | succ fuel ih =>
    intro listed a w hfree hr hy htl hS H
    refine ⟨fun h => (by rw [h] at hr; cases hr), fun j hj => ?_⟩
    by_cases hji : j = i
    · subst hji; exact hy.wpOp hi hS ⟨fun _ => hS, H⟩
    · have h1 := H.2 j (ready_mono hj hji)
      obtain ⟨hjun, oj, hoj, hall⟩ := mem_ready.1 hj
      have hnot : ∀ e ∈ oj.after, Region.binds md e = true → e.on ≠ i := fun e he hb heq => by
        have h1 := hall e he hb
        have h0 := (mem_ready.1 hr).1
        rw [heq] at h1
        rcases Nat.lt_or_ge i listed.size with h' | h'
        · simp [h'] at h0 h1; rw [h0] at h1; cases h1
        · simp [Array.getElem?_eq_none h'] at h1
      have hjt : j ≠ t := fun e => by
        subst e
        rw [ht] at hoj
        injection hoj with hoj
        subst hoj
        obtain ⟨e, he, hb, heq⟩ := hwait
        exact hnot e he hb heq
      have h2 := wpOp_putIf hoj (hfree j oj hoj hji hjun hnot) (fun cs b => hsel i oi cs b hi) (fun cs b => hsel j oj cs b hoj) hQ hy h1
      have hfree' : ∀ k ok, ops[k]? = some ok → k ≠ i → (listed.setIfInBounds j true).getD k true = false →
          (∀ e ∈ ok.after, Region.binds md e = true → e.on ≠ i) → oi.apart ops ok = true := fun k ok hk hki hun hno => by
        refine hfree k ok hk hki ?_ hno
        by_cases hjk : j = k
        · subst hjk; exact hjun
        · rw [getD_set_ne true hjk] at hun; exact hun
      have c1 : (listed.setIfInBounds j true).getD t true = false := by rw [getD_set_ne true hjt]; exact htl
      have c2 : ((listed.setIfInBounds i true).setIfInBounds j true).getD t true = false := by rw [getD_set_ne true hjt, getD_set_ne true hit]; exact htl
      refine wpOp_mono (fun a' w' h3 => ⟨fun _ => h3.2.1 c2, ih (listed.setIfInBounds j true) a' w' hfree' (ready_mono hr (Ne.symm hji)) h3.1 c1 (h3.2.1 c2) ?_⟩) h2
      rw [Array.setIfInBounds_comm _ _ hji]
      exact h3.2.2

theorem getD_two {listed : Array Bool} {i j t : Nat} (hit : i ≠ t) (h : (listed.setIfInBounds j true).getD t true = false) : ((listed.setIfInBounds i true).setIfInBounds j true).getD t true = false := by
  by_cases hjt : j = t
  · subst hjt
    exfalso
    have : (listed.setIfInBounds j true).getD j true = true := by
      by_cases h : j < listed.size
      · simp [Array.getD, h]
      · simp [Array.getD, h]
    rw [this] at h
    cases h
  · rw [getD_set_ne true hjt] at h ⊢
    rw [getD_set_ne true hit]
    exact h
/-- An operation that asks nothing of the world may be taken first, whether t waits for it or not. -/
theorem wpAnyT_firstU {i : Nat} {oi : Oper} {v : Value} (hi : ops[i]? = some oi) (hsel : ∀ (j : Nat) (o : Oper) cs b, ops[j]? = some o → o.op ≠ .select cs b)
    (hit : i ≠ t) (hQ : ∀ c a w, Q (.panic c) (a.put oi.dst v) w → Q (.panic c) a w) :
    ∀ (fuel : Nat) (listed : Array Bool) (a : Act) (w : World),
      (∀ j oj, ops[j]? = some oj → j ≠ i → listed.getD j true = false → (∀ e ∈ oj.after, Region.binds md e = true → e.on ≠ i) → oi.apart ops oj = true) →
      i ∈ Region.ready md ops listed → YieldsIf P ops (fun _ => True) oi v a → (listed.getD t true = false → S w) →
      wpAnyT P md ops Q S t fuel (listed.setIfInBounds i true) (a.put oi.dst v) w → wpAnyT P md ops Q S t (fuel + 1) listed a w := by
  intro fuel
  induction fuel with
  | zero =>
    intro listed a w _ hr hy hS H
    refine ⟨fun h => (by rw [h] at hr; cases hr), fun j hj => ?_⟩
    by_cases hji : j = i
    · subst hji; exact hy.wpOp hi trivial ⟨fun h => hS (by rwa [getD_set_ne true hit] at h), H⟩
    · have := ready_mono hj hji
      rw [H.1] at this
      cases this
  | succ fuel ih =>
    intro listed a w hfree hr hy hS H
    refine ⟨fun h => (by rw [h] at hr; cases hr), fun j hj => ?_⟩
    by_cases hji : j = i
    · subst hji; exact hy.wpOp hi trivial ⟨fun h => hS (by rwa [getD_set_ne true hit] at h), H⟩
    · have h1 := H.2 j (ready_mono hj hji)
      obtain ⟨hjun, oj, hoj, hall⟩ := mem_ready.1 hj
      have hnot : ∀ e ∈ oj.after, Region.binds md e = true → e.on ≠ i := fun e he hb heq => by
        have h1 := hall e he hb
        have h0 := (mem_ready.1 hr).1
        rw [heq] at h1
        rcases Nat.lt_or_ge i listed.size with h' | h'
        · simp [h'] at h0 h1; rw [h0] at h1; cases h1
        · simp [Array.getElem?_eq_none h'] at h1
      have h2 := wpOp_putIf hoj (hfree j oj hoj hji hjun hnot) (fun cs b => hsel i oi cs b hi) (fun cs b => hsel j oj cs b hoj) hQ hy h1
      have hfree' : ∀ k ok, ops[k]? = some ok → k ≠ i → (listed.setIfInBounds j true).getD k true = false →
          (∀ e ∈ ok.after, Region.binds md e = true → e.on ≠ i) → oi.apart ops ok = true := fun k ok hk hki hun hno => by
        refine hfree k ok hk hki ?_ hno
        by_cases hjk : j = k
        · subst hjk; exact hjun
        · rw [getD_set_ne true hjk] at hun; exact hun
      refine wpOp_mono (fun a' w' h3 => ⟨fun hc => h3.2.1 (getD_two hit hc), ih (listed.setIfInBounds j true) a' w' hfree' (ready_mono hr (Ne.symm hji)) h3.1 (fun hc => h3.2.1 (getD_two hit hc)) ?_⟩) h2
      rw [Array.setIfInBounds_comm _ _ hji]
      exact h3.2.2

/-- Does t wait for i? -/
def waitsB (md : Region.Mode) (ot : Oper) (i : Nat) : Bool := ot.after.any fun e => Region.binds md e && e.on == i

theorem wpAnyT_take {i : Nat} {oi ot : Oper} {v : Value} {fuel : Nat} {listed : Array Bool} {a : Act} {w : World} (hi : ops[i]? = some oi)
    (hs : Region.noSelect ops = true) (hf : Region.free md ops listed i = true) (hr : (Region.ready md ops listed).contains i = true)
    (ht : ops[t]? = some ot) (hit : (i == t) = false) (hwait : waitsB md ot i = true) (htl : listed.getD t true = false)
    (hQ : ∀ c a w, Q (.panic c) (a.put oi.dst v) w → Q (.panic c) a w) (hy : YieldsIf P ops S oi v a) (hS : S w)
    (h : wpAnyT P md ops Q S t fuel (listed.setIfInBounds i true) (a.put oi.dst v) w) : wpAnyT P md ops Q S t (fuel + 1) listed a w := by
  refine wpAnyT_first hi (Region.noSelect_spec hs) (by simpa using hit) ht ?_ hQ fuel listed a w (Region.free_spec hi hf) (by simpa using hr) hy htl hS h
  unfold waitsB at hwait
  rw [Array.any_eq_true] at hwait
  obtain ⟨k, hk, he⟩ := hwait
  rw [Bool.and_eq_true, beq_iff_eq] at he
  exact ⟨ot.after[k], Array.getElem_mem hk, he.1, he.2⟩

/-- One operation alone may come up. -/
theorem wpAnyT_takeU {i : Nat} {oi : Oper} {v : Value} {fuel : Nat} {listed : Array Bool} {a : Act} {w : World} (hi : ops[i]? = some oi)
    (hs : Region.noSelect ops = true) (hf : Region.free md ops listed i = true) (hr : (Region.ready md ops listed).contains i = true) (hit : (i == t) = false)
    (hQ : ∀ c a w, Q (.panic c) (a.put oi.dst v) w → Q (.panic c) a w) (hy : YieldsIf P ops (fun _ => True) oi v a) (hS : listed.getD t true = false → S w)
    (h : wpAnyT P md ops Q S t fuel (listed.setIfInBounds i true) (a.put oi.dst v) w) : wpAnyT P md ops Q S t (fuel + 1) listed a w :=
  wpAnyT_firstU hi (Region.noSelect_spec hs) (by simpa using hit) hQ fuel listed a w (Region.free_spec hi hf) (by simpa using hr) hy hS h
theorem wpAnyT_one {j : Nat} {o : Oper} {fuel : Nat} {listed : Array Bool} {a : Act} {w : World} (hj : ops[j]? = some o) (hr : Region.ready md ops listed = [j])
    (h : ∀ K : Act → World → Prop, Shut (∀ a' w', ((listed.setIfInBounds j true).getD t true = false → S w') → wpAnyT P md ops Q S t fuel (listed.setIfInBounds j true) a' w' → K a' w') →
      if Region.wanted o (yielded ops a.tmps) = true then Oper.wp P o a w K Q else K (a.put o.dst undef) w) : wpAnyT P md ops Q S t (fuel + 1) listed a w := by
  refine ⟨fun h0 => (by rw [hr] at h0; cases h0), fun i hi => ?_⟩
  rw [hr] at hi
  rw [List.mem_singleton.1 hi]
  exact wpOp_step hj (fun K' hK => h K' (fun a w h1 h2 => hK a w ⟨h1, h2⟩))

theorem wpAnyT_done {listed : Array Bool} {a : Act} {w : World} (hr : Region.ready md ops listed = []) (h : Q .normal a w) : ∀ fuel, wpAnyT P md ops Q S t fuel listed a w
  | 0 => ⟨hr, h⟩
  | _ + 1 => ⟨fun _ => h, by rw [hr]; simp⟩

theorem getD_self (listed : Array Bool) (t : Nat) : (listed.setIfInBounds t true).getD t true = true := by
  by_cases h : t < listed.size
  · simp [h]
  · simp [h]
theorem past_t {p : Prop} {listed : Array Bool} {t : Nat} (h : (listed.setIfInBounds t true).getD t true = false) : p := by
  rw [getD_self] at h
  cases h

theorem wp_region_T (t : Nat) (S : World → Prop) {id : Nat} {a : Act} {w : World} (hm : P.follows .mixedOrders = true)
    (h : wpAnyT P .any ops Q S t ops.size (Array.replicate ops.size false) a w.drew) : (Code.region id ops true).wp P Q a w :=
  wp_region_any hm (wpAny_of_T _ _ _ _ h)
end

end Go.Proofs.YtekpbpcfeopilaaDoor.Reg

/-! The program's disk: New. -/
namespace Go.Proofs.YtekpbpcfeopilaaDoor.Ds
open Go Go.RowKit Go.Joins Go.Proofs.YtekpbpcfeopilaaDoorCore Go.Proofs.YtekpbpcfeopilaaDoor.Dm Go.Proofs.YtekpbpcfeopilaaDoor.Dr Go.Proofs.YtekpbpcfeopilaaDoor.Da Go.Proofs.YtekpbpcfeopilaaDoor.Df Go.Proofs.YtekpbpcfeopilaaDoor.Dg Go.Proofs.YtekpbpcfeopilaaDoor.Dh Go.Proofs.YtekpbpcfeopilaaDoor.Di Go.Proofs.YtekpbpcfeopilaaDoor.Dj Go.Proofs.YtekpbpcfeopilaaDoor.Dk Go.Proofs.YtekpbpcfeopilaaDoor.Dl Go.Proofs.YtekpbpcfeopilaaDoor.Dn Go.Proofs.YtekpbpcfeopilaaDoor.Dp Go.Proofs.YtekpbpcfeopilaaDoor.Dq Go.Proofs.YtekpbpcfeopilaaDoor.Reg Go.Proofs.YtekpbpcfeopilaaDoorW.PrintWords Go.Proofs.YtekpbpcfeopilaaDoorW.PrintLast Go.Proofs.YtekpbpcfeopilaaDoorW.PrintMore

def clampN (n : Int) : Nat := (max 0 (min n 4096)).toNat
def newR (n : Int) : MReg := ⟨List.replicate (clampN n) noneS, []⟩
def newM (l : List Int) : MDisk := ⟨(l.take 8).map newR, false, 0, 0, []⟩

/-- A cell that is held. -/
structure HeldC (B : Nat) (v : Value) (w' : World) : Prop where
  cell : w'.cell? ⟨B, 0, none⟩ = some v
theorem HeldC.below {B : Nat} {v : Value} {w' w2 : World} (h : HeldC B v w') (hb : Below w'.heap.size w' w2) : HeldC B v w2 := ⟨pw_cell_below hb h.cell⟩
theorem HeldC.alloc {B : Nat} {v : Value} {w' : World} (h : HeldC B v w') (o : Obj) : HeldC B v (w'.alloc o) := h.below ((Below.refl _ _).alloc (Nat.le_refl _) o)
theorem infoPreg : (Tryd.prog.info? 101).map (fun i => (i.zero, i.size, i.bytes)) = some (some (.pointer none), 1, 8) := by kernel_rfl

theorem new_lies {G' : Nat → Nat} {c : Nat} {wr w7 w8 w10 : World} {B N base7 c7 cr c10 n : Nat} {A7 Ar A10 : Option Addr} {gs : List Nat} {regs : List MReg} (HL : Lies TP G' c wr B ⟨regs, false, 0, 0, []⟩ (.slice Ar gs.length cr) (.slice none 0 0) gs)
    (hb : Below wr.heap.size wr w8) (h7 : wr.heap.size ≤ w7.heap.size) (hr8 : w8.heap[w7.heap.size]? = some (.cells #[.slice A7 N c7, .slice none 0 0] TP.reg (0, 0))) (hR7 : Kd.string.R TP.str w7 base7 (fun _ => True) (.slice A7 N c7) (List.replicate N noneS)) (hbase : wr.heap.size ≤ base7)
    (hb8 : Below w7.heap.size w7 w8) (hg10 : w8.grownBy w10 (Value.slice Ar gs.length cr).ownBlock) (hR10 : ptrK.R TP.preg w10 0 (fun i => (G' i = c + 1 ∧ i < wr.heap.size) ∨ w8.heap.size ≤ i) (.slice A10 n c10) (gs ++ [w7.heap.size])) :
    Fr (fun j => j = B ∨ some j = (Value.slice Ar gs.length cr).ownBlock) wr (w10.setCell ⟨B, 0, none⟩ (.slice A10 n c10)) ∧
    Lies TP (fun j => if j < wr.heap.size then G' j else if j < w8.heap.size then c + 3 + regs.length else c + 1) c (w10.setCell ⟨B, 0, none⟩ (.slice A10 n c10)) B ⟨regs ++ [⟨List.replicate N noneS, []⟩], false, 0, 0, []⟩ (.slice A10 n c10) (.slice none 0 0) (gs ++ [w7.heap.size]) := by
  obtain ⟨G2, hG2⟩ : ∃ G2 : Nat → Nat, (fun j => if j < wr.heap.size then G' j else if j < w8.heap.size then c + 3 + regs.length else c + 1) = G2 := ⟨_, rfl⟩
  have g1 : ∀ j, j < wr.heap.size → G2 j = G' j := fun j hj => by rw [← hG2]; exact if_pos hj
  have g2 : ∀ j, wr.heap.size ≤ j → j < w8.heap.size → G2 j = c + 3 + regs.length := fun j hj hj2 => by rw [← hG2]; show (if _ then _ else _) = _; rw [if_neg (by omega), if_pos hj2]
  have g3 : ∀ j, w8.heap.size ≤ j → G2 j = c + 1 := fun j hj => by rw [← hG2]; show (if _ then _ else _) = _; rw [if_neg (by have := hb.size; omega), if_neg (by omega)]
  rw [hG2]
  clear hG2
  have hBl : B < wr.heap.size := heap_lt HL.head
  have hown : ∀ q, (Value.slice Ar gs.length cr).ownBlock = some q → G' q = c + 1 ∧ q < wr.heap.size := fun q hq => ⟨HL.row.1 q hq, Kd.R_lt HL.row q hq⟩
  have hBne : some B ≠ (Value.slice Ar gs.length cr).ownBlock := fun e => by have h1 := (hown B e.symm).1; have h2 := HL.colour; omega
  have f1 : Fr (fun j => some j = (Value.slice Ar gs.length cr).ownBlock) wr w10 := (Fr.of_below hb).trans (Fr.of_grown hg10 (fun q hq => hq.symm))
  have f2 : Fr (fun j => j = B ∨ some j = (Value.slice Ar gs.length cr).ownBlock) wr (w10.setCell ⟨B, 0, none⟩ (.slice A10 n c10)) := Fr.setAt (f1.mono (fun j hj => .inr hj)) (.inl rfl)
  have hh10 : w10.heap[B]? = some (.cells (hdr ⟨regs, false, 0, 0, []⟩ (.slice Ar gs.length cr) (.slice none 0 0)) TP.disk (0, 0)) := f1.at_ HL.head hBne
  have hh11 := block_setCell hh10 (i := 0) (.slice A10 n c10)
  have e11 : (hdr ⟨regs, false, 0, 0, []⟩ (.slice Ar gs.length cr) (.slice none 0 0)).setIfInBounds 0 (.slice A10 n c10) = hdr ⟨regs ++ [⟨List.replicate N noneS, []⟩], false, 0, 0, []⟩ (.slice A10 n c10) (.slice none 0 0) := by simp [hdr]
  rw [e11] at hh11
  have f3 : Fr (fun j => j < wr.heap.size) w8 (w10.setCell ⟨B, 0, none⟩ (.slice A10 n c10)) := Fr.setAt (Fr.of_grown hg10 (fun q hq => (hown q hq).2)) hBl
  have f4 : Fr (fun j => j < wr.heap.size) w7 (w10.setCell ⟨B, 0, none⟩ (.slice A10 n c10)) := (Fr.of_below hb8).trans f3
  refine ⟨f2, ?_⟩
  constructor
  · exact hh11
  · rw [g1 B hBl]; exact HL.colour
  · have h := Kd.R_set hR10 hh10 (by decide) 0 (.slice A10 n c10)
    exact Kd.R_mono h (fun i hi => by
      rcases hi with hi | hi
      · rw [g1 i hi.2]; exact hi.1
      · exact g3 i hi)
  · exact Kd.R_nil _ _ _ _ _
  · have := HL.len
    simp at this ⊢
    exact this
  · intro i hi
    have hlen := HL.len
    simp only at hlen
    by_cases hik : i < regs.length
    · obtain ⟨g, hg, hr⟩ := HL.regs i hik
      refine ⟨g, by rw [List.getElem?_append_left (by omega)]; exact hg, ?_⟩
      have er : (regs ++ [(⟨List.replicate N noneS, []⟩ : MReg)])[i] = regs[i] := by simp [hik]
      simp only [er]
      have hr2 := (hr.mono (ok' := fun j => G' j = c + 3 + i ∧ j < wr.heap.size) (fun j hj ho => ⟨ho, hj⟩)).fr f2 (fun j hj _ hs => by
        rcases hs with hs | hs
        · have h1 := hj.1; rw [hs, HL.colour] at h1; omega
        · have h1 := (hown j hs.symm).1; omega)
      exact hr2.mono (fun j _ hj => by rw [g1 j hj.2]; exact hj.1)
    · have hil : i < regs.length + 1 := by simpa using hi
      obtain rfl : i = regs.length := by omega
      refine ⟨w7.heap.size, by rw [← hlen]; simp, ?_⟩
      have er : (regs ++ [(⟨List.replicate N noneS, []⟩ : MReg)])[regs.length] = ⟨List.replicate N noneS, []⟩ := by simp
      simp only [er]
      refine ⟨g2 _ h7 (heap_lt hr8), _, _, f3.at_ hr8 (by omega), ?_, Kd.R_nil _ _ _ _ _⟩
      have h := Rfr (Kd.R_mono (Kd.R_bound hR7) (ok' := fun j => wr.heap.size ≤ j ∧ j < w7.heap.size) (fun j hj => ⟨Nat.le_trans hbase hj.2.1, hj.2.2.1⟩)) f4 (fun j hj _ hs => by omega)
      exact Kd.R_lower (Kd.R_mono h (fun j hj => g2 j hj.1 (by have := hb8.size; omega))) (Nat.zero_le _)

structure NInv (G : Nat → Nat) (c : Nat) (l : List Int) (w : World) (gk : Nat) (v : Value) (wr : World) (k : Nat) (G' : Nat → Nat) (rv : Value) (gs : List Nat) : Prop where
  hi : k ≤ min l.length 8
  slot : v = .int .i64 k
  ghost : gk + k = min l.length 8
  old : ∀ j, j < w.heap.size → G' j = G j
  lies : Lies TP G' c wr w.heap.size ⟨(l.take k).map newR, false, 0, 0, []⟩ rv (.slice none 0 0) gs
  bel : Below w.heap.size w wr
  fresh : ∀ q, rv.ownBlock = some q → w.heap.size ≤ q
def NRel (G : Nat → Nat) (c : Nat) (l : List Int) (w : World) (gk : Nat) (v : Value) (wr : World) : Prop := ∃ k G' rv gs, NInv G c l w gk v wr k G' rv gs

set_option maxHeartbeats 4000000 in
set_option maxRecDepth 100000 in
theorem new_any (G : Nat → Nat) (c : Nat) (A : Option Addr) (cc : Nat) (l : List Int) (w : World) (hC : Kd.C (Kd.int .i64) w A l.length l) (hcc : l.length ≤ cc) :
    Calls Tryd.prog 22 #[.slice A l.length cc] w fun e w' => e = .returned (.pointer (some ⟨w.heap.size, 0, none⟩)) ∧ Below w.heap.size w w' ∧ ∃ G', (∀ j, j < w.heap.size → G' j = G j) ∧ DiskAt TP G' c w' w.heap.size (newM l) := by
  have HC := Lib.hid hC
  clear hC
  have hmx := HC.out.2.1
  go_enter Tryd.func22, Tryd.ntmps22
  go_wp2_with fail
  obtain ⟨w1, hw1⟩ : ∃ w1, w.alloc (.cells #[.slice none 0 0, .bool false, .int .i64 0, .int .i64 0, .slice none 0 0] 100) = w1 := ⟨_, rfl⟩
  rw [hw1]
  have hb1 : Below w.heap.size w w1 := by rw [← hw1]; exact (Below.refl _ _).alloc (Nat.le_refl _) _
  have hh1 : w1.heap[w.heap.size]? = some (.cells (hdr ⟨[], false, 0, 0, []⟩ (.slice none 0 0) (.slice none 0 0)) TP.disk (0, 0)) := by rw [← hw1, heap_alloc_new]; rfl
  clear hw1
  have h1 : Lies TP (ext G w.heap.size c) c w1 w.heap.size ⟨[], false, 0, 0, []⟩ (.slice none 0 0) (.slice none 0 0) [] := ⟨hh1, ext_new (Nat.le_refl _), Kd.R_nil _ _ _ _ _, Kd.R_nil _ _ _ _ _, rfl, fun i hi => by simp at hi⟩
  have H1 := Lib.hid h1
  have HB1 := Lib.hid hb1
  clear h1 hh1 hb1
  have emin : (min (l.length : Int) 8) = ((min l.length 8 : Nat) : Int) := by omega
  obtain ⟨M, hM⟩ : ∃ M, min l.length 8 = M := ⟨_, rfl⟩
  rw [hM] at emin
  have emax : max (M : Int) 0 = (M : Int) := by omega
  rw [emin, emax, Int.toNat_natCast]
  have HM := Lib.hid hM
  have hM8 : M ≤ 8 := by omega
  have hMl : M ≤ l.length := by omega
  clear emin emax hM
  go_loopg [14] M (fun gk v wr => NRel G c l w gk v wr)
  case atStart => exact ⟨0, _, _, _, ⟨Nat.zero_le _, rfl, by have := HM.out; omega, fun j hj => ext_old hj, H1.out, HB1.out, fun q hq => by cases hq⟩⟩
  case round =>
    obtain ⟨k, G', rv, gs, hk, rfl, hgk, hold, hlies, hbel, hfresh⟩ := hrel
    have hkM : k ≤ M := by rw [HM.out] at hk; exact hk
    have HG := Lib.hid hgk
    have HO := Lib.hid hold
    have HL := Lib.hid hlies
    have HB := Lib.hid hbel
    have HFR := Lib.hid hfresh
    clear hk hgk hold hlies hbel hfresh H1 HB1
    by_cases hlt : k < M
    · obtain ⟨ad, rfl, hx⟩ := Kd.at_int (Kd.C_below HC.out HB.out) (k : Int) (by omega) (by omega)
      obtain ⟨x, hx0⟩ : ∃ x, rd l (k : Int) = x := ⟨_, rfl⟩
      rw [hx0, Int.toNat_natCast] at hx
      have HX := Lib.hid hx0
      clear hx0
      obtain ⟨Ar, cr, rfl, _, _⟩ := Kd.R_reads HL.out.row
      have hlen : gs.length = k := by rw [HL.out.len]; simp; omega
      have hx0 : wr.cell? ⟨w.heap.size, 0, none⟩ = some (.slice Ar k cr) := by rw [← hlen]; exact cell_of_block HL.out.head 0
      have hf0 : wr.frozen? ⟨w.heap.size, 0, none⟩ = false := unfrozen_of_block HL.out.head 0
      have hlt2 : (k : Int) < (M : Int) := by omega
      have HLEN := Lib.hid hlen
      have hBr : w.heap.size < wr.heap.size := heap_lt HL.out.head
      clear hlen
      go_wp2_with fail
      refine wp_region_T 17 (HeldC w.heap.size (.slice Ar k cr)) (by kernel_rfl) ?_
      have hS0 : HeldC w.heap.size (.slice Ar k cr) wr.drew := ⟨hx0⟩
      refine wpAnyT_take (i := 0) (v := ?mv1) rfl (by kernel_rfl) (by kernel_rfl) (by kernel_rfl) rfl rfl (by kernel_rfl) (by rfl) (fun _ _ _ h => h) (Or.inl ⟨by rfl, ?mh1⟩) (by assumption) ?mr1
      case mh1 => intro w hSw; (try have hSw1 := hSw.1); (try have hSw2 := hSw.2); go_simp; try with_reducible rfl
      (try simp only [Act.put]); (try simp only [List.getElem_toArray, List.getElem_cons_zero, List.getElem_cons_succ]); (try simp only [List.setIfInBounds_toArray]); (try simp only [List.set_cons_zero, List.set_cons_succ])
      refine wpAnyT_take (i := 1) (v := ?mv2) rfl (by kernel_rfl) (by kernel_rfl) (by kernel_rfl) rfl rfl (by kernel_rfl) (by rfl) (fun _ _ _ h => h) (Or.inl ⟨by rfl, ?mh2⟩) (by assumption) ?mr2
      case mh2 => intro w hSw; (try have hSw1 := hSw.1); (try have hSw2 := hSw.2); go_simp; try with_reducible rfl
      (try simp only [Act.put]); (try simp only [List.getElem_toArray, List.getElem_cons_zero, List.getElem_cons_succ]); (try simp only [List.setIfInBounds_toArray]); (try simp only [List.set_cons_zero, List.set_cons_succ])
      refine wpAnyT_take (i := 2) (v := ?mv3) rfl (by kernel_rfl) (by kernel_rfl) (by kernel_rfl) rfl rfl (by kernel_rfl) (by rfl) (fun _ _ _ h => h) (Or.inl ⟨by rfl, ?mh3⟩) (by assumption) ?mr3
      case mh3 => intro w hSw; (try have hSw1 := hSw.1); (try have hSw2 := hSw.2); go_simp; try with_reducible rfl
      (try simp only [Act.put]); (try simp only [List.getElem_toArray, List.getElem_cons_zero, List.getElem_cons_succ]); (try simp only [List.setIfInBounds_toArray]); (try simp only [List.set_cons_zero, List.set_cons_succ])
      refine wpAnyT_take (i := 3) (v := ?mv4) rfl (by kernel_rfl) (by kernel_rfl) (by kernel_rfl) rfl rfl (by kernel_rfl) (by rfl) (fun _ _ _ h => h) (Or.inl ⟨by rfl, ?mh4⟩) (by assumption) ?mr4
      case mh4 => intro w hSw; (try have hSw1 := hSw.1); (try have hSw2 := hSw.2); go_simp; try with_reducible rfl
      (try simp only [Act.put]); (try simp only [List.getElem_toArray, List.getElem_cons_zero, List.getElem_cons_succ]); (try simp only [List.setIfInBounds_toArray]); (try simp only [List.set_cons_zero, List.set_cons_succ])
      refine wpAnyT_take (i := 4) (v := ?mv5) rfl (by kernel_rfl) (by kernel_rfl) (by kernel_rfl) rfl rfl (by kernel_rfl) (by rfl) (fun _ _ _ h => h) (Or.inl ⟨by rfl, ?mh5⟩) (by assumption) ?mr5
      case mh5 => intro w hSw; (try have hSw1 := hSw.1); (try have hSw2 := hSw.2); go_simp; try with_reducible rfl
      (try simp only [Act.put]); (try simp only [List.getElem_toArray, List.getElem_cons_zero, List.getElem_cons_succ]); (try simp only [List.setIfInBounds_toArray]); (try simp only [List.set_cons_zero, List.set_cons_succ])
      refine wpAnyT_take (i := 7) (v := ?mv6) rfl (by kernel_rfl) (by kernel_rfl) (by kernel_rfl) rfl rfl (by kernel_rfl) (by rfl) (fun _ _ _ h => h) (Or.inl ⟨by rfl, ?mh6⟩) (by assumption) ?mr6
      case mh6 => intro w hSw; (try have hSw1 := hSw.1); (try have hSw2 := hSw.2); go_simp; try with_reducible rfl
      (try simp only [Act.put]); (try simp only [List.getElem_toArray, List.getElem_cons_zero, List.getElem_cons_succ]); (try simp only [List.setIfInBounds_toArray]); (try simp only [List.set_cons_zero, List.set_cons_succ])
      refine wpAnyT_take (i := 8) (v := ?mv7) rfl (by kernel_rfl) (by kernel_rfl) (by kernel_rfl) rfl rfl (by kernel_rfl) (by rfl) (fun _ _ _ h => h) (Or.inl ⟨by rfl, ?mh7⟩) (by assumption) ?mr7
      case mh7 => intro w hSw; (try have hSw1 := hSw.1); (try have hSw2 := hSw.2); go_simp; try with_reducible rfl
      (try simp only [Act.put]); (try simp only [List.getElem_toArray, List.getElem_cons_zero, List.getElem_cons_succ]); (try simp only [List.setIfInBounds_toArray]); (try simp only [List.set_cons_zero, List.set_cons_succ])
      refine wpAnyT_take (i := 9) (v := ?mv8) rfl (by kernel_rfl) (by kernel_rfl) (by kernel_rfl) rfl rfl (by kernel_rfl) (by rfl) (fun _ _ _ h => h) (Or.inl ⟨by rfl, ?mh8⟩) (by assumption) ?mr8
      case mh8 => intro w hSw; (try have hSw1 := hSw.1); (try have hSw2 := hSw.2); go_simp; try with_reducible rfl
      (try simp only [Act.put]); (try simp only [List.getElem_toArray, List.getElem_cons_zero, List.getElem_cons_succ]); (try simp only [List.setIfInBounds_toArray]); (try simp only [List.set_cons_zero, List.set_cons_succ])
      refine wpAnyT_one (j := 5) rfl (by kernel_rfl) (fun K hK => ?_)
      go_simp
      go_at_call 50
      refine (none_any _).mono ?_
      rintro e w5 ⟨rfl, hb5⟩
      have hS5 := hS0.below hb5
      refine hK.out _ _ (fun _ => hS5) ?_
      clear hK K
      (try simp only [Act.put]); (try simp only [List.getElem_toArray, List.getElem_cons_zero, List.getElem_cons_succ]); (try simp only [List.setIfInBounds_toArray]); (try simp only [List.set_cons_zero, List.set_cons_succ])
      refine wpAnyT_one (j := 6) rfl (by kernel_rfl) (fun K hK => ?_)
      go_simp
      have hS6 := hS5.alloc (.cells #[.string noneS] 9)
      refine hK.out _ _ (fun _ => hS6) ?_
      clear hK K
      (try simp only [Act.put]); (try simp only [List.getElem_toArray, List.getElem_cons_zero, List.getElem_cons_succ]); (try simp only [List.setIfInBounds_toArray]); (try simp only [List.set_cons_zero, List.set_cons_succ])
      refine wpAnyT_one (j := 10) rfl (by kernel_rfl) (fun K hK => ?_)
      go_simp
      go_at_call 49
      have ecl : max 0 (min x 4096) = ((clampN x : Nat) : Int) := by unfold clampN; omega
      rw [ecl]
      clear ecl
      refine (repeat_any ⟨w5.heap.size, 0, none⟩ noneS (clampN x) (by unfold clampN; omega) _ (by unfold World.cell?; rw [heap_alloc_new]; rfl)).mono ?_
      rintro e w7 ⟨v7, rfl, hR7, hb7⟩
      have hS7 := hS6.below hb7
      obtain ⟨A7, c7, rfl, _, _⟩ := Kd.R_reads hR7
      rw [List.length_replicate] at hR7 ⊢
      have HR7 := Lib.hid hR7
      have HB7 := Lib.hid hb7
      clear hR7 hb7
      refine hK.out _ _ (fun _ => hS7) ?_
      clear hK K
      (try simp only [Act.put]); (try simp only [List.getElem_toArray, List.getElem_cons_zero, List.getElem_cons_succ]); (try simp only [List.setIfInBounds_toArray]); (try simp only [List.set_cons_zero, List.set_cons_succ])
      refine wpAnyT_take (i := 11) (v := ?mv9) rfl (by kernel_rfl) (by kernel_rfl) (by kernel_rfl) rfl rfl (by kernel_rfl) (by rfl) (fun _ _ _ h => h) (Or.inl ⟨by rfl, ?mh9⟩) (by assumption) ?mr9
      case mh9 => intro w hSw; (try have hSw1 := hSw.1); (try have hSw2 := hSw.2); go_simp; try with_reducible rfl
      (try simp only [Act.put]); (try simp only [List.getElem_toArray, List.getElem_cons_zero, List.getElem_cons_succ]); (try simp only [List.setIfInBounds_toArray]); (try simp only [List.set_cons_zero, List.set_cons_succ])
      refine wpAnyT_one (j := 12) rfl (by kernel_rfl) (fun K hK => ?_)
      go_simp
      have hS8 := hS7.alloc (.cells #[.slice A7 (clampN x) c7, .slice none 0 0] 105)
      refine hK.out _ _ (fun _ => hS8) ?_
      clear hK K
      (try simp only [Act.put]); (try simp only [List.getElem_toArray, List.getElem_cons_zero, List.getElem_cons_succ]); (try simp only [List.setIfInBounds_toArray]); (try simp only [List.set_cons_zero, List.set_cons_succ])
      refine wpAnyT_one (j := 13) rfl (by kernel_rfl) (fun K hK => ?_)
      go_simp
      obtain ⟨w8, hw8⟩ : ∃ w8, w7.alloc (.cells #[.slice A7 (clampN x) c7, .slice none 0 0] 105) = w8 := ⟨_, rfl⟩
      have hz8 : w7.heap.size + 1 = w8.heap.size := by rw [← hw8]; simp
      have hr8 : w8.heap[w7.heap.size]? = some (.cells #[.slice A7 (clampN x) c7, .slice none 0 0] 105 (0, 0)) := by rw [← hw8]; exact heap_alloc_new _ _
      have hb8 : Below w7.heap.size w7 w8 := by rw [← hw8]; exact (Below.refl _ _).alloc (Nat.le_refl _) _
      rw [hw8, hz8]
      rw [hw8] at hS8
      have hS9 := hS8.alloc (.cells #[.pointer (some ⟨w7.heap.size, 0, none⟩)] 101)
      refine hK.out _ _ (fun _ => hS9) ?_
      clear hK K
      (try simp only [Act.put]); (try simp only [List.getElem_toArray, List.getElem_cons_zero, List.getElem_cons_succ]); (try simp only [List.setIfInBounds_toArray]); (try simp only [List.set_cons_zero, List.set_cons_succ])
      have hbr8 : Below wr.heap.size wr w8 := ((((below_drew (Below.refl _ _)).trans hb5).alloc (by have := hb5.size; simpa using this) (.cells #[.string noneS] 9)).trans (HB7.out.mono (by have := hb5.size; simp at this ⊢; omega))).trans (hb8.mono (by have := hb5.size; have := HB7.out.size; simp at *; omega))
      have hrow : ptrK.R TP.preg w8 0 (fun i => (G' i = c + 1 ∧ i < wr.heap.size) ∨ w8.heap.size ≤ i) (.slice Ar k cr) gs := by
        have h := Kd.R_below (Kd.R_mono (Kd.R_bound HL.out.row) (ok' := fun i => (G' i = c + 1 ∧ i < wr.heap.size) ∨ w8.heap.size ≤ i) (fun i hi => .inl ⟨hi.1, hi.2.2.1⟩)) hbr8
        rw [HLEN.out] at h
        exact h
      have HROW := Lib.hid hrow
      have hne : ∀ q, (Value.slice Ar k cr).ownBlock = some q → G' q = c + 1 := fun q hq => by
        have h := HL.out.row
        rw [HLEN.out] at h
        exact h.1 q hq
      have HNE := Lib.hid hne
      have HBR8 := Lib.hid hbr8
      clear hne hrow hbr8
      have hgl : gs.length < 8 := by have := HLEN.out; omega
      refine wpAnyT_one (j := 14) rfl (by kernel_rfl) (fun K hK => ?_)
      refine Kd.R_append_step ptrK (w0 := w8) (W := w8) 0 rfl (.tmp 22) (.tmp 31) 95 101 (.pointer none) 8 rfl Tryd.underlying95 infoPreg rfl (by decide) (by decide) (.slice Ar k cr) gs w7.heap.size [.pointer (some ⟨w7.heap.size, 0, none⟩)] (fun i => (G' i = c + 1 ∧ i < wr.heap.size) ∨ w8.heap.size ≤ i) (fun _ => False) rfl rfl ?aP (fun _ hk => hk.elim) (fun i hi => .inr hi) HROW.out (Below.refl _ _) (Nat.zero_le _) (by omega) ?_
      case aP => exact rfl
      intro v10 w10 hR10 hB10 hg10 hat10
      obtain ⟨A10, c10, rfl, _, _⟩ := Kd.R_reads hR10
      have hh10 : w10.heap[w.heap.size]? = w8.heap[w.heap.size]? := hg10.block w.heap.size (by have := HBR8.out.size; omega) (fun e => by have h1 := HNE.out _ e.symm; have h2 := HL.out.colour; omega)
      have hx10 : w10.cell? ⟨w.heap.size, 0, none⟩ = some (.slice Ar k cr) := (World.cell?_of_block (a := ⟨w.heap.size, 0, none⟩) hh10).trans hS8.cell
      have hS10 : HeldC w.heap.size (.slice Ar k cr) w10 := ⟨hx10⟩
      have h7r : wr.heap.size ≤ w5.heap.size := by have := hb5.size; simpa using this
      have h7s : w5.heap.size + 1 ≤ w7.heap.size := by have := HB7.out.size; simpa using this
      have hnl := new_lies (N := clampN x) (by have h := HL.out; exact h) HBR8.out (by omega) hr8 HR7.out (by simp; omega) hb8 (by rw [HLEN.out]; exact hg10) hR10
      have hf10 : w10.frozen? ⟨w.heap.size, 0, none⟩ = false := by
        have h := hh10.trans ((HBR8.out.block w.heap.size hBr).trans HL.out.head)
        exact unfrozen_of_block h 0
      rw [HLEN.out, List.length_append, HLEN.out] at hnl
      have HNL := Lib.hid hnl
      have hlen10 : (gs ++ [w7.heap.size]).length = k + 1 := by simp [HLEN.out]
      rw [hlen10] at *
      have hfr10 : ∀ q, (Value.slice A10 (k + 1) c10).ownBlock = some q → w.heap.size ≤ q := fun q hq => by
        rcases hat10 with h | ⟨b, h, hb⟩
        · have hq2 := h.symm.trans ((show (Value.slice A10 (gs ++ [w7.heap.size]).length c10).ownBlock = (Value.slice A10 (k + 1) c10).ownBlock from by cases A10 <;> rfl).trans hq); rw [← HLEN.out] at hq2; exact HFR.out q hq2
        · have hq2 := h.symm.trans ((show (Value.slice A10 (gs ++ [w7.heap.size]).length c10).ownBlock = (Value.slice A10 (k + 1) c10).ownBlock from by cases A10 <;> rfl).trans hq); injection hq2 with hq2; subst hq2; have := HBR8.out.size; omega
      have HFR10 := Lib.hid hfr10
      clear hnl hR10 hB10 hg10 hat10 hh10 hfr10
      refine hK.out _ _ (fun _ => hS10) ?_
      clear hK K
      (try simp only [Act.put]); (try simp only [List.getElem_toArray, List.getElem_cons_zero, List.getElem_cons_succ]); (try simp only [List.setIfInBounds_toArray]); (try simp only [List.set_cons_zero, List.set_cons_succ])
      refine wpAnyT_one (j := 15) rfl (by kernel_rfl) (fun K hK => ?_)
      go_simp
      refine hK.out _ _ (fun _ => hS10) ?_
      clear hK K
      (try simp only [Act.put]); (try simp only [List.getElem_toArray, List.getElem_cons_zero, List.getElem_cons_succ]); (try simp only [List.setIfInBounds_toArray]); (try simp only [List.set_cons_zero, List.set_cons_succ])
      refine wpAnyT_one (j := 16) rfl (by kernel_rfl) (fun K hK => ?_)
      go_simp
      refine hK.out _ _ (fun _ => hS10) ?_
      clear hK K
      (try simp only [Act.put]); (try simp only [List.getElem_toArray, List.getElem_cons_zero, List.getElem_cons_succ]); (try simp only [List.setIfInBounds_toArray]); (try simp only [List.set_cons_zero, List.set_cons_succ])
      refine wpAnyT_one (j := 17) rfl (by kernel_rfl) (fun K hK => ?_)
      go_simp
      refine hK.out _ _ (fun _ => past_t ‹_›) ?_
      clear hK K
      (try simp only [Act.put]); (try simp only [List.getElem_toArray, List.getElem_cons_zero, List.getElem_cons_succ]); (try simp only [List.setIfInBounds_toArray]); (try simp only [List.set_cons_zero, List.set_cons_succ])
      refine wpAnyT_done (by kernel_rfl) ?_ _
      clear hS0 hS5 hS6 hS7 hS8 hS9 hS10 hx10 hf10
      go_wp2_with fail
      go_roundg (gk - 1)
      case measure => have := HG.out; omega
      case rel =>
        have hl := HNL.out.2
        have e : (l.take (k + 1)).map newR = (l.take k).map newR ++ [⟨List.replicate (clampN x) noneS, []⟩] := by
          rw [List.take_succ_eq_append_getElem (by omega), List.map_append]
          have ex : l[k] = x := by have := HX.out; simp [rd, show k < l.length by omega] at this; exact this
          simp only [List.map_cons, List.map_nil, ex]
          rfl
        rw [← e] at hl
        have hbn := HNL.out.1.below (B := w.heap.size) (by omega) (fun j hj hs => by
            rcases hs with hs | hs
            · omega
            · rw [← HLEN.out] at hs
              have := HFR.out j hs.symm
              omega)
        exact ⟨k + 1, _, _, _, ⟨by rw [HM.out]; omega, by go_num, by have := HG.out; omega, fun j hj => (show (if j < wr.heap.size then G' j else _) = _ from by rw [if_pos (by omega)]; exact HO.out j hj), hl, HB.out.trans hbn, HFR10.out⟩⟩
    · obtain rfl : k = M := by omega
      go_wp2_with fail
      refine bodyPost_ret (v := .pointer (some ⟨w.heap.size, 0, none⟩)) (by simp [results, Tryd.results22, go_sem]) rfl ?_
      refine ⟨rfl, HB.out, G', HO.out, ?_⟩
      have e : newM l = ⟨(l.take k).map newR, false, 0, 0, []⟩ := by
        unfold newM
        by_cases h8 : l.length ≤ 8
        · rw [List.take_of_length_le h8, List.take_of_length_le (by have := HM.out; omega)]
        · have : k = 8 := by have := HM.out; omega
          rw [this]
      rw [e]
      exact ⟨_, _, _, HL.out⟩

end Go.Proofs.YtekpbpcfeopilaaDoor.Ds

/-! The program's disk: Lay. -/
namespace Go.Proofs.YtekpbpcfeopilaaDoor.Dt
open Go Go.RowKit Go.Joins Go.Proofs.YtekpbpcfeopilaaDoorCore Go.Proofs.YtekpbpcfeopilaaDoor.Dm Go.Proofs.YtekpbpcfeopilaaDoor.Dr Go.Proofs.YtekpbpcfeopilaaDoor.Da Go.Proofs.YtekpbpcfeopilaaDoor.Df Go.Proofs.YtekpbpcfeopilaaDoor.Dg Go.Proofs.YtekpbpcfeopilaaDoor.Dh Go.Proofs.YtekpbpcfeopilaaDoor.Di Go.Proofs.YtekpbpcfeopilaaDoor.Dj Go.Proofs.YtekpbpcfeopilaaDoor.Dk Go.Proofs.YtekpbpcfeopilaaDoor.Dl Go.Proofs.YtekpbpcfeopilaaDoor.Dn Go.Proofs.YtekpbpcfeopilaaDoor.Dp Go.Proofs.YtekpbpcfeopilaaDoor.Dq Go.Proofs.YtekpbpcfeopilaaDoor.Ds Go.Proofs.YtekpbpcfeopilaaDoor.Reg Go.Proofs.YtekpbpcfeopilaaDoorW.PrintWords Go.Proofs.YtekpbpcfeopilaaDoorW.PrintLast Go.Proofs.YtekpbpcfeopilaaDoorW.PrintMore

/-- Sector i of data, with noughts behind. -/
def secL (l : List UInt8) (i : Nat) : List UInt8 := (l.drop (64 * i)).take 64 ++ List.replicate (64 - ((l.drop (64 * i)).take 64).length) 0
def secB (d : ByteArray) (i : Nat) : ByteArray := ⟨(secL d.data.toList i).toArray⟩
def layL (N : Nat) (d : ByteArray) : List ByteArray := (List.range N).map (secB d)
def layM (m : MDisk) (n : Int) (d : ByteArray) : MDisk :=
  if 0 ≤ n ∧ n < m.regs.length then setM m n.toNat ⟨layL (m.regs.getD n.toNat ⟨[], []⟩).lasts.length d, []⟩ else m

theorem sec_eq {d dj : ByteArray} {j q : Nat} (h : dj.data.toList = d.data.toList.drop (64 * j)) (hq : min dj.size 64 = q) : dj.extract 0 q ++ noneS.extract q 64 = secB d j := by
  have hl : dj.data.toList.length = dj.size := data_length dj
  have e1 : (dj.extract 0 q).data.toList = dj.data.toList.take q := by simp [ByteArray.data_extract]
  have e2 : (noneS.extract q 64).data.toList = List.replicate (64 - q) 0 := by
    simp [ByteArray.data_extract, noneS]
  unfold secB secL
  rw [← h]
  apply ByteArray.ext
  apply Array.toList_inj.1
  rw [ByteArray.data_append, Array.toList_append, e1, e2]
  have e3 : dj.data.toList.take q = dj.data.toList.take 64 := by
    by_cases h64 : dj.size ≤ 64
    · rw [List.take_of_length_le (by omega), List.take_of_length_le (by omega)]
    · have : q = 64 := by omega
      rw [this]
  have e4 : (dj.data.toList.take 64).length = q := by rw [List.length_take, hl]; omega
  rw [e3, e4]
theorem rest_eq {d dj : ByteArray} {j q : Nat} (h : dj.data.toList = d.data.toList.drop (64 * j)) (hq : min dj.size 64 = q) : (dj.extract q dj.size).data.toList = d.data.toList.drop (64 * (j + 1)) := by
  have hl : dj.data.toList.length = dj.size := data_length dj
  have e1 : (dj.extract q dj.size).data.toList = dj.data.toList.drop q := by
    rw [ByteArray.data_extract, Array.toList_extract]
    simp [List.extract_eq_take_drop]
    rw [List.take_of_length_le]
    rw [List.length_drop, hl]
    exact Nat.le_refl _
  rw [e1]
  by_cases h64 : dj.size ≤ 64
  · rw [List.drop_of_length_le (by omega)]
    rw [List.drop_of_length_le]
    have h2 := congrArg List.length h
    rw [List.length_drop, hl] at h2
    omega
  · have : q = 64 := by omega
    rw [this, h, List.drop_drop]
    congr 1
theorem row_set {d : ByteArray} {l0 : List ByteArray} {j : Nat} (hj : j < l0.length) : (layL j d ++ l0.drop j).set j (secB d j) = layL (j + 1) d ++ l0.drop (j + 1) := by
  have hl : (layL j d).length = j := by simp [layL]
  rw [List.set_append_right _ _ (by omega), hl, Nat.sub_self, List.drop_eq_getElem_cons hj, List.set_cons_zero]
  simp [layL, List.range_succ]

structure LyInv (ok : Nat → Prop) (d : ByteArray) (N : Nat) (l0 : List ByteArray) (w1 : World) (g : Nat) (A : Option Addr) (cc : Nat) (gk : Nat) (dv v : Value) (wr : World) (j : Nat) (dj : ByteArray) : Prop where
  hi : j ≤ N
  slot : v = .int .i64 j
  dslot : dv = .string dj
  ghost : gk + j = N
  rest : dj.data.toList = d.data.toList.drop (64 * j)
  fr : Fr ok w1 wr
  head : wr.heap[g]? = some (.cells #[.slice A N cc, .slice none 0 0] TP.reg (0, 0))
  row : Kd.R Kd.string TP.str wr 0 ok (.slice A N cc) (layL j d ++ l0.drop j)
def LyRel (ok : Nat → Prop) (d : ByteArray) (N : Nat) (l0 : List ByteArray) (w1 : World) (g : Nat) (A : Option Addr) (cc : Nat) (gk : Nat) (dv v : Value) (wr : World) : Prop := ∃ j dj, LyInv ok d N l0 w1 g A cc gk dv v wr j dj

set_option maxHeartbeats 4000000 in
set_option maxRecDepth 100000 in
theorem lay_any {G : Nat → Nat} {c : Nat} {w : World} {b : Nat} {m : MDisk} {rv kv : Value} {gs : List Nat} (h : Lies TP G c w b m rv kv gs) {N : Nat} (hm : Wf N m) (n : Int) (d : ByteArray) :
    Calls Tryd.prog 29 #[.pointer (some ⟨b, 0, none⟩), .int .i64 n, .string d] w fun e w' => e = .returned (.tuple #[]) ∧ Did TP G c w b (layM m n d) w' := by
  have H := Lib.hid h
  have h8 := hm.few
  clear h hm
  by_cases hn : 0 ≤ n ∧ n < m.regs.length
  · obtain ⟨k, rfl⟩ : ∃ k : Nat, n = (k : Int) := ⟨n.toNat, by omega⟩
    have hk : k < m.regs.length := by omega
    obtain ⟨r, hr0⟩ : ∃ r, m.regs[k] = r := ⟨_, rfl⟩
    have em : Hid (layM m (k : Int) d = setM m k ⟨layL r.lasts.length d, []⟩) := by show _ = _; unfold layM; rw [if_pos hn, Int.toNat_natCast]; simp [hk, hr0]
    obtain ⟨g, eg, _⟩ := H.out.regs k hk
    have ep : regP gs (k : Int) = some ⟨g, 0, none⟩ := by rw [regP_nat, eg]; rfl
    have EG := Lib.hid eg
    have EP := Lib.hid ep
    clear hn eg ep
    go_enter Tryd.func29, Tryd.ntmps29
    go_wp2_with fail
    refine (at_any H.out (k : Int)).mono ?_
    rintro e w1 ⟨rfl, hb1⟩
    rw [EP.out]
    have H1 := Lib.hid (H.out.below hb1)
    obtain ⟨g2, hg2, hr⟩ := H1.out.regs k hk
    rw [EG.out] at hg2
    obtain rfl : g = g2 := by simpa using hg2
    rw [hr0] at hr
    obtain ⟨hgk, lv, qv, hb, hl, hq⟩ := hr
    obtain ⟨A, cc, rfl, hcc, hC⟩ := Kd.R_reads hl
    have hx0 : w1.cell? ⟨g, 0, none⟩ = some (.slice A r.lasts.length cc) := cell_of_block hb 0
    have hx1 : w1.cell? ⟨g, 1, none⟩ = some qv := cell_of_block hb 1
    have hf1 : w1.frozen? ⟨g, 1, none⟩ = false := unfrozen_of_block hb 1
    obtain ⟨Aq, cq, rfl, _, _⟩ := Kd.R_reads hq
    go_wp2_with fail
    have hA0 : LyRel (fun i => G i = c + 3 + k) d r.lasts.length r.lasts w1 g A cc r.lasts.length (.string d) (.int .i64 0) (w1.setCell ⟨g, 1, none⟩ (.slice none 0 0)) := by
      refine ⟨0, d, ⟨Nat.zero_le _, rfl, rfl, rfl, by simp, ?_, ?_, ?_⟩⟩
      · exact Fr.setAt (Fr.refl _ _) hgk
      · have h := block_setCell hb (i := 1) (.slice none 0 0)
        have e : (#[Value.slice A r.lasts.length cc, Value.slice Aq r.queue.length cq] : Array Value).setIfInBounds 1 (.slice none 0 0) = #[.slice A r.lasts.length cc, .slice none 0 0] := by simp
        rw [e] at h
        exact h
      · have h := Kd.R_set hl hb (by decide) 1 (.slice none 0 0)
        simpa [layL] using h
    have HA0 := Lib.hid hA0
    have HGK := Lib.hid hgk
    have hN := hC.2.1
    have HCC := Lib.hid hcc
    clear hA0 hgk hb hl hq hC hcc hx0 hx1 hf1 hg2 hr0
    obtain ⟨N, hN0⟩ : ∃ N, r.lasts.length = N := ⟨_, rfl⟩
    rw [hN0] at HA0 em hN HCC ⊢
    go_loopg [2, 22] N (fun gk dv v wr => LyRel (fun i => G i = c + 3 + k) d N r.lasts w1 g A cc gk dv v wr)
    case atStart => exact HA0.out
    case round =>
      obtain ⟨j, dj, hj, rfl, rfl, hgk, hrest, hfr, hhead, hrow⟩ := hrel
      have HG := Lib.hid hgk
      have HRE := Lib.hid hrest
      have HF := Lib.hid hfr
      have HH := Lib.hid hhead
      have HR := Lib.hid hrow
      clear hgk hrest hfr hhead hrow HA0
      by_cases hlt : j < N
      · have hx0 : wr.cell? ⟨g, 0, none⟩ = some (.slice A N cc) := cell_of_block HH.out 0
        obtain ⟨q, hq⟩ : ∃ q : Nat, min dj.size 64 = q := ⟨_, rfl⟩
        have hqi : min (dj.size : Int) 64 = (q : Int) := by omega
        have hq1 : q ≤ dj.size := by omega
        have hq2 : q ≤ 64 := by omega
        obtain ⟨sj, hsj⟩ : ∃ sj, dj.extract 0 q = sj := ⟨_, rfl⟩
        have hss : sj.size = q := by rw [← hsj, ByteArray.size_extract]; omega
        have HQ := Lib.hid hq
        have HSS := Lib.hid hss
        clear hq
        go_wp2_with (rw [hsj])
        have hlen : (layL j d ++ r.lasts.drop j).length = N := by simp [layL]; omega
        have hrow := HR.out
        obtain ⟨qb, cap, eqb, _, hqlt, _⟩ := Kd.R_form hrow (by omega)
        simp only [Value.slice.injEq] at eqb
        obtain ⟨rfl, hN3, rfl⟩ := eqb
        clear hN3
        have hcf := Kd.R_cell ByteArray.empty (by rw [hlen]; exact hrow) (j : Int) (by omega) (by omega)
        rw [Int.toNat_natCast] at hcf
        have HCF := Lib.hid hcf
        have HLEN := Lib.hid hlen
        have HSJ := Lib.hid hsj
        have hij : (j : Int) < (N : Int) := by omega
        clear hcf hlen hrow hsj
        have hnq : (noneS.size : Int) = 64 := rfl
        have hqi64 : (q : Int) ≤ 64 := by omega
        have hqi0 : (0 : Int) ≤ (q : Int) := by omega
        have hnq2 : noneS.size = 64 := rfl
        have hHS0 : HeldC g (.slice (some ⟨qb, 0, none⟩) N cc) wr.drew := ⟨hx0⟩
        refine wp_region_T 12 (HeldC g (.slice (some ⟨qb, 0, none⟩) N cc)) (by kernel_rfl) ?_
        refine wpAnyT_take (i := 0) (v := ?mv1) rfl (by kernel_rfl) (by kernel_rfl) (by kernel_rfl) rfl rfl (by kernel_rfl) (by rfl) (fun _ _ _ h => h) (Or.inl ⟨by rfl, ?mh1⟩) (by assumption) ?mr1
        case mh1 => intro w hSw; (try have hSw1 := hSw.1); (try have hSw2 := hSw.2); go_simp; try with_reducible rfl
        (try simp only [Act.put]); (try simp only [List.getElem_toArray, List.getElem_cons_zero, List.getElem_cons_succ]); (try simp only [List.setIfInBounds_toArray]); (try simp only [List.set_cons_zero, List.set_cons_succ])
        refine wpAnyT_take (i := 1) (v := ?mv2) rfl (by kernel_rfl) (by kernel_rfl) (by kernel_rfl) rfl rfl (by kernel_rfl) (by rfl) (fun _ _ _ h => h) (Or.inl ⟨by rfl, ?mh2⟩) (by assumption) ?mr2
        case mh2 => intro w hSw; (try have hSw1 := hSw.1); (try have hSw2 := hSw.2); go_simp; try with_reducible rfl
        (try simp only [Act.put]); (try simp only [List.getElem_toArray, List.getElem_cons_zero, List.getElem_cons_succ]); (try simp only [List.setIfInBounds_toArray]); (try simp only [List.set_cons_zero, List.set_cons_succ])
        refine wpAnyT_take (i := 2) (v := ?mv3) rfl (by kernel_rfl) (by kernel_rfl) (by kernel_rfl) rfl rfl (by kernel_rfl) (by rfl) (fun _ _ _ h => h) (Or.inl ⟨by rfl, ?mh3⟩) (by assumption) ?mr3
        case mh3 => intro w hSw; (try have hSw1 := hSw.1); (try have hSw2 := hSw.2); go_simp; try with_reducible rfl
        (try simp only [Act.put]); (try simp only [List.getElem_toArray, List.getElem_cons_zero, List.getElem_cons_succ]); (try simp only [List.setIfInBounds_toArray]); (try simp only [List.set_cons_zero, List.set_cons_succ])
        refine wpAnyT_take (i := 3) (v := ?mv4) rfl (by kernel_rfl) (by kernel_rfl) (by kernel_rfl) rfl rfl (by kernel_rfl) (by rfl) (fun _ _ _ h => h) (Or.inl ⟨by rfl, ?mh4⟩) (by assumption) ?mr4
        case mh4 => intro w hSw; (try have hSw1 := hSw.1); (try have hSw2 := hSw.2); go_simp; try with_reducible rfl
        (try simp only [Act.put]); (try simp only [List.getElem_toArray, List.getElem_cons_zero, List.getElem_cons_succ]); (try simp only [List.setIfInBounds_toArray]); (try simp only [List.set_cons_zero, List.set_cons_succ])
        refine wpAnyT_take (i := 4) (v := ?mv5) rfl (by kernel_rfl) (by kernel_rfl) (by kernel_rfl) rfl rfl (by kernel_rfl) (by rfl) (fun _ _ _ h => h) (Or.inl ⟨by rfl, ?mh5⟩) (by assumption) ?mr5
        case mh5 => intro w hSw; (try have hSw1 := hSw.1); (try have hSw2 := hSw.2); go_simp; try with_reducible rfl
        (try simp only [Act.put]); (try simp only [List.getElem_toArray, List.getElem_cons_zero, List.getElem_cons_succ]); (try simp only [List.setIfInBounds_toArray]); (try simp only [List.set_cons_zero, List.set_cons_succ])
        refine wpAnyT_take (i := 5) (v := ?mv6) rfl (by kernel_rfl) (by kernel_rfl) (by kernel_rfl) rfl rfl (by kernel_rfl) (by rfl) (fun _ _ _ h => h) (Or.inl ⟨by rfl, ?mh6⟩) (by assumption) ?mr6
        case mh6 => intro w hSw; (try have hSw1 := hSw.1); (try have hSw2 := hSw.2); go_simp; try with_reducible rfl
        (try simp only [Act.put]); (try simp only [List.getElem_toArray, List.getElem_cons_zero, List.getElem_cons_succ]); (try simp only [List.setIfInBounds_toArray]); (try simp only [List.set_cons_zero, List.set_cons_succ])
        refine wpAnyT_take (i := 7) (v := ?mv7) rfl (by kernel_rfl) (by kernel_rfl) (by kernel_rfl) rfl rfl (by kernel_rfl) (by rfl) (fun _ _ _ h => h) (Or.inl ⟨by rfl, ?mh7⟩) (by assumption) ?mr7
        case mh7 => intro w hSw; (try have hSw1 := hSw.1); (try have hSw2 := hSw.2); go_simp; try with_reducible rfl
        (try simp only [Act.put]); (try simp only [List.getElem_toArray, List.getElem_cons_zero, List.getElem_cons_succ]); (try simp only [List.setIfInBounds_toArray]); (try simp only [List.set_cons_zero, List.set_cons_succ])
        refine wpAnyT_take (i := 8) (v := ?mv8) rfl (by kernel_rfl) (by kernel_rfl) (by kernel_rfl) rfl rfl (by kernel_rfl) (by rfl) (fun _ _ _ h => h) (Or.inl ⟨by rfl, ?mh8⟩) (by assumption) ?mr8
        case mh8 => intro w hSw; (try have hSw1 := hSw.1); (try have hSw2 := hSw.2); go_simp; try with_reducible rfl
        (try simp only [Act.put]); (try simp only [List.getElem_toArray, List.getElem_cons_zero, List.getElem_cons_succ]); (try simp only [List.setIfInBounds_toArray]); (try simp only [List.set_cons_zero, List.set_cons_succ])
        refine wpAnyT_one (j := 6) rfl (by kernel_rfl) (fun K hK => ?_)
        go_simp
        go_at_call 50
        refine (none_any _).mono ?_
        rintro e w5 ⟨rfl, hb5⟩
        have hHS5 := hHS0.below hb5
        have hc5 := pw_cell_below hb5 (a := ⟨qb, j, none⟩) HCF.out.1
        have hf5 : w5.frozen? ⟨qb, j, none⟩ = false := (hb5.frozen (p := ⟨qb, j, none⟩) hqlt).trans HCF.out.2
        refine hK.out _ _ (fun _ => hHS5) ?_
        clear hK K
        (try simp only [Act.put]); (try simp only [List.getElem_toArray, List.getElem_cons_zero, List.getElem_cons_succ]); (try simp only [List.setIfInBounds_toArray]); (try simp only [List.set_cons_zero, List.set_cons_succ])
        refine wpAnyT_take (i := 9) (v := ?mv9) rfl (by kernel_rfl) (by kernel_rfl) (by kernel_rfl) rfl rfl (by kernel_rfl) (by rfl) (fun _ _ _ h => h) (Or.inl ⟨by rfl, ?mh9⟩) (by assumption) ?mr9
        case mh9 => intro w hSw; (try have hSw1 := hSw.1); (try have hSw2 := hSw.2); go_simp; try with_reducible rfl
        (try simp only [Act.put]); (try simp only [List.getElem_toArray, List.getElem_cons_zero, List.getElem_cons_succ]); (try simp only [List.setIfInBounds_toArray]); (try simp only [List.set_cons_zero, List.set_cons_succ])
        refine wpAnyT_take (i := 10) (v := ?mv10) rfl (by kernel_rfl) (by kernel_rfl) (by kernel_rfl) rfl rfl (by kernel_rfl) (by rfl) (fun _ _ _ h => h) (Or.inl ⟨by rfl, ?mh10⟩) (by assumption) ?mr10
        case mh10 => intro w hSw; (try have hSw1 := hSw.1); (try have hSw2 := hSw.2); go_simp; try with_reducible rfl
        (try simp only [Act.put]); (try simp only [List.getElem_toArray, List.getElem_cons_zero, List.getElem_cons_succ]); (try simp only [List.setIfInBounds_toArray]); (try simp only [List.set_cons_zero, List.set_cons_succ])
        refine wpAnyT_one (j := 11) rfl (by kernel_rfl) (fun K hK => ?_)
        go_simp
        refine hK.out _ _ (fun _ => hHS5) ?_
        clear hK K
        (try simp only [Act.put]); (try simp only [List.getElem_toArray, List.getElem_cons_zero, List.getElem_cons_succ]); (try simp only [List.setIfInBounds_toArray]); (try simp only [List.set_cons_zero, List.set_cons_succ])
        refine wpAnyT_one (j := 12) rfl (by kernel_rfl) (fun K hK => ?_)
        go_simp
        refine hK.out _ _ (fun _ => past_t ‹_›) ?_
        clear hK K
        (try simp only [Act.put]); (try simp only [List.getElem_toArray, List.getElem_cons_zero, List.getElem_cons_succ]); (try simp only [List.setIfInBounds_toArray]); (try simp only [List.set_cons_zero, List.set_cons_succ])
        refine wpAnyT_done (by kernel_rfl) ?_ _
        have ev : sj ++ noneS.extract q 64 = secB d j := by rw [← HSJ.out]; exact sec_eq HRE.out HQ.out
        rw [ev]
        have f6 : Fr (fun i => G i = c + 3 + k) wr (w5.setCell ⟨qb, j, none⟩ (.string (secB d j))) := by
          refine Fr.setAt ?_ (HR.out.1 qb rfl)
          exact Fr.drew (Fr.refl _ _) |>.thenBelow hb5
        have hh6 := (Fr.block (S := fun i => i = qb) (Fr.setAt (Fr.drew (Fr.refl _ wr) |>.thenBelow hb5) rfl (j := j) (u := .string (secB d j))) g (heap_lt HH.out) (fun e => by
          have h1 := Kd.R_ne HR.out HH.out (by decide)
          exact h1 (by rw [e]; rfl))).trans HH.out
        have hR6 : Kd.R Kd.string TP.str (w5.setCell ⟨qb, j, none⟩ (.string (secB d j))) 0 (fun i => G i = c + 3 + k) (.slice (some ⟨qb, 0, none⟩) N cc) (layL (j + 1) d ++ r.lasts.drop (j + 1)) := by
          have h1 := Kd.R_below (w1 := w5) HR.out ((below_drew (Below.refl _ _)).trans hb5)
          have h2 := (Kd.R_put (by rw [HLEN.out]; exact h1) (j : Int) (secB d j)).1
          have hjl : j < r.lasts.length := by have := HLEN.out; simp [layL] at this; omega
          rw [Int.toNat_natCast, row_set hjl] at h2
          have e : (layL j d ++ r.lasts.drop j).length = N := HLEN.out
          rw [e] at h2
          exact h2
        have HF6 := Lib.hid (HF.out.trans f6)
        have HH6 := Lib.hid hh6
        have HR6 := Lib.hid hR6
        have HRE6 := Lib.hid (rest_eq HRE.out HQ.out)
        clear ev f6 hh6 hR6 hHS0 hHS5 hc5 hf5
        go_wp2_with fail
        go_roundg (gk - 1)
        case measure => have := HG.out; omega
        case rel => exact ⟨j + 1, _, ⟨by omega, by go_num, rfl, by have := HG.out; omega, HRE6.out, HF6.out, HH6.out, HR6.out⟩⟩
      · obtain rfl : j = N := by omega
        go_wp2_with fail
        refine bodyPost_end (v := .tuple #[]) (by simp [results, Tryd.results29, go_sem]) rfl ?_
        refine ⟨rfl, ?_⟩
        rw [em.out]
        have hrow := HR.out
        rw [List.drop_of_length_le (by omega), List.append_nil] at hrow
        refine Did.of ((Step.of_below hb1).trans (Step.of_fr HF.out (fun i _ hi => ?_))) (reg_lies H1.out EG.out HF.out ⟨HGK.out, _, _, HH.out, hrow, Kd.R_nil _ _ _ _ _⟩)
        omega
  · have em : Hid (layM m n d = m) := by show _ = _; unfold layM; rw [if_neg hn]
    have ep : regP gs n = none := by
      by_cases h0 : n < 0
      · exact regP_neg h0
      · obtain ⟨k, rfl⟩ : ∃ k : Nat, n = (k : Int) := ⟨n.toNat, by omega⟩
        rw [regP_nat, List.getElem?_eq_none (by have := H.out.len; omega)]
        rfl
    have EP := Lib.hid ep
    clear ep hn
    go_enter Tryd.func29, Tryd.ntmps29
    go_wp2_with fail
    refine (at_any H.out n).mono ?_
    rintro e w1 ⟨rfl, hb1⟩
    rw [EP.out]
    go_wp2_with fail
    refine bodyPost_ret (v := .tuple #[]) (by simp [results, Tryd.results29, go_sem]) rfl ?_
    exact ⟨rfl, by rw [em.out]; exact Did.of (Step.of_below hb1) (H.out.below hb1)⟩

end Go.Proofs.YtekpbpcfeopilaaDoor.Dt

/-! What was made stays well made; plain. -/
namespace Go.Proofs.YtekpbpcfeopilaaDoor.Du
open Go Go.Proofs.YtekpbpcfeopilaaDoor.Dm Go.Proofs.YtekpbpcfeopilaaDoor.Dr Go.Proofs.YtekpbpcfeopilaaDoor.Da Go.Proofs.YtekpbpcfeopilaaDoor.Df Go.Proofs.YtekpbpcfeopilaaDoor.Dg Go.Proofs.YtekpbpcfeopilaaDoor.Dh Go.Proofs.YtekpbpcfeopilaaDoor.Di Go.Proofs.YtekpbpcfeopilaaDoor.Dj Go.Proofs.YtekpbpcfeopilaaDoor.Dk Go.Proofs.YtekpbpcfeopilaaDoor.Dl Go.Proofs.YtekpbpcfeopilaaDoor.Dn Go.Proofs.YtekpbpcfeopilaaDoor.Dp Go.Proofs.YtekpbpcfeopilaaDoor.Dq Go.Proofs.YtekpbpcfeopilaaDoor.Ds Go.Proofs.YtekpbpcfeopilaaDoor.Dt

theorem new_wf (l : List Int) : Wf 0 (newM l) := by
  refine ⟨by simp [newM]; omega, ?_, by simp [newM], by simp [newM]⟩
  intro r hr
  simp only [newM, List.mem_map] at hr
  obtain ⟨n, _, rfl⟩ := hr
  refine ⟨by simp [newR, clampN]; omega, by simp [newR], ?_, by simp [newR], by simp [newR]⟩
  intro s hs
  rw [List.eq_of_mem_replicate hs]
  rfl

theorem putQ_64 (kept : Nat → Bool) : ∀ (q : List (Int × ByteArray)) (i : Nat) (l : List ByteArray), (∀ p ∈ q, p.2.size = 64) → (∀ s ∈ l, s.size = 64) → ∀ s ∈ putQ kept i q l, s.size = 64 := by
  intro q
  induction q with
  | nil => intro i l _ h s hs; exact h s hs
  | cons p q ih =>
    intro i l hq hl s hs
    rw [putQ] at hs
    refine ih (i + 1) _ (fun p' hp => hq p' (by simp [hp])) ?_ s hs
    intro x hx
    split at hx
    · rcases List.mem_or_eq_of_mem_set hx with h | h
      · exact hl x h
      · rw [h]; exact hq p (by simp)
    · exact hl x hx

theorem last_wf {N : Nat} {r : MReg} (kept : Nat → Bool) (h : WfR N r) : WfR N (lastR kept r) :=
  ⟨by simp [lastR, putQ_length]; exact h.few, by simp [lastR], putQ_64 kept _ _ _ h.q64 h.l64, by simp [lastR], by simp [lastR]⟩

theorem lose_wf {N : Nat} {m : MDisk} (l : List Int) (h : Wf N m) : Wf N (loseM l m) := by
  refine ⟨by simp [loseM, loseRs, h.few], ?_, by simp [loseM], by simp [loseM]⟩
  intro r hr
  simp only [loseM, loseRs] at hr
  obtain ⟨i, hi, rfl⟩ := List.mem_iff_getElem.1 hr
  rw [List.getElem_mapIdx]
  exact last_wf _ (h.regs _ (List.getElem_mem _))

theorem on_wf {N : Nat} {m : MDisk} (h : Wf N m) : Wf N (onM m) := ⟨h.few, h.regs, by simp [onM], by simp [onM]⟩
theorem crash_wf {N : Nat} {m : MDisk} (l : List Int) (h : Wf N m) : Wf N (crashM l m) := by
  unfold crashM
  split
  · exact on_wf h
  · exact on_wf (lose_wf l h)

theorem set_wf {N k : Nat} {m : MDisk} {r : MReg} (h : Wf N m) (hr : WfR N r) : Wf N (setM m k r) := by
  refine ⟨by simp [setM, h.few], ?_, h.left, h.keep⟩
  intro x hx
  rcases List.mem_or_eq_of_mem_set hx with hx | hx
  · exact h.regs x hx
  · rw [hx]; exact hr

theorem cut_wf {N : Nat} {m : MDisk} {n left : Int} {keep : List Int} (h : Wf N m) (hl : left ≤ 9223372036854775807) (hk : ∀ x ∈ keep, 0 ≤ x ∧ x ≤ 18446744073709551615) : Wf N (cutM m n left keep) := by
  unfold cutM
  split
  · rename_i hc
    exact ⟨h.few, h.regs, ⟨by simp only; omega, by simp only; omega⟩, hk⟩
  · exact ⟨h.few, h.regs, by simp, by simp⟩

theorem wf_mono {N N' : Nat} {m : MDisk} (h : Wf N m) (hN : N ≤ N') : Wf N' m :=
  ⟨h.few, fun r hr => ⟨(h.regs r hr).few, (h.regs r hr).inQ, (h.regs r hr).l64, (h.regs r hr).q64, Nat.le_trans (h.regs r hr).long hN⟩, h.left, h.keep⟩

theorem find_ok_m {m : MDisk} {n s : Int} (h : findM m n s = 0) : ∃ (k j : Nat) (r : MReg), n = (k : Int) ∧ s = (j : Int) ∧ m.regs[k]? = some r ∧ j < r.lasts.length := by
  unfold findM at h
  split at h
  · omega
  · split at h
    · rename_i hh
      obtain ⟨h1, h2, h3⟩ := hh
      obtain ⟨k, rfl⟩ : ∃ k : Nat, n = (k : Int) := ⟨n.toNat, by omega⟩
      obtain ⟨j, rfl⟩ : ∃ j : Nat, s = (j : Int) := ⟨s.toNat, by omega⟩
      rw [sectorsM_nat] at h3
      cases hr : m.regs[k]? with
      | none => rw [hr] at h3; simp at h3; omega
      | some r => rw [hr] at h3; simp at h3; exact ⟨k, j, r, rfl, rfl, hr, by omega⟩
    · omega

theorem write_wf {N : Nat} {m : MDisk} {n s : Int} {d : ByteArray} (h : Wf N m) : Wf (N + 1) (writeM m n s d) := by
  unfold writeM
  split
  · rename_i hc
    obtain ⟨k, j, r, rfl, rfl, hr, hj⟩ := find_ok_m hc.1
    have he : Wf (N + 1) (enqM m k ((j : Int), d)) := enq_wf h hr ⟨by show (0 : Int) ≤ (j : Int); omega, by show (j : Int) < _; omega⟩ hc.2
    simp only [Int.toNat_natCast]
    split
    · exact lose_wf _ he
    · exact tick_wf he
  · exact wf_mono h (by omega)

theorem flush_wf {N : Nat} {m : MDisk} {n : Int} (h : Wf N m) : Wf N (flushM m n) := by
  unfold flushM
  split
  · exact h
  · split
    · split
      · exact lose_wf _ h
      · rename_i hn _
        refine set_wf (tick_wf h) (last_wf _ (h.regs _ ?_))
        obtain ⟨k, rfl⟩ : ∃ k : Nat, n = (k : Int) := ⟨n.toNat, by omega⟩
        have hk : k < m.regs.length := by omega
        rw [Int.toNat_natCast]
        simp only [List.getD_eq_getElem?_getD, List.getElem?_eq_getElem hk, Option.getD_some]
        exact List.getElem_mem hk
    · exact h

theorem secB_size (d : ByteArray) (i : Nat) : (secB d i).size = 64 := by
  show (secL d.data.toList i).toArray.size = 64
  simp [secL]
  omega
theorem lay_wf {N : Nat} {m : MDisk} {n : Int} {d : ByteArray} (h : Wf N m) : Wf N (layM m n d) := by
  unfold layM
  split
  · rename_i hn
    obtain ⟨k, rfl⟩ : ∃ k : Nat, n = (k : Int) := ⟨n.toNat, by omega⟩
    have hk : k < m.regs.length := by omega
    refine set_wf h ⟨?_, by simp, ?_, by simp, by simp⟩
    · simp only [layL, List.length_map, List.length_range, Int.toNat_natCast, List.getD_eq_getElem?_getD, List.getElem?_eq_getElem hk, Option.getD_some]
      exact (h.regs _ (List.getElem_mem hk)).few
    · intro s hs
      simp only [layL, List.mem_map] at hs
      obtain ⟨i, _, rfl⟩ := hs
      exact secB_size d i
  · exact h

end Go.Proofs.YtekpbpcfeopilaaDoor.Du

/-! The statements' own: wakes; DiskNil. -/
namespace Go.Proofs.YtekpbpcfeopilaaDoor.Dw
open Go Go.RowKit Go.Joins Go.Proofs.YtekpbpcfeopilaaDoorCore Go.Proofs.YtekpbpcfeopilaaDoor.Dm Go.Proofs.YtekpbpcfeopilaaDoor.Dr Go.Proofs.YtekpbpcfeopilaaDoor.Da Go.Proofs.YtekpbpcfeopilaaDoor.Df Go.Proofs.YtekpbpcfeopilaaDoor.Dg Go.Proofs.YtekpbpcfeopilaaDoor.Dh Go.Proofs.YtekpbpcfeopilaaDoor.Di Go.Proofs.YtekpbpcfeopilaaDoor.Dj Go.Proofs.YtekpbpcfeopilaaDoor.Dk Go.Proofs.YtekpbpcfeopilaaDoor.Dl Go.Proofs.YtekpbpcfeopilaaDoor.Dn Go.Proofs.YtekpbpcfeopilaaDoor.Dp Go.Proofs.YtekpbpcfeopilaaDoor.Dq Go.Proofs.YtekpbpcfeopilaaDoor.Ds Go.Proofs.YtekpbpcfeopilaaDoor.Dt Go.Proofs.YtekpbpcfeopilaaDoor.Du Go.Proofs.YtekpbpcfeopilaaDoor.Reg Go.Proofs.YtekpbpcfeopilaaDoorW.PrintWords Go.Proofs.YtekpbpcfeopilaaDoorW.PrintLast Go.Proofs.YtekpbpcfeopilaaDoorW.PrintMore

/-- A slice of numbers that was typed out. -/
theorem lit_C (k : IntKind) (W : World) (e : Nat) (xs : List Int) (h : xs.length ≤ 9223372036854775807) : Kd.C (Kd.int k) (W.alloc (.cells (encs (Value.int k) xs).toArray e)) (some ⟨W.heap.size, 0, none⟩) xs.length xs := by
  have ho := own_lit_of (enc := Value.int k) W 0 e xs (Nat.zero_le _) h
  obtain ⟨A, c, he, hr⟩ := own_reads_of (d := (0 : Int)) ho
  injection he with he1 he2 he3
  rw [he1]
  exact Kd.C_of_reads (h1 := fun _ => rfl) hr

theorem dat_below {T : Tys} {G : Nat → Nat} {c : Nat} {w w' : World} {b : Nat} {m : MDisk} (h : DiskAt T G c w b m) (f : Below w.heap.size w w') : DiskAt T G c w' b m := by
  obtain ⟨rv, kv, gs, h⟩ := h
  exact ⟨rv, kv, gs, h.below f⟩
theorem dat_recolour {T : Tys} {G G' : Nat → Nat} {c : Nat} {w : World} {b : Nat} {m : MDisk} (h : DiskAt T G c w b m) (hG : ∀ k, k < w.heap.size → G' k = G k) : DiskAt T G' c w b m := by
  obtain ⟨rv, kv, gs, h⟩ := h
  exact ⟨rv, kv, gs, h.recolour hG⟩
theorem write_d {G : Nat → Nat} {c : Nat} {w : World} {b : Nat} {m : MDisk} (h : DiskAt TP G c w b m) {N : Nat} (hm : Wf N m) (hN : N < 1000000) (n s : Int) (d : ByteArray) :
    Calls Tryd.prog 57 #[.pointer (some ⟨b, 0, none⟩), .int .i64 n, .int .i64 s, .string d] w fun e w' => e = .returned (.int .i64 (writeE m n s d)) ∧ Did TP G c w b (writeM m n s d) w' := by
  obtain ⟨rv, kv, gs, h⟩ := h
  exact write_any h hm hN n s d
theorem read_d {G : Nat → Nat} {c : Nat} {w : World} {b : Nat} {m : MDisk} (h : DiskAt TP G c w b m) (n s : Int) :
    Calls Tryd.prog 72 #[.pointer (some ⟨b, 0, none⟩), .int .i64 n, .int .i64 s] w fun e w' => e = .returned (.tuple #[.string (readM m n s), .int .i64 (findM m n s)]) ∧ Below w.heap.size w w' := by
  obtain ⟨rv, kv, gs, h⟩ := h
  exact read_any h n s
theorem sectors_d {G : Nat → Nat} {c : Nat} {w : World} {b : Nat} {m : MDisk} (h : DiskAt TP G c w b m) (n : Int) :
    Calls Tryd.prog 44 #[.pointer (some ⟨b, 0, none⟩), .int .i64 n] w fun e w' => e = .returned (.int .i64 (sectorsM m n)) ∧ Below w.heap.size w w' := by
  obtain ⟨rv, kv, gs, h⟩ := h
  exact sectors_any h n
theorem crash_d {G : Nat → Nat} {c : Nat} {w : World} {b : Nat} {m : MDisk} (h : DiskAt TP G c w b m) {N : Nat} (hm : Wf N m) (hN : N ≤ 1000000) (A : Option Addr) (cc : Nat) (keep : List Int) (hK : ∀ x ∈ keep, 0 ≤ x ∧ x ≤ 18446744073709551615)
    (hC : ∀ W, Fr (regC G c) w W → Kd.C (Kd.int .u64) W A keep.length keep) :
    Calls Tryd.prog 30 #[.pointer (some ⟨b, 0, none⟩), .slice A keep.length cc] w fun e w' => e = .returned (.tuple #[]) ∧ Did TP G c w b (crashM keep m) w' := by
  obtain ⟨rv, kv, gs, h⟩ := h
  exact crash_any h hm hN A cc keep hK hC

/-- What is read by cells of one block stays as long as that block isn't turned. -/
theorem C_fr {k : IntKind} {S : Nat → Prop} {w W : World} {q n : Nat} {xs : List Int} (h : Kd.C (Kd.int k) w (some ⟨q, 0, none⟩) n xs) (f : Fr S w W) (hq : ¬ S q) : Kd.C (Kd.int k) W (some ⟨q, 0, none⟩) n xs := by
  refine ⟨h.1, h.2.1, fun hn => ?_⟩
  obtain ⟨ad, ha, hc⟩ := h.2.2 hn
  injection ha with ha
  subst ha
  refine ⟨_, rfl, fun j x hj => ?_⟩
  obtain ⟨c, h1, h2, h3⟩ := hc j x hj
  refine ⟨c, h1, h2, fun i u hu => ?_⟩
  have := h3 i u hu
  rw [Addr.add_plain0] at this ⊢
  exact f.cell this hq

theorem step_below {G G' : Nat → Nat} {c B : Nat} {w w' : World} (s : Step G G' c w w') (hB : B ≤ w.heap.size) (hG : ∀ k, k < B → G k = 0) (hc : 0 < c) : Below B w w' :=
  s.fr.below hB (fun k hk hs => by rw [s.old k (by omega), hG k hk] at hs; omega)

/-- A disk that a call made for itself. -/
def St (w0 w : World) (b : Nat) (m : MDisk) (N : Nat) : Prop := ∃ G, DiskAt TP G 10 w b m ∧ Below w0.heap.size w0 w ∧ (∀ k, k < w0.heap.size → G k = 0) ∧ Wf N m
theorem St.bel {w0 w : World} {b : Nat} {m : MDisk} {N : Nat} (h : St w0 w b m N) : Below w0.heap.size w0 w := by obtain ⟨G, _, h2, _⟩ := h; exact h2
theorem St.wf {w0 w : World} {b : Nat} {m : MDisk} {N : Nat} (h : St w0 w b m N) : Wf N m := by obtain ⟨G, _, _, _, h4⟩ := h; exact h4
theorem St.below {w0 w w' : World} {b : Nat} {m : MDisk} {N : Nat} (h : St w0 w b m N) (f : Below w.heap.size w w') : St w0 w' b m N := by
  obtain ⟨G, h1, h2, h3, h4⟩ := h
  exact ⟨G, dat_below h1 f, h2.trans (f.mono h2.size), h3, h4⟩
theorem St.alloc {w0 w : World} {b : Nat} {m : MDisk} {N : Nat} (h : St w0 w b m N) (o : Obj) : St w0 (w.alloc o) b m N := h.below ((Below.refl _ _).alloc (Nat.le_refl _) o)
theorem St.did {G : Nat → Nat} {w0 w w' : World} {b : Nat} {m' : MDisk} {N' : Nat} (hd : Did TP G 10 w b m' w') (h2 : Below w0.heap.size w0 w) (h3 : ∀ k, k < w0.heap.size → G k = 0) (h4 : Wf N' m') : St w0 w' b m' N' := by
  obtain ⟨G', hs, hd⟩ := hd
  exact ⟨G', hd, h2.trans (step_below hs h2.size h3 (by omega)), fun k hk => by rw [hs.old k (Nat.lt_of_lt_of_le hk h2.size)]; exact h3 k hk, h4⟩

end Go.Proofs.YtekpbpcfeopilaaDoor.Dw

/-! Several disks beside one another, and what is none of theirs. -/
namespace Go.Proofs.YtekpbpcfeopilaaDoor.Sys
open Go Go.RowKit Go.Joins Go.Proofs.YtekpbpcfeopilaaDoorCore Go.Proofs.YtekpbpcfeopilaaDoor.Dm Go.Proofs.YtekpbpcfeopilaaDoor.Dr Go.Proofs.YtekpbpcfeopilaaDoor.Da Go.Proofs.YtekpbpcfeopilaaDoor.Df Go.Proofs.YtekpbpcfeopilaaDoor.Dg Go.Proofs.YtekpbpcfeopilaaDoor.Dh Go.Proofs.YtekpbpcfeopilaaDoor.Di Go.Proofs.YtekpbpcfeopilaaDoor.Dj Go.Proofs.YtekpbpcfeopilaaDoor.Dk Go.Proofs.YtekpbpcfeopilaaDoor.Dl Go.Proofs.YtekpbpcfeopilaaDoor.Dn Go.Proofs.YtekpbpcfeopilaaDoor.Dp Go.Proofs.YtekpbpcfeopilaaDoor.Dq Go.Proofs.YtekpbpcfeopilaaDoor.Ds Go.Proofs.YtekpbpcfeopilaaDoor.Dt Go.Proofs.YtekpbpcfeopilaaDoor.Du Go.Proofs.YtekpbpcfeopilaaDoor.Dw Go.Proofs.YtekpbpcfeopilaaDoorW.PrintWords Go.Proofs.YtekpbpcfeopilaaDoorW.PrintLast Go.Proofs.YtekpbpcfeopilaaDoorW.PrintMore

/-- A disk: where it lies, what it is, how much it was written to. -/
structure DK where
  b : Nat
  m : MDisk
  n : Nat
/-- Disks; the blocks of Z, which are there, are none of theirs. -/
def Dks (Z : Nat → Prop) (w : World) (ds : List DK) : Prop :=
  (∀ k, Z k → k < w.heap.size) ∧ ∃ G, (∀ i (d : DK), ds[i]? = some d → DiskAt TP G (10 + 20 * i) w d.b d.m ∧ Wf d.n d.m) ∧ ∀ k, Z k → G k = 0
theorem Dks.wf {Z : Nat → Prop} {w : World} {ds : List DK} (h : Dks Z w ds) {i : Nat} {d : DK} (hi : ds[i]? = some d) : Wf d.n d.m := by obtain ⟨_, G, h1, _⟩ := h; exact (h1 i d hi).2
theorem Dks.nil (w : World) : Dks (fun k => k < w.heap.size) w [] := ⟨fun _ h => h, fun _ => 0, by simp, fun _ _ => rfl⟩
theorem Dks.mono {Z Z' : Nat → Prop} {w : World} {ds : List DK} (h : Dks Z w ds) (hz : ∀ k, Z' k → Z k) : Dks Z' w ds := by
  obtain ⟨h0, G, h1, h2⟩ := h
  exact ⟨fun k hk => h0 k (hz k hk), G, h1, fun k hk => h2 k (hz k hk)⟩
/-- Z, and what was made between two worlds. -/
def more (Z : Nat → Prop) (w w' : World) (k : Nat) : Prop := Z k ∨ (w.heap.size ≤ k ∧ k < w'.heap.size)
/-- What turned blocks of Z alone; what was made is ours. -/
theorem Dks.own {Z S : Nat → Prop} {w w' : World} {ds : List DK} (h : Dks Z w ds) (f : Fr S w w') (hs : ∀ k, k < w.heap.size → S k → Z k) : Dks (more Z w w') w' ds := by
  obtain ⟨h0, G, h1, h2⟩ := h
  refine ⟨fun k hk => ?_, ext G w.heap.size 0, fun i d hi => ?_, fun k hz => ?_⟩
  · rcases hk with hk | hk
    · exact Nat.lt_of_lt_of_le (h0 k hk) f.size
    · exact hk.2
  · obtain ⟨⟨rv, kv, gs, h3⟩, h4⟩ := h1 i d hi
    refine ⟨⟨rv, kv, gs, (Lies.recolour h3 (G' := ext G w.heap.size 0) (fun k hk => ext_old hk)).fr f (fun k hk hc _ hsk => ?_)⟩, h4⟩
    rw [ext_old hk, h2 k (hs k hk hsk)] at hc
    omega
  · rcases hz with hz | hz
    · rw [ext_old (h0 k hz)]; exact h2 k hz
    · exact ext_new hz.1
/-- What turned nothing of what was there. -/
theorem Dks.below {Z : Nat → Prop} {w w' : World} {ds : List DK} (h : Dks Z w ds) (f : Below w.heap.size w w') : Dks (more Z w w') w' ds := h.own (S := fun _ => False) (Fr.of_below f) (fun _ _ h => h.elim)
theorem Dks.keep {Z : Nat → Prop} {w w' : World} {ds : List DK} (h : Dks Z w ds) (f : Below w.heap.size w w') : Dks Z w' ds := (h.below f).mono (fun _ hk => .inl hk)

theorem Dks.did {Z : Nat → Prop} {w w' : World} {ds : List DK} {G : Nat → Nat} {i : Nat} {d : DK} {m' : MDisk} {n' : Nat} (h0 : ∀ k, Z k → k < w.heap.size) (h1 : ∀ i (d : DK), ds[i]? = some d → DiskAt TP G (10 + 20 * i) w d.b d.m ∧ Wf d.n d.m) (h2 : ∀ k, Z k → G k = 0)
    (hi : ds[i]? = some d) (hd : Did TP G (10 + 20 * i) w d.b m' w') (hw : Wf n' m') : Dks Z w' (ds.set i ⟨d.b, m', n'⟩) ∧ Fr (fun k => ¬ Z k) w w' := by
  obtain ⟨G', hs, hd'⟩ := hd
  have hf : Fr (fun k => ¬ Z k) w w' := ⟨hs.fr.os, hs.fr.tape, hs.fr.output, hs.fr.size, fun k hk hz => hs.fr.block k hk (fun hc => by
    have hz' : Z k := Classical.byContradiction hz
    rw [hs.old k hk, h2 k hz'] at hc
    omega)⟩
  refine ⟨⟨fun k hk => Nat.lt_of_lt_of_le (h0 k hk) hf.size, G', fun j e hj => ?_, fun k hz => by rw [hs.old k (h0 k hz)]; exact h2 k hz⟩, hf⟩
  by_cases hij : i = j
  · subst hij
    have hl := (List.getElem?_eq_some_iff.1 hi).1
    rw [List.getElem?_set_self hl] at hj
    injection hj with hj
    subst hj
    exact ⟨hd', hw⟩
  · rw [List.getElem?_set_ne hij] at hj
    obtain ⟨⟨rv, kv, gs, h3⟩, h4⟩ := h1 j e hj
    exact ⟨⟨rv, kv, gs, h3.apart hs h4.few (by omega)⟩, h4⟩

theorem fr_of_below {Z : Nat → Prop} {w w' : World} (f : Below w.heap.size w w') : Fr (fun k => ¬ Z k) w w' := (Fr.of_below (S := fun _ => False) f).mono (fun _ h => h.elim)

section
variable {Z : Nat → Prop} {w : World} {ds : List DK} {i : Nat} {d : DK}
theorem write_z (h : Dks Z w ds) (i : Nat) (hi : ds[i]? = some d) (hN : d.n < 1000000) (n s : Int) (x : ByteArray) :
    Calls Tryd.prog 57 #[.pointer (some ⟨d.b, 0, none⟩), .int .i64 n, .int .i64 s, .string x] w fun e w' => e = .returned (.int .i64 (writeE d.m n s x)) ∧ Dks Z w' (ds.set i ⟨d.b, writeM d.m n s x, d.n + 1⟩) ∧ Fr (fun k => ¬ Z k) w w' := by
  obtain ⟨h0, G, h1, h2⟩ := h
  obtain ⟨h3, h4⟩ := h1 i d hi
  exact (write_d h3 h4 hN n s x).mono fun _ _ ⟨he, hd⟩ => ⟨he, Dks.did h0 h1 h2 hi hd (write_wf h4)⟩
theorem read_z (h : Dks Z w ds) (i : Nat) (hi : ds[i]? = some d) (n s : Int) :
    Calls Tryd.prog 72 #[.pointer (some ⟨d.b, 0, none⟩), .int .i64 n, .int .i64 s] w fun e w' => e = .returned (.tuple #[.string (readM d.m n s), .int .i64 (findM d.m n s)]) ∧ Below w.heap.size w w' := by
  obtain ⟨h0, G, h1, h2⟩ := h
  exact read_d (h1 i d hi).1 n s
theorem sectors_z (h : Dks Z w ds) (i : Nat) (hi : ds[i]? = some d) (n : Int) :
    Calls Tryd.prog 44 #[.pointer (some ⟨d.b, 0, none⟩), .int .i64 n] w fun e w' => e = .returned (.int .i64 (sectorsM d.m n)) ∧ Below w.heap.size w w' := by
  obtain ⟨h0, G, h1, h2⟩ := h
  exact sectors_d (h1 i d hi).1 n
theorem flush_z (h : Dks Z w ds) (i : Nat) (hi : ds[i]? = some d) (hN : d.n ≤ 1000000) (n : Int) :
    Calls Tryd.prog 59 #[.pointer (some ⟨d.b, 0, none⟩), .int .i64 n] w fun e w' => e = .returned (.int .i64 (flushE d.m n)) ∧ Dks Z w' (ds.set i ⟨d.b, flushM d.m n, d.n⟩) ∧ Fr (fun k => ¬ Z k) w w' := by
  obtain ⟨h0, G, h1, h2⟩ := h
  obtain ⟨⟨rv, kv, gs, h3⟩, h4⟩ := h1 i d hi
  exact (flush_any h3 h4 hN n).mono fun _ _ ⟨he, hd⟩ => ⟨he, Dks.did h0 h1 h2 hi hd (flush_wf h4)⟩
theorem lay_z (h : Dks Z w ds) (i : Nat) (hi : ds[i]? = some d) (n : Int) (x : ByteArray) :
    Calls Tryd.prog 29 #[.pointer (some ⟨d.b, 0, none⟩), .int .i64 n, .string x] w fun e w' => e = .returned (.tuple #[]) ∧ Dks Z w' (ds.set i ⟨d.b, layM d.m n x, d.n⟩) ∧ Fr (fun k => ¬ Z k) w w' := by
  obtain ⟨h0, G, h1, h2⟩ := h
  obtain ⟨⟨rv, kv, gs, h3⟩, h4⟩ := h1 i d hi
  exact (lay_any h3 h4 n x).mono fun _ _ ⟨he, hd⟩ => ⟨he, Dks.did h0 h1 h2 hi hd (lay_wf h4)⟩
theorem on_z (h : Dks Z w ds) (i : Nat) (hi : ds[i]? = some d) :
    Calls Tryd.prog 33 #[.pointer (some ⟨d.b, 0, none⟩)] w fun e w' => e = .returned (.tuple #[]) ∧ Dks Z w' (ds.set i ⟨d.b, onM d.m, d.n⟩) ∧ Fr (fun k => ¬ Z k) w w' := by
  obtain ⟨h0, G, h1, h2⟩ := h
  obtain ⟨⟨rv, kv, gs, h3⟩, h4⟩ := h1 i d hi
  exact (on_any h3).mono fun _ _ ⟨he, hf, hl⟩ => ⟨he, Dks.did h0 h1 h2 hi (Did.of (Step.of_fr hf (fun k _ hk => by rw [hk, h3.colour]; omega)) hl) (on_wf h4)⟩
theorem off_z (h : Dks Z w ds) (i : Nat) (hi : ds[i]? = some d) :
    Calls Tryd.prog 34 #[.pointer (some ⟨d.b, 0, none⟩)] w fun e w' => e = .returned (.bool d.m.off) ∧ Below w.heap.size w w' := by
  obtain ⟨h0, G, h1, h2⟩ := h
  obtain ⟨⟨rv, kv, gs, h3⟩, h4⟩ := h1 i d hi
  exact off_any h3
theorem crash_z (h : Dks Z w ds) (i : Nat) (hi : ds[i]? = some d) (hN : d.n ≤ 1000000) (A : Option Addr) (cc : Nat) (keep : List Int) (hK : ∀ x ∈ keep, 0 ≤ x ∧ x ≤ 18446744073709551615)
    (hC : ∀ W, Fr (fun k => ¬ Z k) w W → Kd.C (Kd.int .u64) W A keep.length keep) :
    Calls Tryd.prog 30 #[.pointer (some ⟨d.b, 0, none⟩), .slice A keep.length cc] w fun e w' => e = .returned (.tuple #[]) ∧ Dks Z w' (ds.set i ⟨d.b, crashM keep d.m, d.n⟩) ∧ Fr (fun k => ¬ Z k) w w' := by
  obtain ⟨h0, G, h1, h2⟩ := h
  obtain ⟨h3, h4⟩ := h1 i d hi
  exact (crash_d h3 h4 hN A cc keep hK (fun W hW => hC W (hW.mono (fun k hk hz => by have h5 := hk.1; rw [h2 k hz] at h5; omega)))).mono fun _ _ ⟨he, hd⟩ => ⟨he, Dks.did h0 h1 h2 hi hd (crash_wf _ h4)⟩
theorem cut_z (h : Dks Z w ds) (i : Nat) (hi : ds[i]? = some d) (n left : Int) (hleft : left ≤ 9223372036854775807) (A : Option Addr) (cc : Nat) (keep : List Int) (hk : keep.length * 8 ≤ 140737488355328) (hK : ∀ x ∈ keep, 0 ≤ x ∧ x ≤ 18446744073709551615)
    (hC : ∀ W, Fr (fun k => ¬ Z k) w W → Kd.C (Kd.int .u64) W A keep.length keep) :
    Calls Tryd.prog 32 #[.pointer (some ⟨d.b, 0, none⟩), .int .i64 n, .int .i64 left, .slice A keep.length cc] w fun e w' => e = .returned (.tuple #[]) ∧ Dks Z w' (ds.set i ⟨d.b, cutM d.m n left keep, d.n⟩) ∧ Fr (fun k => ¬ Z k) w w' := by
  obtain ⟨h0, G, h1, h2⟩ := h
  obtain ⟨⟨rv, kv, gs, h3⟩, h4⟩ := h1 i d hi
  exact (cut_any h3 n left A cc keep hk (fun W hW => hC W (hW.mono (fun k hk hz => by rw [hk] at hz; have h5 := h2 _ hz; rw [h3.colour] at h5; omega)))).mono fun _ _ ⟨he, hd⟩ => ⟨he, Dks.did h0 h1 h2 hi hd (cut_wf h4 hleft hK)⟩
theorem new_z (h : Dks Z w ds) (A : Option Addr) (cc : Nat) (l : List Int) (hC : Kd.C (Kd.int .i64) w A l.length l) (hcc : l.length ≤ cc) :
    Calls Tryd.prog 22 #[.slice A l.length cc] w fun e w' => e = .returned (.pointer (some ⟨w.heap.size, 0, none⟩)) ∧ Dks Z w' (ds ++ [⟨w.heap.size, newM l, 0⟩]) ∧ Below w.heap.size w w' := by
  obtain ⟨h0, G, h1, h2⟩ := h
  refine (new_any G (10 + 20 * ds.length) A cc l w hC hcc).mono fun _ w' ⟨he, hb, G', hG, hd⟩ => ⟨he, ⟨fun k hk => Nat.lt_of_lt_of_le (h0 k hk) hb.size, G', fun i d hi => ?_, fun k hz => by rw [hG k (h0 k hz)]; exact h2 k hz⟩, hb⟩
  by_cases hil : i < ds.length
  · rw [List.getElem?_append_left hil] at hi
    obtain ⟨h3, h4⟩ := h1 i d hi
    exact ⟨dat_below (dat_recolour h3 hG) hb, h4⟩
  · have hl := (List.getElem?_eq_some_iff.1 hi).1
    simp only [List.length_append, List.length_singleton] at hl
    obtain rfl : i = ds.length := by omega
    have e : (⟨w.heap.size, newM l, 0⟩ : DK) = d := by simpa using hi
    subst e
    exact ⟨hd, new_wf l⟩
theorem crash_lit_z (h : Dks Z w ds) (i : Nat) (hi : ds[i]? = some d) (hN : d.n ≤ 1000000) (e : Nat) (cc : Nat) (keep : List Int) (hK : ∀ x ∈ keep, 0 ≤ x ∧ x ≤ 18446744073709551615) (hl : keep.length ≤ 1000000) :
    Calls Tryd.prog 30 #[.pointer (some ⟨d.b, 0, none⟩), .slice (some ⟨w.heap.size, 0, none⟩) keep.length cc] (w.alloc (.cells (encs (Value.int .u64) keep).toArray e)) fun e w' => e = .returned (.tuple #[]) ∧ Dks Z w' (ds.set i ⟨d.b, crashM keep d.m, d.n⟩) ∧ Fr (fun k => ¬ Z k) w w' := by
  have hb : Below w.heap.size w (w.alloc (.cells (encs (Value.int .u64) keep).toArray e)) := (Below.refl _ _).alloc (Nat.le_refl _) _
  refine (crash_z (h.below hb) i hi hN _ cc keep hK (fun W hW => C_fr (lit_C .u64 w e keep (by omega)) hW (fun hs => hs (.inr ⟨Nat.le_refl _, by simp⟩)))).mono fun _ _ ⟨he, h1, h2⟩ => ⟨he, h1.mono (fun _ hk => .inl hk), (fr_of_below hb).trans (h2.mono (fun k hk hz => hk (.inl hz)))⟩
end

end Go.Proofs.YtekpbpcfeopilaaDoor.Sys
