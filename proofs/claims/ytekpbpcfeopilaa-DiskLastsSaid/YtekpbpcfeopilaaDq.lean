/- The program's disk: slices.Repeat of one text, New. -/
import Derived.Test.YtekpbpcfeopilaaDp
import Derived.Deep.RegionLaw
namespace Go.Proofs.Ytekpbpcfeopilaa.Dq
open Go Go.RowKit Go.Joins Go.Proofs.YtekpbpcfeopilaaCore Go.Proofs.Ytekpbpcfeopilaa.Dm Go.Proofs.Ytekpbpcfeopilaa.Dr Go.Proofs.Ytekpbpcfeopilaa.Da Go.Proofs.Ytekpbpcfeopilaa.Df Go.Proofs.Ytekpbpcfeopilaa.Dg Go.Proofs.Ytekpbpcfeopilaa.Dh Go.Proofs.Ytekpbpcfeopilaa.Di Go.Proofs.Ytekpbpcfeopilaa.Dj Go.Proofs.Ytekpbpcfeopilaa.Dk Go.Proofs.Ytekpbpcfeopilaa.Dl Go.Proofs.Ytekpbpcfeopilaa.Dn Go.Proofs.Ytekpbpcfeopilaa.Dp Go.Proofs.YtekpbpcfeopilaaW.PrintWords Go.Proofs.YtekpbpcfeopilaaW.PrintLast Go.Proofs.YtekpbpcfeopilaaW.PrintMore

theorem infoStr : (Try.prog.info? 9).map (fun i => (i.zero, i.size, i.bytes)) = some (some (.string ⟨#[]⟩), 1, 16) := by kernel_rfl

/-- k texts, then empty ones. -/
def curK (s : ByteArray) (N k : Nat) : List Value := List.replicate k (.string s) ++ List.replicate (N - k) (.string ⟨#[]⟩)
theorem curK_length (s : ByteArray) (N k : Nat) (h : k ≤ N) : (curK s N k).length = N := by simp [curK]; omega
theorem curK_splice (s : ByteArray) (N k c : Nat) (h : k + c ≤ N) : splice (curK s N k) k (List.replicate c (.string s)) = curK s N (k + c) := by
  unfold splice curK
  rw [List.take_append_of_le_length (by simp), List.take_of_length_le (by simp), List.drop_append]
  have e1 : (List.replicate k (Value.string s)).drop (k + (List.replicate c (Value.string s)).length) = [] := by apply List.drop_eq_nil_of_le; simp
  rw [e1]
  simp only [List.nil_append, List.length_replicate, List.drop_replicate]
  rw [← List.append_assoc, List.replicate_append_replicate]
  congr 2
  omega
theorem curK_at (s : ByteArray) (N k j : Nat) (h : j < k) : (curK s N k)[j]? = some (.string s) := by
  unfold curK
  rw [List.getElem?_append_left (by simpa using h)]
  simp [h]

structure ReInv (s : ByteArray) (N g : Nat) (w : World) (gk : Nat) (v : Value) (wr : World) (k : Nat) : Prop where
  lo : 1 ≤ k
  hi : k ≤ N
  slot : v = .int .i64 k
  ghost : gk + k = N
  row : wr.heap[g]? = some (.cells (curK s N k).toArray 9 (0, 0))
  bel : Below w.heap.size w wr
def ReRel (s : ByteArray) (N g : Nat) (w : World) (gk : Nat) (v : Value) (wr : World) : Prop := ∃ k, ReInv s N g w gk v wr k

theorem R_of_row {w w1 : World} {g N : Nat} {s : ByteArray} (hg : w.heap.size ≤ g) (hN : N ≤ 4096) (h : w1.heap[g]? = some (.cells (curK s N N).toArray 9 (0, 0))) : Kd.string.R 9 w1 w.heap.size (fun _ => True) (.slice (some ⟨g, 0, none⟩) N N) (List.replicate N s) := by
  have e : curK s N N = encs Value.string (List.replicate N s) := by simp [curK, encs]
  rw [e] at h
  refine Kd.R_of_own (h1 := fun _ => rfl) ?_ (fun _ _ => trivial)
  have hl : (encs Value.string (List.replicate N s)).length = N := by simp [encs]
  refine ⟨by rw [hl]; simp, .inr ⟨g, N, (encs Value.string (List.replicate N s)).toArray, by simp, hg, h, by simp, by unfold maxLen; omega, by simp [encs], ?_⟩⟩
  rw [List.length_replicate, Nat.mul_one]
  exact List.take_of_length_le (by rw [hl]; exact Nat.le_refl _)

set_option maxHeartbeats 4000000 in
set_option maxRecDepth 100000 in
theorem repeat_any (ad : Addr) (s : ByteArray) (N : Nat) (hN : N ≤ 4096) (w : World) (hc : w.cell? ad = some (.string s)) :
    Calls Try.prog 41 #[.slice (some ad) 1 1, .int .i64 (N : Int)] w fun e w' => ∃ v, e = .returned v ∧ Kd.string.R 9 w' w.heap.size (fun _ => True) v (List.replicate N s) ∧ Below w.heap.size w w' := by
  have hmk := print_make_of (P := Try.prog) 35 9 (.string ⟨#[]⟩) 16 Try.underlying35 infoStr rfl (by decide) N (by omega)
  have hs1 : (Try.prog.info? 9).map (·.size) = some 1 := by kernel_rfl
  have hn0 : decide ((N : Int) < 0) = false := by simp
  have hn1 : decide ((9223372036854775807 : Int) < (N : Int)) = false := by simp; omega
  go_enter Try.func41, Try.ntmps41
  go_wp2_with fail
  refine (Try.bits_Mul 1 N (by omega) (by omega) w).mono ?_
  rintro e w1 ⟨rfl, rfl⟩
  have e1 : (1 * N / 18446744073709551616 : Nat) = 0 := by omega
  have e2 : (1 * N % 18446744073709551616 : Nat) = N := by omega
  rw [e1, e2]
  clear e1 e2
  obtain ⟨wm, hwm⟩ : ∃ wm, w1.alloc (.cells (madeCells #[.string ⟨#[]⟩] N) 9) = wm := ⟨_, rfl⟩
  have hbm : Below w1.heap.size w1 wm := by rw [← hwm]; exact (Below.refl _ _).alloc (Nat.le_refl _) _
  have hrm : wm.heap[w1.heap.size]? = some (.cells (curK s N 0).toArray 9 (0, 0)) := by
    rw [← hwm, heap_alloc_new]
    have e : madeCells #[Value.string ⟨#[]⟩] N = (curK s N 0).toArray := by
      apply Array.toList_inj.1
      rw [toList_madeCells_one]
      simp [curK]
    rw [e]
  have hcm : wm.cell? ad = some (.string s) := pw_cell_below hbm hc
  have HBM := Lib.hid hbm
  have HRM := Lib.hid hrm
  clear hbm hrm
  by_cases h0 : N = 0
  · subst h0
    have HMN : Hid (Nat.min 1 0 = 0) := rfl
    have hmk0 : ∀ W : World, (Instr.makeSlice 35 (.int .i64 0) (.int .i64 0)).run Try.prog W = .ok (.slice (some ⟨W.heap.size, 0, none⟩) 0 0) (W.alloc (.cells (madeCells #[.string ⟨#[]⟩] 0) 9)) := hmk
    go_wp2_with (first | (rw [hwm]) | ((with_reducible refine wpList_copy_nothing rfl (.tmp 31) (.tmp 32) _ _ rfl 9 Try.underlying35 hs1 (some ⟨w1.heap.size, 0, none⟩) (some ad) 0 0 1 1 rfl rfl ?cE ?_); (case cE => exact HMN.out)))
    clear hwm
    go_loopg [8] 0 (fun gk v wr => v = .int .i64 0 ∧ wr = wm)
    case atStart => exact ⟨rfl, rfl⟩
    case round =>
      obtain ⟨rfl, rfl⟩ := hrel
      go_wp2_with fail
      refine bodyPost_ret (v := .slice (some ⟨w1.heap.size, 0, none⟩) 0 0) (by simp [results, Try.results41, go_sem]) rfl ?_
      exact ⟨_, rfl, R_of_row (Nat.le_refl _) hN (by have := HRM.out; exact this), HBM.out⟩
  · have hcs : ∀ j v, ([Value.string s] : List Value)[j]? = some v → wm.cell? (ad.add j) = some v := fun j v hj => by
      match j, hj with
      | 0, hj =>
        have e : (Value.string s) = v := by simpa using hj
        rw [← e, show ad.add 0 = ad from by unfold Addr.add; split <;> simp_all]
        exact hcm
      | j + 1, hj => simp at hj
    have HCS := Lib.hid hcs
    have hcl := curK_length s N 0 (Nat.zero_le _)
    have HMN : Hid (Nat.min 1 N = 1) := by show _ = _; exact Nat.min_eq_left (by omega)
    have HCL := Lib.hid hcl
    clear hcs hcl
    go_wp2_with (first | (rw [hwm]) | ((with_reducible refine wpList_copy_splice rfl (.tmp 31) (.tmp 32) _ _ rfl 9 Try.underlying35 hs1 (some ⟨w1.heap.size, 0, none⟩) (some ad) N N 1 1 rfl rfl w1.heap.size 0 (curK s N 0) 9 HRM.out [.string s] ?cN ?cP ?cF ?cO w1.heap.size w1 HBM.out (Nat.le_refl _) ?_); go_loud ((case cN => exact HMN.out.symm); (case cP => exact fun _ => ⟨rfl, ad, rfl, HCS.out⟩); (case cF => rw [HCL.out]; show 0 + 1 ≤ N; omega); (case cO => intro v hv; rw [List.mem_singleton.1 hv]; rfl); intro w2 hr2 hb2; have HR2 : Hid (w2.heap[w1.heap.size]? = some (.cells (curK s N 1).toArray 9 (0, 0))) := (by have e := curK_splice s N 0 1 (by omega); show _ = _; rw [Nat.zero_add] at e; rw [← e]; exact hr2.out); have HB2 := Lib.hid hb2; clear hr2 hb2)))
    clear hwm
    go_loopg [8] (N - 1) (fun gk v wr => ReRel s N w1.heap.size w1 gk v wr)
    case atStart => exact ⟨1, ⟨Nat.le_refl _, by omega, rfl, by omega, HR2.out, HB2.out⟩⟩
    case round =>
      obtain ⟨k, hk1, hk2, rfl, hgk, hrow, hbel⟩ := hrel
      have HG := Lib.hid hgk
      have HR := Lib.hid hrow
      have HB := Lib.hid hbel
      clear hgk hrow hbel HR2 HB2 HRM HBM HCS HCL
      by_cases hlt : k < N
      · have hne : (N = k) = False := by simp; omega
        have hmin : Nat.min k (N - k) = min k (N - k) := rfl
        obtain ⟨cn, hcn⟩ : ∃ cn, min k (N - k) = cn := ⟨_, rfl⟩
        have HCN := Lib.hid hcn
        have hcn2 : k + cn ≤ N := by omega
        have hcn3 : 1 ≤ cn := by omega
        have hcs : ∀ j v, (List.replicate cn (Value.string s))[j]? = some v → wr.cell? ((⟨w1.heap.size, 0, none⟩ : Addr).add j) = some v := fun j v hj => by
          have hjl : j < cn := by have := (List.getElem?_eq_some_iff.1 hj).1; simpa using this
          rw [List.getElem?_replicate, if_pos hjl] at hj
          rw [Addr.add_plain0, cell_of_row wr _ j _ _ _ HR.out]
          rw [← hj]
          have := curK_at s N k j (by omega)
          simpa using this
        have HCS := Lib.hid hcs
        have HMN2 : Hid ((List.replicate cn (Value.string s)).length = Nat.min k (N - k)) := by show _ = _; rw [hmin, hcn]; simp
        have HCL : Hid (k + (List.replicate cn (Value.string s)).length ≤ (curK s N k).length) := by show _ ≤ _; rw [curK_length s N k (by omega)]; simp; omega
        have HW : Hid (IntKind.i64.wrap ((k : Int) + (cn : Int)) = (k : Int) + (cn : Int)) := IntWalk.i64_in _ (by omega)
        clear hcs hmin hcn
        go_wp2_with fail
        go_region_law (refine step_copy_splice rfl (.tmp 41) (.tmp 44) 35 35 rfl 9 Try.underlying35 hs1 (some ⟨w1.heap.size, k, none⟩) (some ⟨w1.heap.size, 0, none⟩) (N - k) (N - k) k N (by simp [Act.eval, Act.put]) (by simp [Act.eval, Act.put]) w1.heap.size k (curK s N k) 9 (by exact HR.out) (List.replicate cn (.string s)) (by exact HMN2.out) (by exact fun _ => ⟨rfl, _, rfl, HCS.out⟩) (by exact HCL.out) (by intro v hv; rw [List.eq_of_mem_replicate hv]; rfl) w1.heap.size w1 (by exact below_drew HB.out) (Nat.le_refl _) ?_; intro w2 hr2 hb2; have HR2 : Hid (w2.heap[w1.heap.size]? = some (.cells (curK s N (k + cn)).toArray 9 (0, 0))) := (by have e := curK_splice s N k cn hcn2; show _ = _; rw [← e]; exact hr2.out); have HB2 := Lib.hid hb2; clear hr2 hb2)
        go_wp2_with fail
        go_roundg (N - (k + cn))
        case measure => have := HG.out; omega
        case rel => exact ⟨k + cn, ⟨by omega, hcn2, (by rw [HW.out]; go_num), by omega, HR2.out, HB2.out⟩⟩
      · obtain rfl : k = N := by omega
        go_wp2_with fail
        refine bodyPost_ret (v := .slice (some ⟨w1.heap.size, 0, none⟩) k k) (by simp [results, Try.results41, go_sem]) rfl ?_
        exact ⟨_, rfl, R_of_row (Nat.le_refl _) hN HR.out, HB.out⟩

end Go.Proofs.Ytekpbpcfeopilaa.Dq
