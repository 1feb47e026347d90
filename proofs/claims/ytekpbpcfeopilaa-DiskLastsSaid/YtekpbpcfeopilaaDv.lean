/- The statements' own: sector. -/
import Derived.Test.YtekpbpcfeopilaaDu
namespace Go.Proofs.Ytekpbpcfeopilaa.Dv
open Go Go.RowKit Go.Joins Go.Proofs.YtekpbpcfeopilaaCore Go.Proofs.Ytekpbpcfeopilaa.Dm Go.Proofs.Ytekpbpcfeopilaa.Dr Go.Proofs.Ytekpbpcfeopilaa.Da Go.Proofs.Ytekpbpcfeopilaa.Dt Go.Proofs.YtekpbpcfeopilaaW.PrintWords Go.Proofs.YtekpbpcfeopilaaW.PrintLast Go.Proofs.YtekpbpcfeopilaaW.PrintMore

open Go.Lib in
/-- 'copy(dst, s)', s a string of whatever length: as many bytes as there is room for go over. -/
theorem run_copy_row_take {P : Program} (w : World) (dT sT ty elem : TypeId) (g dLen dCap : Nat) (s : ByteArray) (cur : Array Value) (t : TypeId)
    (hu : P.underlying dT = some (.slice elem)) (hs : (P.info? elem).map (·.size) = some 1) (hg : w.heap[g]? = some (.cells cur t (0, 0))) (hfit : dLen ≤ cur.size) :
    (Builtin.copy_ #[dT, sT] ty #[.slice (some ⟨g, 0, none⟩) dLen dCap, .string s]).run P w =
      .ok (goInt (Nat.min s.size dLen)) (w.setRow g (byteCells (s.data.toList.take dLen) ++ cur.toList.drop (Nat.min s.size dLen)).toArray) := by
  have hl : s.data.toList.length = s.size := data_length s
  have hlen : (byteCells (s.data.toList.take dLen)).length = Nat.min s.size dLen := by rw [byteCells_length, List.length_take, hl]; exact Nat.min_comm _ _
  have hmle : Nat.min s.size dLen ≤ dLen := Nat.min_le_right _ _
  have hst := run_storeCells_at P g 0 t (byteCells (s.data.toList.take dLen)) 0 cur w hg (by rw [hlen]; omega) (byteCells_one _)
  have htk : List.take (Nat.min s.size dLen) (List.map (fun b : UInt8 => Value.int IntKind.u8 (b.toNat : Int)) s.data.toList) = byteCells (s.data.toList.take dLen) := by
    unfold byteCells
    rw [← List.map_take]
    congr 1
    by_cases h : s.size ≤ dLen
    · have e : Nat.min s.size dLen = s.size := Nat.min_eq_left h
      rw [e, List.take_of_length_le (by omega), List.take_of_length_le (by omega)]
    · have e : Nat.min s.size dLen = dLen := Nat.min_eq_right (by omega)
      rw [e]
  rw [hlen] at hst
  simp only [Nat.add_zero, Nat.zero_add, List.take_zero, List.nil_append] at hst
  cases hq : P.info? elem with
  | none => simp [hq] at hs
  | some i =>
    simp [Builtin.copy_, run_underlying hu, Builtin.lenOf, Builtin.firstCells, sizeOf, typeInfo, hq]
    rw [htk, hst]
    simp [Result.andThen]

def sectorB (s : ByteArray) : ByteArray := if 100 ≤ s.size then s else secB s 0

theorem infoU8 : (Try.prog.info? 5).map (fun i => (i.zero, i.size, i.bytes)) = some (some (.int .u8 0), 1, 1) := by kernel_rfl

set_option maxHeartbeats 4000000 in
set_option maxRecDepth 100000 in
theorem sector_any (s : ByteArray) (w : World) : Calls Try.prog 26 #[.string s] w fun e w' => e = .returned (.string (sectorB s)) ∧ Below w.heap.size w w' := by
  by_cases h : 100 ≤ s.size
  · have ev : Hid (sectorB s = s) := by show _ = _; unfold sectorB; rw [if_pos h]
    have hi : (100 : Int) ≤ (s.size : Int) := by omega
    clear h
    go_enter Try.func26, Try.ntmps26
    go_wp2_with fail
    exact bodyPost_ret (v := .string s) (by simp [results, Try.results26, go_sem]) rfl ⟨by rw [ev.out], Below.refl _ _⟩
  · have ev : Hid (sectorB s = secB s 0) := by show _ = _; unfold sectorB; rw [if_neg h]
    have hi : ¬ (100 : Int) ≤ (s.size : Int) := by omega
    clear h
    have hmk : ∀ W : World, (Instr.makeSlice 56 (.int .i64 64) (.int .i64 64)).run Try.prog W = .ok (.slice (some ⟨W.heap.size, 0, none⟩) 64 64) (W.alloc (.cells (madeCells #[.int .u8 0] 64) 5)) := print_make_of (P := Try.prog) 56 5 (.int .u8 0) 1 Try.underlying56 infoU8 rfl (by decide) 64 (by omega)
    have hs1 : (Try.prog.info? 5).map (·.size) = some 1 := by kernel_rfl
    have hcp := run_copy_row_take (P := Try.prog) (w.alloc (.cells (madeCells #[.int .u8 0] 64) 5)) 56 9 3 5 w.heap.size 64 64 s _ _ Try.underlying56 hs1 (heap_alloc_new _ _) (by rw [size_madeCells]; exact Nat.le_refl _)
    have e1 : (Lib.byteCells (s.data.toList.take 64) ++ (madeCells #[Value.int .u8 0] 64).toList.drop (Nat.min s.size 64)) = bcells (secL s.data.toList 0) := by
      rw [toList_madeCells_one, List.drop_replicate]
      unfold secL
      rw [Nat.mul_zero, List.drop_zero, List.length_take, data_length]
      simp only [bcells, Lib.byteCells, List.map_append, List.map_replicate]
      rw [show Nat.min s.size 64 = min 64 s.size from Nat.min_comm _ _]
      rfl
    rw [e1] at hcp
    have hL : (secL s.data.toList 0).length = 64 := by simp [secL]; omega
    have hcv := Go.run_convert_bytes_back (P := Try.prog) ((w.alloc (.cells (madeCells #[.int .u8 0] 64) 5)).setRow w.heap.size (bcells (secL s.data.toList 0)).toArray) 56 9 5 ⟨w.heap.size, 0, none⟩ 64 (secL s.data.toList 0) Try.underlying56 Try.underlying5 Try.underlying9 (fun j hj => by
      rw [Addr.add_plain0, cell_setRow_same (hg := heap_alloc_new _ _)]
      simpa using bcells_get _ j hj)
    rw [hL] at hcv
    have hb : Below w.heap.size w ((w.alloc (.cells (madeCells #[.int .u8 0] 64) 5)).setRow w.heap.size (bcells (secL s.data.toList 0)).toArray) := below_setRow ((Below.refl _ _).alloc (Nat.le_refl _) _) (Nat.le_refl _) _
    have HB := Lib.hid hb
    clear hb hL e1
    go_enter Try.func26, Try.ntmps26
    go_wp2_with fail
    have er : (⟨(secL s.data.toList 0).toArray⟩ : ByteArray) = secB s 0 := rfl
    rw [er]
    exact bodyPost_ret (v := .string (secB s 0)) (by simp [results, Try.results26, go_sem]) rfl ⟨by rw [ev.out], HB.out⟩

end Go.Proofs.Ytekpbpcfeopilaa.Dv
