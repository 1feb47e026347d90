/- The document's disk: what is small. -/
import Derived.Test.YtekpbpcfeopilaaSys
namespace Go.Proofs.Ytekpbpcfeopilaa.Ra
open Go Go.RowKit Go.Joins Go.Proofs.YtekpbpcfeopilaaCore Go.Proofs.Ytekpbpcfeopilaa.Dm Go.Proofs.Ytekpbpcfeopilaa.Dr Go.Proofs.Ytekpbpcfeopilaa.Da Go.Proofs.Ytekpbpcfeopilaa.Df Go.Proofs.Ytekpbpcfeopilaa.Dg Go.Proofs.Ytekpbpcfeopilaa.Dh Go.Proofs.Ytekpbpcfeopilaa.Di Go.Proofs.Ytekpbpcfeopilaa.Dj Go.Proofs.Ytekpbpcfeopilaa.Dk Go.Proofs.Ytekpbpcfeopilaa.Dl Go.Proofs.Ytekpbpcfeopilaa.Dn Go.Proofs.Ytekpbpcfeopilaa.Dp Go.Proofs.Ytekpbpcfeopilaa.Dq Go.Proofs.Ytekpbpcfeopilaa.Ds Go.Proofs.Ytekpbpcfeopilaa.Dt Go.Proofs.Ytekpbpcfeopilaa.Du Go.Proofs.Ytekpbpcfeopilaa.Dv Go.Proofs.Ytekpbpcfeopilaa.Dw Go.Proofs.Ytekpbpcfeopilaa.Sys Go.Proofs.YtekpbpcfeopilaaW.PrintWords Go.Proofs.YtekpbpcfeopilaaW.PrintLast Go.Proofs.YtekpbpcfeopilaaW.PrintMore

def TR : Tys := { disk := 87, reg := 91, preg := 88, wr := 121, str := 9, u64 := 59 }

set_option maxHeartbeats 4000000 in
set_option maxRecDepth 100000 in
theorem rnone_any (w : World) : Calls Try.prog 43 #[] w fun e w' => e = .returned (.string noneS) ∧ Below w.heap.size w w' := by
  have hmk : ∀ W : World, (Instr.makeSlice 56 (.int .i64 64) (.int .i64 64)).run Try.prog W = .ok (.slice (some ⟨W.heap.size, 0, none⟩) 64 64) (W.alloc (.cells (madeCells #[.int .u8 0] 64) 5)) := print_make_of (P := Try.prog) 56 5 (.int .u8 0) 1 Try.underlying56 infoU8 rfl (by decide) 64 (by omega)
  have hcv := Go.run_convert_bytes_back (P := Try.prog) (w.alloc (.cells (madeCells #[.int .u8 0] 64) 5)) 56 9 5 ⟨w.heap.size, 0, none⟩ 64 (List.replicate 64 0) Try.underlying56 Try.underlying5 Try.underlying9 (fun j hj => by
    rw [Addr.add_plain0]
    have hj2 : j < 64 := by simpa using hj
    unfold World.cell?
    rw [heap_alloc_new]
    show (madeCells #[Value.int .u8 0] 64)[j]? = _
    rw [← Array.getElem?_toList, toList_madeCells_one, List.getElem?_replicate, if_pos hj2, List.getElem_replicate]
    rfl)
  rw [List.length_replicate] at hcv
  rw [show (⟨(List.replicate 64 0).toArray⟩ : ByteArray) = noneS from rfl] at hcv
  go_enter Try.func43, Try.ntmps43
  go_wp2_with fail
  exact bodyPost_ret (v := .string noneS) (by simp [results, Try.results43, go_sem]) rfl ⟨rfl, (Below.refl _ _).alloc (Nat.le_refl _) _⟩

set_option maxHeartbeats 4000000 in
set_option maxRecDepth 100000 in
theorem rsectors_any {G : Nat → Nat} {c : Nat} {w : World} {b : Nat} {m : MDisk} {rv kv : Value} {gs : List Nat} (h : Lies TR G c w b m rv kv gs) (n : Int) :
    Calls Try.prog 22 #[.pointer (some ⟨b, 0, none⟩), .int .i64 n] w fun e w' => e = .returned (.int .i64 (sectorsM m n)) ∧ Below w.heap.size w w' := by
  have H := Lib.hid h
  obtain ⟨Ar, cr, rfl, _, hC⟩ := Kd.R_reads h.row
  have hl := h.len
  have h0 : w.cell? ⟨b, 0, none⟩ = some (.slice Ar gs.length cr) := cell_of_block h.head 0
  have HC := Lib.hid hC
  have HLN := Lib.hid hl
  clear h hC hl
  by_cases h1 : n < 0
  · have e : sectorsM m n = 0 := by unfold sectorsM; rw [if_neg (by omega)]
    rw [e]
    clear e
    go_enter Try.func22, Try.ntmps22
    go_wp2_with fail
    exact bodyPost_ret (v := .int .i64 0) (by simp [results, Try.results22, go_sem]) rfl ⟨rfl, Below.refl _ _⟩
  · obtain ⟨k, rfl⟩ : ∃ k : Nat, n = (k : Int) := ⟨n.toNat, by omega⟩
    by_cases h2 : (gs.length : Int) ≤ (k : Int)
    · have e : sectorsM m (k : Int) = 0 := by rw [sectorsM_nat, List.getElem?_eq_none (by have := HLN.out; omega)]; rfl
      rw [e]
      clear e
      go_enter Try.func22, Try.ntmps22
      go_wp2_with fail
      exact bodyPost_ret (v := .int .i64 0) (by simp [results, Try.results22, go_sem]) rfl ⟨rfl, Below.refl _ _⟩
    · have h4 : (k : Int) < (gs.length : Int) := by omega
      obtain ⟨ad, g, rfl, hg, hx⟩ := ptr_at HC.out k (by omega)
      have hkm : k < m.regs.length := by have := HLN.out; omega
      obtain ⟨g2, hg2, hr⟩ := H.out.regs k hkm
      rw [hg] at hg2
      obtain rfl : g = g2 := by simpa using hg2
      obtain ⟨_, lv, qv, hb, hlr, _⟩ := hr
      obtain ⟨Al, cl, rfl, _, _⟩ := Kd.R_reads hlr
      have hg0 : w.cell? ⟨g, 0, none⟩ = some (.slice Al m.regs[k].lasts.length cl) := cell_of_block hb 0
      have e : sectorsM m (k : Int) = (m.regs[k].lasts.length : Int) := by rw [sectorsM_nat, List.getElem?_eq_getElem hkm]; rfl
      rw [e]
      clear e hlr hb hg hg2
      go_enter Try.func22, Try.ntmps22
      go_wp2_with fail
      exact bodyPost_ret (v := .int .i64 (m.regs[k].lasts.length : Int)) (by simp [results, Try.results22, go_sem]) rfl ⟨rfl, Below.refl _ _⟩

end Go.Proofs.Ytekpbpcfeopilaa.Ra
