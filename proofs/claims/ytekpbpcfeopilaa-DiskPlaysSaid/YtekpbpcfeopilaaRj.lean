/- The document's disk: Lay. -/
import Derived.Test.YtekpbpcfeopilaaRi
namespace Go.Proofs.Ytekpbpcfeopilaa.Rj
open Go Go.RowKit Go.Proofs.Ytekpbpcfeopilaa.Reg Go.Joins Go.Proofs.YtekpbpcfeopilaaCore Go.Proofs.Ytekpbpcfeopilaa.Dm Go.Proofs.Ytekpbpcfeopilaa.Dr Go.Proofs.Ytekpbpcfeopilaa.Da Go.Proofs.Ytekpbpcfeopilaa.Df Go.Proofs.Ytekpbpcfeopilaa.Dg Go.Proofs.Ytekpbpcfeopilaa.Dh Go.Proofs.Ytekpbpcfeopilaa.Di Go.Proofs.Ytekpbpcfeopilaa.Dj Go.Proofs.Ytekpbpcfeopilaa.Dk Go.Proofs.Ytekpbpcfeopilaa.Dl Go.Proofs.Ytekpbpcfeopilaa.Dn Go.Proofs.Ytekpbpcfeopilaa.Dp Go.Proofs.Ytekpbpcfeopilaa.Dq Go.Proofs.Ytekpbpcfeopilaa.Ds Go.Proofs.Ytekpbpcfeopilaa.Dt Go.Proofs.Ytekpbpcfeopilaa.Du Go.Proofs.Ytekpbpcfeopilaa.Dv Go.Proofs.Ytekpbpcfeopilaa.Dw Go.Proofs.Ytekpbpcfeopilaa.Sys Go.Proofs.Ytekpbpcfeopilaa.Ra Go.Proofs.Ytekpbpcfeopilaa.Rb Go.Proofs.Ytekpbpcfeopilaa.Rc Go.Proofs.Ytekpbpcfeopilaa.Rd Go.Proofs.Ytekpbpcfeopilaa.Re Go.Proofs.Ytekpbpcfeopilaa.Rf Go.Proofs.Ytekpbpcfeopilaa.Rg Go.Proofs.Ytekpbpcfeopilaa.Rh Go.Proofs.YtekpbpcfeopilaaW.PrintWords Go.Proofs.YtekpbpcfeopilaaW.PrintLast Go.Proofs.YtekpbpcfeopilaaW.PrintMore Go.Proofs.Ytekpbpcfeopilaa.Ri

/-- What stands in the new row behind kk turns. -/
def accL (d : ByteArray) (i kk : Nat) : List UInt8 := (List.range 64).map fun j => if j < kk then d.data.toList.getD (64 * i + j) 0 else 0
def accC (d : ByteArray) (i kk : Nat) : Array Value := ((accL d i kk).map fun x => Value.int .u8 (x.toNat : Int)).toArray

theorem accL_len (d : ByteArray) (i kk : Nat) : (accL d i kk).length = 64 := by simp [accL]
theorem accL_get (d : ByteArray) (i kk j : Nat) (h : j < 64) : (accL d i kk)[j]? = some (if j < kk then d.data.toList.getD (64 * i + j) 0 else 0) := by
  unfold accL
  rw [List.getElem?_map, List.getElem?_range h]
  rfl
theorem accC_get (d : ByteArray) (i kk j : Nat) (h : j < 64) : (accC d i kk)[j]? = some (.int .u8 ((if j < kk then d.data.toList.getD (64 * i + j) 0 else 0 : UInt8).toNat : Int)) := by
  unfold accC
  rw [List.getElem?_toArray, List.getElem?_map, accL_get d i kk j h]
  rfl
theorem accC_size (d : ByteArray) (i kk : Nat) : (accC d i kk).size = 64 := by simp [accC, accL_len]
theorem accC_zero (d : ByteArray) (i : Nat) : accC d i 0 = madeCells #[Value.int .u8 0] 64 := by
  apply Array.ext_getElem?
  intro j
  by_cases h : j < 64
  · rw [accC_get d i 0 j h, ← Array.getElem?_toList, toList_madeCells_one, List.getElem?_replicate, if_pos h]
    simp
  · rw [Array.getElem?_eq_none (by rw [accC_size]; omega), ← Array.getElem?_toList, toList_madeCells_one, List.getElem?_replicate, if_neg h]
theorem accC_set (d : ByteArray) (i kk : Nat) (h : kk < 64) : (accC d i kk).setIfInBounds kk (.int .u8 ((d.data.toList.getD (64 * i + kk) 0).toNat : Int)) = accC d i (kk + 1) := by
  apply Array.ext_getElem?
  intro j
  by_cases hj : j < 64
  · rw [Array.getElem?_setIfInBounds, accC_get d i (kk + 1) j hj]
    by_cases e : kk = j
    · subst e
      rw [if_pos rfl, if_pos (by rw [accC_size]; omega), if_pos (by omega)]
    · rw [if_neg e, accC_get d i kk j hj]
      by_cases hl : j < kk
      · rw [if_pos hl, if_pos (by omega)]
      · rw [if_neg hl, if_neg (by omega)]
  · rw [Array.getElem?_eq_none (by rw [Array.size_setIfInBounds, accC_size]; omega), Array.getElem?_eq_none (by rw [accC_size]; omega)]
theorem accC_same (d : ByteArray) (i kk : Nat) (h : kk < 64) (hd : d.size ≤ 64 * i + kk) : accC d i (kk + 1) = accC d i kk := by
  rw [← accC_set d i kk h]
  apply Array.ext_getElem?
  intro j
  rw [Array.getElem?_setIfInBounds]
  by_cases e : kk = j
  · subst e
    rw [if_pos rfl, if_pos (by rw [accC_size]; omega), accC_get d i kk kk h, if_neg (by omega), List.getD_eq_getElem?_getD, List.getElem?_eq_none (by rw [data_length]; omega)]
    rfl
  · rw [if_neg e]
theorem acc_sec (d : ByteArray) (i : Nat) : accL d i 64 = secL d.data.toList i := by
  apply List.ext_getElem?
  intro j
  unfold secL
  by_cases hj : j < 64
  · rw [accL_get d i 64 j hj, if_pos hj]
    by_cases hd : 64 * i + j < d.data.toList.length
    · rw [List.getElem?_append_left (by rw [List.length_take, List.length_drop]; omega), List.getElem?_take, if_pos hj, List.getElem?_drop, List.getD_eq_getElem?_getD, List.getElem?_eq_getElem hd]
      rfl
    · rw [List.getElem?_append_right (by rw [List.length_take, List.length_drop]; omega), List.getElem?_replicate, if_pos (by rw [List.length_take, List.length_drop]; omega), List.getD_eq_getElem?_getD, List.getElem?_eq_none (by omega)]
      rfl
  · rw [List.getElem?_eq_none (by rw [accL_len]; omega), List.getElem?_eq_none (by rw [List.length_append, List.length_replicate, List.length_take, List.length_drop]; omega)]

structure RzInv (d : ByteArray) (i : Nat) (wo : World) (gk : Nat) (v : Value) (wr : World) (kk : Nat) : Prop where
  le : kk ≤ 64
  slot : v = .int .i64 kk
  ghost : gk + kk = 64
  fr : Fr (fun j => j = wo.heap.size) (wo.alloc (.cells (madeCells #[.int .u8 0] 64) 5)) wr
  head : wr.heap[wo.heap.size]? = some (.cells (accC d i kk) 5 (0, 0))
def RzRel (d : ByteArray) (i : Nat) (wo : World) (gk : Nat) (v : Value) (wr : World) : Prop := ∃ kk, RzInv d i wo gk v wr kk

structure RyInv (ok : Nat → Prop) (d : ByteArray) (N : Nat) (l0 : List ByteArray) (w1 : World) (g : Nat) (A : Option Addr) (cc : Nat) (gk : Nat) (v : Value) (wr : World) (j : Nat) : Prop where
  hi : j ≤ N
  slot : v = .int .i64 j
  ghost : gk + j = N
  fr : Fr ok w1 wr
  head : wr.heap[g]? = some (.cells #[.slice A N cc, .slice none 0 0] TR.reg (0, 0))
  row : Kd.R Kd.string TR.str wr 0 ok (.slice A N cc) (layL j d ++ l0.drop j)
def RyRel (ok : Nat → Prop) (d : ByteArray) (N : Nat) (l0 : List ByteArray) (w1 : World) (g : Nat) (A : Option Addr) (cc : Nat) (gk : Nat) (v : Value) (wr : World) : Prop := ∃ j, RyInv ok d N l0 w1 g A cc gk v wr j

set_option maxHeartbeats 4000000 in
set_option maxRecDepth 100000 in
theorem rlay_any {G : Nat → Nat} {c : Nat} {w : World} {b : Nat} {m : MDisk} {rv kv : Value} {gs : List Nat} (h : Lies TR G c w b m rv kv gs) {N : Nat} (hm : Wf N m) (n : Int) (d : ByteArray) :
    Calls Try.prog 57 #[.pointer (some ⟨b, 0, none⟩), .int .i64 n, .string d] w fun e w' => e = .returned (.tuple #[]) ∧ Did TR G c w b (layM m n d) w' := by
  have H := Lib.hid h
  have HM := Lib.hid hm
  have hgl := h.len
  obtain ⟨Ar, cr, rfl, _, hCr⟩ := Kd.R_reads h.row
  have hx0 : w.cell? ⟨b, 0, none⟩ = some (.slice Ar gs.length cr) := cell_of_block h.head 0
  clear h hm
  by_cases hn0 : n < 0
  · have em : Hid (layM m n d = m) := by show _ = _; unfold layM; rw [if_neg (by omega)]
    clear hCr
    go_enter Try.func57, Try.ntmps57
    go_wp2_with fail
    refine bodyPost_ret (v := .tuple #[]) (by simp [results, Try.results57, go_sem]) rfl ?_
    exact ⟨rfl, by rw [em.out]; exact Did.of (Step.of_fr (Fr.refl _ _) (fun _ _ h => h)) H.out⟩
  · obtain ⟨k, rfl⟩ : ∃ k : Nat, n = (k : Int) := ⟨n.toNat, by omega⟩
    by_cases hk : k < m.regs.length
    · have hkI : (k : Int) < (gs.length : Int) := by omega
      obtain ⟨r, hr0⟩ : ∃ r, m.regs[k] = r := ⟨_, rfl⟩
      have em : Hid (layM m (k : Int) d = setM m k ⟨layL r.lasts.length d, []⟩) := by show _ = _; unfold layM; rw [if_pos (by omega), Int.toNat_natCast]; simp [hk, hr0]
      obtain ⟨ad, g, rfl, hg, hx⟩ := ptr_at hCr k (by omega)
      obtain ⟨g2, hg2, hr⟩ := H.out.regs k hk
      rw [hg] at hg2
      obtain rfl : g = g2 := by simpa using hg2
      rw [hr0] at hr
      have hW := HM.out.regs _ (List.getElem_mem hk)
      rw [hr0] at hW
      have hfew := hW.few
      obtain ⟨hgk, lv, qv, hb, hl, hq⟩ := hr
      obtain ⟨A, cc, rfl, hcc, hC⟩ := Kd.R_reads hl
      have hx0l : w.cell? ⟨g, 0, none⟩ = some (.slice A r.lasts.length cc) := cell_of_block hb 0
      have hx1 : w.cell? ⟨g, 1, none⟩ = some qv := cell_of_block hb 1
      have hf1 : w.frozen? ⟨g, 1, none⟩ = false := unfrozen_of_block hb 1
      obtain ⟨Aq, cq, rfl, _, _⟩ := Kd.R_reads hq
      have hA0 : RyRel (fun i => G i = c + 3 + k) d r.lasts.length r.lasts w g A cc r.lasts.length (.int .i64 0) (w.setCell ⟨g, 1, none⟩ (.slice none 0 0)) := by
        refine ⟨0, ⟨Nat.zero_le _, rfl, rfl, ?_, ?_, ?_⟩⟩
        · exact Fr.setAt (Fr.refl _ _) hgk
        · have h := block_setCell hb (i := 1) (.slice none 0 0)
          have e : (#[Value.slice A r.lasts.length cc, Value.slice Aq r.queue.length cq] : Array Value).setIfInBounds 1 (.slice none 0 0) = #[.slice A r.lasts.length cc, .slice none 0 0] := by simp
          rw [e] at h
          exact h
        · have h := Kd.R_set hl hb (by decide) 1 (.slice none 0 0)
          simpa [layL] using h
      have HA0 := Lib.hid hA0
      have HGK := Lib.hid hgk
      have HG := Lib.hid hg
      clear hCr hg2 hr0 hW hb hl hq hC hg hA0 hgk hcc
      go_enter Try.func57, Try.ntmps57
      go_wp2_with fail
      obtain ⟨N, hN0⟩ : ∃ N, r.lasts.length = N := ⟨_, rfl⟩
      rw [hN0] at HA0 em hfew
      have HN0 := Lib.hid hN0
      clear hN0 hx0l hx1 hf1 hx0 hx
      go_loopg [7] N (fun gk v wr => RyRel (fun i => G i = c + 3 + k) d N r.lasts w g A cc gk v wr)
      case atStart => exact HA0.out
      case round =>
        obtain ⟨i, hi, rfl, hgi, hfi, hhi, hri⟩ := hrel
        obtain ⟨wo, rfl⟩ : ∃ wo : World, wo = wr := ⟨_, rfl⟩
        obtain ⟨gO, rfl⟩ : ∃ gO : Nat, gO = gk := ⟨_, rfl⟩
        have HGI := Lib.hid hgi
        have HFI := Lib.hid hfi
        have HHI := Lib.hid hhi
        have HRI := Lib.hid hri
        have hg0 : wo.cell? ⟨g, 0, none⟩ = some (.slice A N cc) := cell_of_block hhi 0
        clear hgi hfi hhi hri HA0
        by_cases hil : i < N
        · have hilI : (i : Int) < (N : Int) := by omega
          have hmk : ∀ W : World, (Instr.makeSlice 56 (.int .i64 64) (.int .i64 64)).run Try.prog W = .ok (.slice (some ⟨W.heap.size, 0, none⟩) 64 64) (W.alloc (.cells (madeCells #[.int .u8 0] 64) 5)) := print_make_of (P := Try.prog) 56 5 (.int .u8 0) 1 Try.underlying56 infoU8 rfl (by decide) 64 (by omega)
          go_wp2_with fail
          have H0 : Hid (RzRel d i wo 64 (.int .i64 0) (wo.alloc (.cells (madeCells #[.int .u8 0] 64) 5))) := ⟨0, ⟨by omega, rfl, rfl, Fr.refl _ _, by rw [accC_zero]; exact heap_alloc_new _ _⟩⟩
          clear hmk
          go_loopg [9] 64 (fun gk v wr => RzRel d i wo gk v wr)
          case atStart => exact H0.out
          case round =>
            obtain ⟨kk, hkk, rfl, hgk2, hfk, hhk⟩ := hrel
            have HGK2 := Lib.hid hgk2
            have HFK := Lib.hid hfk
            have HHK := Lib.hid hhk
            clear hgk2 hfk hhk H0
            by_cases hkl : kk < 64
            · have hklI : (kk : Int) < 64 := by omega
              by_cases hd : 64 * i + kk < d.size
              · have hdI : (i : Int) * 64 + (kk : Int) < (d.size : Int) := by omega
                have hcl : wr.cell? ⟨wo.heap.size, kk, none⟩ = some (.int .u8 ((if kk < kk then d.data.toList.getD (64 * i + kk) 0 else 0 : UInt8).toNat : Int)) := by
                  show (match wr.heap[wo.heap.size]? with | some (.cells c _ _) => c[kk]? | _ => none) = _
                  rw [HHK.out]
                  exact accC_get d i kk kk hkl
                have hfz : wr.frozen? ⟨wo.heap.size, kk, none⟩ = false := unfrozen_of_block HHK.out kk
                rw [if_neg (by omega)] at hcl
                go_wp2_with fail
                have hltd : i * 64 + kk < d.size := by omega
                have eb : d[i * 64 + kk] = d.data.toList.getD (64 * i + kk) 0 := by
                  rw [List.getD_eq_getElem?_getD, Array.getElem?_toList, show 64 * i + kk = i * 64 + kk from by omega, Array.getElem?_eq_getElem (by exact hltd)]
                  rfl
                have f5 : Fr (fun j => j = wo.heap.size) wr (wr.setCell ⟨wo.heap.size, kk, none⟩ (.int .u8 (d[i * 64 + kk].toNat : Int))) := Fr.setAt (Fr.refl _ _) rfl
                have hb5 := block_setCell HHK.out (i := kk) (.int .u8 (d[i * 64 + kk].toNat : Int))
                have e5 : (accC d i kk).setIfInBounds kk (.int .u8 (d[i * 64 + kk].toNat : Int)) = accC d i (kk + 1) := by rw [eb]; exact accC_set d i kk hkl
                rw [e5] at hb5
                go_roundg (gk - 1)
                case measure => have := HGK2.out; omega
                case rel => exact ⟨kk + 1, ⟨by omega, by go_num, by have := HGK2.out; omega, HFK.out.trans f5, hb5⟩⟩
              · have hdI : ¬ (i : Int) * 64 + (kk : Int) < (d.size : Int) := by omega
                have HHK2 := Lib.hid (show wr.heap[wo.heap.size]? = some (.cells (accC d i (kk + 1)) 5 (0, 0)) from by rw [accC_same d i kk hkl (by omega)]; exact HHK.out)
                go_wp2_with fail
                go_roundg (gk - 1)
                case measure => have := HGK2.out; omega
                case rel => exact ⟨kk + 1, ⟨by omega, by go_num, by have := HGK2.out; omega, HFK.out, HHK2.out⟩⟩
            · obtain rfl : kk = 64 := by omega
              have hfw : Fr (fun j => j = wo.heap.size) wo wr := (Fr.of_below ((Below.refl _ _).alloc (Nat.le_refl _) _)).trans HFK.out
              have hfo : Fr (fun j => G j = c + 3 + k) wo wr := ⟨hfw.os, hfw.tape, hfw.output, hfw.size, fun q hq _ => hfw.block q hq (by omega)⟩
              have hhw := (hfw.block g (heap_lt HHI.out) (fun e => by have := heap_lt HHI.out; omega)).trans HHI.out
              have hrw := Rfr HRI.out hfw (fun j _ hlt e => by omega)
              have hlen : (layL i d ++ r.lasts.drop i).length = N := by have := HN0.out; simp [layL]; omega
              obtain ⟨qb, cap, eqb, _, hqlt, _⟩ := Kd.R_form hrw (by omega)
              simp only [Value.slice.injEq] at eqb
              obtain ⟨rfl, hN3, rfl⟩ := eqb
              clear hN3
              have hcf := Kd.R_cell ByteArray.empty (by rw [hlen]; exact hrw) (i : Int) (by omega) (by omega)
              rw [Int.toNat_natCast] at hcf
              have hx0 : wr.cell? ⟨g, 0, none⟩ = some (.slice (some ⟨qb, 0, none⟩) N cc) := cell_of_block hhw 0
              have hcv := Go.run_convert_bytes_back (P := Try.prog) wr.drew 56 9 5 ⟨wo.heap.size, 0, none⟩ 64 (accL d i 64) Try.underlying56 Try.underlying5 Try.underlying9 (fun j hj => by
                have hj2 : j < 64 := by rw [accL_len] at hj; exact hj
                have h1 := accL_get d i 64 j hj2
                rw [List.getElem?_eq_getElem hj] at h1
                injection h1 with h1
                rw [Addr.add_plain0, h1]
                show (match wr.heap[wo.heap.size]? with | some (.cells c _ _) => c[j]? | _ => none) = _
                rw [HHK.out]
                exact accC_get d i 64 j hj2)
              rw [accL_len, acc_sec] at hcv
              have ev : (⟨(secL d.data.toList i).toArray⟩ : ByteArray) = secB d i := rfl
              rw [ev] at hcv
              have HLEN := Lib.hid hlen
              have HHW := Lib.hid hhw
              have HRW := Lib.hid hrw
              have HFW := Lib.hid hfo
              have HQ := Lib.hid hqlt
              have hc5 := hcf.1
              have hf5 := hcf.2
              clear ev hlen hhw hrw hfo hfw hcf hqlt
              go_wp2_with fail
              have hHS0 : HeldC g (.slice (some ⟨qb, 0, none⟩) N cc) wr.drew := ⟨hx0⟩
              refine wp_region_T 8 (HeldC g (.slice (some ⟨qb, 0, none⟩) N cc)) (by kernel_rfl) ?_
              refine wpAnyT_take (i := 0) (v := ?mv1) rfl (by kernel_rfl) (by kernel_rfl) (by kernel_rfl) rfl rfl (by kernel_rfl) (by rfl) (fun _ _ _ h => h) (Or.inl ⟨by rfl, ?mh1⟩) (by assumption) ?mr1
              case mh1 => intro w hSw; (try have hSw1 := hSw.1); (try have hSw2 := hSw.2); go_simp; try with_reducible rfl
              (try simp only [Act.put]); (try simp only [List.getElem_toArray, List.getElem_cons_zero, List.getElem_cons_succ]); (try simp only [List.setIfInBounds_toArray]); (try simp only [List.set_cons_zero, List.set_cons_succ])
              refine wpAnyT_take (i := 1) (v := ?mv2) rfl (by kernel_rfl) (by kernel_rfl) (by kernel_rfl) rfl rfl (by kernel_rfl) (by rfl) (fun _ _ _ h => h) (Or.inl ⟨by rfl, ?mh2⟩) (by assumption) ?mr2
              case mh2 => intro w hSw; (try have hSw1 := hSw.1); (try have hSw2 := hSw.2); go_simp; try with_reducible rfl
              (try simp only [Act.put]); (try simp only [List.getElem_toArray, List.getElem_cons_zero, List.getElem_cons_succ]); (try simp only [List.setIfInBounds_toArray]); (try simp only [List.set_cons_zero, List.set_cons_succ])
              refine wpAnyT_take (i := 2) (v := ?mv3) rfl (by kernel_rfl) (by kernel_rfl) (by kernel_rfl) rfl rfl (by kernel_rfl) (by rfl) (fun _ _ _ h => h) (Or.inl ⟨by rfl, ?mh3⟩) (by assumption) ?mr3
              case mh3 => intro w hSw; (try have hSw1 := hSw.1); (try have hSw2 := hSw.2); go_simp; try with_reducible rfl
              (try simp only [Act.put]); (try simp only [List.getElem_toArray, List.getElem_cons_zero, List.getElem_cons_succ]); (try simp only [List.setIfInBounds_toArray]); (try simp only [List.set_cons_zero, List.set_cons_succ])
              refine wpAnyT_take (i := 3) (v := ?mv4) rfl (by kernel_rfl) (by kernel_rfl) (by kernel_rfl) rfl rfl (by kernel_rfl) (by rfl) (fun _ _ _ h => h) (Or.inl ⟨by rfl, ?mh4⟩) (by assumption) ?mr4
              case mh4 => intro w hSw; (try have hSw1 := hSw.1); (try have hSw2 := hSw.2); go_simp; try with_reducible rfl
              (try simp only [Act.put]); (try simp only [List.getElem_toArray, List.getElem_cons_zero, List.getElem_cons_succ]); (try simp only [List.setIfInBounds_toArray]); (try simp only [List.set_cons_zero, List.set_cons_succ])
              refine wpAnyT_take (i := 4) (v := ?mv5) rfl (by kernel_rfl) (by kernel_rfl) (by kernel_rfl) rfl rfl (by kernel_rfl) (by rfl) (fun _ _ _ h => h) (Or.inl ⟨by rfl, ?mh5⟩) (by assumption) ?mr5
              case mh5 => intro w hSw; (try have hSw1 := hSw.1); (try have hSw2 := hSw.2); go_simp; try with_reducible rfl
              (try simp only [Act.put]); (try simp only [List.getElem_toArray, List.getElem_cons_zero, List.getElem_cons_succ]); (try simp only [List.setIfInBounds_toArray]); (try simp only [List.set_cons_zero, List.set_cons_succ])
              refine wpAnyT_take (i := 5) (v := ?mv6) rfl (by kernel_rfl) (by kernel_rfl) (by kernel_rfl) rfl rfl (by kernel_rfl) (by rfl) (fun _ _ _ h => h) (Or.inl ⟨by rfl, ?mh6⟩) (by assumption) ?mr6
              case mh6 => intro w hSw; (try have hSw1 := hSw.1); (try have hSw2 := hSw.2); go_simp; try with_reducible rfl
              (try simp only [Act.put]); (try simp only [List.getElem_toArray, List.getElem_cons_zero, List.getElem_cons_succ]); (try simp only [List.setIfInBounds_toArray]); (try simp only [List.set_cons_zero, List.set_cons_succ])
              refine wpAnyT_one (j := 6) rfl (by kernel_rfl) (fun K hK => ?_)
              go_simp
              refine hK.out _ _ (fun _ => hHS0) ?_
              clear hK K
              (try simp only [Act.put]); (try simp only [List.getElem_toArray, List.getElem_cons_zero, List.getElem_cons_succ]); (try simp only [List.setIfInBounds_toArray]); (try simp only [List.set_cons_zero, List.set_cons_succ])
              refine wpAnyT_one (j := 7) rfl (by kernel_rfl) (fun K hK => ?_)
              go_simp
              refine hK.out _ _ (fun _ => hHS0) ?_
              clear hK K
              (try simp only [Act.put]); (try simp only [List.getElem_toArray, List.getElem_cons_zero, List.getElem_cons_succ]); (try simp only [List.setIfInBounds_toArray]); (try simp only [List.set_cons_zero, List.set_cons_succ])
              refine wpAnyT_one (j := 8) rfl (by kernel_rfl) (fun K hK => ?_)
              go_simp
              refine hK.out _ _ (fun _ => past_t ‹_›) ?_
              clear hK K
              (try simp only [Act.put]); (try simp only [List.getElem_toArray, List.getElem_cons_zero, List.getElem_cons_succ]); (try simp only [List.setIfInBounds_toArray]); (try simp only [List.set_cons_zero, List.set_cons_succ])
              refine wpAnyT_done (by kernel_rfl) ?_ _
              have f6 : Fr (fun i => G i = c + 3 + k) wr (wr.drew.setCell ⟨qb, i, none⟩ (.string (secB d i))) := by
                refine Fr.setAt ?_ (HRW.out.1 qb rfl)
                exact Fr.drew (Fr.refl _ _)
              have hh6 := (Fr.block (S := fun i => i = qb) (Fr.setAt (Fr.drew (Fr.refl _ wr)) rfl (j := i) (u := .string (secB d i))) g (heap_lt HHW.out) (fun e => by
                have h1 := Kd.R_ne HRW.out HHW.out (by decide)
                exact h1 (by rw [e]; rfl))).trans HHW.out
              have hR6 : Kd.R Kd.string TR.str (wr.drew.setCell ⟨qb, i, none⟩ (.string (secB d i))) 0 (fun i => G i = c + 3 + k) (.slice (some ⟨qb, 0, none⟩) N cc) (layL (i + 1) d ++ r.lasts.drop (i + 1)) := by
                have h2 := (Kd.R_put (by rw [HLEN.out]; exact Kd.R_drew HRW.out) (i : Int) (secB d i)).1
                have hjl : i < r.lasts.length := by have := HN0.out; omega
                rw [Int.toNat_natCast, row_set hjl] at h2
                have e : (layL i d ++ r.lasts.drop i).length = N := HLEN.out
                rw [e] at h2
                exact h2
              have HF6 := Lib.hid (HFI.out.trans (HFW.out.trans f6))
              have HH6 := Lib.hid hh6
              have HR6 := Lib.hid hR6
              clear f6 hh6 hR6 hHS0 hc5 hf5 hcv
              go_wp2_with fail
              go_roundg (gO - 1)
              case measure => have := HGI.out; omega
              case rel => exact ⟨i + 1, ⟨by omega, by go_num, by have := HGI.out; omega, HF6.out, HH6.out, HR6.out⟩⟩
        · obtain rfl : i = N := by omega
          go_wp2_with fail
          refine bodyPost_end (v := .tuple #[]) (by simp [results, Try.results57, go_sem]) rfl ?_
          refine ⟨rfl, ?_⟩
          rw [em.out]
          have hrow := HRI.out
          rw [List.drop_of_length_le (by rw [HN0.out]; omega), List.append_nil] at hrow
          refine Did.of (Step.of_fr HFI.out (fun i _ hi => ?_)) (reg_lies H.out HG.out HFI.out ⟨HGK.out, _, _, HHI.out, hrow, Kd.R_nil _ _ _ _ _⟩)
          have := HM.out.few
          omega
    · have em : Hid (layM m (k : Int) d = m) := by show _ = _; unfold layM; rw [if_neg (by omega)]
      have hkI : ¬ (k : Int) < (gs.length : Int) := by omega
      clear hCr
      go_enter Try.func57, Try.ntmps57
      go_wp2_with fail
      refine bodyPost_ret (v := .tuple #[]) (by simp [results, Try.results57, go_sem]) rfl ?_
      exact ⟨rfl, by rw [em.out]; exact Did.of (Step.of_fr (Fr.refl _ _) (fun _ _ h => h)) H.out⟩

end Go.Proofs.Ytekpbpcfeopilaa.Rj
