/- The document's disk: Image. -/
import Derived.Test.YtekpbpcfeopilaaRh
namespace Go.Proofs.Ytekpbpcfeopilaa.Ri
open Go Go.RowKit Go.Joins Go.Proofs.YtekpbpcfeopilaaCore Go.Proofs.Ytekpbpcfeopilaa.Dm Go.Proofs.Ytekpbpcfeopilaa.Dr Go.Proofs.Ytekpbpcfeopilaa.Da Go.Proofs.Ytekpbpcfeopilaa.Df Go.Proofs.Ytekpbpcfeopilaa.Dg Go.Proofs.Ytekpbpcfeopilaa.Dh Go.Proofs.Ytekpbpcfeopilaa.Di Go.Proofs.Ytekpbpcfeopilaa.Dj Go.Proofs.Ytekpbpcfeopilaa.Dk Go.Proofs.Ytekpbpcfeopilaa.Dl Go.Proofs.Ytekpbpcfeopilaa.Dn Go.Proofs.Ytekpbpcfeopilaa.Dp Go.Proofs.Ytekpbpcfeopilaa.Dq Go.Proofs.Ytekpbpcfeopilaa.Ds Go.Proofs.Ytekpbpcfeopilaa.Dt Go.Proofs.Ytekpbpcfeopilaa.Du Go.Proofs.Ytekpbpcfeopilaa.Dv Go.Proofs.Ytekpbpcfeopilaa.Dw Go.Proofs.Ytekpbpcfeopilaa.Sys Go.Proofs.Ytekpbpcfeopilaa.Ra Go.Proofs.Ytekpbpcfeopilaa.Rb Go.Proofs.Ytekpbpcfeopilaa.Rc Go.Proofs.Ytekpbpcfeopilaa.Rd Go.Proofs.Ytekpbpcfeopilaa.Re Go.Proofs.Ytekpbpcfeopilaa.Rf Go.Proofs.Ytekpbpcfeopilaa.Rg Go.Proofs.Ytekpbpcfeopilaa.Rh Go.Proofs.YtekpbpcfeopilaaW.PrintWords Go.Proofs.YtekpbpcfeopilaaW.PrintLast Go.Proofs.YtekpbpcfeopilaaW.PrintMore

theorem catB_succ (l : List ByteArray) (i : Nat) (h : i < l.length) : catB (l.take (i + 1)) = catB (l.take i) ++ l[i] := by
  rw [List.take_succ_eq_append_getElem h]
  unfold catB
  rw [List.map_append, List.flatten_append]
  apply ByteArray.ext
  simp [ByteArray.data_append]
theorem catB_size (l : List ByteArray) (h : ∀ s ∈ l, s.size = 64) : (catB l).size = 64 * l.length := by
  rw [← data_length]
  exact flat_len l h

set_option maxHeartbeats 4000000 in
set_option maxRecDepth 100000 in
theorem rimage_any {G : Nat → Nat} {c : Nat} {w : World} {b : Nat} {m : MDisk} {rv kv : Value} {gs : List Nat} (h : Lies TR G c w b m rv kv gs) {N : Nat} (hm : Wf N m) (n : Int) :
    Calls Try.prog 51 #[.pointer (some ⟨b, 0, none⟩), .int .i64 n] w fun e w' => e = .returned (.string (imageM m n)) ∧ Below w.heap.size w w' := by
  have H := Lib.hid h
  have HM := Lib.hid hm
  have hgl := h.len
  obtain ⟨Ar, cr, rfl, _, hCr⟩ := Kd.R_reads h.row
  have hx0 : w.cell? ⟨b, 0, none⟩ = some (.slice Ar gs.length cr) := cell_of_block h.head 0
  clear h hm
  by_cases hn0 : n < 0
  · have ev : Hid (imageM m n = ⟨#[]⟩) := by show _ = _; unfold imageM; rw [if_neg (by omega)]
    clear hCr
    go_enter Try.func51, Try.ntmps51
    go_wp2_with fail
    exact bodyPost_ret (v := .string ⟨#[]⟩) (by simp [results, Try.results51, go_sem]) rfl ⟨by rw [ev.out], Below.refl _ _⟩
  · obtain ⟨k, rfl⟩ : ∃ k : Nat, n = (k : Int) := ⟨n.toNat, by omega⟩
    by_cases hk : k < m.regs.length
    · have hkI : (k : Int) < (gs.length : Int) := by omega
      have ev : Hid (imageM m (k : Int) = catB m.regs[k].lasts) := by show _ = _; unfold imageM; rw [if_pos (by omega), Int.toNat_natCast]; simp [hk]
      obtain ⟨ad, g, rfl, hg, hx⟩ := ptr_at hCr k (by omega)
      obtain ⟨g2, hg2, hr⟩ := H.out.regs k hk
      rw [hg] at hg2
      obtain rfl : g = g2 := by simpa using hg2
      have hW := HM.out.regs _ (List.getElem_mem hk)
      obtain ⟨r, hr0⟩ : ∃ r, m.regs[k] = r := ⟨_, rfl⟩
      rw [hr0] at hr hW ev
      obtain ⟨_, lv, qv, hb, hl, hq⟩ := hr
      obtain ⟨Al, cl, rfl, _, hCl⟩ := Kd.R_reads hl
      have hg0 : w.cell? ⟨g, 0, none⟩ = some (.slice Al r.lasts.length cl) := cell_of_block hb 0
      have HCL := Lib.hid hCl
      have hfew := hW.few
      have H64 := Lib.hid hW.l64
      clear hCr hg2 hr0 hW hb hl hq hCl hg
      go_enter Try.func51, Try.ntmps51
      go_wp2_with fail
      go_loopg [5, 6] r.lasts.length (fun gk sv v wr => ∃ i : Nat, i ≤ r.lasts.length ∧ v = .int .i64 i ∧ gk + i = r.lasts.length ∧ sv = .string (catB (r.lasts.take i)) ∧ wr = w)
      case atStart => exact ⟨0, Nat.zero_le _, rfl, rfl, rfl, rfl⟩
      case round =>
        obtain ⟨i, hi, rfl, hgi, rfl, rfl⟩ := hrel
        have HGI := Lib.hid hgi
        clear hgi
        have hgl0 := Lib.hid hgl
        clear hgl
        by_cases hil : i < r.lasts.length
        · obtain ⟨al, rfl, hxl⟩ := Kd.at_string HCL.out (i : Int) (by omega) (by omega)
          rw [Int.toNat_natCast] at hxl
          have ex : rdOf ByteArray.empty r.lasts (i : Int) = r.lasts[i] := by simp [rdOf, hil]
          rw [ex] at hxl
          have hiI : (i : Int) < (r.lasts.length : Int) := by omega
          have HN := Lib.hid (catB_succ r.lasts i hil)
          have hs1 : (catB (r.lasts.take i)).size = 64 * i := by
            rw [catB_size _ (fun s hs => H64.out s (List.mem_of_mem_take hs)), List.length_take]
            omega
          have hs2 : r.lasts[i].size = 64 := H64.out _ (List.getElem_mem hil)
          obtain ⟨s1, hs10⟩ : ∃ s1, catB (r.lasts.take i) = s1 := ⟨_, rfl⟩
          obtain ⟨s2, hs20⟩ : ∃ s2, r.lasts[i] = s2 := ⟨_, rfl⟩
          rw [hs20] at hxl hs2 HN
          rw [hs10] at hs1 HN ⊢
          clear ex hs10 hs20
          go_wp2_with fail
          go_roundg (gk - 1)
          case measure => have := HGI.out; omega
          case rel => exact ⟨i + 1, by omega, by go_num, by have := HGI.out; omega, by rw [HN.out], rfl⟩
        · obtain rfl : i = r.lasts.length := by omega
          rw [List.take_of_length_le (Nat.le_refl _)]
          go_wp2_with fail
          exact bodyPost_ret (v := .string (catB r.lasts)) (by simp [results, Try.results51, go_sem]) rfl ⟨by rw [ev.out], Below.refl _ _⟩
    · have ev : Hid (imageM m (k : Int) = ⟨#[]⟩) := by show _ = _; unfold imageM; rw [if_pos (by omega), List.getElem?_eq_none (by omega)]; rfl
      have hkI : ¬ (k : Int) < (gs.length : Int) := by omega
      clear hCr
      go_enter Try.func51, Try.ntmps51
      go_wp2_with fail
      exact bodyPost_ret (v := .string ⟨#[]⟩) (by simp [results, Try.results51, go_sem]) rfl ⟨by rw [ev.out], Below.refl _ _⟩

end Go.Proofs.Ytekpbpcfeopilaa.Ri
