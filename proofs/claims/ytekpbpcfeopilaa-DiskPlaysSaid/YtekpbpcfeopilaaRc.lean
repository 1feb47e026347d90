/- The document's disk: Read. -/
import Derived.Test.YtekpbpcfeopilaaRb
namespace Go.Proofs.Ytekpbpcfeopilaa.Rc
open Go Go.RowKit Go.Joins Go.Proofs.YtekpbpcfeopilaaCore Go.Proofs.Ytekpbpcfeopilaa.Dm Go.Proofs.Ytekpbpcfeopilaa.Dr Go.Proofs.Ytekpbpcfeopilaa.Da Go.Proofs.Ytekpbpcfeopilaa.Df Go.Proofs.Ytekpbpcfeopilaa.Dg Go.Proofs.Ytekpbpcfeopilaa.Dh Go.Proofs.Ytekpbpcfeopilaa.Di Go.Proofs.Ytekpbpcfeopilaa.Dj Go.Proofs.Ytekpbpcfeopilaa.Dk Go.Proofs.Ytekpbpcfeopilaa.Dl Go.Proofs.Ytekpbpcfeopilaa.Dn Go.Proofs.Ytekpbpcfeopilaa.Dp Go.Proofs.Ytekpbpcfeopilaa.Dq Go.Proofs.Ytekpbpcfeopilaa.Ds Go.Proofs.Ytekpbpcfeopilaa.Dt Go.Proofs.Ytekpbpcfeopilaa.Du Go.Proofs.Ytekpbpcfeopilaa.Dv Go.Proofs.Ytekpbpcfeopilaa.Dw Go.Proofs.Ytekpbpcfeopilaa.Sys Go.Proofs.Ytekpbpcfeopilaa.Ra Go.Proofs.Ytekpbpcfeopilaa.Rb Go.Proofs.YtekpbpcfeopilaaW.PrintWords Go.Proofs.YtekpbpcfeopilaaW.PrintLast Go.Proofs.YtekpbpcfeopilaaW.PrintMore

theorem readM_no {m : MDisk} {n s : Int} (h : findM m n s ≠ 0) : readM m n s = ⟨#[]⟩ := by unfold readM; rw [if_neg h]

structure RdInv (q : List (Int × ByteArray)) (s : Int) (d : ByteArray) (w0 : World) (gk : Nat) (sv v : Value) (wr : World) (j : Nat) : Prop where
  hi : j ≤ q.length
  slot : v = .int .i64 j
  ghost : gk + j = q.length
  text : sv = .string (lookQ (q.take j) s d)
  same : wr = w0
def RdRel (q : List (Int × ByteArray)) (s : Int) (d : ByteArray) (w0 : World) (gk : Nat) (sv v : Value) (wr : World) : Prop := ∃ j, RdInv q s d w0 gk sv v wr j

set_option maxHeartbeats 4000000 in
set_option maxRecDepth 100000 in
theorem rread_any {G : Nat → Nat} {c : Nat} {w : World} {b : Nat} {m : MDisk} {rv kv : Value} {gs : List Nat} (h : Lies TR G c w b m rv kv gs) (n s : Int) :
    Calls Try.prog 52 #[.pointer (some ⟨b, 0, none⟩), .int .i64 n, .int .i64 s] w fun e w' => e = .returned (.tuple #[.string (readM m n s), .int .i64 (findM m n s)]) ∧ Below w.heap.size w w' := by
  have hx1 : w.cell? ⟨b, 1, none⟩ = some (.bool m.off) := cell_of_block h.head 1
  obtain ⟨Ar, cr, rfl, _, hCr⟩ := Kd.R_reads h.row
  have hx0 : w.cell? ⟨b, 0, none⟩ = some (.slice Ar gs.length cr) := cell_of_block h.head 0
  have HLN := Lib.hid h.len
  have HCR := Lib.hid hCr
  have H := Lib.hid h
  clear h hCr
  by_cases ho : m.off = true
  · have ef : findM m n s = 11 := by unfold findM; rw [if_pos ho]
    have er := readM_no (m := m) (n := n) (s := s) (by rw [ef]; decide)
    rw [ef, er]
    rw [ho] at hx1
    clear ef er ho
    go_enter Try.func52, Try.ntmps52
    go_wp2_with fail
    exact bodyPost_ret (v := .tuple #[.string ⟨#[]⟩, .int .i64 11]) (by simp [results, Try.results52, go_sem]) rfl ⟨rfl, Below.refl _ _⟩
  · have ho2 : m.off = false := by simpa using ho
    rw [ho2] at hx1
    by_cases h1 : n < 0
    · have ef : findM m n s = 10 := by unfold findM; rw [if_neg ho, if_neg (by omega)]
      have er := readM_no (m := m) (n := n) (s := s) (by rw [ef]; decide)
      rw [ef, er]
      clear ef er ho ho2
      go_enter Try.func52, Try.ntmps52
      go_wp2_with fail
      exact bodyPost_ret (v := .tuple #[.string ⟨#[]⟩, .int .i64 10]) (by simp [results, Try.results52, go_sem]) rfl ⟨rfl, Below.refl _ _⟩
    · obtain ⟨k, rfl⟩ : ∃ k : Nat, n = (k : Int) := ⟨n.toNat, by omega⟩
      by_cases h2 : (gs.length : Int) ≤ (k : Int)
      · have ef : findM m (k : Int) s = 10 := by
          unfold findM
          rw [if_neg ho, sectorsM_nat, List.getElem?_eq_none (by have := HLN.out; omega)]
          simp
        have er := readM_no (m := m) (n := (k : Int)) (s := s) (by rw [ef]; decide)
        rw [ef, er]
        clear ef er ho ho2
        go_enter Try.func52, Try.ntmps52
        go_wp2_with fail
        exact bodyPost_ret (v := .tuple #[.string ⟨#[]⟩, .int .i64 10]) (by simp [results, Try.results52, go_sem]) rfl ⟨rfl, Below.refl _ _⟩
      · have h4 : (k : Int) < (gs.length : Int) := by omega
        obtain ⟨ad, g, rfl, hg, hx⟩ := ptr_at HCR.out k (by omega)
        have hkm : k < m.regs.length := by have := HLN.out; omega
        obtain ⟨g2, hg2, hr⟩ := H.out.regs k hkm
        rw [hg] at hg2
        obtain rfl : g = g2 := by simpa using hg2
        obtain ⟨r, hr0⟩ : ∃ r, m.regs[k] = r := ⟨_, rfl⟩
        rw [hr0] at hr
        have hrk : m.regs[k]? = some r := by rw [List.getElem?_eq_getElem hkm, hr0]
        obtain ⟨_, lv, qv, hb, hl, hq⟩ := hr
        obtain ⟨Al, cl, rfl, _, hCl⟩ := Kd.R_reads hl
        obtain ⟨Aq, cq, rfl, _, hQ⟩ := Kd.R_reads hq
        have hg0 : w.cell? ⟨g, 0, none⟩ = some (.slice Al r.lasts.length cl) := cell_of_block hb 0
        have hg1 : w.cell? ⟨g, 1, none⟩ = some (.slice Aq r.queue.length cq) := cell_of_block hb 1
        have HCL := Lib.hid hCl
        have HQ := Lib.hid hQ
        have HQR := Lib.hid hq
        have hql : r.queue.length ≤ 9223372036854775807 := hQ.2.1
        have es : sectorsM m (k : Int) = (r.lasts.length : Int) := by rw [sectorsM_nat, hrk]; rfl
        have efk : findM m (k : Int) s = if 0 ≤ s ∧ s < (r.lasts.length : Int) then 0 else 10 := by
          unfold findM
          rw [if_neg ho, es]
          have : (0 : Int) ≤ (k : Int) := by omega
          simp only [this, true_and]
        clear hg2 hb hl hq hCl hQ
        by_cases h5 : s < 0
        · have ef : findM m (k : Int) s = 10 := by rw [efk, if_neg (by omega)]
          have er := readM_no (m := m) (n := (k : Int)) (s := s) (by rw [ef]; decide)
          rw [ef, er]
          clear ef er ho ho2 efk es hrk hr0 hg
          go_enter Try.func52, Try.ntmps52
          go_wp2_with fail
          exact bodyPost_ret (v := .tuple #[.string ⟨#[]⟩, .int .i64 10]) (by simp [results, Try.results52, go_sem]) rfl ⟨rfl, Below.refl _ _⟩
        · by_cases h6 : (r.lasts.length : Int) ≤ s
          · have ef : findM m (k : Int) s = 10 := by rw [efk, if_neg (by omega)]
            have er := readM_no (m := m) (n := (k : Int)) (s := s) (by rw [ef]; decide)
            rw [ef, er]
            clear ef er ho ho2 efk es hrk hr0 hg
            go_enter Try.func52, Try.ntmps52
            go_wp2_with fail
            exact bodyPost_ret (v := .tuple #[.string ⟨#[]⟩, .int .i64 10]) (by simp [results, Try.results52, go_sem]) rfl ⟨rfl, Below.refl _ _⟩
          · obtain ⟨j, rfl⟩ : ∃ j : Nat, s = (j : Int) := ⟨s.toNat, by omega⟩
            have hj : j < r.lasts.length := by omega
            have ef : findM m (k : Int) (j : Int) = 0 := by rw [efk, if_pos (by omega)]
            have er : readM m (k : Int) (j : Int) = lookQ r.queue (j : Int) r.lasts[j] := by
              unfold readM
              rw [if_pos ef, Int.toNat_natCast, hrk, Int.toNat_natCast]
              simp [hj]
            rw [ef, er]
            obtain ⟨al, rfl, hxl⟩ := Kd.at_string HCL.out (j : Int) (by omega) (by omega)
            rw [Int.toNat_natCast] at hxl
            have ex : rdOf ByteArray.empty r.lasts (j : Int) = r.lasts[j] := by simp [rdOf, hj]
            rw [ex] at hxl
            obtain ⟨d0, hd0⟩ : ∃ d0, r.lasts[j] = d0 := ⟨_, rfl⟩
            rw [hd0] at hxl ⊢
            clear ef er ho ho2 efk es hrk hr0 hg ex hd0
            go_enter Try.func52, Try.ntmps52
            go_wp2_with fail

            go_loopg [9, 10] r.queue.length (fun gk sv v wr => RdRel r.queue (j : Int) d0 w gk sv v wr)
            case atStart => exact ⟨0, ⟨Nat.zero_le _, rfl, rfl, rfl, rfl⟩⟩
            case round =>
              obtain ⟨i, hi, rfl, hgi, rfl, rfl⟩ := hrel
              have HGI := Lib.hid hgi
              clear hgi
              by_cases hil : i < r.queue.length
              · obtain ⟨q, qc, eq0, _, _, _⟩ := Kd.R_form HQR.out (by omega)
                simp only [Value.slice.injEq, true_and] at eq0
                obtain ⟨rfl, rfl⟩ := eq0
                obtain ⟨aq, eaq, hx0q, hx1q⟩ := wr_at HQ.out i (by omega) (by omega)
                obtain rfl : (⟨q, 0, none⟩ : Addr) = aq := by simpa using eaq
                rw [Addr.add_plain0] at hx0q hx1q
                have hiI : (i : Int) < (r.queue.length : Int) := by omega
                have HT := Lib.hid (lookQ_take r.queue i hil (j : Int) d0)
                obtain ⟨⟨ps, pd⟩, hp⟩ : ∃ p, r.queue[i] = p := ⟨_, rfl⟩
                rw [hp] at hx0q hx1q HT
                simp only at hx0q hx1q HT
                clear hp eaq
                by_cases hs : ps = (j : Int)
                · have HN : Hid (lookQ (r.queue.take (i + 1)) (j : Int) d0 = pd) := by show _ = _; rw [HT.out, if_pos hs]
                  subst hs
                  clear HT
                  go_wp2_with fail
                  go_roundg (gk - 1)
                  case measure => have := HGI.out; omega
                  case rel => exact ⟨i + 1, ⟨by omega, by go_num, by have := HGI.out; omega, by rw [HN.out], rfl⟩⟩
                · have HN : Hid (lookQ (r.queue.take (i + 1)) (j : Int) d0 = lookQ (r.queue.take i) (j : Int) d0) := by show _ = _; rw [HT.out, if_neg hs]
                  have hs2 : (ps == (j : Int)) = false := by simpa using hs
                  clear HT hs
                  go_wp2_with fail
                  go_roundg (gk - 1)
                  case measure => have := HGI.out; omega
                  case rel => exact ⟨i + 1, ⟨by omega, by go_num, by have := HGI.out; omega, by rw [HN.out], rfl⟩⟩
              · obtain rfl : i = r.queue.length := by omega
                rw [List.take_of_length_le (Nat.le_refl _)]
                go_wp2_with fail
                exact bodyPost_ret (v := .tuple #[.string (lookQ r.queue (j : Int) d0), .int .i64 0]) (by simp [results, Try.results52, go_sem]) rfl ⟨rfl, Below.refl _ _⟩

end Go.Proofs.Ytekpbpcfeopilaa.Rc
