/- The program's disk: Read. -/
import Derived.Test.YtekpbpcfeopilaaDf
namespace Go.Proofs.Ytekpbpcfeopilaa.Dg
open Go Go.RowKit Go.Joins Go.Proofs.YtekpbpcfeopilaaCore Go.Proofs.Ytekpbpcfeopilaa.Dm Go.Proofs.Ytekpbpcfeopilaa.Dr Go.Proofs.Ytekpbpcfeopilaa.Da Go.Proofs.Ytekpbpcfeopilaa.Df Go.Proofs.YtekpbpcfeopilaaW.PrintWords Go.Proofs.YtekpbpcfeopilaaW.PrintLast Go.Proofs.YtekpbpcfeopilaaW.PrintMore

/-- What Read answers. -/
def readM (m : MDisk) (n s : Int) : ByteArray := if findM m n s = 0 then lookQ ((m.regs[n.toNat]?).map (·.queue) |>.getD []) s ((((m.regs[n.toNat]?).map (·.lasts)).getD []).getD s.toNat ByteArray.empty) else ⟨#[]⟩

theorem lookQ_snoc (q : List (Int × ByteArray)) (p : Int × ByteArray) (s : Int) (d : ByteArray) : lookQ (q ++ [p]) s d = if p.1 = s then p.2 else lookQ q s d := by
  induction q generalizing d with
  | nil => rfl
  | cons a q ih => rw [List.cons_append, lookQ, ih]; rfl
theorem lookQ_take (q : List (Int × ByteArray)) (k : Nat) (h : k < q.length) (s : Int) (d : ByteArray) : lookQ (q.take (k + 1)) s d = if q[k].1 = s then q[k].2 else lookQ (q.take k) s d := by
  rw [List.take_succ_eq_append_getElem h, lookQ_snoc]

/-- A write's two cells. -/
theorem wr_at {w : World} {A : Option Addr} {n : Nat} {xs : List (Int × ByteArray)} (h : wrK.C w A n xs) (i : Nat) (h1 : i < n) (hx : i < xs.length) : ∃ ad, A = some ad ∧ w.cell? (ad.add (i * 2)) = some (.int .i64 xs[i].1) ∧ w.cell? (ad.add (i * 2 + 1)) = some (.string xs[i].2) := by
  obtain ⟨_, _, hc⟩ := h
  obtain ⟨ad, ha, hc⟩ := hc (by omega)
  obtain ⟨c, _, hr, hcell⟩ := hc i xs[i] (List.getElem?_eq_getElem hx)
  obtain ⟨c0, c1, rfl, h0, h1⟩ := hr
  obtain rfl : c0 = [.int .i64 xs[i].1] := h0
  obtain rfl : c1 = [.string xs[i].2] := h1
  exact ⟨ad, ha, hcell 0 _ rfl, hcell 1 _ rfl⟩

set_option maxHeartbeats 4000000 in
set_option maxRecDepth 100000 in
theorem read_nil (n s : Int) (w : World) : Calls Try.prog 28 #[.pointer none, .int .i64 n, .int .i64 s] w fun e w' => e = .returned (.tuple #[.string ⟨#[]⟩, .int .i64 1]) ∧ Below w.heap.size w w' := by
  go_enter Try.func28, Try.ntmps28
  go_wp2_with fail
  refine (find_nil _ _ _).mono ?_
  rintro e w1 ⟨rfl, hb1⟩
  go_wp2_with fail
  exact bodyPost_ret (v := .tuple #[.string ⟨#[]⟩, .int .i64 1]) (by simp [results, Try.results28, go_sem]) rfl ⟨rfl, hb1⟩

/-- What find's 'OK' says. -/
theorem find_ok {G : Nat → Nat} {c : Nat} {T : Tys} {w : World} {b : Nat} {m : MDisk} {rv kv : Value} {gs : List Nat} (h : Lies T G c w b m rv kv gs) {n s : Int} (hf : findM m n s = 0) :
    ∃ (k j : Nat) (g : Nat) (r : MReg), n = (k : Int) ∧ s = (j : Int) ∧ findP m gs n s = some ⟨g, 0, none⟩ ∧ gs[k]? = some g ∧ m.regs[k]? = some r ∧ j < r.lasts.length ∧ RegAt T (fun i => G i = c + 3 + k) w g r := by
  unfold findP
  rw [if_pos hf]
  unfold findM at hf
  split at hf
  · omega
  · split at hf
    · rename_i hh
      obtain ⟨h1, h2, h3⟩ := hh
      obtain ⟨k, rfl⟩ : ∃ k : Nat, n = (k : Int) := ⟨n.toNat, by omega⟩
      obtain ⟨j, rfl⟩ : ∃ j : Nat, s = (j : Int) := ⟨s.toNat, by omega⟩
      rw [sectorsM_nat] at h3
      rcases reg_of h k with ⟨g, r, e1, e2, e3, hr⟩ | ⟨e1, e2⟩
      · rw [e3] at h3
        simp at h3
        exact ⟨k, j, g, r, rfl, rfl, e1, e2, e3, by omega, hr⟩
      · rw [e2] at h3
        simp at h3
        omega
    · omega

structure Inv (q : List (Int × ByteArray)) (s : Int) (d : ByteArray) (w0 : World) (gk : Nat) (v : Value) (wr : World) : Prop where
  le : gk ≤ q.length
  slot : v = .int .i64 ((gk : Int) - 1)
  same : wr = w0
  look : lookQ q s d = lookQ (q.take gk) s d

set_option maxHeartbeats 4000000 in
set_option maxRecDepth 100000 in
theorem read_any {G : Nat → Nat} {c : Nat} {w : World} {b : Nat} {m : MDisk} {rv kv : Value} {gs : List Nat} (h : Lies TP G c w b m rv kv gs) (n s : Int) :
    Calls Try.prog 28 #[.pointer (some ⟨b, 0, none⟩), .int .i64 n, .int .i64 s] w fun e w' => e = .returned (.tuple #[.string (readM m n s), .int .i64 (findM m n s)]) ∧ Below w.heap.size w w' := by
  have H := Lib.hid h
  clear h
  by_cases hf : findM m n s = 0
  · obtain ⟨k, j, g, r, rfl, rfl, ep, _, er, hj, _⟩ := find_ok H.out hf
    have ev : Hid (readM m (k : Int) (j : Int) = lookQ r.queue (j : Int) r.lasts[j]) := by
      show _ = _
      unfold readM
      rw [if_pos hf, Int.toNat_natCast, er, Int.toNat_natCast]
      simp [hj]
    have EF := Lib.hid hf
    go_enter Try.func28, Try.ntmps28
    go_wp2_with fail
    refine (find_any H.out _ _).mono ?_
    rintro e w1 ⟨rfl, hb1⟩
    rw [ep, hf]
    obtain ⟨k', j', g', r', ek, ej, ep', _, er', _, hr⟩ := find_ok (H.out.below hb1) hf
    obtain rfl : k = k' := by omega
    obtain rfl : j = j' := by omega
    rw [ep] at ep'
    rw [er] at er'
    obtain rfl : g = g' := by simpa using ep'
    obtain rfl : r = r' := by simpa using er'
    obtain ⟨_, lv, qv, hb, hl, hq⟩ := hr
    obtain ⟨A, cc, rfl, _, hC⟩ := Kd.R_reads hl
    obtain ⟨Aq, cq, rfl, _, hQ⟩ := Kd.R_reads hq
    have h0 : w1.cell? ⟨g, 0, none⟩ = some (.slice A r.lasts.length cc) := cell_of_block hb 0
    have h1 : w1.cell? ⟨g, 1, none⟩ = some (.slice Aq r.queue.length cq) := cell_of_block hb 1
    have HC := Lib.hid hC
    have HQ := Lib.hid hQ
    have HQR := Lib.hid hq
    have hql : r.queue.length ≤ 9223372036854775807 := hQ.2.1
    clear hb hl hq hC hQ ep er er' ek ej ep' hf H
    go_wp2_with fail
    go_loopg [10] r.queue.length (fun gk v wr => Inv r.queue (j : Int) r.lasts[j] w1 gk v wr)
    case atStart => exact ⟨Nat.le_refl _, rfl, rfl, by rw [List.take_of_length_le (Nat.le_refl _)]⟩
    case round =>
      obtain ⟨hle, rfl, rfl, hlook⟩ := hrel
      have HL := Lib.hid hlook
      clear hlook
      cases gk with
      | zero =>
        obtain ⟨ad, rfl, hx⟩ := Kd.at_string HC.out (j : Int) (by omega) (by omega)
        rw [Int.toNat_natCast] at hx
        have ex : rdOf ByteArray.empty r.lasts (j : Int) = r.lasts[j] := by simp [rdOf, hj]
        rw [ex] at hx
        have hj2 : (j : Int) < (r.lasts.length : Int) := by omega
        clear ex
        have eR : Hid (readM m (k : Int) (j : Int) = r.lasts[j]) := by show _ = _; rw [ev.out, HL.out]; rfl
        clear ev HL
        go_wp2_with fail
        exact bodyPost_ret (v := .tuple #[.string r.lasts[j], .int .i64 0]) (by simp [results, Try.results28, go_sem]) rfl ⟨by rw [eR.out, EF.out], hb1⟩
      | succ i =>
        obtain ⟨q, qc, eq0, _, _, _⟩ := Kd.R_form HQR.out (by omega)
        simp only [Value.slice.injEq, true_and] at eq0
        obtain ⟨rfl, rfl⟩ := eq0
        obtain ⟨ad, ead, hx0, hx1⟩ := wr_at HQ.out i (by omega) (by omega)
        obtain rfl : (⟨q, 0, none⟩ : Addr) = ad := by simpa using ead
        clear ead
        rw [Addr.add_plain0] at hx0 hx1
        have ei : ((i + 1 : Nat) : Int) - 1 = (i : Int) := by omega
        have hi2 : (i : Int) < (r.queue.length : Int) := by omega
        have hil : i < r.queue.length := by omega
        rw [ei]
        have HT := Lib.hid (lookQ_take r.queue i hil (j : Int) r.lasts[j])
        obtain ⟨⟨ps, pd⟩, hp⟩ : ∃ p, r.queue[i] = p := ⟨_, rfl⟩
        rw [hp] at hx0 hx1 HT
        simp only at hx0 hx1 HT
        clear hp ei
        by_cases hs : ps = (j : Int)
        · have eR : Hid (readM m (k : Int) (j : Int) = pd) := by show _ = _; rw [ev.out, HL.out, HT.out, if_pos hs]
          subst hs
          clear ev HL HT
          go_wp2_with fail
          exact bodyPost_ret (v := .tuple #[.string pd, .int .i64 0]) (by simp [results, Try.results28, go_sem]) rfl ⟨by rw [eR.out, EF.out], hb1⟩
        · have HL2 : Hid (lookQ r.queue (j : Int) r.lasts[j] = lookQ (r.queue.take i) (j : Int) r.lasts[j]) := by show _ = _; rw [HL.out, HT.out, if_neg hs]
          have hs2 : (ps == (j : Int)) = false := by simpa using hs
          clear HL HT hs
          go_wp2_with fail
          go_roundg i
          case measure => omega
          case rel => exact ⟨by omega, by go_num, rfl, HL2.out⟩
  · have ev : Hid (readM m n s = ⟨#[]⟩) := by show _ = _; unfold readM; rw [if_neg hf]
    have ep := findP_no (gs := gs) rfl hf
    obtain ⟨e0, he⟩ : ∃ e0, findM m n s = e0 := ⟨_, rfl⟩
    rw [he] at hf
    have EF := Lib.hid he
    have EP := Lib.hid ep
    clear ep he
    go_enter Try.func28, Try.ntmps28
    go_wp2_with fail
    refine (find_any H.out _ _).mono ?_
    rintro e w1 ⟨rfl, hb1⟩
    rw [EP.out, EF.out]
    have hne : (e0 != 0) = true := by simpa using hf
    go_wp2_with fail
    exact bodyPost_ret (v := .tuple #[.string ⟨#[]⟩, .int .i64 e0]) (by simp [results, Try.results28, go_sem]) rfl ⟨by rw [ev.out, EF.out], hb1⟩

end Go.Proofs.Ytekpbpcfeopilaa.Dg
