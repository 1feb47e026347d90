/- DiskApart: the walk. -/
import Derived.Test.YtekpbpcfeopilaaEb
import Derived.Test.YtekpbpcfeopilaaEc
namespace Go.Proofs.Ytekpbpcfeopilaa.Ed
open Go Go.RowKit Go.Joins Go.Proofs.YtekpbpcfeopilaaCore Go.Proofs.Ytekpbpcfeopilaa.Dm Go.Proofs.Ytekpbpcfeopilaa.Dr Go.Proofs.Ytekpbpcfeopilaa.Da Go.Proofs.Ytekpbpcfeopilaa.Df Go.Proofs.Ytekpbpcfeopilaa.Dg Go.Proofs.Ytekpbpcfeopilaa.Dh Go.Proofs.Ytekpbpcfeopilaa.Di Go.Proofs.Ytekpbpcfeopilaa.Dj Go.Proofs.Ytekpbpcfeopilaa.Dk Go.Proofs.Ytekpbpcfeopilaa.Dl Go.Proofs.Ytekpbpcfeopilaa.Dn Go.Proofs.Ytekpbpcfeopilaa.Dp Go.Proofs.Ytekpbpcfeopilaa.Dq Go.Proofs.Ytekpbpcfeopilaa.Ds Go.Proofs.Ytekpbpcfeopilaa.Dt Go.Proofs.Ytekpbpcfeopilaa.Du Go.Proofs.Ytekpbpcfeopilaa.Dv Go.Proofs.Ytekpbpcfeopilaa.Dw Go.Proofs.Ytekpbpcfeopilaa.Ea Go.Proofs.Ytekpbpcfeopilaa.Eb Go.Proofs.Ytekpbpcfeopilaa.Ec Go.Proofs.Ytekpbpcfeopilaa.Sys Go.Proofs.Ytekpbpcfeopilaa.Reg Go.Proofs.YtekpbpcfeopilaaW.PrintWords Go.Proofs.YtekpbpcfeopilaaW.PrintLast Go.Proofs.YtekpbpcfeopilaaW.PrintMore

/-- Two disks, a block of ours, and all that was there. -/
structure RS (w : World) (b1 b2 q : Nat) (cs : Array Value) (wx : World) (n1 n2 : Nat) (m1 m2 : MDisk) : Prop where
  sys : Dks (fun k => k < w.heap.size ∨ k = q) wx [⟨b1, m1, n1⟩, ⟨b2, m2, n2⟩]
  box : wx.heap[q]? = some (.cells cs 52 (0, 0))
  bel : Below w.heap.size w wx
section
variable {w wx wy : World} {b1 b2 q n1 n2 : Nat} {cs : Array Value} {m1 m2 : MDisk}
theorem RS.cell (h : RS w b1 b2 q cs wx n1 n2 m1 m2) (i : Nat) {v : Value} (hv : cs[i]? = some v) : wx.cell? ⟨q, i, none⟩ = some v := by rw [cell_of_row wx q i _ _ _ h.box]; exact hv
theorem RS.below (h : RS w b1 b2 q cs wx n1 n2 m1 m2) (hb : Below wx.heap.size wx wy) : RS w b1 b2 q cs wy n1 n2 m1 m2 := ⟨h.sys.keep hb, blk_below h.box hb, h.bel.trans (hb.mono h.bel.size)⟩
theorem RS.op1 {n : Nat} {m : MDisk} (h : RS w b1 b2 q cs wx n1 n2 m1 m2) (hs : Dks (fun k => k < w.heap.size ∨ k = q) wy [⟨b1, m, n⟩, ⟨b2, m2, n2⟩]) (hf : Fr (fun k => ¬ (k < w.heap.size ∨ k = q)) wx wy) : RS w b1 b2 q cs wy n n2 m m2 :=
  ⟨hs, hf.at_ h.box (fun hn => hn (.inr rfl)), h.bel.trans (fr_below hf h.bel.size (fun _ hk => .inl hk))⟩
theorem RS.op2 {n : Nat} {m : MDisk} (h : RS w b1 b2 q cs wx n1 n2 m1 m2) (hs : Dks (fun k => k < w.heap.size ∨ k = q) wy [⟨b1, m1, n1⟩, ⟨b2, m, n⟩]) (hf : Fr (fun k => ¬ (k < w.heap.size ∨ k = q)) wx wy) : RS w b1 b2 q cs wy n1 n m1 m :=
  ⟨hs, hf.at_ h.box (fun hn => hn (.inr rfl)), h.bel.trans (fr_below hf h.bel.size (fun _ hk => .inl hk))⟩
theorem rs_write1 (h : RS w b1 b2 q cs wx n1 n2 m1 m2) (hN : n1 < 1000000) (n s : Int) (x : ByteArray) :
    Calls Try.prog 25 #[.pointer (some ⟨b1, 0, none⟩), .int .i64 n, .int .i64 s, .string x] wx fun e w' => e = .returned (.int .i64 (writeE m1 n s x)) ∧ RS w b1 b2 q cs w' (n1 + 1) n2 (writeM m1 n s x) m2 :=
  (write_z h.sys 0 (d := ⟨b1, m1, n1⟩) rfl hN n s x).mono fun _ _ ⟨he, h1, h2⟩ => ⟨he, h.op1 h1 h2⟩
theorem rs_write2 (h : RS w b1 b2 q cs wx n1 n2 m1 m2) (hN : n2 < 1000000) (n s : Int) (x : ByteArray) :
    Calls Try.prog 25 #[.pointer (some ⟨b2, 0, none⟩), .int .i64 n, .int .i64 s, .string x] wx fun e w' => e = .returned (.int .i64 (writeE m2 n s x)) ∧ RS w b1 b2 q cs w' n1 (n2 + 1) m1 (writeM m2 n s x) :=
  (write_z h.sys 1 (d := ⟨b2, m2, n2⟩) rfl hN n s x).mono fun _ _ ⟨he, h1, h2⟩ => ⟨he, h.op2 h1 h2⟩
theorem rs_flush1 (h : RS w b1 b2 q cs wx n1 n2 m1 m2) (hN : n1 ≤ 1000000) (n : Int) :
    Calls Try.prog 30 #[.pointer (some ⟨b1, 0, none⟩), .int .i64 n] wx fun e w' => e = .returned (.int .i64 (flushE m1 n)) ∧ RS w b1 b2 q cs w' n1 n2 (flushM m1 n) m2 :=
  (flush_z h.sys 0 (d := ⟨b1, m1, n1⟩) rfl hN n).mono fun _ _ ⟨he, h1, h2⟩ => ⟨he, h.op1 h1 h2⟩
theorem rs_flush2 (h : RS w b1 b2 q cs wx n1 n2 m1 m2) (hN : n2 ≤ 1000000) (n : Int) :
    Calls Try.prog 30 #[.pointer (some ⟨b2, 0, none⟩), .int .i64 n] wx fun e w' => e = .returned (.int .i64 (flushE m2 n)) ∧ RS w b1 b2 q cs w' n1 n2 m1 (flushM m2 n) :=
  (flush_z h.sys 1 (d := ⟨b2, m2, n2⟩) rfl hN n).mono fun _ _ ⟨he, h1, h2⟩ => ⟨he, h.op2 h1 h2⟩
theorem rs_lay1 (h : RS w b1 b2 q cs wx n1 n2 m1 m2) (n : Int) (x : ByteArray) :
    Calls Try.prog 27 #[.pointer (some ⟨b1, 0, none⟩), .int .i64 n, .string x] wx fun e w' => e = .returned (.tuple #[]) ∧ RS w b1 b2 q cs w' n1 n2 (layM m1 n x) m2 :=
  (lay_z h.sys 0 (d := ⟨b1, m1, n1⟩) rfl n x).mono fun _ _ ⟨he, h1, h2⟩ => ⟨he, h.op1 h1 h2⟩
theorem rs_lay2 (h : RS w b1 b2 q cs wx n1 n2 m1 m2) (n : Int) (x : ByteArray) :
    Calls Try.prog 27 #[.pointer (some ⟨b2, 0, none⟩), .int .i64 n, .string x] wx fun e w' => e = .returned (.tuple #[]) ∧ RS w b1 b2 q cs w' n1 n2 m1 (layM m2 n x) :=
  (lay_z h.sys 1 (d := ⟨b2, m2, n2⟩) rfl n x).mono fun _ _ ⟨he, h1, h2⟩ => ⟨he, h.op2 h1 h2⟩
theorem rs_read1 (h : RS w b1 b2 q cs wx n1 n2 m1 m2) (n s : Int) :
    Calls Try.prog 28 #[.pointer (some ⟨b1, 0, none⟩), .int .i64 n, .int .i64 s] wx fun e w' => e = .returned (.tuple #[.string (readM m1 n s), .int .i64 (findM m1 n s)]) ∧ RS w b1 b2 q cs w' n1 n2 m1 m2 :=
  (read_z h.sys 0 (d := ⟨b1, m1, n1⟩) rfl n s).mono fun _ _ ⟨he, h1⟩ => ⟨he, h.below h1⟩
theorem rs_read2 (h : RS w b1 b2 q cs wx n1 n2 m1 m2) (n s : Int) :
    Calls Try.prog 28 #[.pointer (some ⟨b2, 0, none⟩), .int .i64 n, .int .i64 s] wx fun e w' => e = .returned (.tuple #[.string (readM m2 n s), .int .i64 (findM m2 n s)]) ∧ RS w b1 b2 q cs w' n1 n2 m1 m2 :=
  (read_z h.sys 1 (d := ⟨b2, m2, n2⟩) rfl n s).mono fun _ _ ⟨he, h1⟩ => ⟨he, h.below h1⟩
theorem rs_image1 (h : RS w b1 b2 q cs wx n1 n2 m1 m2) (n : Int) :
    Calls Try.prog 23 #[.pointer (some ⟨b1, 0, none⟩), .int .i64 n] wx fun e w' => e = .returned (.string (imageM m1 n)) ∧ RS w b1 b2 q cs w' n1 n2 m1 m2 :=
  (image_z h.sys 0 (d := ⟨b1, m1, n1⟩) rfl n).mono fun _ _ ⟨he, h1⟩ => ⟨he, h.below h1⟩
theorem rs_image2 (h : RS w b1 b2 q cs wx n1 n2 m1 m2) (n : Int) :
    Calls Try.prog 23 #[.pointer (some ⟨b2, 0, none⟩), .int .i64 n] wx fun e w' => e = .returned (.string (imageM m2 n)) ∧ RS w b1 b2 q cs w' n1 n2 m1 m2 :=
  (image_z h.sys 1 (d := ⟨b2, m2, n2⟩) rfl n).mono fun _ _ ⟨he, h1⟩ => ⟨he, h.below h1⟩
theorem rs_crash1 (h : RS w b1 b2 q cs wx n1 n2 m1 m2) (hN : n1 ≤ 1000000) (A : Option Addr) (cc : Nat) (keep : List Int) (hK : ∀ x ∈ keep, 0 ≤ x ∧ x ≤ 18446744073709551615) (hC : Kd.C (Kd.int .u64) w A keep.length keep) :
    Calls Try.prog 29 #[.pointer (some ⟨b1, 0, none⟩), .slice A keep.length cc] wx fun e w' => e = .returned (.tuple #[]) ∧ RS w b1 b2 q cs w' n1 n2 (crashM keep m1) m2 :=
  (crash_z h.sys 0 (d := ⟨b1, m1, n1⟩) rfl hN A cc keep hK (fun _ hW => Kd.C_below hC (h.bel.trans (fr_below hW h.bel.size (fun _ hk => .inl hk))))).mono fun _ _ ⟨he, h1, h2⟩ => ⟨he, h.op1 h1 h2⟩
theorem rs_crash2 (h : RS w b1 b2 q cs wx n1 n2 m1 m2) (hN : n2 ≤ 1000000) (A : Option Addr) (cc : Nat) (keep : List Int) (hK : ∀ x ∈ keep, 0 ≤ x ∧ x ≤ 18446744073709551615) (hC : Kd.C (Kd.int .u64) w A keep.length keep) :
    Calls Try.prog 29 #[.pointer (some ⟨b2, 0, none⟩), .slice A keep.length cc] wx fun e w' => e = .returned (.tuple #[]) ∧ RS w b1 b2 q cs w' n1 n2 m1 (crashM keep m2) :=
  (crash_z h.sys 1 (d := ⟨b2, m2, n2⟩) rfl hN A cc keep hK (fun _ hW => Kd.C_below hC (h.bel.trans (fr_below hW h.bel.size (fun _ hk => .inl hk))))).mono fun _ _ ⟨he, h1, h2⟩ => ⟨he, h.op2 h1 h2⟩
end

structure ApInv (one M : Nat) (b1 b2 : Nat) (w : World) (gk : Nat) (v : Value) (wr : World) (k n1 n2 : Nat) (m1 m2 : MDisk) : Prop where
  hi : k ≤ M
  slot : v = .int .i64 k
  ghost : gk + k = M
  few1 : n1 ≤ k
  few2 : n2 ≤ k
  sys : Dks (fun k => k < w.heap.size) wr [⟨b1, m1, n1⟩, ⟨b2, m2, n2⟩]
  ap : Ap one m1 m2
  bel : Below w.heap.size w wr
def ApRel (one M : Nat) (b1 b2 : Nat) (w : World) (gk : Nat) (v : Value) (wr : World) : Prop := ∃ k n1 n2 m1 m2, ApInv one M b1 b2 w gk v wr k n1 n2 m1 m2

theorem ActCells.below {w w' : World} {a : Addr} {x : ActT} (h : ActCells w a x) (hb : Below w.heap.size w w') : ActCells w' a x := by
  obtain ⟨c0, c1, c2, c3, c4, A5, n5, c5, hC5⟩ := h
  exact ⟨pw_cell_below hb c0, pw_cell_below hb c1, pw_cell_below hb c2, pw_cell_below hb c3, pw_cell_below hb c4, A5, n5, pw_cell_below hb c5, Kd.C_below hC5 hb⟩

set_option maxHeartbeats 40000000 in
set_option maxRecDepth 100000 in
theorem diskApart (A : Option Addr) (cc : Nat) (xs : List ActT) (one0 : Int) (w : World) (hC : actK.C w A xs.length xs) (hcc : xs.length ≤ cc) (hK : ∀ x ∈ xs, ∀ y ∈ x.2.2.2.2.2, 0 ≤ y ∧ y ≤ 18446744073709551615) :
    Calls Try.prog 9 #[.slice A xs.length cc, .int .i64 one0] w fun e w' => e = .returned (.bool true) ∧ Below w.heap.size w w' := by
  have HC := Lib.hid hC
  clear hC
  obtain ⟨one, hN⟩ : ∃ one : Nat, (max 0 one0) % 3 = (one : Int) := ⟨((max 0 one0) % 3).toNat, by omega⟩
  have hone : one < 3 := by omega
  have hx : 0 ≤ max 0 one0 := by omega
  have hC1 := lit_C .i64 w 3 [5, 5, 5] (by simp)
  obtain ⟨wl, hwl⟩ : ∃ wl, w.alloc (.cells (encs (Value.int .i64) [5, 5, 5]).toArray 3) = wl := ⟨_, rfl⟩
  have hbl : Below w.heap.size w wl := by rw [← hwl]; exact (Below.refl _ _).alloc (Nat.le_refl _) _
  have hzl : wl.heap.size = w.heap.size + 1 := by rw [← hwl]; simp
  have hwl' : w.alloc (.cells #[.int .i64 5, .int .i64 5, .int .i64 5] 3) = wl := hwl
  rw [hwl] at hC1
  have HC1 := Lib.hid hC1
  have HBL := Lib.hid hbl
  clear hwl hC1 hbl
  go_enter Try.func9, Try.ntmps9
  go_wp2_with (rw [hwl'])
  refine (new_z ((Dks.nil w).keep HBL.out) (some ⟨w.heap.size, 0, none⟩) 3 [5, 5, 5] HC1.out (by simp)).mono ?_
  rintro e w1 ⟨rfl, hs1, hb1⟩
  rw [hzl, List.nil_append] at hs1
  rw [hzl]
  have HS1 := Lib.hid hs1
  have HB1 := Lib.hid (HBL.out.trans (hb1.mono HBL.out.size))
  clear hs1 hwl' hb1 hzl
  have hC2 := lit_C .i64 w1 3 [5, 5, 5] (by simp)
  obtain ⟨wl2, hwl2⟩ : ∃ wl2, w1.alloc (.cells (encs (Value.int .i64) [5, 5, 5]).toArray 3) = wl2 := ⟨_, rfl⟩
  have hbl2 : Below w1.heap.size w1 wl2 := by rw [← hwl2]; exact (Below.refl _ _).alloc (Nat.le_refl _) _
  have hwl2' : w1.alloc (.cells #[.int .i64 5, .int .i64 5, .int .i64 5] 3) = wl2 := hwl2
  rw [hwl2] at hC2
  have HC2 := Lib.hid hC2
  have HBL2 := Lib.hid hbl2
  clear hwl2 hC2 hbl2
  go_wp2_with (rw [hwl2'])
  refine (new_z (HS1.out.keep HBL2.out) (some ⟨w1.heap.size, 0, none⟩) 3 [5, 5, 5] HC2.out (by simp)).mono ?_
  rintro e w2 ⟨rfl, hs2, hb2⟩
  obtain ⟨b2, hb2z⟩ : ∃ b2, wl2.heap.size = b2 := ⟨_, rfl⟩
  rw [hb2z] at hs2
  rw [hb2z]
  have HS2 := Lib.hid hs2
  have HB2 := Lib.hid (HB1.out.trans ((HBL2.out.mono HB1.out.size).trans (hb2.mono (Nat.le_trans HB1.out.size HBL2.out.size))))
  clear hs2 hwl2' hb2 hb2z
  obtain ⟨M, hM⟩ : ∃ M : Nat, min xs.length 100 = M := ⟨_, rfl⟩
  have hMi : min (xs.length : Int) 100 = (M : Int) := by omega
  have hM1 : M ≤ xs.length := by omega
  have hM30 : M ≤ 100 := by omega
  have hlen := HC.out.2.1
  have hMc : M ≤ cc := by omega
  clear hM
  go_wp2_with (first | (rw [hN]))
  go_loopg [30] M (fun gk v wr => ApRel one M (w.heap.size + 1) b2 w gk v wr)
  case atStart => exact ⟨0, 0, 0, _, _, ⟨Nat.zero_le _, rfl, rfl, Nat.le_refl _, Nat.le_refl _, HS2.out, ap_new one, HB2.out⟩⟩
  case round =>
    obtain ⟨k, n1, n2, m1, m2, hk, rfl, hgk, hn1, hn2, hsys, hap, hbel⟩ := hrel
    have HG := Lib.hid hgk
    have HS := Lib.hid hsys
    have HA := Lib.hid hap
    have HB := Lib.hid hbel
    clear hgk hsys hap hbel HS1 HB1 HS2 HB2 hN hx
    by_cases hlt : k < M
    · obtain ⟨ad, x, rfl, hxx, hcells⟩ := act_at HC.out k (by omega)
      have hxk := hK x (List.mem_of_getElem? hxx)
      obtain ⟨a0, a1, a2, a3, a4, A5, n5, a5, hC5⟩ := hcells
      have HC5 := Lib.hid hC5
      have HXK := Lib.hid hxk
      have g0 := pw_cell_below HB.out a0
      have g1 := pw_cell_below HB.out a1
      have g2 := pw_cell_below HB.out a2
      have g3 := pw_cell_below HB.out a3
      have g4 := pw_cell_below HB.out a4
      have g5 := pw_cell_below HB.out a5
      have hltI : (k : Int) < (M : Int) := by omega
      obtain ⟨x0, x1, x2, x3, xd, xk⟩ := x
      simp only at g0 g1 g2 g3 g4 g5 HXK HC5
      obtain ⟨wb, hwb⟩ : ∃ wb, wr.alloc (.cells #[.int .i64 x0, .int .i64 x1, .int .i64 x2, .int .i64 x3, .string xd, .slice A5 xk.length n5] 52) = wb := ⟨_, rfl⟩
      have hbb : Below wr.heap.size wr wb := by rw [← hwb]; exact (Below.refl _ _).alloc (Nat.le_refl _) _
      have hqb : wb.heap[wr.heap.size]? = some (.cells #[.int .i64 x0, .int .i64 x1, .int .i64 x2, .int .i64 x3, .string xd, .slice A5 xk.length n5] 52 (0, 0)) := by rw [← hwb]; exact heap_alloc_new _ _
      obtain ⟨q, hq⟩ : ∃ q, wr.heap.size = q := ⟨_, rfl⟩
      have HR0 : Hid (RS w (w.heap.size + 1) b2 q #[.int .i64 x0, .int .i64 x1, .int .i64 x2, .int .i64 x3, .string xd, .slice A5 xk.length n5] wb n1 n2 m1 m2) := by
        refine ⟨(HS.out.below hbb).mono (fun j hj => ?_), by rw [← hq]; exact hqb, HB.out.trans (hbb.mono HB.out.size)⟩
        rcases hj with hj | hj
        · exact .inl hj
        · exact .inr ⟨by omega, by rw [hj, ← hq]; exact heap_lt hqb⟩
      have c0 : wb.cell? ⟨q, 0, none⟩ = some (.int .i64 x0) := HR0.out.cell 0 rfl
      have c1 : wb.cell? ⟨q, 1, none⟩ = some (.int .i64 x1) := HR0.out.cell 1 rfl
      have c2 : wb.cell? ⟨q, 2, none⟩ = some (.int .i64 x2) := HR0.out.cell 2 rfl
      have c4 : wb.cell? ⟨q, 4, none⟩ = some (.string xd) := HR0.out.cell 4 rfl
      have c5 : wb.cell? ⟨q, 5, none⟩ = some (.slice A5 xk.length n5) := HR0.out.cell 5 rfl
      clear a0 a1 a2 a3 a4 a5 hxx hxk hbb hqb hC5 HS HB
      obtain ⟨r, hr⟩ : ∃ r, x0.tmod 10 = r := ⟨_, rfl⟩
      by_cases r3 : r = 3 ∨ r = -3
      · rcases r3 with rfl | rfl
        all_goals
          go_wp2_with (rw [hwb])
          go_roundg (gk - 1)
          case measure => have := HG.out; omega
          case rel => exact ⟨k + 1, _, _, _, _, ⟨by omega, by go_num, by have := HG.out; omega, by omega, by omega, HR0.out.sys.mono (fun _ hk => .inl hk), HA.out, HR0.out.bel⟩⟩
      · by_cases r4 : r = 4 ∨ r = -4
        · rcases r4 with rfl | rfl
          all_goals
            obtain ⟨bm, hbm⟩ : ∃ bm, (x1 == (one : Int)) = bm := ⟨_, rfl⟩
            cases bm
            all_goals
              go_wp2_with (rw [hwb])
              refine (rs_crash1 HR0.out (by omega) A5 n5 xk HXK.out HC5.out).mono ?_
              rintro e wE ⟨rfl, hre⟩
              have HRE := Lib.hid hre
              clear hre c0 c1 c2 c4 c5
              have c0 : wE.cell? ⟨q, 0, none⟩ = some (.int .i64 x0) := HRE.out.cell 0 rfl
              have c1 : wE.cell? ⟨q, 1, none⟩ = some (.int .i64 x1) := HRE.out.cell 1 rfl
              have c2 : wE.cell? ⟨q, 2, none⟩ = some (.int .i64 x2) := HRE.out.cell 2 rfl
              have c4 : wE.cell? ⟨q, 4, none⟩ = some (.string xd) := HRE.out.cell 4 rfl
              have c5 : wE.cell? ⟨q, 5, none⟩ = some (.slice A5 xk.length n5) := HRE.out.cell 5 rfl
              go_wp2_with fail
              refine (rs_crash2 HRE.out (by omega) A5 n5 xk HXK.out HC5.out).mono ?_
              rintro e wF ⟨rfl, hrf⟩
              have HRF := Lib.hid hrf
              clear hrf c0 c1 c2 c4 c5
              have c0 : wF.cell? ⟨q, 0, none⟩ = some (.int .i64 x0) := HRF.out.cell 0 rfl
              have c1 : wF.cell? ⟨q, 1, none⟩ = some (.int .i64 x1) := HRF.out.cell 1 rfl
              have c2 : wF.cell? ⟨q, 2, none⟩ = some (.int .i64 x2) := HRF.out.cell 2 rfl
              have c4 : wF.cell? ⟨q, 4, none⟩ = some (.string xd) := HRF.out.cell 4 rfl
              have c5 : wF.cell? ⟨q, 5, none⟩ = some (.slice A5 xk.length n5) := HRF.out.cell 5 rfl
              go_wp2_with fail
              refine (rs_read1 HRF.out (one : Int) x2).mono ?_
              rintro e wA ⟨rfl, hra⟩
              have HRA := Lib.hid hra
              have cA2 : wA.cell? ⟨q, 2, none⟩ = some (.int .i64 x2) := hra.cell 2 rfl
              clear hra c0 c1 c2 c4 c5
              go_wp2_with fail
              refine (rs_read2 HRA.out (one : Int) x2).mono ?_
              rintro e wB ⟨rfl, hrb⟩
              have HRB := Lib.hid hrb
              have HAP := Lib.hid (ap_crash HA.out xk)
              have er := read_same HAP.out x2
              have ef := shape_find_eq HAP.out.l HAP.out.r (one : Int) x2
              have ei := image_same HAP.out
              rw [← er, ← ef]
              obtain ⟨rs, hrs⟩ : ∃ rs, readM (crashM xk m1) (one : Int) x2 = rs := ⟨_, rfl⟩
              obtain ⟨rf, hrf⟩ : ∃ rf, findM (crashM xk m1) (one : Int) x2 = rf := ⟨_, rfl⟩
              rw [hrs, hrf]
              have HEI := Lib.hid ei
              clear hrb cA2 er ef ei hrs hrf
              go_wp2_with fail
              refine (rs_image1 HRB.out (one : Int)).mono ?_
              rintro e wC ⟨rfl, hrc⟩
              have HRC := Lib.hid hrc
              clear hrc
              rw [HEI.out]
              obtain ⟨im, him⟩ : ∃ im, imageM (crashM xk m2) (one : Int) = im := ⟨_, rfl⟩
              rw [him]
              have HIM := Lib.hid him
              clear him
              go_wp2_with fail
              refine (rs_image2 HRC.out (one : Int)).mono ?_
              rintro e wD ⟨rfl, hrd⟩
              rw [HIM.out]
              have HRD := Lib.hid hrd
              clear hrd
              go_wp2_with fail
              go_roundg (gk - 1)
              case measure => have := HG.out; omega
              case rel => exact ⟨k + 1, _, _, _, _, ⟨by omega, by go_num, by have := HG.out; omega, by omega, by omega, HRD.out.sys.mono (fun _ hk => .inl hk), HAP.out, HRD.out.bel⟩⟩
        · by_cases r2 : r = 2 ∨ r = -2
          · rcases r2 with rfl | rfl
            all_goals
              by_cases hmine : x1 = (one : Int)
              · have hm1 : (x1 == (one : Int)) = true := by simpa using hmine
                subst hmine
                go_wp2_with (rw [hwb])
                refine (rs_flush1 HR0.out (by omega) (one : Int)).mono ?_
                rintro e wE ⟨rfl, hre⟩
                have HRE := Lib.hid hre
                have efl := flushE_same HA.out.l HA.out.r (one : Int)
                rw [efl]
                obtain ⟨fe, hfe⟩ : ∃ fe, flushE m2 (one : Int) = fe := ⟨_, rfl⟩
                rw [hfe]
                have HFE := Lib.hid hfe
                clear hre c0 c1 c2 c4 c5 efl hfe
                have c0 : wE.cell? ⟨q, 0, none⟩ = some (.int .i64 x0) := HRE.out.cell 0 rfl
                have c1 : wE.cell? ⟨q, 1, none⟩ = some (.int .i64 (one : Int)) := HRE.out.cell 1 rfl
                have c2 : wE.cell? ⟨q, 2, none⟩ = some (.int .i64 x2) := HRE.out.cell 2 rfl
                have c4 : wE.cell? ⟨q, 4, none⟩ = some (.string xd) := HRE.out.cell 4 rfl
                have c5 : wE.cell? ⟨q, 5, none⟩ = some (.slice A5 xk.length n5) := HRE.out.cell 5 rfl
                go_wp2_with fail
                refine (rs_flush2 HRE.out (by omega) (one : Int)).mono ?_
                rintro e wF ⟨rfl, hrf⟩
                have HRF := Lib.hid hrf
                rw [HFE.out]
                clear hrf c0 c1 c2 c4 c5
                have c0 : wF.cell? ⟨q, 0, none⟩ = some (.int .i64 x0) := HRF.out.cell 0 rfl
                have c1 : wF.cell? ⟨q, 1, none⟩ = some (.int .i64 (one : Int)) := HRF.out.cell 1 rfl
                have c2 : wF.cell? ⟨q, 2, none⟩ = some (.int .i64 x2) := HRF.out.cell 2 rfl
                have c4 : wF.cell? ⟨q, 4, none⟩ = some (.string xd) := HRF.out.cell 4 rfl
                have c5 : wF.cell? ⟨q, 5, none⟩ = some (.slice A5 xk.length n5) := HRF.out.cell 5 rfl
                go_wp2_with fail
                refine (rs_read1 HRF.out (one : Int) x2).mono ?_
                rintro e wA ⟨rfl, hra⟩
                have HRA := Lib.hid hra
                have cA2 : wA.cell? ⟨q, 2, none⟩ = some (.int .i64 x2) := hra.cell 2 rfl
                clear hra c0 c1 c2 c4 c5
                go_wp2_with fail
                refine (rs_read2 HRA.out (one : Int) x2).mono ?_
                rintro e wB ⟨rfl, hrb⟩
                have HRB := Lib.hid hrb
                have HAP := Lib.hid (ap_flush HA.out)
                have er := read_same HAP.out x2
                have ef := shape_find_eq HAP.out.l HAP.out.r (one : Int) x2
                have ei := image_same HAP.out
                rw [← er, ← ef]
                obtain ⟨rs, hrs⟩ : ∃ rs, readM (flushM m1 (one : Int)) (one : Int) x2 = rs := ⟨_, rfl⟩
                obtain ⟨rf, hrf⟩ : ∃ rf, findM (flushM m1 (one : Int)) (one : Int) x2 = rf := ⟨_, rfl⟩
                rw [hrs, hrf]
                have HEI := Lib.hid ei
                clear hrb cA2 er ef ei hrs hrf
                go_wp2_with fail
                refine (rs_image1 HRB.out (one : Int)).mono ?_
                rintro e wC ⟨rfl, hrc⟩
                have HRC := Lib.hid hrc
                clear hrc
                rw [HEI.out]
                obtain ⟨im, him⟩ : ∃ im, imageM (flushM m2 (one : Int)) (one : Int) = im := ⟨_, rfl⟩
                rw [him]
                have HIM := Lib.hid him
                clear him
                go_wp2_with fail
                refine (rs_image2 HRC.out (one : Int)).mono ?_
                rintro e wD ⟨rfl, hrd⟩
                rw [HIM.out]
                have HRD := Lib.hid hrd
                clear hrd
                go_wp2_with fail
                go_roundg (gk - 1)
                case measure => have := HG.out; omega
                case rel => exact ⟨k + 1, _, _, _, _, ⟨by omega, by go_num, by have := HG.out; omega, by omega, by omega, HRD.out.sys.mono (fun _ hk => .inl hk), HAP.out, HRD.out.bel⟩⟩
              · have hm1 : (x1 == (one : Int)) = false := by simpa using hmine
                go_wp2_with (rw [hwb])
                refine (rs_flush1 HR0.out (by omega) x1).mono ?_
                rintro e wE ⟨rfl, hre⟩
                have HRE := Lib.hid hre
                clear hre c0 c1 c2 c4 c5
                have c0 : wE.cell? ⟨q, 0, none⟩ = some (.int .i64 x0) := HRE.out.cell 0 rfl
                have c1 : wE.cell? ⟨q, 1, none⟩ = some (.int .i64 x1) := HRE.out.cell 1 rfl
                have c2 : wE.cell? ⟨q, 2, none⟩ = some (.int .i64 x2) := HRE.out.cell 2 rfl
                have c4 : wE.cell? ⟨q, 4, none⟩ = some (.string xd) := HRE.out.cell 4 rfl
                have c5 : wE.cell? ⟨q, 5, none⟩ = some (.slice A5 xk.length n5) := HRE.out.cell 5 rfl
                go_wp2_with fail
                refine (rs_read1 HRE.out (one : Int) x2).mono ?_
                rintro e wA ⟨rfl, hra⟩
                have HRA := Lib.hid hra
                have cA2 : wA.cell? ⟨q, 2, none⟩ = some (.int .i64 x2) := hra.cell 2 rfl
                clear hra c0 c1 c2 c4 c5
                go_wp2_with fail
                refine (rs_read2 HRA.out (one : Int) x2).mono ?_
                rintro e wB ⟨rfl, hrb⟩
                have HRB := Lib.hid hrb
                have HAP := Lib.hid (ap_flush_l HA.out x1 hmine)
                have er := read_same HAP.out x2
                have ef := shape_find_eq HAP.out.l HAP.out.r (one : Int) x2
                have ei := image_same HAP.out
                rw [← er, ← ef]
                obtain ⟨rs, hrs⟩ : ∃ rs, readM (flushM m1 x1) (one : Int) x2 = rs := ⟨_, rfl⟩
                obtain ⟨rf, hrf⟩ : ∃ rf, findM (flushM m1 x1) (one : Int) x2 = rf := ⟨_, rfl⟩
                rw [hrs, hrf]
                have HEI := Lib.hid ei
                clear hrb cA2 er ef ei hrs hrf
                go_wp2_with fail
                refine (rs_image1 HRB.out (one : Int)).mono ?_
                rintro e wC ⟨rfl, hrc⟩
                have HRC := Lib.hid hrc
                clear hrc
                rw [HEI.out]
                obtain ⟨im, him⟩ : ∃ im, imageM (m2) (one : Int) = im := ⟨_, rfl⟩
                rw [him]
                have HIM := Lib.hid him
                clear him
                go_wp2_with fail
                refine (rs_image2 HRC.out (one : Int)).mono ?_
                rintro e wD ⟨rfl, hrd⟩
                rw [HIM.out]
                have HRD := Lib.hid hrd
                clear hrd
                go_wp2_with fail
                go_roundg (gk - 1)
                case measure => have := HG.out; omega
                case rel => exact ⟨k + 1, _, _, _, _, ⟨by omega, by go_num, by have := HG.out; omega, by omega, by omega, HRD.out.sys.mono (fun _ hk => .inl hk), HAP.out, HRD.out.bel⟩⟩
          · by_cases r6 : r = 6 ∨ r = -6
            · rcases r6 with rfl | rfl
              all_goals
                by_cases hmine : x1 = (one : Int)
                · have hm1 : (x1 == (one : Int)) = true := by simpa using hmine
                  subst hmine
                  go_wp2_with (rw [hwb])
                  refine (rs_lay1 HR0.out (one : Int) xd).mono ?_
                  rintro e wE ⟨rfl, hre⟩
                  have HRE := Lib.hid hre
                  clear hre c0 c1 c2 c4 c5
                  have c0 : wE.cell? ⟨q, 0, none⟩ = some (.int .i64 x0) := HRE.out.cell 0 rfl
                  have c1 : wE.cell? ⟨q, 1, none⟩ = some (.int .i64 (one : Int)) := HRE.out.cell 1 rfl
                  have c2 : wE.cell? ⟨q, 2, none⟩ = some (.int .i64 x2) := HRE.out.cell 2 rfl
                  have c4 : wE.cell? ⟨q, 4, none⟩ = some (.string xd) := HRE.out.cell 4 rfl
                  have c5 : wE.cell? ⟨q, 5, none⟩ = some (.slice A5 xk.length n5) := HRE.out.cell 5 rfl
                  go_wp2_with fail
                  refine (rs_lay2 HRE.out (one : Int) xd).mono ?_
                  rintro e wF ⟨rfl, hrf⟩
                  have HRF := Lib.hid hrf
                  clear hrf c0 c1 c2 c4 c5
                  have c0 : wF.cell? ⟨q, 0, none⟩ = some (.int .i64 x0) := HRF.out.cell 0 rfl
                  have c1 : wF.cell? ⟨q, 1, none⟩ = some (.int .i64 (one : Int)) := HRF.out.cell 1 rfl
                  have c2 : wF.cell? ⟨q, 2, none⟩ = some (.int .i64 x2) := HRF.out.cell 2 rfl
                  have c4 : wF.cell? ⟨q, 4, none⟩ = some (.string xd) := HRF.out.cell 4 rfl
                  have c5 : wF.cell? ⟨q, 5, none⟩ = some (.slice A5 xk.length n5) := HRF.out.cell 5 rfl
                  go_wp2_with fail
                  refine (rs_read1 HRF.out (one : Int) x2).mono ?_
                  rintro e wA ⟨rfl, hra⟩
                  have HRA := Lib.hid hra
                  have cA2 : wA.cell? ⟨q, 2, none⟩ = some (.int .i64 x2) := hra.cell 2 rfl
                  clear hra c0 c1 c2 c4 c5
                  go_wp2_with fail
                  refine (rs_read2 HRA.out (one : Int) x2).mono ?_
                  rintro e wB ⟨rfl, hrb⟩
                  have HRB := Lib.hid hrb
                  have HAP := Lib.hid (ap_lay HA.out xd)
                  have er := read_same HAP.out x2
                  have ef := shape_find_eq HAP.out.l HAP.out.r (one : Int) x2
                  have ei := image_same HAP.out
                  rw [← er, ← ef]
                  obtain ⟨rs, hrs⟩ : ∃ rs, readM (layM m1 (one : Int) xd) (one : Int) x2 = rs := ⟨_, rfl⟩
                  obtain ⟨rf, hrf⟩ : ∃ rf, findM (layM m1 (one : Int) xd) (one : Int) x2 = rf := ⟨_, rfl⟩
                  rw [hrs, hrf]
                  have HEI := Lib.hid ei
                  clear hrb cA2 er ef ei hrs hrf
                  go_wp2_with fail
                  refine (rs_image1 HRB.out (one : Int)).mono ?_
                  rintro e wC ⟨rfl, hrc⟩
                  have HRC := Lib.hid hrc
                  clear hrc
                  rw [HEI.out]
                  obtain ⟨im, him⟩ : ∃ im, imageM (layM m2 (one : Int) xd) (one : Int) = im := ⟨_, rfl⟩
                  rw [him]
                  have HIM := Lib.hid him
                  clear him
                  go_wp2_with fail
                  refine (rs_image2 HRC.out (one : Int)).mono ?_
                  rintro e wD ⟨rfl, hrd⟩
                  rw [HIM.out]
                  have HRD := Lib.hid hrd
                  clear hrd
                  go_wp2_with fail
                  go_roundg (gk - 1)
                  case measure => have := HG.out; omega
                  case rel => exact ⟨k + 1, _, _, _, _, ⟨by omega, by go_num, by have := HG.out; omega, by omega, by omega, HRD.out.sys.mono (fun _ hk => .inl hk), HAP.out, HRD.out.bel⟩⟩
                · have hm1 : (x1 == (one : Int)) = false := by simpa using hmine
                  go_wp2_with (rw [hwb])
                  refine (rs_lay1 HR0.out x1 xd).mono ?_
                  rintro e wE ⟨rfl, hre⟩
                  have HRE := Lib.hid hre
                  clear hre c0 c1 c2 c4 c5
                  have c0 : wE.cell? ⟨q, 0, none⟩ = some (.int .i64 x0) := HRE.out.cell 0 rfl
                  have c1 : wE.cell? ⟨q, 1, none⟩ = some (.int .i64 x1) := HRE.out.cell 1 rfl
                  have c2 : wE.cell? ⟨q, 2, none⟩ = some (.int .i64 x2) := HRE.out.cell 2 rfl
                  have c4 : wE.cell? ⟨q, 4, none⟩ = some (.string xd) := HRE.out.cell 4 rfl
                  have c5 : wE.cell? ⟨q, 5, none⟩ = some (.slice A5 xk.length n5) := HRE.out.cell 5 rfl
                  go_wp2_with fail
                  refine (rs_read1 HRE.out (one : Int) x2).mono ?_
                  rintro e wA ⟨rfl, hra⟩
                  have HRA := Lib.hid hra
                  have cA2 : wA.cell? ⟨q, 2, none⟩ = some (.int .i64 x2) := hra.cell 2 rfl
                  clear hra c0 c1 c2 c4 c5
                  go_wp2_with fail
                  refine (rs_read2 HRA.out (one : Int) x2).mono ?_
                  rintro e wB ⟨rfl, hrb⟩
                  have HRB := Lib.hid hrb
                  have HAP := Lib.hid (ap_lay_l HA.out x1 xd hmine)
                  have er := read_same HAP.out x2
                  have ef := shape_find_eq HAP.out.l HAP.out.r (one : Int) x2
                  have ei := image_same HAP.out
                  rw [← er, ← ef]
                  obtain ⟨rs, hrs⟩ : ∃ rs, readM (layM m1 x1 xd) (one : Int) x2 = rs := ⟨_, rfl⟩
                  obtain ⟨rf, hrf⟩ : ∃ rf, findM (layM m1 x1 xd) (one : Int) x2 = rf := ⟨_, rfl⟩
                  rw [hrs, hrf]
                  have HEI := Lib.hid ei
                  clear hrb cA2 er ef ei hrs hrf
                  go_wp2_with fail
                  refine (rs_image1 HRB.out (one : Int)).mono ?_
                  rintro e wC ⟨rfl, hrc⟩
                  have HRC := Lib.hid hrc
                  clear hrc
                  rw [HEI.out]
                  obtain ⟨im, him⟩ : ∃ im, imageM (m2) (one : Int) = im := ⟨_, rfl⟩
                  rw [him]
                  have HIM := Lib.hid him
                  clear him
                  go_wp2_with fail
                  refine (rs_image2 HRC.out (one : Int)).mono ?_
                  rintro e wD ⟨rfl, hrd⟩
                  rw [HIM.out]
                  have HRD := Lib.hid hrd
                  clear hrd
                  go_wp2_with fail
                  go_roundg (gk - 1)
                  case measure => have := HG.out; omega
                  case rel => exact ⟨k + 1, _, _, _, _, ⟨by omega, by go_num, by have := HG.out; omega, by omega, by omega, HRD.out.sys.mono (fun _ hk => .inl hk), HAP.out, HRD.out.bel⟩⟩
            · have q1 : (r == 3) = false := by simp; omega
              have q2 : (r == -3) = false := by simp; omega
              have q3 : (r == 4) = false := by simp; omega
              have q4 : (r == -4) = false := by simp; omega
              have q5 : (r == 2) = false := by simp; omega
              have q6 : (r == -2) = false := by simp; omega
              have q7 : (r == 6) = false := by simp; omega
              have q8 : (r == -6) = false := by simp; omega
              clear r3 r4 r2 r6
              by_cases hmine : x1 = (one : Int)
              · have hm1 : (x1 == (one : Int)) = true := by simpa using hmine
                subst hmine
                go_wp2_with (rw [hwb])
                refine wp_region_held_drew (S := fun w' => w'.cell? ⟨q, 1, none⟩ = some (.int .i64 (one : Int)) ∧ w'.cell? ⟨q, 2, none⟩ = some (.int .i64 x2) ∧ w'.cell? ⟨q, 4, none⟩ = some (.string xd)) (by kernel_rfl) ⟨c1, c2, c4⟩ (fun hHeld => ?_)
                refine wpAnyH_take (i := 0) (v := ?mv1) rfl (by kernel_rfl) (by kernel_rfl) (by kernel_rfl) (fun _ _ _ h => h) (Or.inl ⟨by rfl, ?mh1⟩) (by assumption) ?mr1
                case mh1 => intro w hSw; (try dsimp only at hSw); go_simp; try with_reducible rfl
                (try simp only [Act.put]); (try simp only [List.getElem_toArray, List.getElem_cons_zero, List.getElem_cons_succ]); (try simp only [List.setIfInBounds_toArray]); (try simp only [List.set_cons_zero, List.set_cons_succ])
                refine wpAnyH_take (i := 1) (v := ?mv2) rfl (by kernel_rfl) (by kernel_rfl) (by kernel_rfl) (fun _ _ _ h => h) (Or.inl ⟨by rfl, ?mh2⟩) (by assumption) ?mr2
                case mh2 => intro w hSw; (try dsimp only at hSw); go_simp; try with_reducible rfl
                (try simp only [Act.put]); (try simp only [List.getElem_toArray, List.getElem_cons_zero, List.getElem_cons_succ]); (try simp only [List.setIfInBounds_toArray]); (try simp only [List.set_cons_zero, List.set_cons_succ])
                refine wpAnyH_take (i := 2) (v := ?mv3) rfl (by kernel_rfl) (by kernel_rfl) (by kernel_rfl) (fun _ _ _ h => h) (Or.inl ⟨by rfl, ?mh3⟩) (by assumption) ?mr3
                case mh3 => intro w hSw; (try dsimp only at hSw); go_simp; try with_reducible rfl
                (try simp only [Act.put]); (try simp only [List.getElem_toArray, List.getElem_cons_zero, List.getElem_cons_succ]); (try simp only [List.setIfInBounds_toArray]); (try simp only [List.set_cons_zero, List.set_cons_succ])
                refine wpAnyH_take (i := 3) (v := ?mv4) rfl (by kernel_rfl) (by kernel_rfl) (by kernel_rfl) (fun _ _ _ h => h) (Or.inl ⟨by rfl, ?mh4⟩) (by assumption) ?mr4
                case mh4 => intro w hSw; (try dsimp only at hSw); go_simp; try with_reducible rfl
                (try simp only [Act.put]); (try simp only [List.getElem_toArray, List.getElem_cons_zero, List.getElem_cons_succ]); (try simp only [List.setIfInBounds_toArray]); (try simp only [List.set_cons_zero, List.set_cons_succ])
                refine wpAnyH_take (i := 4) (v := ?mv5) rfl (by kernel_rfl) (by kernel_rfl) (by kernel_rfl) (fun _ _ _ h => h) (Or.inl ⟨by rfl, ?mh5⟩) (by assumption) ?mr5
                case mh5 => intro w hSw; (try dsimp only at hSw); go_simp; try with_reducible rfl
                (try simp only [Act.put]); (try simp only [List.getElem_toArray, List.getElem_cons_zero, List.getElem_cons_succ]); (try simp only [List.setIfInBounds_toArray]); (try simp only [List.set_cons_zero, List.set_cons_succ])
                refine wpAnyH_take (i := 5) (v := ?mv6) rfl (by kernel_rfl) (by kernel_rfl) (by kernel_rfl) (fun _ _ _ h => h) (Or.inl ⟨by rfl, ?mh6⟩) (by assumption) ?mr6
                case mh6 => intro w hSw; (try dsimp only at hSw); go_simp; try with_reducible rfl
                (try simp only [Act.put]); (try simp only [List.getElem_toArray, List.getElem_cons_zero, List.getElem_cons_succ]); (try simp only [List.setIfInBounds_toArray]); (try simp only [List.set_cons_zero, List.set_cons_succ])
                refine wpAnyH_take (i := 6) (v := ?mv7) rfl (by kernel_rfl) (by kernel_rfl) (by kernel_rfl) (fun _ _ _ h => h) (Or.inl ⟨by rfl, ?mh7⟩) (by assumption) ?mr7
                case mh7 => intro w hSw; (try dsimp only at hSw); go_simp; try with_reducible rfl
                (try simp only [Act.put]); (try simp only [List.getElem_toArray, List.getElem_cons_zero, List.getElem_cons_succ]); (try simp only [List.setIfInBounds_toArray]); (try simp only [List.set_cons_zero, List.set_cons_succ])
                refine wpAnyH_ready (rs := [7]) (by kernel_rfl) (by simp) ?_
                refine AllReadyH.cons rfl (fun K hK => ?_) AllReadyH.nil
                go_simp
                go_at_call 26
                refine (sector_any xd _).mono ?_
                rintro e wG ⟨rfl, hbg⟩
                have HRG := Lib.hid ((HR0.out.below (below_drew (Below.refl _ _))).below hbg)
                have hSg : wG.cell? ⟨q, 1, none⟩ = some (.int .i64 (one : Int)) ∧ wG.cell? ⟨q, 2, none⟩ = some (.int .i64 x2) ∧ wG.cell? ⟨q, 4, none⟩ = some (.string xd) := ⟨HRG.out.cell 1 rfl, HRG.out.cell 2 rfl, HRG.out.cell 4 rfl⟩
                clear hbg hHeld c0 c1 c2 c4 c5
                refine hK.out _ _ hSg (fun hHeld => ?_)
                clear hK K
                (try simp only [Act.put]); (try simp only [List.getElem_toArray, List.getElem_cons_zero, List.getElem_cons_succ]); (try simp only [List.setIfInBounds_toArray]); (try simp only [List.set_cons_zero, List.set_cons_succ])
                refine wpAnyH_ready (rs := [8]) (by kernel_rfl) (by simp) ?_
                refine AllReadyH.cons rfl (fun K hK => ?_) AllReadyH.nil
                go_simp
                go_at_call 25
                refine (rs_write1 HRG.out (by omega) (one : Int) x2 (sectorB xd)).mono ?_
                rintro e wH ⟨rfl, hrh⟩
                have HRE := Lib.hid hrh
                have hSh : wH.cell? ⟨q, 1, none⟩ = some (.int .i64 (one : Int)) ∧ wH.cell? ⟨q, 2, none⟩ = some (.int .i64 x2) ∧ wH.cell? ⟨q, 4, none⟩ = some (.string xd) := ⟨hrh.cell 1 rfl, hrh.cell 2 rfl, hrh.cell 4 rfl⟩
                rw [writeE_same HA.out.l HA.out.r (one : Int) x2 (sectorB xd)]
                obtain ⟨fe, hfe⟩ : ∃ fe, writeE m2 (one : Int) x2 (sectorB xd) = fe := ⟨_, rfl⟩
                rw [hfe]
                have HFE := Lib.hid hfe
                clear hfe
                clear hrh hSg hHeld
                refine hK.out _ _ hSh (fun hHeld => ?_)
                clear hK K
                (try simp only [Act.put]); (try simp only [List.getElem_toArray, List.getElem_cons_zero, List.getElem_cons_succ]); (try simp only [List.setIfInBounds_toArray]); (try simp only [List.set_cons_zero, List.set_cons_succ])
                refine wpAnyH_take (i := 9) (v := ?mv8) rfl (by kernel_rfl) (by kernel_rfl) (by kernel_rfl) (fun _ _ _ h => h) (Or.inl ⟨by rfl, ?mh8⟩) (by assumption) ?mr8
                case mh8 => intro w hSw; (try dsimp only at hSw); go_simp; try with_reducible rfl
                (try simp only [Act.put]); (try simp only [List.getElem_toArray, List.getElem_cons_zero, List.getElem_cons_succ]); (try simp only [List.setIfInBounds_toArray]); (try simp only [List.set_cons_zero, List.set_cons_succ])
                refine wpAnyH_done (by kernel_rfl) ?_ _
                clear hSh hHeld HRG
                have c0 : wH.cell? ⟨q, 0, none⟩ = some (.int .i64 x0) := HRE.out.cell 0 rfl
                have c1 : wH.cell? ⟨q, 1, none⟩ = some (.int .i64 (one : Int)) := HRE.out.cell 1 rfl
                have c2 : wH.cell? ⟨q, 2, none⟩ = some (.int .i64 x2) := HRE.out.cell 2 rfl
                have c4 : wH.cell? ⟨q, 4, none⟩ = some (.string xd) := HRE.out.cell 4 rfl
                have c5 : wH.cell? ⟨q, 5, none⟩ = some (.slice A5 xk.length n5) := HRE.out.cell 5 rfl
                go_wp2_with fail
                refine wp_region_held_drew (S := fun w' => w'.cell? ⟨q, 1, none⟩ = some (.int .i64 (one : Int)) ∧ w'.cell? ⟨q, 2, none⟩ = some (.int .i64 x2) ∧ w'.cell? ⟨q, 4, none⟩ = some (.string xd)) (by kernel_rfl) ⟨c1, c2, c4⟩ (fun hHeld => ?_)
                refine wpAnyH_take (i := 0) (v := ?mv9) rfl (by kernel_rfl) (by kernel_rfl) (by kernel_rfl) (fun _ _ _ h => h) (Or.inl ⟨by rfl, ?mh9⟩) (by assumption) ?mr9
                case mh9 => intro w hSw; (try dsimp only at hSw); go_simp; try with_reducible rfl
                (try simp only [Act.put]); (try simp only [List.getElem_toArray, List.getElem_cons_zero, List.getElem_cons_succ]); (try simp only [List.setIfInBounds_toArray]); (try simp only [List.set_cons_zero, List.set_cons_succ])
                refine wpAnyH_take (i := 1) (v := ?mv10) rfl (by kernel_rfl) (by kernel_rfl) (by kernel_rfl) (fun _ _ _ h => h) (Or.inl ⟨by rfl, ?mh10⟩) (by assumption) ?mr10
                case mh10 => intro w hSw; (try dsimp only at hSw); go_simp; try with_reducible rfl
                (try simp only [Act.put]); (try simp only [List.getElem_toArray, List.getElem_cons_zero, List.getElem_cons_succ]); (try simp only [List.setIfInBounds_toArray]); (try simp only [List.set_cons_zero, List.set_cons_succ])
                refine wpAnyH_take (i := 2) (v := ?mv11) rfl (by kernel_rfl) (by kernel_rfl) (by kernel_rfl) (fun _ _ _ h => h) (Or.inl ⟨by rfl, ?mh11⟩) (by assumption) ?mr11
                case mh11 => intro w hSw; (try dsimp only at hSw); go_simp; try with_reducible rfl
                (try simp only [Act.put]); (try simp only [List.getElem_toArray, List.getElem_cons_zero, List.getElem_cons_succ]); (try simp only [List.setIfInBounds_toArray]); (try simp only [List.set_cons_zero, List.set_cons_succ])
                refine wpAnyH_take (i := 3) (v := ?mv12) rfl (by kernel_rfl) (by kernel_rfl) (by kernel_rfl) (fun _ _ _ h => h) (Or.inl ⟨by rfl, ?mh12⟩) (by assumption) ?mr12
                case mh12 => intro w hSw; (try dsimp only at hSw); go_simp; try with_reducible rfl
                (try simp only [Act.put]); (try simp only [List.getElem_toArray, List.getElem_cons_zero, List.getElem_cons_succ]); (try simp only [List.setIfInBounds_toArray]); (try simp only [List.set_cons_zero, List.set_cons_succ])
                refine wpAnyH_take (i := 4) (v := ?mv13) rfl (by kernel_rfl) (by kernel_rfl) (by kernel_rfl) (fun _ _ _ h => h) (Or.inl ⟨by rfl, ?mh13⟩) (by assumption) ?mr13
                case mh13 => intro w hSw; (try dsimp only at hSw); go_simp; try with_reducible rfl
                (try simp only [Act.put]); (try simp only [List.getElem_toArray, List.getElem_cons_zero, List.getElem_cons_succ]); (try simp only [List.setIfInBounds_toArray]); (try simp only [List.set_cons_zero, List.set_cons_succ])
                refine wpAnyH_take (i := 5) (v := ?mv14) rfl (by kernel_rfl) (by kernel_rfl) (by kernel_rfl) (fun _ _ _ h => h) (Or.inl ⟨by rfl, ?mh14⟩) (by assumption) ?mr14
                case mh14 => intro w hSw; (try dsimp only at hSw); go_simp; try with_reducible rfl
                (try simp only [Act.put]); (try simp only [List.getElem_toArray, List.getElem_cons_zero, List.getElem_cons_succ]); (try simp only [List.setIfInBounds_toArray]); (try simp only [List.set_cons_zero, List.set_cons_succ])
                refine wpAnyH_take (i := 6) (v := ?mv15) rfl (by kernel_rfl) (by kernel_rfl) (by kernel_rfl) (fun _ _ _ h => h) (Or.inl ⟨by rfl, ?mh15⟩) (by assumption) ?mr15
                case mh15 => intro w hSw; (try dsimp only at hSw); go_simp; try with_reducible rfl
                (try simp only [Act.put]); (try simp only [List.getElem_toArray, List.getElem_cons_zero, List.getElem_cons_succ]); (try simp only [List.setIfInBounds_toArray]); (try simp only [List.set_cons_zero, List.set_cons_succ])
                refine wpAnyH_take (i := 7) (v := ?mv16) rfl (by kernel_rfl) (by kernel_rfl) (by kernel_rfl) (fun _ _ _ h => h) (Or.inl ⟨by rfl, ?mh16⟩) (by assumption) ?mr16
                case mh16 => intro w hSw; (try dsimp only at hSw); go_simp; try with_reducible rfl
                (try simp only [Act.put]); (try simp only [List.getElem_toArray, List.getElem_cons_zero, List.getElem_cons_succ]); (try simp only [List.setIfInBounds_toArray]); (try simp only [List.set_cons_zero, List.set_cons_succ])
                refine wpAnyH_take (i := 8) (v := ?mv17) rfl (by kernel_rfl) (by kernel_rfl) (by kernel_rfl) (fun _ _ _ h => h) (Or.inl ⟨by rfl, ?mh17⟩) (by assumption) ?mr17
                case mh17 => intro w hSw; (try dsimp only at hSw); go_simp; try with_reducible rfl
                (try simp only [Act.put]); (try simp only [List.getElem_toArray, List.getElem_cons_zero, List.getElem_cons_succ]); (try simp only [List.setIfInBounds_toArray]); (try simp only [List.set_cons_zero, List.set_cons_succ])
                refine wpAnyH_take (i := 9) (v := ?mv18) rfl (by kernel_rfl) (by kernel_rfl) (by kernel_rfl) (fun _ _ _ h => h) (Or.inl ⟨by rfl, ?mh18⟩) (by assumption) ?mr18
                case mh18 => intro w hSw; (try dsimp only at hSw); go_simp; try with_reducible rfl
                (try simp only [Act.put]); (try simp only [List.getElem_toArray, List.getElem_cons_zero, List.getElem_cons_succ]); (try simp only [List.setIfInBounds_toArray]); (try simp only [List.set_cons_zero, List.set_cons_succ])
                refine wpAnyH_ready (rs := [10]) (by kernel_rfl) (by simp) ?_
                refine AllReadyH.cons rfl (fun K hK => ?_) AllReadyH.nil
                go_simp
                go_at_call 26
                refine (sector_any xd _).mono ?_
                rintro e wI ⟨rfl, hbg⟩
                have HRG := Lib.hid ((HRE.out.below (below_drew (Below.refl _ _))).below hbg)
                have hSg : wI.cell? ⟨q, 1, none⟩ = some (.int .i64 (one : Int)) ∧ wI.cell? ⟨q, 2, none⟩ = some (.int .i64 x2) ∧ wI.cell? ⟨q, 4, none⟩ = some (.string xd) := ⟨HRG.out.cell 1 rfl, HRG.out.cell 2 rfl, HRG.out.cell 4 rfl⟩
                clear hbg hHeld c0 c1 c2 c4 c5
                refine hK.out _ _ hSg (fun hHeld => ?_)
                clear hK K
                (try simp only [Act.put]); (try simp only [List.getElem_toArray, List.getElem_cons_zero, List.getElem_cons_succ]); (try simp only [List.setIfInBounds_toArray]); (try simp only [List.set_cons_zero, List.set_cons_succ])
                refine wpAnyH_ready (rs := [11]) (by kernel_rfl) (by simp) ?_
                refine AllReadyH.cons rfl (fun K hK => ?_) AllReadyH.nil
                go_simp
                go_at_call 25
                refine (rs_write2 HRG.out (by omega) (one : Int) x2 (sectorB xd)).mono ?_
                rintro e wJ ⟨rfl, hrh⟩
                have HRF := Lib.hid hrh
                have hSh : wJ.cell? ⟨q, 1, none⟩ = some (.int .i64 (one : Int)) ∧ wJ.cell? ⟨q, 2, none⟩ = some (.int .i64 x2) ∧ wJ.cell? ⟨q, 4, none⟩ = some (.string xd) := ⟨hrh.cell 1 rfl, hrh.cell 2 rfl, hrh.cell 4 rfl⟩
                rw [HFE.out]
                clear hrh hSg hHeld
                refine hK.out _ _ hSh (fun hHeld => ?_)
                clear hK K
                (try simp only [Act.put]); (try simp only [List.getElem_toArray, List.getElem_cons_zero, List.getElem_cons_succ]); (try simp only [List.setIfInBounds_toArray]); (try simp only [List.set_cons_zero, List.set_cons_succ])
                refine wpAnyH_take (i := 12) (v := ?mv19) rfl (by kernel_rfl) (by kernel_rfl) (by kernel_rfl) (fun _ _ _ h => h) (Or.inl ⟨by rfl, ?mh19⟩) (by assumption) ?mr19
                case mh19 => intro w hSw; (try dsimp only at hSw); go_simp; try with_reducible rfl
                (try simp only [Act.put]); (try simp only [List.getElem_toArray, List.getElem_cons_zero, List.getElem_cons_succ]); (try simp only [List.setIfInBounds_toArray]); (try simp only [List.set_cons_zero, List.set_cons_succ])
                refine wpAnyH_take (i := 13) (v := ?mv20) rfl (by kernel_rfl) (by kernel_rfl) (by kernel_rfl) (fun _ _ _ h => h) (Or.inl ⟨by rfl, ?mh20⟩) (by assumption) ?mr20
                case mh20 => intro w hSw; (try dsimp only at hSw); go_simp; try with_reducible rfl
                (try simp only [Act.put]); (try simp only [List.getElem_toArray, List.getElem_cons_zero, List.getElem_cons_succ]); (try simp only [List.setIfInBounds_toArray]); (try simp only [List.set_cons_zero, List.set_cons_succ])
                refine wpAnyH_done (by kernel_rfl) ?_ _
                clear hSh hHeld HRG
                have c0 : wJ.cell? ⟨q, 0, none⟩ = some (.int .i64 x0) := HRF.out.cell 0 rfl
                have c1 : wJ.cell? ⟨q, 1, none⟩ = some (.int .i64 (one : Int)) := HRF.out.cell 1 rfl
                have c2 : wJ.cell? ⟨q, 2, none⟩ = some (.int .i64 x2) := HRF.out.cell 2 rfl
                have c4 : wJ.cell? ⟨q, 4, none⟩ = some (.string xd) := HRF.out.cell 4 rfl
                have c5 : wJ.cell? ⟨q, 5, none⟩ = some (.slice A5 xk.length n5) := HRF.out.cell 5 rfl
                go_wp2_with fail
                refine (rs_read1 HRF.out (one : Int) x2).mono ?_
                rintro e wA ⟨rfl, hra⟩
                have HRA := Lib.hid hra
                have cA2 : wA.cell? ⟨q, 2, none⟩ = some (.int .i64 x2) := hra.cell 2 rfl
                clear hra c0 c1 c2 c4 c5
                go_wp2_with fail
                refine (rs_read2 HRA.out (one : Int) x2).mono ?_
                rintro e wB ⟨rfl, hrb⟩
                have HRB := Lib.hid hrb
                have HAP := Lib.hid (ap_write HA.out x2 (sectorB xd))
                have er := read_same HAP.out x2
                have ef := shape_find_eq HAP.out.l HAP.out.r (one : Int) x2
                have ei := image_same HAP.out
                rw [← er, ← ef]
                obtain ⟨rs, hrs⟩ : ∃ rs, readM (writeM m1 (one : Int) x2 (sectorB xd)) (one : Int) x2 = rs := ⟨_, rfl⟩
                obtain ⟨rf, hrf⟩ : ∃ rf, findM (writeM m1 (one : Int) x2 (sectorB xd)) (one : Int) x2 = rf := ⟨_, rfl⟩
                rw [hrs, hrf]
                have HEI := Lib.hid ei
                clear hrb cA2 er ef ei hrs hrf
                go_wp2_with fail
                refine (rs_image1 HRB.out (one : Int)).mono ?_
                rintro e wC ⟨rfl, hrc⟩
                have HRC := Lib.hid hrc
                clear hrc
                rw [HEI.out]
                obtain ⟨im, him⟩ : ∃ im, imageM (writeM m2 (one : Int) x2 (sectorB xd)) (one : Int) = im := ⟨_, rfl⟩
                rw [him]
                have HIM := Lib.hid him
                clear him
                go_wp2_with fail
                refine (rs_image2 HRC.out (one : Int)).mono ?_
                rintro e wD ⟨rfl, hrd⟩
                rw [HIM.out]
                have HRD := Lib.hid hrd
                clear hrd
                go_wp2_with fail
                go_roundg (gk - 1)
                case measure => have := HG.out; omega
                case rel => exact ⟨k + 1, _, _, _, _, ⟨by omega, by go_num, by have := HG.out; omega, by omega, by omega, HRD.out.sys.mono (fun _ hk => .inl hk), HAP.out, HRD.out.bel⟩⟩
              · have hm1 : (x1 == (one : Int)) = false := by simpa using hmine
                go_wp2_with (rw [hwb])
                refine wp_region_held_drew (S := fun w' => w'.cell? ⟨q, 1, none⟩ = some (.int .i64 x1) ∧ w'.cell? ⟨q, 2, none⟩ = some (.int .i64 x2) ∧ w'.cell? ⟨q, 4, none⟩ = some (.string xd)) (by kernel_rfl) ⟨c1, c2, c4⟩ (fun hHeld => ?_)
                refine wpAnyH_take (i := 0) (v := ?mv21) rfl (by kernel_rfl) (by kernel_rfl) (by kernel_rfl) (fun _ _ _ h => h) (Or.inl ⟨by rfl, ?mh21⟩) (by assumption) ?mr21
                case mh21 => intro w hSw; (try dsimp only at hSw); go_simp; try with_reducible rfl
                (try simp only [Act.put]); (try simp only [List.getElem_toArray, List.getElem_cons_zero, List.getElem_cons_succ]); (try simp only [List.setIfInBounds_toArray]); (try simp only [List.set_cons_zero, List.set_cons_succ])
                refine wpAnyH_take (i := 1) (v := ?mv22) rfl (by kernel_rfl) (by kernel_rfl) (by kernel_rfl) (fun _ _ _ h => h) (Or.inl ⟨by rfl, ?mh22⟩) (by assumption) ?mr22
                case mh22 => intro w hSw; (try dsimp only at hSw); go_simp; try with_reducible rfl
                (try simp only [Act.put]); (try simp only [List.getElem_toArray, List.getElem_cons_zero, List.getElem_cons_succ]); (try simp only [List.setIfInBounds_toArray]); (try simp only [List.set_cons_zero, List.set_cons_succ])
                refine wpAnyH_take (i := 2) (v := ?mv23) rfl (by kernel_rfl) (by kernel_rfl) (by kernel_rfl) (fun _ _ _ h => h) (Or.inl ⟨by rfl, ?mh23⟩) (by assumption) ?mr23
                case mh23 => intro w hSw; (try dsimp only at hSw); go_simp; try with_reducible rfl
                (try simp only [Act.put]); (try simp only [List.getElem_toArray, List.getElem_cons_zero, List.getElem_cons_succ]); (try simp only [List.setIfInBounds_toArray]); (try simp only [List.set_cons_zero, List.set_cons_succ])
                refine wpAnyH_take (i := 3) (v := ?mv24) rfl (by kernel_rfl) (by kernel_rfl) (by kernel_rfl) (fun _ _ _ h => h) (Or.inl ⟨by rfl, ?mh24⟩) (by assumption) ?mr24
                case mh24 => intro w hSw; (try dsimp only at hSw); go_simp; try with_reducible rfl
                (try simp only [Act.put]); (try simp only [List.getElem_toArray, List.getElem_cons_zero, List.getElem_cons_succ]); (try simp only [List.setIfInBounds_toArray]); (try simp only [List.set_cons_zero, List.set_cons_succ])
                refine wpAnyH_take (i := 4) (v := ?mv25) rfl (by kernel_rfl) (by kernel_rfl) (by kernel_rfl) (fun _ _ _ h => h) (Or.inl ⟨by rfl, ?mh25⟩) (by assumption) ?mr25
                case mh25 => intro w hSw; (try dsimp only at hSw); go_simp; try with_reducible rfl
                (try simp only [Act.put]); (try simp only [List.getElem_toArray, List.getElem_cons_zero, List.getElem_cons_succ]); (try simp only [List.setIfInBounds_toArray]); (try simp only [List.set_cons_zero, List.set_cons_succ])
                refine wpAnyH_take (i := 5) (v := ?mv26) rfl (by kernel_rfl) (by kernel_rfl) (by kernel_rfl) (fun _ _ _ h => h) (Or.inl ⟨by rfl, ?mh26⟩) (by assumption) ?mr26
                case mh26 => intro w hSw; (try dsimp only at hSw); go_simp; try with_reducible rfl
                (try simp only [Act.put]); (try simp only [List.getElem_toArray, List.getElem_cons_zero, List.getElem_cons_succ]); (try simp only [List.setIfInBounds_toArray]); (try simp only [List.set_cons_zero, List.set_cons_succ])
                refine wpAnyH_take (i := 6) (v := ?mv27) rfl (by kernel_rfl) (by kernel_rfl) (by kernel_rfl) (fun _ _ _ h => h) (Or.inl ⟨by rfl, ?mh27⟩) (by assumption) ?mr27
                case mh27 => intro w hSw; (try dsimp only at hSw); go_simp; try with_reducible rfl
                (try simp only [Act.put]); (try simp only [List.getElem_toArray, List.getElem_cons_zero, List.getElem_cons_succ]); (try simp only [List.setIfInBounds_toArray]); (try simp only [List.set_cons_zero, List.set_cons_succ])
                refine wpAnyH_ready (rs := [7]) (by kernel_rfl) (by simp) ?_
                refine AllReadyH.cons rfl (fun K hK => ?_) AllReadyH.nil
                go_simp
                go_at_call 26
                refine (sector_any xd _).mono ?_
                rintro e wG ⟨rfl, hbg⟩
                have HRG := Lib.hid ((HR0.out.below (below_drew (Below.refl _ _))).below hbg)
                have hSg : wG.cell? ⟨q, 1, none⟩ = some (.int .i64 x1) ∧ wG.cell? ⟨q, 2, none⟩ = some (.int .i64 x2) ∧ wG.cell? ⟨q, 4, none⟩ = some (.string xd) := ⟨HRG.out.cell 1 rfl, HRG.out.cell 2 rfl, HRG.out.cell 4 rfl⟩
                clear hbg hHeld c0 c1 c2 c4 c5
                refine hK.out _ _ hSg (fun hHeld => ?_)
                clear hK K
                (try simp only [Act.put]); (try simp only [List.getElem_toArray, List.getElem_cons_zero, List.getElem_cons_succ]); (try simp only [List.setIfInBounds_toArray]); (try simp only [List.set_cons_zero, List.set_cons_succ])
                refine wpAnyH_ready (rs := [8]) (by kernel_rfl) (by simp) ?_
                refine AllReadyH.cons rfl (fun K hK => ?_) AllReadyH.nil
                go_simp
                go_at_call 25
                refine (rs_write1 HRG.out (by omega) x1 x2 (sectorB xd)).mono ?_
                rintro e wH ⟨rfl, hrh⟩
                have HRE := Lib.hid hrh
                have hSh : wH.cell? ⟨q, 1, none⟩ = some (.int .i64 x1) ∧ wH.cell? ⟨q, 2, none⟩ = some (.int .i64 x2) ∧ wH.cell? ⟨q, 4, none⟩ = some (.string xd) := ⟨hrh.cell 1 rfl, hrh.cell 2 rfl, hrh.cell 4 rfl⟩
                skip
                clear hrh hSg hHeld
                refine hK.out _ _ hSh (fun hHeld => ?_)
                clear hK K
                (try simp only [Act.put]); (try simp only [List.getElem_toArray, List.getElem_cons_zero, List.getElem_cons_succ]); (try simp only [List.setIfInBounds_toArray]); (try simp only [List.set_cons_zero, List.set_cons_succ])
                refine wpAnyH_take (i := 9) (v := ?mv28) rfl (by kernel_rfl) (by kernel_rfl) (by kernel_rfl) (fun _ _ _ h => h) (Or.inl ⟨by rfl, ?mh28⟩) (by assumption) ?mr28
                case mh28 => intro w hSw; (try dsimp only at hSw); go_simp; try with_reducible rfl
                (try simp only [Act.put]); (try simp only [List.getElem_toArray, List.getElem_cons_zero, List.getElem_cons_succ]); (try simp only [List.setIfInBounds_toArray]); (try simp only [List.set_cons_zero, List.set_cons_succ])
                refine wpAnyH_done (by kernel_rfl) ?_ _
                clear hSh hHeld HRG
                have c0 : wH.cell? ⟨q, 0, none⟩ = some (.int .i64 x0) := HRE.out.cell 0 rfl
                have c1 : wH.cell? ⟨q, 1, none⟩ = some (.int .i64 x1) := HRE.out.cell 1 rfl
                have c2 : wH.cell? ⟨q, 2, none⟩ = some (.int .i64 x2) := HRE.out.cell 2 rfl
                have c4 : wH.cell? ⟨q, 4, none⟩ = some (.string xd) := HRE.out.cell 4 rfl
                have c5 : wH.cell? ⟨q, 5, none⟩ = some (.slice A5 xk.length n5) := HRE.out.cell 5 rfl
                go_wp2_with fail
                refine wp_region_held_drew (S := fun _ => True) (by kernel_rfl) trivial (fun hHeld => ?_)
                refine wpAnyH_take (i := 0) (v := ?mv29) rfl (by kernel_rfl) (by kernel_rfl) (by kernel_rfl) (fun _ _ _ h => h) (Or.inl ⟨by rfl, ?mh29⟩) (by assumption) ?mr29
                case mh29 => intro w hSw; (try dsimp only at hSw); go_simp; try with_reducible rfl
                (try simp only [Act.put]); (try simp only [List.getElem_toArray, List.getElem_cons_zero, List.getElem_cons_succ]); (try simp only [List.setIfInBounds_toArray]); (try simp only [List.set_cons_zero, List.set_cons_succ])
                refine wpAnyH_take (i := 1) (v := ?mv30) rfl (by kernel_rfl) (by kernel_rfl) (by kernel_rfl) (fun _ _ _ h => h) (Or.inl ⟨by rfl, ?mh30⟩) (by assumption) ?mr30
                case mh30 => intro w hSw; (try dsimp only at hSw); go_simp; try with_reducible rfl
                (try simp only [Act.put]); (try simp only [List.getElem_toArray, List.getElem_cons_zero, List.getElem_cons_succ]); (try simp only [List.setIfInBounds_toArray]); (try simp only [List.set_cons_zero, List.set_cons_succ])
                refine wpAnyH_take (i := 2) (v := undef) rfl (by kernel_rfl) (by kernel_rfl) (by kernel_rfl) (fun _ _ _ h => h) (Or.inr ⟨by rfl, rfl⟩) (by assumption) ?_
                (try simp only [Act.put]); (try simp only [List.getElem_toArray, List.getElem_cons_zero, List.getElem_cons_succ]); (try simp only [List.setIfInBounds_toArray]); (try simp only [List.set_cons_zero, List.set_cons_succ])
                refine wpAnyH_take (i := 3) (v := undef) rfl (by kernel_rfl) (by kernel_rfl) (by kernel_rfl) (fun _ _ _ h => h) (Or.inr ⟨by rfl, rfl⟩) (by assumption) ?_
                (try simp only [Act.put]); (try simp only [List.getElem_toArray, List.getElem_cons_zero, List.getElem_cons_succ]); (try simp only [List.setIfInBounds_toArray]); (try simp only [List.set_cons_zero, List.set_cons_succ])
                refine wpAnyH_take (i := 4) (v := undef) rfl (by kernel_rfl) (by kernel_rfl) (by kernel_rfl) (fun _ _ _ h => h) (Or.inr ⟨by rfl, rfl⟩) (by assumption) ?_
                (try simp only [Act.put]); (try simp only [List.getElem_toArray, List.getElem_cons_zero, List.getElem_cons_succ]); (try simp only [List.setIfInBounds_toArray]); (try simp only [List.set_cons_zero, List.set_cons_succ])
                refine wpAnyH_take (i := 5) (v := undef) rfl (by kernel_rfl) (by kernel_rfl) (by kernel_rfl) (fun _ _ _ h => h) (Or.inr ⟨by rfl, rfl⟩) (by assumption) ?_
                (try simp only [Act.put]); (try simp only [List.getElem_toArray, List.getElem_cons_zero, List.getElem_cons_succ]); (try simp only [List.setIfInBounds_toArray]); (try simp only [List.set_cons_zero, List.set_cons_succ])
                refine wpAnyH_take (i := 6) (v := undef) rfl (by kernel_rfl) (by kernel_rfl) (by kernel_rfl) (fun _ _ _ h => h) (Or.inr ⟨by rfl, rfl⟩) (by assumption) ?_
                (try simp only [Act.put]); (try simp only [List.getElem_toArray, List.getElem_cons_zero, List.getElem_cons_succ]); (try simp only [List.setIfInBounds_toArray]); (try simp only [List.set_cons_zero, List.set_cons_succ])
                refine wpAnyH_take (i := 7) (v := undef) rfl (by kernel_rfl) (by kernel_rfl) (by kernel_rfl) (fun _ _ _ h => h) (Or.inr ⟨by rfl, rfl⟩) (by assumption) ?_
                (try simp only [Act.put]); (try simp only [List.getElem_toArray, List.getElem_cons_zero, List.getElem_cons_succ]); (try simp only [List.setIfInBounds_toArray]); (try simp only [List.set_cons_zero, List.set_cons_succ])
                refine wpAnyH_take (i := 8) (v := undef) rfl (by kernel_rfl) (by kernel_rfl) (by kernel_rfl) (fun _ _ _ h => h) (Or.inr ⟨by rfl, rfl⟩) (by assumption) ?_
                (try simp only [Act.put]); (try simp only [List.getElem_toArray, List.getElem_cons_zero, List.getElem_cons_succ]); (try simp only [List.setIfInBounds_toArray]); (try simp only [List.set_cons_zero, List.set_cons_succ])
                refine wpAnyH_take (i := 9) (v := undef) rfl (by kernel_rfl) (by kernel_rfl) (by kernel_rfl) (fun _ _ _ h => h) (Or.inr ⟨by rfl, rfl⟩) (by assumption) ?_
                (try simp only [Act.put]); (try simp only [List.getElem_toArray, List.getElem_cons_zero, List.getElem_cons_succ]); (try simp only [List.setIfInBounds_toArray]); (try simp only [List.set_cons_zero, List.set_cons_succ])
                refine wpAnyH_take (i := 10) (v := undef) rfl (by kernel_rfl) (by kernel_rfl) (by kernel_rfl) (fun _ _ _ h => h) (Or.inr ⟨by rfl, rfl⟩) (by assumption) ?_
                (try simp only [Act.put]); (try simp only [List.getElem_toArray, List.getElem_cons_zero, List.getElem_cons_succ]); (try simp only [List.setIfInBounds_toArray]); (try simp only [List.set_cons_zero, List.set_cons_succ])
                refine wpAnyH_take (i := 11) (v := undef) rfl (by kernel_rfl) (by kernel_rfl) (by kernel_rfl) (fun _ _ _ h => h) (Or.inr ⟨by rfl, rfl⟩) (by assumption) ?_
                (try simp only [Act.put]); (try simp only [List.getElem_toArray, List.getElem_cons_zero, List.getElem_cons_succ]); (try simp only [List.setIfInBounds_toArray]); (try simp only [List.set_cons_zero, List.set_cons_succ])
                refine wpAnyH_take (i := 12) (v := undef) rfl (by kernel_rfl) (by kernel_rfl) (by kernel_rfl) (fun _ _ _ h => h) (Or.inr ⟨by rfl, rfl⟩) (by assumption) ?_
                (try simp only [Act.put]); (try simp only [List.getElem_toArray, List.getElem_cons_zero, List.getElem_cons_succ]); (try simp only [List.setIfInBounds_toArray]); (try simp only [List.set_cons_zero, List.set_cons_succ])
                refine wpAnyH_take (i := 13) (v := ?mv42) rfl (by kernel_rfl) (by kernel_rfl) (by kernel_rfl) (fun _ _ _ h => h) (Or.inl ⟨by rfl, ?mh42⟩) (by assumption) ?mr42
                case mh42 => intro w hSw; (try dsimp only at hSw); go_simp; try with_reducible rfl
                (try simp only [Act.put]); (try simp only [List.getElem_toArray, List.getElem_cons_zero, List.getElem_cons_succ]); (try simp only [List.setIfInBounds_toArray]); (try simp only [List.set_cons_zero, List.set_cons_succ])
                refine wpAnyH_done (by kernel_rfl) ?_ _
                clear hHeld
                have HREd := Lib.hid (HRE.out.below (below_drew (Below.refl _ _)))
                have d0 : wH.drew.cell? ⟨q, 0, none⟩ = some (.int .i64 x0) := HREd.out.cell 0 rfl
                have d1 : wH.drew.cell? ⟨q, 1, none⟩ = some (.int .i64 x1) := HREd.out.cell 1 rfl
                have d2 : wH.drew.cell? ⟨q, 2, none⟩ = some (.int .i64 x2) := HREd.out.cell 2 rfl
                have d4 : wH.drew.cell? ⟨q, 4, none⟩ = some (.string xd) := HREd.out.cell 4 rfl
                have d5 : wH.drew.cell? ⟨q, 5, none⟩ = some (.slice A5 xk.length n5) := HREd.out.cell 5 rfl
                go_wp2_with fail
                refine (rs_read1 HREd.out (one : Int) x2).mono ?_
                rintro e wA ⟨rfl, hra⟩
                have HRA := Lib.hid hra
                have cA2 : wA.cell? ⟨q, 2, none⟩ = some (.int .i64 x2) := hra.cell 2 rfl
                clear hra c0 c1 c2 c4 c5 d0 d1 d2 d4 d5
                go_wp2_with fail
                refine (rs_read2 HRA.out (one : Int) x2).mono ?_
                rintro e wB ⟨rfl, hrb⟩
                have HRB := Lib.hid hrb
                have HAP := Lib.hid (ap_write_l HA.out x1 x2 (sectorB xd) hmine)
                have er := read_same HAP.out x2
                have ef := shape_find_eq HAP.out.l HAP.out.r (one : Int) x2
                have ei := image_same HAP.out
                rw [← er, ← ef]
                obtain ⟨rs, hrs⟩ : ∃ rs, readM (writeM m1 x1 x2 (sectorB xd)) (one : Int) x2 = rs := ⟨_, rfl⟩
                obtain ⟨rf, hrf⟩ : ∃ rf, findM (writeM m1 x1 x2 (sectorB xd)) (one : Int) x2 = rf := ⟨_, rfl⟩
                rw [hrs, hrf]
                have HEI := Lib.hid ei
                clear hrb cA2 er ef ei hrs hrf
                go_wp2_with fail
                refine (rs_image1 HRB.out (one : Int)).mono ?_
                rintro e wC ⟨rfl, hrc⟩
                have HRC := Lib.hid hrc
                clear hrc
                rw [HEI.out]
                obtain ⟨im, him⟩ : ∃ im, imageM (m2) (one : Int) = im := ⟨_, rfl⟩
                rw [him]
                have HIM := Lib.hid him
                clear him
                go_wp2_with fail
                refine (rs_image2 HRC.out (one : Int)).mono ?_
                rintro e wD ⟨rfl, hrd⟩
                rw [HIM.out]
                have HRD := Lib.hid hrd
                clear hrd
                go_wp2_with fail
                go_roundg (gk - 1)
                case measure => have := HG.out; omega
                case rel => exact ⟨k + 1, _, _, _, _, ⟨by omega, by go_num, by have := HG.out; omega, by omega, by omega, HRD.out.sys.mono (fun _ hk => .inl hk), HAP.out, HRD.out.bel⟩⟩
    · obtain rfl : k = M := by omega
      go_wp2_with fail
      refine (wakes_any _).mono ?_
      rintro e w6 ⟨rfl, hb6⟩
      have HB6 := Lib.hid (HB.out.trans (hb6.mono HB.out.size))
      clear hb6
      go_wp2_with fail
      refine bodyPost_ret (v := .bool true) (by simp [results, Try.results9, go_sem]) rfl ?_
      exact ⟨rfl, HB6.out⟩

end Go.Proofs.Ytekpbpcfeopilaa.Ed
