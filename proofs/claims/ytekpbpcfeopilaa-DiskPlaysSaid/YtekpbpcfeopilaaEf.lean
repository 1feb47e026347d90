/- DiskSizes. -/
import Derived.Test.YtekpbpcfeopilaaRb
import Derived.Test.YtekpbpcfeopilaaEb
namespace Go.Proofs.Ytekpbpcfeopilaa.Ef
open Go Go.RowKit Go.Joins Go.Proofs.YtekpbpcfeopilaaCore Go.Proofs.Ytekpbpcfeopilaa.Dm Go.Proofs.Ytekpbpcfeopilaa.Dr Go.Proofs.Ytekpbpcfeopilaa.Da Go.Proofs.Ytekpbpcfeopilaa.Df Go.Proofs.Ytekpbpcfeopilaa.Dg Go.Proofs.Ytekpbpcfeopilaa.Dh Go.Proofs.Ytekpbpcfeopilaa.Di Go.Proofs.Ytekpbpcfeopilaa.Dj Go.Proofs.Ytekpbpcfeopilaa.Dk Go.Proofs.Ytekpbpcfeopilaa.Dl Go.Proofs.Ytekpbpcfeopilaa.Dn Go.Proofs.Ytekpbpcfeopilaa.Dp Go.Proofs.Ytekpbpcfeopilaa.Dq Go.Proofs.Ytekpbpcfeopilaa.Ds Go.Proofs.Ytekpbpcfeopilaa.Dt Go.Proofs.Ytekpbpcfeopilaa.Du Go.Proofs.Ytekpbpcfeopilaa.Dv Go.Proofs.Ytekpbpcfeopilaa.Dw Go.Proofs.Ytekpbpcfeopilaa.Sys Go.Proofs.Ytekpbpcfeopilaa.Ra Go.Proofs.Ytekpbpcfeopilaa.Rb Go.Proofs.YtekpbpcfeopilaaW.PrintWords Go.Proofs.YtekpbpcfeopilaaW.PrintLast Go.Proofs.YtekpbpcfeopilaaW.PrintMore

theorem image_size {N : Nat} {m : MDisk} (h : Wf N m) (n : Int) : ((imageM m n).size : Int) = 64 * sectorsM m n := by
  unfold imageM sectorsM
  by_cases hn : 0 ≤ n
  · rw [if_pos hn, if_pos hn]
    cases hr : m.regs[n.toNat]? with
    | none => rfl
    | some r =>
      have hw := h.regs r (List.mem_of_getElem? hr)
      have hf := flat_len r.lasts hw.l64
      have e : (catB r.lasts).size = 64 * r.lasts.length := by
        rw [← hf]
        show ((r.lasts.map (·.data.toList)).flatten.toArray).size = _
        simp
      simp only [Option.map_some, Option.getD_some, e]
      omega
  · rw [if_neg hn, if_neg hn]
    rfl

theorem C_take {α : Type} {d : Kd α} {w : World} {A : Option Addr} {n k : Nat} {xs : List α} (h : d.C w A n xs) (hk : k ≤ n) : d.C w A k (xs.take k) := by
  refine ⟨by rw [List.length_take, h.1]; omega, by have := h.2.1; omega, fun hk0 => ?_⟩
  obtain ⟨ad, ha, hc⟩ := h.2.2 (by omega)
  refine ⟨ad, ha, fun j p hj => hc j p ?_⟩
  rw [List.getElem?_take] at hj
  split at hj
  · exact hj
  · cases hj

/-- Both disks. -/
structure SzS (w : World) (b1 b2 : Nat) (m : MDisk) (wx : World) : Prop where
  ex : ∃ G, DiskAt TP G 10 wx b1 m ∧ DiskAt TR G 30 wx b2 m
  wf : Wf 0 m
  bel : Below w.heap.size w wx
theorem SzS.below {w wx wy : World} {b1 b2 : Nat} {m : MDisk} (h : SzS w b1 b2 m wx) (hb : Below wx.heap.size wx wy) : SzS w b1 b2 m wy := by
  obtain ⟨G, h1, h2⟩ := h.ex
  exact ⟨⟨G, dat_below h1 hb, dat_below h2 hb⟩, h.wf, h.bel.trans (hb.mono h.bel.size)⟩

set_option maxHeartbeats 4000000 in
set_option maxRecDepth 100000 in
theorem diskSizes (A : Option Addr) (cc : Nat) (l : List Int) (w : World) (hC : Kd.C (Kd.int .i64) w A l.length l) (hcc : l.length ≤ cc) :
    Calls Try.prog 6 #[.slice A l.length cc] w fun e w' => e = .returned (.bool true) ∧ Below w.heap.size w w' := by
  obtain ⟨K, hK⟩ : ∃ K, min l.length 20 = K := ⟨_, rfl⟩
  have hKi : min (l.length : Int) 20 = (K : Int) := by omega
  have hK1 : K ≤ l.length := by omega
  have hK20 : K ≤ 20 := by omega
  have hKc : K ≤ cc := by omega
  have hmx := hC.2.1
  have hC2 := C_take hC hK1
  obtain ⟨l2, hl2⟩ : ∃ l2, l.take K = l2 := ⟨_, rfl⟩
  have hl2l : l2.length = K := by rw [← hl2]; simp; omega
  rw [hl2] at hC2
  subst hl2l
  have HC := Lib.hid hC2
  clear hC hC2 hK hl2
  go_enter Try.func6, Try.ntmps6
  go_wp2_with fail
  refine (new_any (fun _ => 0) 10 A cc l2 w HC.out hKc).mono ?_
  rintro e w1 ⟨rfl, hb1, G1, hG1, hd1⟩
  have HB1 := Lib.hid hb1
  have HD1 := Lib.hid hd1
  have HZ1 : w.heap.size < w1.heap.size := dat_lt hd1
  clear hb1 hd1 hG1
  go_wp2_with fail
  refine (rnew_any G1 30 A cc l2 w1 (Kd.C_below HC.out HB1.out)).mono ?_
  rintro e w2 ⟨rfl, hb2, G2, hG2, hd2⟩
  have HS2 : Hid (SzS w w.heap.size w1.heap.size (newM l2) w2) := ⟨⟨G2, dat_below (dat_recolour HD1.out hG2) hb2, hd2⟩, new_wf l2, HB1.out.trans (hb2.mono HB1.out.size)⟩
  clear hb2 hG2 hd2 HD1 HB1
  obtain ⟨m, hm⟩ : ∃ m, newM l2 = m := ⟨_, rfl⟩
  rw [hm] at HS2
  clear hm
  go_wp2_with fail
  go_loopg [5] (l2.length + 3) (fun gk v wr => ∃ n : Int, -1 ≤ n ∧ n ≤ l2.length + 2 ∧ v = .int .i64 n ∧ (gk : Int) + n = l2.length + 2 ∧ SzS w w.heap.size w1.heap.size m wr)
  case atStart => exact ⟨-1, by omega, by omega, rfl, by omega, HS2.out⟩
  case round =>
    obtain ⟨n, hn0, hn1, rfl, hg, hs⟩ := hrel
    have HG := Lib.hid hg
    have HS := Lib.hid hs
    clear hg hs HS2
    by_cases hlt : n ≤ (l2.length : Int) + 1
    · obtain ⟨G, hdp, hdr⟩ := HS.out.ex
      obtain ⟨sz, hsz⟩ : ∃ sz, sectorsM m n = sz := ⟨_, rfl⟩
      have hsz0 : 0 ≤ sz := by rw [← hsz]; unfold sectorsM; split <;> omega
      have hsz1 : sz ≤ 4096 := by
        have hw := HS.out.wf
        rw [← hsz]
        unfold sectorsM
        split
        · cases hr : m.regs[n.toNat]? with
          | none => simp
          | some r => have := (hw.regs r (List.mem_of_getElem? hr)).few; simp; omega
        · omega
      have him := image_size HS.out.wf n
      rw [hsz] at him
      obtain ⟨im, hi⟩ : ∃ im, imageM m n = im := ⟨_, rfl⟩
      rw [hi] at him
      have HSZ := Lib.hid hsz
      have HI := Lib.hid hi
      clear hsz hi
      go_wp2_with fail
      refine (sectors_d hdp n).mono ?_
      rintro e w3 ⟨rfl, hb3⟩
      rw [HSZ.out]
      have HS3 := Lib.hid (HS.out.below hb3)
      obtain ⟨rv, kv, gs, hdr3⟩ := dat_below hdr hb3
      clear hb3 hdp hdr
      go_wp2_with fail
      refine (rsectors_any hdr3 n).mono ?_
      rintro e w4 ⟨rfl, hb4⟩
      rw [HSZ.out]
      have HS4 := Lib.hid (HS3.out.below hb4)
      obtain ⟨G4, hdp4, _⟩ := HS4.out.ex
      clear hb4 hdr3
      go_wp2_with fail
      refine (image_d hdp4 HS4.out.wf n).mono ?_
      rintro e w5 ⟨rfl, hb5⟩
      rw [HI.out]
      have HS5 := Lib.hid (HS4.out.below hb5)
      obtain ⟨G5, hdp5, _⟩ := HS5.out.ex
      clear hb5 hdp4
      go_wp2_with fail
      refine (sectors_d hdp5 n).mono ?_
      rintro e w6 ⟨rfl, hb6⟩
      rw [HSZ.out]
      have HS6 := Lib.hid (HS5.out.below hb6)
      clear hb6 hdp5
      go_wp2_with fail
      go_roundg (gk - 1)
      case measure => have := HG.out; omega
      case rel => exact ⟨n + 1, by omega, by omega, rfl, by have := HG.out; omega, HS6.out⟩
    · go_wp2_with fail
      refine (wakes_any _).mono ?_
      rintro e w3 ⟨rfl, hb3⟩
      have HS3 := Lib.hid (HS.out.below hb3)
      clear hb3
      go_wp2_with fail
      refine bodyPost_ret (v := .bool true) (by simp [results, Try.results6, go_sem]) rfl ?_
      exact ⟨rfl, HS3.out.bel⟩

end Go.Proofs.Ytekpbpcfeopilaa.Ef
