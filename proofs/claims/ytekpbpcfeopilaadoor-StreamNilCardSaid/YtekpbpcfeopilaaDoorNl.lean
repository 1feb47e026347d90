/- StreamNil: the walk. -/
import Derived.Test.YtekpbpcfeopilaaDoorK6
namespace Go.Proofs.YtekpbpcfeopilaaDoor.Nl
open Go Go.RowKit Go.Joins Go.Proofs.YtekpbpcfeopilaaDoorCore Go.Proofs.YtekpbpcfeopilaaDoor.Dm Go.Proofs.YtekpbpcfeopilaaDoor.Da Go.Proofs.YtekpbpcfeopilaaDoor.Ds Go.Proofs.YtekpbpcfeopilaaDoor.Dw Go.Proofs.YtekpbpcfeopilaaDoor.Sys Go.Proofs.YtekpbpcfeopilaaDoor.Sp Go.Proofs.YtekpbpcfeopilaaDoor.St Go.Proofs.YtekpbpcfeopilaaDoor.Ap Go.Proofs.YtekpbpcfeopilaaDoor.Rs Go.Proofs.YtekpbpcfeopilaaDoor.Op Go.Proofs.YtekpbpcfeopilaaDoor.Ws Go.Proofs.YtekpbpcfeopilaaDoorW.PrintWords Go.Proofs.YtekpbpcfeopilaaDoorW.PrintLast Go.Proofs.YtekpbpcfeopilaaDoorW.PrintMore

theorem two_two (n : Int) : ∃ q : Nat, sectorsM (newM [2, 2]) n = (q : Int) ∧ sizeH q = 0 := by
  have hz : ∀ q : Nat, q ≤ 2 → sizeH q = 0 := by intro q hq; unfold sizeH; omega
  unfold sectorsM
  by_cases h : 0 ≤ n
  · rw [if_pos h]
    refine ⟨_, rfl, hz _ ?_⟩
    have hr : (newM [2, 2]).regs = [newR 2, newR 2] := rfl
    rw [hr]
    have hl : (newR 2).lasts.length = 2 := by rw [show (newR 2).lasts = List.replicate (clampN 2) noneS from rfl, List.length_replicate]; decide
    rcases hk : n.toNat with _ | _ | k
    · simp [hl]
    · simp [hl]
    · simp
  · rw [if_neg h]
    exact ⟨0, rfl, hz 0 (by omega)⟩

set_option maxHeartbeats 8000000 in
set_option maxRecDepth 100000 in
theorem law (n : Int) (body : ByteArray) (w : World) : Calls Tryd.prog 7 #[.int .i64 n, .string body] w fun e w' => e = .returned (.bool true) ∧ Below w.heap.size w w' := by
  go_enter Tryd.func7, Tryd.ntmps7
  go_wp2_with fail
  refine (open_nil n w).mono ?_
  rintro e w2 ⟨rfl, hb2⟩
  have HB2 := Lib.hid hb2
  clear hb2
  go_wp2_with fail
  have hC := lit_C .i64 w2 3 [2, 2] (by decide)
  obtain ⟨w3, hw3⟩ : ∃ w3, w2.alloc (.cells (encs (Value.int .i64) [2, 2]).toArray 3) = w3 := ⟨_, rfl⟩
  have hb3 : Below w2.heap.size w2 w3 := by rw [← hw3]; exact (Below.refl _ _).alloc (Nat.le_refl _) _
  rw [hw3] at hC
  have hn := new_z (Dks.nil w3) (some ⟨w2.heap.size, 0, none⟩) 2 [2, 2] hC (by decide)
  obtain ⟨b, hb⟩ : ∃ b, w3.heap.size = b := ⟨_, rfl⟩
  rw [hb] at hn
  have HNW := Lib.hid hn
  have HB3 := Lib.hid (HB2.out.trans (hb3.mono HB2.out.size))
  have HWB : Hid (w.heap.size ≤ b) := Lib.hid (by rw [← hb]; exact HB3.out.size)
  clear hC hn hb3 hb
  change Calls _ _ #[.slice (some ⟨w2.heap.size, 0, none⟩) 2 2] (w2.alloc (.cells (encs (Value.int .i64) [2, 2]).toArray 3)) _
  rw [hw3]
  refine HNW.out.mono ?_
  rintro e w4 ⟨rfl, hD4, hb4⟩
  rw [List.nil_append] at hD4
  have HD4 := Lib.hid hD4
  have HB4 := Lib.hid (HB3.out.trans (hb4.mono HWB.out))
  clear hD4 hb4 hw3 HNW
  obtain ⟨q, hq, hz⟩ := two_two n
  have ho := open_small HD4.out 0 (d := ⟨b, newM [2, 2], 0⟩) rfl n q hq hz
  have HO := Lib.hid ho
  clear ho hq hz
  go_wp2_with fail
  refine HO.out.mono ?_
  rintro e w5 ⟨rfl, hb5⟩
  have HB5 := Lib.hid (HB4.out.trans (hb5.mono HB4.out.size))
  clear hb5 HO
  go_wp2_with fail
  refine (wakes_any w5).mono ?_
  rintro e w6 ⟨rfl, hb6⟩
  have HB6 := Lib.hid (HB5.out.trans (hb6.mono HB5.out.size))
  clear hb6
  go_wp2_with fail
  refine (app_nil body _).mono ?_
  rintro e w7 ⟨rfl, hb7⟩
  have HB7 := Lib.hid (HB6.out.trans (hb7.mono HB6.out.size))
  clear hb7
  go_wp2_with fail
  refine (res_nil _ _).mono ?_
  rintro e w8 ⟨rfl, hb8⟩
  have HB8 := Lib.hid (HB7.out.trans (((Below.refl w7.heap.size w7).alloc (Nat.le_refl _) _ |>.trans (hb8.mono (by simp))).mono HB7.out.size))
  clear hb8
  go_wp2_with fail
  refine (left_nil _).mono ?_
  rintro e w9 ⟨rfl, hb9⟩
  have HB9 := Lib.hid (HB8.out.trans (hb9.mono HB8.out.size))
  clear hb9
  go_wp2_with fail
  refine (gen_nil _).mono ?_
  rintro e w10 ⟨rfl, hb10⟩
  have HB10 := Lib.hid (HB9.out.trans (hb10.mono HB9.out.size))
  clear hb10
  go_wp2_with fail
  exact bodyPost_ret (v := .bool true) (by simp [results, Tryd.results7, go_sem]) rfl ⟨rfl, HB10.out⟩

end Go.Proofs.YtekpbpcfeopilaaDoor.Nl
