/- AreaJoins: the law's walk, from the closed forms of Newest and Join, for every list of sectors. -/
import Derived.Test.YtekpbpcfeopilaaDoorAreas
namespace Go.Proofs.YtekpbpcfeopilaaDoor.LawJo
open Go Go.RowKit Go.Proofs.YtekpbpcfeopilaaDoorCore Go.Proofs.YtekpbpcfeopilaaDoor.Join Go.Proofs.YtekpbpcfeopilaaDoor.Areas Go.Proofs.YtekpbpcfeopilaaDoor.PAreas Go.Proofs.YtekpbpcfeopilaaDoorW.PrintWords Go.Proofs.YtekpbpcfeopilaaDoorW.PrintLast Go.Proofs.YtekpbpcfeopilaaDoorW.PrintMore
attribute [local go_sem] max2_int min2_int max_two min_two max_three min_three max_four min_four   -- for this text's walks alone

theorem newest_c (A : Option Addr) (c : Nat) (l : List ByteArray) (w : World) (hr : Kd.C Kd.string w A l.length l) (hc : l.length ≤ c) (hl : l.length ≤ 1000000) :
    Calls Tryd.prog 15 #[.slice A l.length c] w fun e w' => e = .returned (.int .i64 (newL l 0)) ∧ Below w.heap.size w w' := area_Newest.calls _ A c l _ w hr hc (newest_f l hl)
theorem ref_newest_c (A : Option Addr) (c : Nat) (l : List ByteArray) (w : World) (hr : Kd.C Kd.string w A l.length l) (hc : l.length ≤ c) (hl : l.length ≤ 1000000) :
    Calls Tryd.prog 18 #[.slice A l.length c] w fun e w' => e = .returned (.int .i64 (newL l 0)) ∧ Below w.heap.size w w' := precinctref07_Newest.calls _ A c l _ w hr hc (ref_newest_f l hl)
theorem ref_join_c (A : Option Addr) (c : Nat) (l : List ByteArray) (g : Int) (w : World) (hr : Kd.C Kd.string w A l.length l) (hc : l.length ≤ c) (hl : l.length ≤ 1000000) :
    Calls Tryd.prog 17 #[.slice A l.length c, .int .i64 g] w fun e w' => e = .returned (.string ⟨(joinL g l 0).toArray⟩) ∧ Below w.heap.size w w' := precinctref07_Join.calls _ A c l g _ w hr hc (ref_join_f l g hl)

theorem info9 : (Tryd.prog.info? 9).map (fun i => (i.zero, i.size, i.bytes)) = some (some (.string (⟨#[]⟩ : ByteArray)), 1, 16) := by kernel_rfl

set_option maxHeartbeats 8000000 in
set_option maxRecDepth 100000 in
theorem law (A0 : Option Addr) (c0 : Nat) (l0 : List ByteArray) (g : Int) (w : World) (hr0 : Kd.C Kd.string w A0 l0.length l0) (hc0 : l0.length ≤ c0) :
    Calls Tryd.prog 4 #[.slice A0 l0.length c0, .int .i64 g] w fun e w' => e = .returned (.bool true) ∧ Below w.heap.size w w' := by
  have hmin : (if 200 < (l0.length : Int) then 200 else (l0.length : Int)) = ((min l0.length 200 : Nat) : Int) := by split <;> omega
  obtain ⟨i0, hi, _, hsz, _⟩ := info_parts info9
  obtain ⟨hcut, hA, hC⟩ := print_take_of (P := Tryd.prog) Value.string (⟨#[]⟩ : ByteArray) 31 9 .i64 Tryd.underlying31 hi hsz A0 c0 l0 ((min l0.length 200 : Nat) : Int) (by omega) (by omega) hc0
  have hr1 := Kd.C_of_reads (h1 := fun _ => rfl) (hA w (Kd.reads_of_C hr0))
  rw [Int.toNat_natCast] at hcut hC hr1
  obtain ⟨l1, hl1⟩ : ∃ l1, l0.take (min l0.length 200) = l1 := ⟨_, rfl⟩
  rw [hl1] at hcut hC hr1
  have hlen : l1.length ≤ 1000000 := by rw [← hl1, List.length_take]; omega
  have HR := Lib.hid hr1
  clear hr1 hl1 hA hr0 hi hsz
  go_enter Tryd.func4, Tryd.ntmps4
  go_wp2_with fail
  refine (newest_c A0 c0 l1 _ HR.out hC hlen).mono ?_
  rintro e w1 ⟨rfl, hb1⟩
  have HR1 := Lib.hid (Kd.C_below HR.out hb1)
  go_wp2_with fail
  refine (Awk.wakes_any _).mono ?_
  rintro e w2 ⟨rfl, hb2⟩
  have HR2 := Lib.hid (Kd.C_below HR1.out hb2)
  go_wp2_with fail
  refine (join_any A0 c0 l1 g _ HR2.out hC hlen).mono ?_
  rintro e w3 ⟨rfl, hb3⟩
  have HR3 := Lib.hid (Kd.C_below HR2.out hb3)
  go_wp2_with fail
  refine (ref_join_c A0 c0 l1 g _ HR3.out hC hlen).mono ?_
  rintro e w4 ⟨rfl, hb4⟩
  have HR4 := Lib.hid (Kd.C_below HR3.out hb4)
  go_wp2_with fail
  refine (ref_newest_c A0 c0 l1 _ HR4.out hC hlen).mono ?_
  rintro e w5 ⟨rfl, hb5⟩
  have HR5 := Lib.hid (Kd.C_below HR4.out hb5)
  go_wp2_with fail
  refine (join_any A0 c0 l1 _ _ HR5.out hC hlen).mono ?_
  rintro e w6 ⟨rfl, hb6⟩
  have HR6 := Lib.hid (Kd.C_below HR5.out hb6)
  go_wp2_with fail
  refine (ref_join_c A0 c0 l1 _ _ HR6.out hC hlen).mono ?_
  rintro e w7 ⟨rfl, hb7⟩
  go_wp2_with fail
  refine bodyPost_ret (v := .bool true) (by simp [results, Tryd.results4, go_sem]) rfl ⟨rfl, ?_⟩
  exact hb1.trans ((hb2.trans ((hb3.trans ((hb4.trans ((hb5.trans ((hb6.trans (hb7.mono hb6.size)).mono hb5.size)).mono hb4.size)).mono hb3.size)).mono hb2.size)).mono hb1.size)

end Go.Proofs.YtekpbpcfeopilaaDoor.LawJo
