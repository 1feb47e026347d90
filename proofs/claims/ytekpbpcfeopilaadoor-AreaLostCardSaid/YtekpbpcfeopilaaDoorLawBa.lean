/- AreaBack: the law's walk, for every generation, data and what stands behind. -/
import Derived.Test.YtekpbpcfeopilaaDoorBack
import Derived.Test.YtekpbpcfeopilaaDoorLawJo
namespace Go.Proofs.YtekpbpcfeopilaaDoor.LawBa
open Go Go.RowKit Go.Proofs.YtekpbpcfeopilaaDoorCore Go.Proofs.YtekpbpcfeopilaaDoor.Pars Go.Proofs.YtekpbpcfeopilaaDoor.LawPa Go.Proofs.YtekpbpcfeopilaaDoor.Join Go.Proofs.YtekpbpcfeopilaaDoor.Areas Go.Proofs.YtekpbpcfeopilaaDoor.Back Go.Proofs.YtekpbpcfeopilaaDoor.LawJo Go.Proofs.YtekpbpcfeopilaaDoor.PAreas Go.Proofs.YtekpbpcfeopilaaDoorW.PrintWords Go.Proofs.YtekpbpcfeopilaaDoorW.PrintLast Go.Proofs.YtekpbpcfeopilaaDoorW.PrintMore
attribute [local go_sem] max2_int min2_int max_two min_two max_three min_three max_four min_four   -- for this text's walks alone

/-- What the loop over the sectors keeps. -/
structure Inv (L : List ByteArray) (w0 : World) (base : Nat) (A : Option Addr) (c : Nat) (gk : Nat) (v : Value) (wr : World) (k : Nat) : Prop where
  le : k ≤ L.length
  slot : v = .int .i64 k
  ghost : gk + k = L.length
  row : Kd.R Kd.string 9 wr base (fun _ => True) (.slice A L.length c) L
  below : Below w0.heap.size w0 wr
  size : base ≤ wr.heap.size
def Rel (L : List ByteArray) (w0 : World) (base : Nat) (A : Option Addr) (c : Nat) (gk : Nat) (v : Value) (wr : World) : Prop := ∃ k, Inv L w0 base A c gk v wr k

theorem split_c (g : Int) (x : ByteArray) (w : World) (hg1 : 1 ≤ g) (hg2 : g ≤ 281474976710655) (hx : x.size ≤ 20000) :
    Calls Tryd.prog 19 #[.int .i64 g, .int .i64 0, .string x] w fun e w' => ∃ (A : Option Addr) (c : Nat), e = .returned (.tuple #[.slice A (x.size / 55 + 1) c, .int .i64 0]) ∧
      Kd.R Kd.string 9 w' w.heap.size (fun _ => True) (.slice A (splitL g (x.size / 55 + 1) 0 x).length c) (splitL g (x.size / 55 + 1) 0 x) ∧ Below w.heap.size w w' ∧ x.size / 55 + 1 ≤ c := by
  have hs : splitS g 0 x = (splitL g (x.size / 55 + 1) 0 x, 0) := by
    unfold splitS
    rw [if_pos (by simp only [Amk.goodB, decide_eq_true_eq]; omega), if_neg (by omega)]
  have h := split_f g 0 x hx
  rw [hs] at h
  refine (area_Split.calls 1000 g 0 x _ _ w h).mono ?_
  rintro e w' ⟨v, rfl, hR, hb⟩
  obtain ⟨A, c, rfl, hc, _⟩ := Kd.R_reads hR
  have hl := splitL_len g (x.size / 55 + 1) 0 x (by omega)
  refine ⟨A, c, by rw [hl], hR, hb, by omega⟩

set_option maxHeartbeats 8000000 in
set_option maxRecDepth 100000 in
theorem law (gen : Int) (data : ByteArray) (A2 : Option Addr) (c2 : Nat) (l2 : List ByteArray) (w : World) (hr2 : Kd.C Kd.string w A2 l2.length l2) (hc2 : l2.length ≤ c2) :
    Calls Tryd.prog 5 #[.int .i64 gen, .string data, .slice A2 l2.length c2] w fun e w' => e = .returned (.bool true) ∧ Below w.heap.size w w' := by
  obtain ⟨a, ha⟩ : ∃ a : Int, (if 281474976710655 < gen then 281474976710655 else gen) = a := ⟨_, rfl⟩
  obtain ⟨g, hg⟩ : ∃ g : Int, (if 1 < a then a else 1) = g := ⟨_, rfl⟩
  have hg1 : 1 ≤ g := by rw [← hg]; split <;> omega
  have hg2 : g ≤ 281474976710655 := by rw [← hg, ← ha]; (repeat' split) <;> omega
  have hmin : (if 20000 < (data.size : Int) then 20000 else (data.size : Int)) = ((min data.size 20000 : Nat) : Int) := by split <;> omega
  have hmin2 : (if 50 < (l2.length : Int) then 50 else (l2.length : Int)) = ((min l2.length 50 : Nat) : Int) := by split <;> omega
  obtain ⟨i0, hi, _, hsz, _⟩ := info_parts LawJo.info9
  obtain ⟨hcut, hA, hC⟩ := print_take_of (P := Tryd.prog) Value.string (⟨#[]⟩ : ByteArray) 31 9 .i64 Tryd.underlying31 hi hsz A2 c2 l2 ((min l2.length 50 : Nat) : Int) (by omega) (by omega) hc2
  have hr3 := Kd.C_of_reads (h1 := fun _ => rfl) (hA w (Kd.reads_of_C hr2))
  rw [Int.toNat_natCast] at hcut hC hr3
  obtain ⟨l3, hl3⟩ : ∃ l3, l2.take (min l2.length 50) = l3 := ⟨_, rfl⟩
  rw [hl3] at hcut hC hr3
  have hlen3 : l3.length ≤ 50 := by rw [← hl3, List.length_take]; omega
  have HRB := Lib.hid hr3
  have HCUT := Lib.hid hcut
  have HM3 : Hid (min l2.length 50 = l3.length) := by show _ = _; rw [← hl3, List.length_take]; omega
  clear hr3 hl3 hA hr2 hi hsz hcut
  go_enter Tryd.func5, Tryd.ntmps5
  go_wp2_with fail
  have hx : (data.extract 0 (min data.size 20000)).size ≤ 20000 := by rw [ByteArray.size_extract]; omega
  generalize data.extract 0 (min data.size 20000) = x at hx ⊢
  refine (split_c g x _ hg1 hg2 hx).mono ?_
  rintro e w1 ⟨A, c, rfl, hR1, hb1, hc1⟩
  have HR1 := Lib.hid hR1
  have HB1 := Lib.hid hb1
  have hsz1 := hb1.size
  have hL0 := splitL_len g (x.size / 55 + 1) 0 x (by omega)
  have HNEW := Lib.hid (newL_split g hg1 hg2 x (by omega))
  have HPARSE := Lib.hid (splitL_parse g hg1 hg2 (x.size / 55 + 1) 0 x (by omega) (by omega) (by omega))
  have hjoin : joinL g (splitL g (x.size / 55 + 1) 0 x ++ l3) 0 = x.data.toList := join_split g hg1 hg2 (x.size / 55 + 1) 0 x l3 (by omega) (by omega)
  have HJOIN := Lib.hid hjoin
  generalize splitL g (x.size / 55 + 1) 0 x = L at hR1 HR1 hL0 HNEW HPARSE HJOIN
  clear hR1 hb1 hmin ha hg hjoin
  have HL0 := Lib.hid hL0
  have hLb : L.length ≤ 400 := by rw [hL0]; omega
  clear hL0
  go_wp2_with fail
  refine (Awk.wakes_any _).mono ?_
  rintro e w2 ⟨rfl, hb2⟩
  have HR2 := Lib.hid (Kd.R_below HR1.out hb2)
  have HB2 := Lib.hid (HB1.out.trans (hb2.mono hsz1))
  have hsz2 : w.heap.size ≤ w2.heap.size := Nat.le_trans hsz1 hb2.size
  clear hb2 HR1 HB1 hsz1
  go_wp2_with fail
  have hnew : Calls Tryd.prog 15 #[.slice A (x.size / 55 + 1) c] w2 fun e w' => e = .returned (.int .i64 g) ∧ Below w2.heap.size w2 w' := by
    obtain ⟨A', c', e, _, hC'⟩ := Kd.R_reads HR2.out
    simp only [Value.slice.injEq, true_and] at e
    obtain ⟨rfl, rfl⟩ := e
    have := newest_c A c L w2 hC' (by rw [HL0.out]; exact hc1) (by omega)
    rwa [HNEW.out, HL0.out] at this
  refine hnew.mono ?_
  rintro e w3 ⟨rfl, hb3⟩
  have HR3 := Lib.hid (Kd.R_below HR2.out hb3)
  have HB3 := Lib.hid (HB2.out.trans (hb3.mono hsz2))
  have hsz3 : w.heap.size ≤ w3.heap.size := Nat.le_trans hsz2 hb3.size
  clear hb3 HR2 HB2 hsz2 hnew
  go_wp2_with fail
  have hbase : w.heap.size ≤ w.heap.size := Nat.le_refl _
  go_loopg [50] L.length (fun gk v wr => Rel L w w.heap.size A c gk v wr)
  case atStart => exact ⟨0, ⟨Nat.zero_le _, rfl, by omega, HR3.out, HB3.out, hsz3⟩⟩
  case round =>
    obtain ⟨k, ⟨hk, rfl, hg, hr, hb, hsz⟩⟩ := hrel
    have HG := Lib.hid hg
    have HRR := Lib.hid hr
    have HB := Lib.hid hb
    clear hg hr hb
    by_cases hlt : k < L.length
    · have hcell : ∃ ad, A = some ad ∧ wr.cell? (ad.add k) = some (.string (rdOf ByteArray.empty L (k : Int))) := by
        obtain ⟨A', c', e, _, hC'⟩ := Kd.R_reads HRR.out
        simp only [Value.slice.injEq, true_and] at e
        obtain ⟨rfl, rfl⟩ := e
        obtain ⟨ad, e, hx⟩ := Kd.at_string hC' (k : Int) (by omega) (by omega)
        rw [Int.toNat_natCast] at hx
        exact ⟨ad, e, hx⟩
      obtain ⟨ad, rfl, hx⟩ := hcell
      obtain ⟨s, hs0⟩ : ∃ s, rdOf ByteArray.empty L (k : Int) = s := ⟨_, rfl⟩
      have hs1 : L[k]? = some s := by rw [← hs0]; simp [rdOf, hlt]
      rw [hs0] at hx
      clear hs0
      have hk55 : k ≤ x.size / 55 := by have := HL0.out; omega
      have hps := HPARSE.out k hk55 s hs1
      rw [Int.zero_add] at hps
      have HP : LawPa.ParseIs 12 s g k (chunk x k) true := by
        intro wx
        have := LawPa.parse_all s wx
        rw [hps] at this
        exact this
      clear hps hs1
      have hlen1 := HL0.out
      go_wp2_with fail
      refine (HP _).mono ?_
      rintro e w4 ⟨rfl, hb4⟩
      have HRR4 := Lib.hid (Kd.R_below HRR.out hb4)
      have HB4 := Lib.hid (HB.out.trans (hb4.mono hsz))
      have hsz4 : w.heap.size ≤ w4.heap.size := Nat.le_trans hsz hb4.size
      clear HRR HB hb4
      have hxs : (x.size : Int) ≤ 20000 := by omega
      go_wp2_with fail
      have hc4 : ∀ j, (w4.alloc (.cells #[Value.int .i64 g, .int .i64 k, .string (chunk x k)] 23)).cell? ⟨w4.heap.size, j, none⟩ = (#[Value.int .i64 g, .int .i64 k, .string (chunk x k)])[j]? := by
        intro j
        unfold World.cell?
        rw [heap_alloc_new]
        simp
      obtain ⟨p, hp⟩ : ∃ p, 55 * k = p := ⟨_, rfl⟩
      obtain ⟨q, hq⟩ : ∃ q, min x.size (55 * (k + 1)) = q := ⟨_, rfl⟩
      have e1 : (k : Int) * 55 = (p : Int) := by omega
      have e2 : (if (x.size : Int) < (k + 1 : Int) * 55 then (x.size : Int) else (k + 1 : Int) * 55) = (q : Int) := by split <;> omega
      have e3 : (if (k + 1 : Int) * 55 < (x.size : Int) then (k + 1 : Int) * 55 else (x.size : Int)) = (q : Int) := by split <;> omega
      have e4 : x.extract p q = chunk x k := by subst hp hq; rfl
      have e7 : p ≤ q := by omega
      have e8 : q ≤ x.size := by omega
      have e9 : (p : Int) ≤ (q : Int) := by omega
      have e10 : (q : Int) ≤ (x.size : Int) := by omega
      clear hp hq
      go_quiet (fail)
      clear e1 e2 e3 e4 e7 e8 e9 e10
      go_wp2_with fail
      go_roundg (gk - 1)
      case measure => have := HG.out; omega
      case rel => exact ⟨k + 1, ⟨by omega, by go_num, by have := HG.out; omega, Kd.R_below HRR4.out (((Below.refl _ _).alloc (Nat.le_refl _) _).trans (below_drewN _)), (HB4.out.alloc hsz4 _).trans (below_drewN _), by simp; omega⟩⟩
    · have hk2 : k = L.length := by omega
      subst hk2
      have hlen1 := HL0.out
      have hC2 := Kd.C_below HRB.out HB.out
      have hO := HRR.out
      rw [hlen1] at hO
      have HO := Lib.hid hO
      have HC2 := Lib.hid hC2
      clear hO hC2
      have hm3 : min l2.length 50 = l3.length := HM3.out
      go_wp2_with (first | ((with_reducible refine gate_builtin (b := .append) (xs := #[.tmp 90, .tmp 95]) rfl ?_); at_builtin; refine Kd.R_append_row Value.string (⟨#[]⟩ : ByteArray) (w0 := w) w.heap.size rfl (.tmp 90) (.tmp 95) 31 9 (.string ⟨#[]⟩) 16 rfl Tryd.underlying31 LawJo.info9 rfl (by decide) (.slice A (x.size / 55 + 1) c) L l3 A2 l3.length c2 (fun _ => True) rfl rfl (fun _ _ => trivial) HO.out HC2.out HB.out hsz (by rw [HL0.out]; omega) ?_; intro v1 w5 ho hb hg hat; have HO5 := Lib.hid ho; have HB5 := Lib.hid hb; clear ho hb hg hat))
      obtain ⟨A5, c5, e5, hc5, hC5⟩ := Kd.R_reads HO5.out
      have hl5 : (L ++ l3).length ≤ 1000000 := by rw [List.length_append]; omega
      have hj := join_any A5 c5 (L ++ l3) g _ hC5 hc5 hl5
      rw [HJOIN.out, ← e5] at hj
      have ex : (⟨x.data.toList.toArray⟩ : ByteArray) = x := by simp
      rw [ex] at hj
      clear hC5 hc5 e5 hl5 ex
      refine hj.mono ?_
      rintro e w6 ⟨rfl, hb6⟩
      clear hj
      go_wp2_with fail
      refine bodyPost_ret (v := .bool true) (by simp [results, Tryd.results5, go_sem]) rfl ⟨rfl, ?_⟩
      exact HB5.out.trans (hb6.mono HB5.out.size)

end Go.Proofs.YtekpbpcfeopilaaDoor.LawBa
