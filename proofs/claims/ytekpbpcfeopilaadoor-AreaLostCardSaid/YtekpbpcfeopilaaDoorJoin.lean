/- area.Join: what the data of sectors is, for every list of at most a million sectors; with a Builder of the call's own. -/
import Derived.Test.YtekpbpcfeopilaaDoorLawPa
import Derived.Test.YtekpbpcfeopilaaDoorBld
import Derived.Test.YtekpbpcfeopilaaDoorShelf
namespace Go.Proofs.YtekpbpcfeopilaaDoor.Join
open Go Go.RowKit Go.Proofs.YtekpbpcfeopilaaDoorCore Go.Proofs.YtekpbpcfeopilaaDoor.LawPa Go.Proofs.YtekpbpcfeopilaaDoor.Pars Go.Proofs.YtekpbpcfeopilaaDoor.Bld Go.Proofs.YtekpbpcfeopilaaDoorW.PrintWords Go.Proofs.YtekpbpcfeopilaaDoorW.PrintLast

/-- The data that sectors hold together, from the place i on. -/
def joinL (g : Int) : List ByteArray → Nat → List UInt8
  | [], _ => []
  | s :: r, i => if (parseS s).2.2.2 = true ∧ (parseS s).1 = g ∧ (parseS s).2.1 = (i : Int) then (if (parseS s).2.2.1.size < 55 then (parseS s).2.2.1.data.toList else (parseS s).2.2.1.data.toList ++ joinL g r (i + 1)) else []

theorem parse_size (s : ByteArray) : (parseS s).2.2.1.size ≤ 55 := by
  unfold parseS
  split
  · rename_i h
    simp only [isCell, Bool.and_eq_true, decide_eq_true_eq] at h
    simp only [ByteArray.size_extract]
    omega
  · exact Nat.zero_le 55

theorem joinL_at (g : Int) (l : List ByteArray) (k : Nat) (h : k < l.length) : joinL g (l.drop k) k = if (parseS l[k]).2.2.2 = true ∧ (parseS l[k]).1 = g ∧ (parseS l[k]).2.1 = (k : Int) then (if (parseS l[k]).2.2.1.size < 55 then (parseS l[k]).2.2.1.data.toList else (parseS l[k]).2.2.1.data.toList ++ joinL g (l.drop (k + 1)) (k + 1)) else [] := by
  rw [List.drop_eq_getElem_cons h, joinL]

/-- What holds at the head of a round: gk rounds are to come at most. -/
structure Inv (l0 : List ByteArray) (g : Int) (w : World) (gk : Nat) (v : Value) (wr : World) (k : Nat) (acc : List UInt8) : Prop where
  le : k ≤ l0.length
  slot : v = .int .i64 k
  ghost : gk + k = l0.length
  joined : joinL g l0 0 = acc ++ joinL g (l0.drop k) k
  short : acc.length ≤ 55 * k
  bld : Lib.IsBuilder 79 5 w.heap.size w.heap.size (Lib.byteCells acc) wr
  below : Below w.heap.size w wr
  size : w.heap.size ≤ wr.heap.size
def Rel (l0 : List ByteArray) (g : Int) (w : World) (gk : Nat) (v : Value) (wr : World) : Prop := ∃ k acc, Inv l0 g w gk v wr k acc

theorem str_cells (s : ByteArray) : Lib.strCells s = Lib.byteCells s.data.toList := by simp [Lib.strCells, Lib.byteCells]

theorem builder_kept {T e : TypeId} {B b : Nat} {bs : List Value} {w w1 : World} (h : Lib.IsBuilder T e B b bs w) (hb : Below w.heap.size w w1) : Lib.IsBuilder T e B b bs w1 := by
  have k : ∀ p, Lib.BuilderAt T e B b p bs w → Lib.BuilderAt T e B b p bs w1 := by
    rintro p ⟨h1, v, h2, h3, h4⟩
    exact ⟨h1, v, below_row hb (heap_lt h2) h2, pw_own_below h3 hb, h4⟩
  rcases h with h | h
  · exact Or.inl (k _ h)
  · exact Or.inr (k _ h)

theorem builder_lt {T e : TypeId} {B b : Nat} {bs : List Value} {w : World} (h : Lib.IsBuilder T e B b bs w) : b < w.heap.size := by
  rcases h with h | h
  · exact h.lt
  · exact h.lt

/-- The end: the Builder's String. -/
theorem string_end {l0 : List ByteArray} {g : Int} {w wr : World} {acc : List UInt8} (hj : joinL g l0 0 = acc) (hb : Lib.IsBuilder 79 5 w.heap.size w.heap.size (Lib.byteCells acc) wr) (hl : Below w.heap.size w wr) :
    Calls Tryd.prog 40 #[.pointer (some ⟨w.heap.size, 0, none⟩)] wr fun e w' => e = .returned (.string ⟨(joinL g l0 0).toArray⟩) ∧ Below w.heap.size w w' := by
  subst hj
  refine (Tryd.Builder_String_any w.heap.size w.heap.size _ wr hb hl.size).mono ?_
  rintro e w' ⟨rfl, h⟩
  exact ⟨rfl, hl.trans h⟩

set_option maxHeartbeats 8000000 in
set_option maxRecDepth 100000 in
theorem join_any (A0 : Option Addr) (c0 : Nat) (l0 : List ByteArray) (g : Int) (w : World) (hr0 : Kd.C Kd.string w A0 l0.length l0) (_hc0 : l0.length ≤ c0) (hl : l0.length ≤ 1000000) :
    Calls Tryd.prog 16 #[.slice A0 l0.length c0, .int .i64 g] w fun e w' => e = .returned (.string ⟨(joinL g l0 0).toArray⟩) ∧ Below w.heap.size w w' := by
  have HR0 := Lib.hid hr0
  clear hr0
  go_enter Tryd.func16, Tryd.ntmps16
  go_wp2
  go_loopg [12] l0.length (fun gk v wr => Rel l0 g w gk v wr)
  case atStart => exact ⟨0, [], ⟨Nat.zero_le _, rfl, by omega, by simp, by simp, Lib.fresh_isBuilder _ _ w, (Below.refl _ _).alloc (Nat.le_refl _) _, by simp⟩⟩
  case round =>
    obtain ⟨k, acc, ⟨hk, rfl, hg, hj, hs, hb, hbel, hsz⟩⟩ := hrel
    have HJ := Lib.hid hj
    have HG := Lib.hid hg
    have HB := Lib.hid hb
    have HW := Lib.hid hbel
    clear hj hg hb hbel
    by_cases hlt : k < l0.length
    · obtain ⟨ad, e, hx⟩ := Kd.at_string HR0.out (k : Int) (by omega) (by omega)
      cases e
      rw [Int.toNat_natCast] at hx
      replace hx := (HW.out.cell (World.block_lt_of_cell? w _ hx)).trans hx
      obtain ⟨s, hs0⟩ : ∃ s, rdOf ByteArray.empty l0 (k : Int) = s := ⟨_, rfl⟩
      have hs1 : l0[k] = s := by rw [← hs0]; simp [rdOf, hlt]
      rw [hs0] at hx
      have HS := Lib.hid hs1
      clear hs0 hs1
      have hp := parse_all s
      have hd := joinL_at g l0 k hlt
      rw [HS.out] at hd
      have h55 := parse_size s
      obtain ⟨⟨pg, pi, pd, pok⟩, hq⟩ : ∃ q, parseS s = q := ⟨_, rfl⟩
      rw [hq] at hd h55
      have HP : LawPa.ParseIs 12 s pg pi pd pok := by
        intro wx
        have := LawPa.parse_all s wx
        rw [hq] at this
        exact this
      clear hp hq
      have HD := Lib.hid hd
      clear hd
      simp only at h55 HD
      go_wp2_with fail
      refine (HP _).mono ?_
      rintro e w1 ⟨rfl, hb1⟩
      have HB1 := Lib.hid (builder_kept HB.out hb1)
      have HW1 := Lib.hid (HW.out.trans (hb1.mono hsz))
      have hsz1 : w.heap.size ≤ w1.heap.size := Nat.le_trans hsz hb1.size
      clear HB HW hb1 hx
      have fin : ∀ (wx : World) (o : Obj) (hn : joinL g (l0.drop k) k = []) , Calls Tryd.prog 40 #[.pointer (some ⟨w.heap.size, 0, none⟩)] (w1.alloc o) fun e w' => e = .returned (.string ⟨(joinL g l0 0).toArray⟩) ∧ Below w.heap.size w w' := fun _ o hn =>
        string_end (by rw [HJ.out, hn, List.append_nil]) (builder_kept HB1.out ((Below.refl _ _).alloc (Nat.le_refl _) o)) (HW1.out.alloc hsz1 o)
      have FIN := Lib.hid fin
      clear fin
      by_cases hok : pok = true ∧ pg = g ∧ pi = (k : Int)
      · obtain ⟨rfl, rfl, rfl⟩ := hok
        have HD2 : Hid (joinL pg (l0.drop k) k = if pd.size < 55 then pd.data.toList else pd.data.toList ++ joinL pg (l0.drop (k + 1)) (k + 1)) := by
          have := HD.out
          rw [if_pos ⟨rfl, rfl, rfl⟩] at this
          exact this
        clear HD FIN
        have hpl : pd.data.toList.length = pd.size := by simp
        go_wp2_with fail
        refine (write_any w.heap.size w.heap.size _ pd _ (builder_kept HB1.out ((Below.refl _ _).alloc (Nat.le_refl _) _)) (by rw [Lib.byteCells_length]; omega) (by simp; omega)).mono ?_
        rintro e w3 ⟨rfl, hb3, hl3, hw3⟩
        have hc3 : ∀ j, w3.cell? ⟨w1.heap.size, j, none⟩ = (#[Value.int .i64 pg, .int .i64 k, .string pd])[j]? := by
          intro j
          have := hw3.block w1.heap.size _ (heap_alloc_new w1 _) (by have := builder_lt HB1.out; omega) (by intro cur fr e; simp at e)
          unfold World.cell?
          rw [this]
          simp
        have HB3 : Hid (Lib.IsBuilder 79 5 w.heap.size w.heap.size (Lib.byteCells (acc ++ pd.data.toList)) w3) := by
          have := hb3
          rw [str_cells] at this
          show Lib.IsBuilder _ _ _ _ _ _
          simpa [Lib.byteCells] using this
        have HL3 := Lib.hid ((HW1.out.alloc hsz1 (.cells #[.int .i64 pg, .int .i64 k, .string pd] 23)).trans hl3)
        have hsz3 : w.heap.size ≤ w3.heap.size := by have := hw3.size; simp at this; omega
        clear hb3 hl3 hw3 HB1 HW1
        by_cases h5 : pd.size < 55
        · have HN : Hid (joinL pg l0 0 = acc ++ pd.data.toList) := by
            have := HD2.out
            rw [if_pos h5] at this
            show _ = _
            rw [HJ.out, this]
          clear HD2
          go_wp2_with fail
          refine (string_end HN.out HB3.out HL3.out).mono ?_
          rintro e w4 ⟨rfl, hb4⟩
          go_wp2_with fail
          go_ret
          exact ⟨rfl, hb4⟩
        · have HN : Hid (joinL pg l0 0 = acc ++ pd.data.toList ++ joinL pg (l0.drop (k + 1)) (k + 1)) := by
            have := HD2.out
            rw [if_neg h5] at this
            show _ = _
            rw [HJ.out, this, List.append_assoc]
          clear HD2
          go_wp2_with fail
          go_roundg (gk - 1)
          case measure => have := HG.out; omega
          case rel => exact ⟨k + 1, acc ++ pd.data.toList, ⟨by omega, by go_num, by have := HG.out; omega, HN.out, by rw [List.length_append, hpl]; omega, HB3.out, HL3.out, hsz3⟩⟩
      · have hn : joinL g (l0.drop k) k = [] := by rw [HD.out]; exact if_neg hok
        have HN := Lib.hid hn
        clear hn
        by_cases hp1 : pok = true
        · subst hp1
          by_cases hp2 : pg = g
          · subst hp2
            have hp3 : (pi != (k : Int)) = true := by
              rw [bne_iff_ne]; intro e; exact hok ⟨rfl, rfl, e⟩
            clear hok
            go_wp2_with fail
            refine (FIN.out w1 _ HN.out).mono ?_
            rintro e w3 ⟨rfl, hb3⟩
            go_wp2_with fail
            go_ret
            exact ⟨rfl, hb3⟩
          · have hp3 : (pg != g) = true := by rw [bne_iff_ne]; exact hp2
            clear hok hp2
            go_wp2_with fail
            all_goals
              refine (FIN.out w1 _ HN.out).mono ?_
              rintro e w3 ⟨rfl, hb3⟩
              go_wp2_with fail
              go_ret
              exact ⟨rfl, hb3⟩
        · obtain rfl : pok = false := by simpa using hp1
          clear hok hp1
          go_wp2_with fail
          refine (FIN.out w1 _ HN.out).mono ?_
          rintro e w3 ⟨rfl, hb3⟩
          go_wp2_with fail
          go_ret
          exact ⟨rfl, hb3⟩
    · have hn : joinL g (l0.drop k) k = [] := by rw [List.drop_eq_nil_of_le (by omega)]; rfl
      have HN : Hid (joinL g l0 0 = acc) := by
        show _ = _
        rw [HJ.out, hn, List.append_nil]
      clear hn
      go_wp2_with fail
      refine (string_end HN.out HB.out HW.out).mono ?_
      rintro e w4 ⟨rfl, hb4⟩
      go_wp2_with fail
      go_ret
      exact ⟨rfl, hb4⟩

end Go.Proofs.YtekpbpcfeopilaaDoor.Join
