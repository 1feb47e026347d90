/- The program's Make of a cell: the contract of the function, for every cell. -/
import Derived.Test.YtekpbpcfeopilaaDoorCore
import Derived.Test.YtekpbpcfeopilaaDoorPuts
namespace Go.Proofs.YtekpbpcfeopilaaDoor.Amk
open Go Go.RowKit Go.Proofs.YtekpbpcfeopilaaDoorCore Go.Proofs.YtekpbpcfeopilaaDoor.Puts Go.Proofs.YtekpbpcfeopilaaDoor.PLeaf Go.Proofs.YtekpbpcfeopilaaDoorW.PrintWords Go.Proofs.YtekpbpcfeopilaaDoorW.PrintLast Go.Proofs.YtekpbpcfeopilaaDoorW.PrintMore

/-- What a cell's bytes are, ahead of the noughts. -/
def cellL (g i : Int) (d : ByteArray) : List UInt8 := beL 6 g.toNat ++ beL 2 i.toNat ++ beL 1 d.size ++ d.data.toList
def zerosV : List Value := bcells (List.replicate 64 0)
/-- The block of the array: noughts, or what is laid over them. -/
def Arr (t : List UInt8) (cur : Array Value) : Prop := cur.size = 64 ∧ bcells t ++ cur.toList.drop t.length = bcells t ++ zerosV.drop t.length
structure SArr (B : Nat) (w0 : World) (t : List UInt8) (w' : World) : Prop where
  row : ∃ cur, w'.heap[B + 1]? = some (.cells cur 86 (0, 0)) ∧ Arr t cur
  below : Below B w0 w'
  size : B + 2 ≤ w'.heap.size
/-- What stands in memory while the bytes are laid. -/
structure SAll (B : Nat) (w0 : World) (g i : Int) (d : ByteArray) (t : List UInt8) (w' : World) : Prop where
  c0 : w'.cell? ⟨B, 0, none⟩ = some (.int .i64 g)
  c1 : w'.cell? ⟨B, 1, none⟩ = some (.int .i64 i)
  c2 : w'.cell? ⟨B, 2, none⟩ = some (.string d)
  arr : SArr B w0 t w'

theorem sall_keep {B : Nat} {w0 w1 w2 : World} {g i : Int} {d : ByteArray} {t : List UInt8} (h : SAll B w0 g i d t w1) (hb : Below w1.heap.size w1 w2) : SAll B w0 g i d t w2 := by
  obtain ⟨c0, c1, c2, ⟨⟨cur, h1, h2⟩, h3, h4⟩⟩ := h
  exact ⟨below_cellB hb (by simp; omega) c0, below_cellB hb (by simp; omega) c1, below_cellB hb (by simp; omega) c2, ⟨cur, below_row hb (by omega) h1, h2⟩, below_to h3 hb (by omega), Nat.le_trans h4 hb.size⟩
theorem cellL_T {g i : Int} {d T : ByteArray} (HT : Hid (T = be 6 g.toNat ++ be 2 i.toNat ++ be 1 d.size ++ d)) : T.data.toList = cellL g i d := by
  rw [HT.out]
  simp [be, cellL]
theorem sall_set {B : Nat} {w0 w1 : World} {g i : Int} {d T : ByteArray} {cur : Array Value} (h : SAll B w0 g i d (cellL g i d) w1) (HT : Hid (T = be 6 g.toNat ++ be 2 i.toNat ++ be 1 d.size ++ d)) (hlen : d.size ≤ 55)
    (hcur : w1.heap[B + 1]? = some (.cells cur 86 (0, 0))) (harr : Arr (cellL g i d) cur) :
    SAll B w0 g i d (cellL g i d) (w1.setRow (B + 1) (cur.toList.take 0 ++ bcells T.data.toList ++ cur.toList.drop (0 + T.size)).toArray) := by
  have hT := cellL_T HT
  have hlen2 : (cellL g i d).length = 9 + d.size := by simp [cellL, beL_length]; omega
  have hTs : T.size = (cellL g i d).length := by rw [← hT]; simp
  obtain ⟨c0, c1, c2, ⟨_, h3, h4⟩⟩ := h
  obtain ⟨a1, a2⟩ := harr
  refine ⟨by rw [cell_setRow_other _ _ _ _ (by simp)]; exact c0, by rw [cell_setRow_other _ _ _ _ (by simp)]; exact c1, by rw [cell_setRow_other _ _ _ _ (by simp)]; exact c2, ⟨⟨_, setRow_heap _ _ _ _ _ _ hcur, ?_⟩, below_setRow h3 (by omega) _, by simpa [World.setRow] using h4⟩⟩
  rw [hT, hTs]
  have e : cur.toList.length = 64 := by simpa using a1
  constructor
  · simp [bcells_length, e]; omega
  · simp only [List.take_zero, List.nil_append, Nat.zero_add]
    rw [List.drop_append_of_le_length (by rw [bcells_length]; exact Nat.le_refl _), List.drop_of_length_le (by rw [bcells_length]; exact Nat.le_refl _), List.nil_append]
    exact a2
theorem sall_start {w : World} {g i : Int} {d : ByteArray} {n : Nat} (_hlen : d.size ≤ 55) :
    SAll w.heap.size w g i d (cellL g i d) (((w.alloc (.cells #[.int .i64 g, .int .i64 i, .string d] 23)).drewN n).alloc (.cells zerosV.toArray 86)) := by
  have hz : zerosV.toArray.size = 64 := by simp [zerosV, bcells]
  refine ⟨?_, ?_, ?_, ⟨⟨zerosV.toArray, ?_, ?_, rfl⟩, ?_, ?_⟩⟩
  · rw [World.cell?_alloc_lt _ _ _ (by simp)]; simp [go_sem]
  · rw [World.cell?_alloc_lt _ _ _ (by simp)]; simp [go_sem]
  · rw [World.cell?_alloc_lt _ _ _ (by simp)]; simp [go_sem]
  · have := heap_alloc_new ((w.alloc (.cells #[.int .i64 g, .int .i64 i, .string d] 23)).drewN n) (.cells zerosV.toArray 86)
    simpa using this
  · exact hz
  · exact (((Below.refl _ _).alloc (Nat.le_refl _) _).trans (below_drewN n)).alloc (by simp) _
  · simp
theorem sall_drew {B : Nat} {w0 w1 : World} {g i : Int} {d : ByteArray} {t : List UInt8} (h : SAll B w0 g i d t w1) : SAll B w0 g i d t w1.drew := sall_keep h (Below.refl _ _).drew
/-- The same, as the region's walk wants it. -/
theorem lay {B : Nat} {w0 w1 : World} {g i : Int} {d : ByteArray} {t : List UInt8} (h : SAll B w0 g i d t w1) :
    w1.cell? ⟨B, 0, none⟩ = some (.int .i64 g) ∧ w1.cell? ⟨B, 1, none⟩ = some (.int .i64 i) ∧ w1.cell? ⟨B, 2, none⟩ = some (.string d) ∧ SArr B w0 t w1 := ⟨h.c0, h.c1, h.c2, h.arr⟩
theorem unlay {B : Nat} {w0 w1 : World} {g i : Int} {d : ByteArray} {t : List UInt8} (h : w1.cell? ⟨B, 0, none⟩ = some (.int .i64 g) ∧ w1.cell? ⟨B, 1, none⟩ = some (.int .i64 i) ∧ w1.cell? ⟨B, 2, none⟩ = some (.string d) ∧ SArr B w0 t w1) : SAll B w0 g i d t w1 := ⟨h.1, h.2.1, h.2.2.1, h.2.2.2⟩

/-- 'string(b[:])' behind the copy. -/
theorem conv_make {B : Nat} {w1 : World} {g i : Int} {d T : ByteArray} {cur : Array Value} (hcur : w1.heap[B + 1]? = some (.cells cur 86 (0, 0))) (harr : Arr (cellL g i d) cur)
    (HT : Hid (T = be 6 g.toNat ++ be 2 i.toNat ++ be 1 d.size ++ d)) (hlen : d.size ≤ 55) :
    (convert 77 9 (.slice (some ⟨B + 1, 0, none⟩) 64 64)).run Tryd.prog (w1.setRow (B + 1) (bcells T.data.toList ++ List.drop T.size cur.toList).toArray) =
      .ok (.string ⟨(cellL g i d ++ List.replicate (64 - (cellL g i d).length) 0).toArray⟩) (w1.setRow (B + 1) (bcells T.data.toList ++ List.drop T.size cur.toList).toArray) := by
  have hT := cellL_T HT
  have hlen2 : (cellL g i d).length = 9 + d.size := by simp [cellL, beL_length]; omega
  have hTs : T.size = (cellL g i d).length := by rw [← hT]; simp
  have hL : (cellL g i d ++ List.replicate (64 - (cellL g i d).length) 0).length = 64 := by rw [List.length_append, List.length_replicate]; omega
  have hrow : (bcells T.data.toList ++ List.drop T.size cur.toList).toArray = (bcells (cellL g i d ++ List.replicate (64 - (cellL g i d).length) 0)).toArray := by
    rw [hT, hTs, harr.2]
    simp only [bcells, zerosV, List.map_append, List.map_replicate, List.drop_replicate]
  have h := Go.run_convert_bytes_back (P := Tryd.prog) (w1.setRow (B + 1) (bcells T.data.toList ++ List.drop T.size cur.toList).toArray) 77 9 5 ⟨B + 1, 0, none⟩ 64 (cellL g i d ++ List.replicate (64 - (cellL g i d).length) 0) Tryd.underlying77 Tryd.underlying5 Tryd.underlying9 (fun j hj => by
    rw [hrow, Addr.add_plain0, cell_setRow_same (hg := hcur)]
    simpa using bcells_get _ j hj)
  rw [hL] at h
  exact h

set_option maxHeartbeats 4000000 in
set_option maxRecDepth 100000 in
theorem make_any (g i : Int) (d : ByteArray) (w : World) (hgood : area_good.f g i = some true) (hg0 : 1 ≤ g) (hg1 : g ≤ 281474976710655) (hi0 : 0 ≤ i) (hi1 : i ≤ 65535) (hlen : d.size ≤ 55) :
    Calls Tryd.prog 20 #[.agg #[.int .i64 g, .int .i64 i, .string d]] w fun e w' => e = .returned (.tuple #[.string ⟨(cellL g i d ++ List.replicate (64 - (cellL g i d).length) 0).toArray⟩, .int .i64 0]) ∧ Below w.heap.size w w' := by
  have hl : decide (55 < (d.size : Int)) = false := by simp; omega
  have Hgood := Lib.hid hgood
  clear hgood
  go_enter Tryd.func20, Tryd.ntmps20
  go_wp2_with (first | (go_at_call 41; refine (area_good.calls g i true _ Hgood.out).mono ?_; rintro e w4 ⟨rfl, ⟨⟨n, rfl⟩⟩⟩))
  refine wp_abs (SAll w.heap.size w g i d (cellL g i d)) ?_ ?_
  · exact sall_start hlen
  rintro W h0
  have hbe := be_size
  have hb9 : (9223372036854775807 < 9 + d.size) = False := by simp only [eq_iff_iff, iff_false]; omega
  obtain ⟨T, hT⟩ : ∃ T, T = be 6 g.toNat ++ be 2 i.toNat ++ be 1 d.size ++ d := ⟨_, rfl⟩
  have hTs : T.size = 9 + d.size := by rw [hT]; simp [be_size]
  have HT := Lib.hid hT
  have HTs := Lib.hid hTs
  clear hT hTs
  have Hw : Hid (g.toNat = (IntKind.u64.wrap g).toNat ∧ i.toNat = (IntKind.u64.wrap i).toNat ∧ be 1 d.size = be 1 (IntKind.u64.wrap (d.size : Int)).toNat) := by
    rw [IntWalk.u64_in g ⟨by omega, by omega⟩, IntWalk.u64_in i ⟨by omega, by omega⟩, IntWalk.u64_in (d.size : Int) ⟨by omega, by omega⟩]
    exact ⟨rfl, rfl, rfl⟩
  go_region_held3 (fun w' => w'.cell? ⟨w.heap.size, 0, none⟩ = some (.int .i64 g) ∧ w'.cell? ⟨w.heap.size, 1, none⟩ = some (.int .i64 i) ∧ w'.cell? ⟨w.heap.size, 2, none⟩ = some (.string d) ∧ SArr w.heap.size w (cellL g i d) w')
    (first | exact lay (sall_drew h0) | (assumption) | (exact lay (sall_set (unlay ‹_ ∧ _ ∧ _ ∧ SArr _ _ _ _›) HT hlen ‹_› ‹_›)) | (exact lay (sall_keep (unlay ‹_ ∧ _ ∧ _ ∧ SArr _ _ _ _›) ‹Below _ _ _›)) | (go_show; fail))
    (first | (go_at_call 42; refine (put_at _ _ _ (by omega) (by omega) ?_ ?_).mono ?_; exact (u64_bd _).1; exact (u64_bd _).2; rintro e w5 ⟨rfl, hb⟩) | (obtain ⟨cur, hcur, harr⟩ := (unlay ‹_ ∧ _ ∧ _ ∧ SArr _ _ _ _›).arr.row; refine step_copy_str rfl (.tmp 17) (.tmp 35) 77 9 rfl 5 Tryd.underlying77 (by kernel_rfl) (w.heap.size + 1) 0 64 64 rfl T (by rw [HT.out, Hw.out.1, Hw.out.2.1, Hw.out.2.2]; rfl) (by rw [HTs.out]; omega) cur 86 hcur (by rw [HTs.out, harr.1]; omega) ?_))
  have hbel := (unlay ‹_ ∧ _ ∧ _ ∧ SArr _ _ _ _›).arr.below
  simp only [List.take_zero, List.nil_append, Nat.zero_add] at hbel
  have Hbel := Lib.hid hbel
  clear hbel
  have hconv := conv_make hcur harr HT hlen
  go_wp2_with fail
  go_ret2
  exact ⟨rfl, Hbel.out⟩

set_option maxHeartbeats 4000000 in
theorem make_bad (g i : Int) (d : ByteArray) (w : World) (hgood : area_good.f g i = some false) :
    Calls Tryd.prog 20 #[.agg #[.int .i64 g, .int .i64 i, .string d]] w fun e w' => e = .returned (.tuple #[.string ⟨#[]⟩, .int .i64 2]) ∧ Below w.heap.size w w' := by
  have Hgood := Lib.hid hgood
  clear hgood
  go_enter Tryd.func20, Tryd.ntmps20
  go_wp2_with (first | (go_at_call 41; refine (area_good.calls g i false _ Hgood.out).mono ?_; rintro e w4 ⟨rfl, ⟨⟨n, rfl⟩⟩⟩))
  go_ret2
  exact ⟨rfl, ((Below.refl _ _).alloc (Nat.le_refl _) _).trans (below_drewN n)⟩

set_option maxHeartbeats 4000000 in
theorem make_long (g i : Int) (d : ByteArray) (w : World) (hgood : area_good.f g i = some true) (hlen : 55 < d.size) :
    Calls Tryd.prog 20 #[.agg #[.int .i64 g, .int .i64 i, .string d]] w fun e w' => e = .returned (.tuple #[.string ⟨#[]⟩, .int .i64 5]) ∧ Below w.heap.size w w' := by
  have hl : decide (55 < (d.size : Int)) = true := by simp; omega
  have Hgood := Lib.hid hgood
  clear hgood
  go_enter Tryd.func20, Tryd.ntmps20
  go_wp2_with (first | (go_at_call 41; refine (area_good.calls g i true _ Hgood.out).mono ?_; rintro e w4 ⟨rfl, ⟨⟨n, rfl⟩⟩⟩))
  go_ret2
  exact ⟨rfl, ((Below.refl _ _).alloc (Nat.le_refl _) _).trans (below_drewN n)⟩

/-- What Make answers. -/
def goodB (g i : Int) : Bool := decide (1 ≤ g ∧ g ≤ 281474976710655 ∧ 0 ≤ i ∧ i ≤ 65535)
def cellS (g i : Int) (d : ByteArray) : ByteArray := ⟨(cellL g i d ++ List.replicate (64 - (cellL g i d).length) 0).toArray⟩
def makeS (g i : Int) (d : ByteArray) : ByteArray := if goodB g i = true then (if 55 < d.size then ⟨#[]⟩ else cellS g i d) else ⟨#[]⟩
def makeE (g i : Int) (d : ByteArray) : Int := if goodB g i = true then (if 55 < d.size then 5 else 0) else 2

theorem good_true {g i : Int} (h : goodB g i = true) : area_good.f g i = some true ∧ 1 ≤ g ∧ g ≤ 281474976710655 ∧ 0 ≤ i ∧ i ≤ 65535 := by
  simp only [goodB, decide_eq_true_eq] at h
  refine ⟨?_, h⟩
  unfold area_good.f
  rw [if_pos (by omega), if_pos (by omega), if_pos (by omega)]
  simp; omega
theorem good_false {g i : Int} (h : ¬ goodB g i = true) : area_good.f g i = some false := by
  simp only [goodB, decide_eq_true_eq] at h
  unfold area_good.f
  (repeat' split) <;> simp <;> omega

theorem make_all (g i : Int) (d : ByteArray) (w : World) :
    Calls Tryd.prog 20 #[.agg #[.int .i64 g, .int .i64 i, .string d]] w fun e w' => e = .returned (.tuple #[.string (makeS g i d), .int .i64 (makeE g i d)]) ∧ Below w.heap.size w w' := by
  unfold makeS makeE
  by_cases h : goodB g i = true
  · obtain ⟨h1, h2, h3, h4, h5⟩ := good_true h
    rw [if_pos h, if_pos h]
    by_cases hl : 55 < d.size
    · rw [if_pos hl, if_pos hl]; exact make_long g i d w h1 hl
    · rw [if_neg hl, if_neg hl]; exact make_any g i d w h1 h2 h3 h4 h5 (by omega)
  · rw [if_neg h, if_neg h]; exact make_bad g i d w (good_false h)

end Go.Proofs.YtekpbpcfeopilaaDoor.Amk
