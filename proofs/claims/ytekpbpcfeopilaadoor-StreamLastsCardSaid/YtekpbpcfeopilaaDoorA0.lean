/- A sector read as a cell: what the program's and the reference's Parse answer, for all bytes; AreaParses: the walk of the law, from the two closed forms; strings.Builder at this program: WriteString, with all that it leaves alone; after the kit's own shelf. For every builder that the caller made, under Go's own limit on its length; area.Join: what the data of sectors is, for every list of at most a million sectors; with a Builder of the call's own. -/
import Derived.Test.YtekpbpcfeopilaaDoorPParsx
import Derived.Test.YtekpbpcfeopilaaDoorAwk
import Derived.Laws.Bits64b
import Derived.Test.YtekpbpcfeopilaaDoorCore
import Derived.Test.YtekpbpcfeopilaaDoorProg
import Derived.Lib.Builder
import Derived.Shelf.Strings.Builder1
import Derived.Test.YtekpbpcfeopilaaDoorShelf

set_option linter.unusedSimpArgs false
set_option linter.unusedVariables false

/-! A sector read as a cell: what the program's and the reference's Parse answer, for all bytes. -/
namespace Go.Proofs.YtekpbpcfeopilaaDoor.Pars
open Go Go.RowKit Go.Proofs.YtekpbpcfeopilaaDoorCore Go.Proofs.YtekpbpcfeopilaaDoor.Puts Go.Proofs.YtekpbpcfeopilaaDoor.Amk Go.Proofs.YtekpbpcfeopilaaDoor.PPars Go.Proofs.YtekpbpcfeopilaaDoorW.PrintWords Go.Proofs.YtekpbpcfeopilaaDoorW.PrintLast Go.Proofs.YtekpbpcfeopilaaDoorW.PrintMore

theorem snoc_ind {α : Type} {p : List α → Prop} (h0 : p []) (h1 : ∀ l a, p l → p (l ++ [a])) (l : List α) : p l := by
  have : ∀ r : List α, p r.reverse := by
    intro r
    induction r with
    | nil => exact h0
    | cons a r ih => rw [List.reverse_cons]; exact h1 _ _ ih
  have := this l.reverse
  rwa [List.reverse_reverse] at this

/-- The number of bytes, the highest first. -/
def val : List UInt8 → Nat → Nat
  | [], a => a
  | b :: l, a => val l (a * 256 + b.toNat)
def num (l : List UInt8) : Nat := val l 0

theorem val_snoc (l : List UInt8) (b : UInt8) : ∀ a, val (l ++ [b]) a = val l a * 256 + b.toNat := by
  induction l with
  | nil => intro a; rfl
  | cons x l ih => intro a; simp [val, ih]
theorem num_snoc (l : List UInt8) (b : UInt8) : num (l ++ [b]) = num l * 256 + b.toNat := val_snoc l b 0
theorem num_lt (l : List UInt8) : num l < 256 ^ l.length := by
  refine snoc_ind (p := fun l => num l < 256 ^ l.length) (by simp [num, val]) (fun l b ih => ?_) l
  · rw [num_snoc, List.length_append, List.length_singleton, Nat.pow_succ]
    have := b.toNat_lt
    omega
theorem beL_num (l : List UInt8) : beL l.length (num l) = l := by
  refine snoc_ind (p := fun l => beL l.length (num l) = l) rfl (fun l b ih => ?_) l
  · rw [num_snoc, List.length_append, List.length_singleton, beL]
    have hb := b.toNat_lt
    have e1 : (num l * 256 + b.toNat) / 256 = num l := by omega
    have e2 : (num l * 256 + b.toNat) % 256 = b.toNat := by omega
    rw [e1, e2, ih]
    simp

theorem or_add (x : Nat) (b : UInt8) (hx : x < 72057594037927936) : Go.bits .or .u64 (IntKind.u64.wrap ((x : Int) * 256)) (IntKind.u64.wrap ((b.toNat : Nat) : Int)) = ((x * 256 + b.toNat : Nat) : Int) := by
  have hb := b.toNat_lt
  have e1 : IntKind.u64.wrap ((x : Int) * 256) = ((x * 256 : Nat) : Int) := by rw [IntKind.wrap_u64]; omega
  have e2 : IntKind.u64.wrap ((b.toNat : Nat) : Int) = ((b.toNat : Nat) : Int) := by rw [IntKind.wrap_u64]; omega
  rw [e1, e2, bits_or_u64_nat _ _ (by omega) (by omega)]
  congr 1
  have : x * 256 ||| b.toNat = x * 2 ^ 8 + b.toNat := by
    rw [show (256 : Nat) = 2 ^ 8 from rfl, Nat.mul_comm x, Nat.two_pow_add_eq_or_of_lt (by omega)]
  rw [this]

/-- The bytes of a text from a place on. -/
def cut (s : ByteArray) (a n : Nat) : List UInt8 := (s.data.toList.drop a).take n
theorem cut_length (s : ByteArray) (a n : Nat) (h : a + n ≤ s.size) : (cut s a n).length = n := by simp [cut]; omega
theorem cut_succ (s : ByteArray) (a n : Nat) (h : a + n < s.size) : cut s a (n + 1) = cut s a n ++ [s[a + n]] := by
  unfold cut
  rw [List.take_succ_eq_append_getElem (by simp; omega)]
  congr 1
  simp
  rfl
theorem bt_cut (s : ByteArray) (k : Nat) (h : k < s.size) : bt s (k : Int) = ((s[k].toNat : Nat) : Int) := by simp [bt, h]

theorem get_loop (s : ByteArray) (a n : Nat) (hn : n ≤ 8) (hs : a + n ≤ s.size) (hb : s.size ≤ 9223372036854775000) : ∀ (m j k : Nat), j + m = n → m < k →
    words_Get.l0 k s (a : Int) (n : Int) ((num (cut s a j) : Nat) : Int) (n : Int) (j : Int) = some (((num (cut s a n) : Nat) : Int), ((a + n : Nat) : Int), 0) := by
  intro m
  induction m with
  | zero =>
    intro j k hj hk
    obtain ⟨k, rfl⟩ : ∃ j, k = j + 1 := ⟨k - 1, by omega⟩
    obtain rfl : j = n := by omega
    simp only [words_Get.l0]
    rw [if_neg (by omega)]
    have : wrap64 ((a : Int) + (j : Int)) = ((a + j : Nat) : Int) := by unfold wrap64; omega
    rw [this]
  | succ m ih =>
    intro j k hj hk
    obtain ⟨k, rfl⟩ : ∃ j, k = j + 1 := ⟨k - 1, by omega⟩
    simp only [words_Get.l0]
    have e : wrap64 ((a : Int) + (j : Int)) = ((a + j : Nat) : Int) := by unfold wrap64; omega
    have e2 : wrap64 ((j : Int) + 1) = ((j + 1 : Nat) : Int) := by unfold wrap64; omega
    rw [if_pos (by omega), e, if_pos (by omega), if_pos (by omega), bt_cut s (a + j) (by omega)]
    have hlt := num_lt (cut s a j)
    rw [cut_length s a j (by omega)] at hlt
    have h7 : (256 : Nat) ^ j ≤ 256 ^ 7 := Nat.pow_le_pow_right (by decide) (by omega)
    rw [or_add _ _ (by have : (256 : Nat) ^ 7 = 72057594037927936 := by decide
                       omega), e2, ← num_snoc, ← cut_succ s a j (by omega)]
    exact ih (j + 1) k (by omega) (by omega)

theorem get_f (s : ByteArray) (a n : Nat) (h1 : 1 ≤ n) (hn : n ≤ 8) (hs : a + n ≤ s.size) (hb : s.size ≤ 9223372036854775000) : words_Get.f 100 s (a : Int) (n : Int) = some (((num (cut s a n) : Nat) : Int), ((a + n : Nat) : Int), 0) := by
  unfold words_Get.f
  rw [if_neg (by omega), if_neg (by omega), if_neg (by omega)]
  have e : decide ((a : Int) > (s.size : Int)) = false := by simp; omega
  rw [e]
  show words_Get.j0 (99 + 1) _ _ _ _ = _
  simp only [words_Get.j0]
  rw [if_neg (by simp), if_neg (by unfold wrap64; omega)]
  have := get_loop s a n hn hs hb n 0 99 (by omega) (by omega)
  simpa [cut, num, val] using this

/-- How many bytes of data a sector tells. -/
def nb (s : ByteArray) : Nat := (s.data.toList.getD 8 0).toNat
def isCell (s : ByteArray) : Bool := decide (s.size = 64) && (decide (num (cut s 0 6) ≠ 0) && (decide (nb s ≤ 55) && (s.data.toList.drop (9 + nb s)).all (· == 0)))
/-- What Parse answers. -/
def parseS (s : ByteArray) : Int × Int × ByteArray × Bool :=
  if isCell s = true then (((num (cut s 0 6) : Nat) : Int), ((num (cut s 6 2) : Nat) : Int), s.extract 9 (9 + nb s), true) else (0, 0, ⟨#[]⟩, false)

theorem nb_bt (s : ByteArray) (h : s.size = 64) : bt s 8 = ((nb s : Nat) : Int) := by
  have h8 : 8 < s.size := by omega
  have h8' : 8 < s.data.toList.length := by simpa using h8
  have := bt_cut s 8 h8
  rw [show (8 : Int) = ((8 : Nat) : Int) from rfl, this]
  unfold nb
  rw [List.getD_eq_getElem?_getD, List.getElem?_eq_getElem h8']
  simp
  rfl

theorem dropWhile_nil {l : List UInt8} : l.dropWhile (· == 0) = [] ↔ l.all (· == 0) = true := by
  induction l with
  | nil => simp
  | cons a l ih =>
    by_cases h : a = 0
    · subst h; simpa using ih
    · have hb : (a == 0) = false := by simpa using h
      simp [List.dropWhile, hb]
theorem trim_nil {l : List UInt8} : Lib.trimB l 0 = [] ↔ l.all (· == 0) = true := by
  unfold Lib.trimB Lib.trimLeftB Lib.trimRightB
  rw [dropWhile_nil]
  constructor
  · intro h
    have h2 : (l.reverse.dropWhile (· == 0)).all (· == 0) = true := by simpa using h
    have h3 : l.reverse.dropWhile (· == 0) = [] := by
      cases hd : l.reverse.dropWhile (· == 0) with
      | nil => rfl
      | cons a r =>
        have hne := List.head?_dropWhile_not (· == (0 : UInt8)) l.reverse
        rw [hd] at hne h2
        simp at hne h2
        exact absurd h2.1 hne
    have h4 := dropWhile_nil.1 h3
    simpa using h4
  · intro h
    have : l.reverse.dropWhile (· == 0) = [] := dropWhile_nil.2 (by simpa using h)
    rw [this]; rfl

theorem wrap_id {x : Int} (h : -9223372036854775808 ≤ x) (h2 : x ≤ 9223372036854775807) : wrap64 x = x := by unfold wrap64; omega

theorem drop_all (s : ByteArray) (a : Nat) : (s.extract a s.size).data.toList = s.data.toList.drop a := by
  rw [Lib.extract_data, List.take_of_length_le (by simp)]

theorem parse_f (s : ByteArray) : area_Parse.f 100 s = some (parseS s) := by
  unfold area_Parse.f parseS isCell
  by_cases h : s.size = 64
  · have g1 : words_Get.f 100 s 0 6 = _ := get_f s 0 6 (by omega) (by omega) (by omega) (by omega)
    have g2 : words_Get.f 100 s 6 2 = _ := get_f s 6 2 (by omega) (by omega) (by omega) (by omega)
    have hn : nb s < 256 := by unfold nb; exact UInt8.toNat_lt _
    rw [if_pos (by omega), g1, g2]
    simp only [Option.bind_some]
    rw [if_pos (by omega), nb_bt s h]
    have l1 := num_lt (cut s 0 6)
    have l2 := num_lt (cut s 6 2)
    rw [cut_length s 0 6 (by omega)] at l1
    rw [cut_length s 6 2 (by omega)] at l2
    by_cases h2 : num (cut s 0 6) = 0
    · rw [if_pos (by omega), if_neg (by simp [h2])]
    · rw [if_neg (by omega), wrap_id (by omega) (by omega)]
      by_cases h3 : nb s ≤ 55
      · rw [if_neg (by omega), wrap_id (by omega) (by omega), if_pos (by omega), if_pos (by omega)]
        have e : ((9 : Int) + ((nb s : Nat) : Int)).toNat = 9 + nb s := by omega
        unfold strings_Trim.f
        rw [e, if_pos ⟨rfl, by rw [ByteArray.size_extract]; omega⟩]
        simp only [Option.bind_some, drop_all]
        have et : (⟨(Lib.trimB (s.data.toList.drop (9 + nb s)) 0).toArray⟩ : ByteArray).toList = Lib.trimB (s.data.toList.drop (9 + nb s)) 0 := by
          rw [Lib.toList_data]
        rw [et]
        by_cases h4 : (s.data.toList.drop (9 + nb s)).all (· == 0) = true
        · rw [if_pos (trim_nil.2 h4), if_pos (by omega), wrap_id (by omega) (by omega), wrap_id (by omega) (by omega), if_pos (by simp [h, h2, h3]; simpa using h4)]
        · rw [if_neg (fun hh => h4 (trim_nil.1 hh)), if_neg (by simp [h, h2, h3]; simpa using h4)]
      · rw [if_pos (by omega), if_neg (by simp [h3])]
  · rw [if_neg (by omega), if_neg (by simp [h])]

end Go.Proofs.YtekpbpcfeopilaaDoor.Pars

/-! AreaParses: the walk of the law, from the two closed forms. -/
namespace Go.Proofs.YtekpbpcfeopilaaDoor.LawPa
open Go Go.RowKit Go.Proofs.YtekpbpcfeopilaaDoorCore Go.Proofs.YtekpbpcfeopilaaDoor.Pars Go.Proofs.YtekpbpcfeopilaaDoor.PPars Go.Proofs.YtekpbpcfeopilaaDoorW.PrintWords

theorem parse_all (s : ByteArray) (w : World) : Calls Tryd.prog 12 #[.string s] w fun e w' => e = .returned (.tuple #[.agg #[.int .i64 (parseS s).1, .int .i64 (parseS s).2.1, .string (parseS s).2.2.1], .bool (parseS s).2.2.2]) ∧ Below w.heap.size w w' :=
  area_Parse.calls 100 s _ _ _ _ w (parse_f s)
def ParseIs (f : Nat) (s : ByteArray) (g i : Int) (d : ByteArray) (ok : Bool) : Prop := ∀ w : World, Calls Tryd.prog f #[.string s] w fun e w' => e = .returned (.tuple #[.agg #[.int .i64 g, .int .i64 i, .string d], .bool ok]) ∧ Below w.heap.size w w'

end Go.Proofs.YtekpbpcfeopilaaDoor.LawPa

/-! strings.Builder at this program: WriteString, with all that it leaves alone; after the kit's own shelf. For every builder that the caller made, under Go's own limit on its length. -/
namespace Go.Proofs.YtekpbpcfeopilaaDoor.Bld
open Go Go.RowKit Go.Proofs.YtekpbpcfeopilaaDoorCore

/-- What a call on the builder in block b leaves alone: every block that was there, but b itself and rows of bytes. -/
structure Left (b : Nat) (w w' : World) : Prop where
  os : w'.os = w.os
  tape : w'.tape = w.tape
  output : w'.output = w.output
  size : w.heap.size ≤ w'.heap.size
  block : ∀ k o, w.heap[k]? = some o → k ≠ b → (∀ cur fr, o ≠ .cells cur 5 fr) → w'.heap[k]? = some o

theorem sizeB : (Tryd.prog.info? 79).map (·.size) = some 2 := by kernel_rfl
theorem liesB : liesAt Tryd.prog Tryd.prog.depth 79 (2 / Tryd.prog.cellsOf 79) 0 79 1 = true := by kernel_rfl
theorem infoB : (Tryd.prog.info? 5).map (fun i => (i.zero, i.size, i.bytes)) = some (some (.int .u8 0), 1, 1) := by kernel_rfl

set_option maxHeartbeats 1000000 in
set_option maxRecDepth 100000 in
theorem check_used (b : Nat) (w : World) (h0 : w.cell? ⟨b, 0, none⟩ = some (.pointer (some ⟨b, 0, none⟩))) :
    Calls Tryd.prog 71 #[.pointer (some ⟨b, 0, none⟩)] w fun e w' => e = .returned (.tuple #[]) ∧ w' = w := by
  obtain ⟨j, hj, _⟩ := Option.map_eq_some_iff.1 sizeB
  have hne := fun (wx : World) => Lib.run_neq_ptr_same wx ⟨b, 0, none⟩ Tryd.underlying76 hj
  go_enter Tryd.func71, Tryd.ntmps71
  go_wp2
  go_end0
  exact ⟨rfl, rfl⟩

set_option maxHeartbeats 1000000 in
set_option maxRecDepth 100000 in
theorem check_fresh (b : Nat) (w : World) (h0 : w.cell? ⟨b, 0, none⟩ = some (.pointer none)) (hsh : w.shape? b = some (79, 2)) (hfz : w.frozen? ⟨b, 0, none⟩ = false) :
    Calls Tryd.prog 71 #[.pointer (some ⟨b, 0, none⟩)] w fun e w' => e = .returned (.tuple #[]) ∧ w' = w.setCell ⟨b, 0, none⟩ (.pointer (some ⟨b, 0, none⟩)) := by
  obtain ⟨j, hj, hjs⟩ := Option.map_eq_some_iff.1 sizeB
  go_enter Tryd.func71, Tryd.ntmps71
  go_wp2
  rw [Lib.run_to_unsafe w ⟨b, 0, none⟩ Tryd.underlying76 Tryd.underlying143 hj (by rw [hjs]; decide) hsh (Nat.zero_lt_succ 1)]
  simp only [Result.andThen]
  rw [Oper.upon_value]
  go_wp2
  rw [run_callFunc_extern Tryd.func86 (by kernel_rfl) (by kernel_rfl) (by kernel_rfl) (e := Extern.AbiNoEscape.same) (by kernel_rfl)]
  rw [Lib.run_noEscape]
  simp only [Result.andThen]
  rw [Oper.upon_value]
  go_wp2
  rw [Lib.run_from_unsafe w ⟨b, 0, none⟩ Tryd.underlying143 Tryd.underlying76 hj hsh liesB]
  simp only [Result.andThen]
  rw [Oper.upon_value]
  go_wp2
  go_end0
  exact ⟨rfl, rfl⟩

theorem left_refl (b : Nat) (w : World) : Left b w w := ⟨rfl, rfl, rfl, Nat.le_refl _, fun _ _ h _ _ => h⟩
theorem left_set (b j : Nat) (w : World) (v : Value) : Left b w (w.setCell ⟨b, j, none⟩ v) := ⟨rfl, rfl, rfl, by simp [World.setCell], fun k _ h hk _ => (Below.heap_setCell w ⟨b, j, none⟩ v k hk).trans h⟩
theorem left_trans {b : Nat} {w w1 w2 : World} (h : Left b w w1) (k : Left b w1 w2) : Left b w w2 :=
  ⟨k.os.trans h.os, k.tape.trans h.tape, k.output.trans h.output, Nat.le_trans h.size k.size, fun i o hi hb ho => k.block i o (h.block i o hi hb ho) hb ho⟩
theorem left_grown {b : Nat} {w w1 : World} {v : Value} {B n : Nat} {xs : List Value} (hown : w.ownsRow B 5 1 v n xs) (hg : w.grownBy w1 v.ownBlock) : Left b w w1 := by
  refine ⟨hg.os, hg.tape, hg.output, hg.size, fun k o hk _ ho => ?_⟩
  rw [hg.block k (heap_lt hk) (fun e => ?_)]
  · exact hk
  · rcases hown.2 with ⟨rfl, _⟩ | ⟨g, cap, cur, rfl, _, hh, _⟩
    · cases e
    · obtain rfl : k = g := by simpa [Value.ownBlock] using e
      rw [hh] at hk
      exact ho cur (0, 0) (Option.some.inj hk).symm

theorem check_any (B b : Nat) (bs : List Value) (w : World) (h : Lib.IsBuilder 79 5 B b bs w) :
    Calls Tryd.prog 71 #[.pointer (some ⟨b, 0, none⟩)] w fun e w' => e = .returned (.tuple #[]) ∧ Lib.BuilderAt 79 5 B b (.pointer (some ⟨b, 0, none⟩)) bs w' ∧ Below B w w' ∧ Left b w w' := by
  rcases h with h | h
  · refine (check_fresh b w h.cell0 h.shape h.frozen0).mono ?_
    rintro e w' ⟨rfl, rfl⟩
    exact ⟨rfl, h.used _, (Below.refl B w).setCell (p := ⟨b, 0, none⟩) h.1 _, left_set b 0 w _⟩
  · refine (check_used b w h.cell0).mono ?_
    rintro e w' ⟨rfl, rfl⟩
    exact ⟨rfl, h, Below.refl B _, left_refl b _⟩

set_option maxHeartbeats 1000000 in
set_option maxRecDepth 100000 in
theorem write_any (B b : Nat) (bs : List Value) (s : ByteArray) (w : World) (h : Lib.IsBuilder 79 5 B b bs w) (hlen : bs.length + s.size ≤ 140737488355328) (hBw : B ≤ w.heap.size) :
    Calls Tryd.prog 39 #[.pointer (some ⟨b, 0, none⟩), .string s] w fun e w' => e = .returned (.tuple #[.int .i64 s.size, .nilIface]) ∧
      Lib.IsBuilder 79 5 B b (bs ++ Lib.strCells s) w' ∧ Below B w w' ∧ Left b w w' := by
  obtain ⟨i0, hi, hz0, hz1, hz2⟩ := info_parts infoB
  go_enter Tryd.func39, Tryd.ntmps39
  go_wp2_with (go_at_call 71; refine (check_any B b bs _ h).mono ?_)
  rintro e w1 ⟨rfl, h1, hb1, hl1⟩
  obtain ⟨hB, v, hbk, hown, hne⟩ := h1
  have c0 : w1.cell? ⟨b, 0, none⟩ = some (.pointer (some ⟨b, 0, none⟩)) := by rw [Lib.cell_of_heap hbk]; rfl
  have c1 : w1.cell? ⟨b, 1, none⟩ = some v := by rw [Lib.cell_of_heap hbk]; rfl
  go_wp2_with (at_builtin; refine Lib.wpList_append_own_string _ rfl _ _ 77 9 rfl B 5 i0 Tryd.underlying77 Tryd.underlying9 hi hz0 hz1 hz2 _ _ _ rfl hown s rfl ?c3 ?c4 ?c5 ?_)
  case c3 => unfold maxLen; omega
  case c4 => omega
  case c5 => have := hb1.size; omega
  intro v' w2 hown' hgrow _
  have hlt : b < w1.heap.size := heap_lt hbk
  have hb2 : w2.heap[b]? = some (.cells #[.pointer (some ⟨b, 0, none⟩), v] 79 (0, 0)) := by
    rw [hgrow.block b hlt (fun e => hne e.symm)]
    exact hbk
  have d0 : w2.cell? ⟨b, 0, none⟩ = some (.pointer (some ⟨b, 0, none⟩)) := by rw [Lib.cell_of_heap hb2]; rfl
  have d1 : w2.cell? ⟨b, 1, none⟩ = some v := by rw [Lib.cell_of_heap hb2]; rfl
  have f1 : w2.frozen? ⟨b, 1, none⟩ = false := Lib.frozen_of_heap hb2 1
  have hl2 : Left b w1 w2 := left_grown hown hgrow
  obtain ⟨ao, n', cap, rfl⟩ : ∃ ao n' cap, v' = .slice ao n' cap := by
    rcases hown'.2 with ⟨hv, _⟩ | ⟨g, cap, cur, hv, _⟩
    · exact ⟨_, _, _, hv⟩
    · exact ⟨_, _, _, hv⟩
  go_wp2
  go_ret2
  refine ⟨rfl, Or.inr ?_, ?_, left_trans (left_trans hl1 hl2) (left_set b 1 w2 _)⟩
  · exact Lib.BuilderAt.put (T := 79) (e := 5) hB hb2 (bs' := bs ++ Lib.strCells s) (by simpa [Lib.strCells_length] using hown') (by decide)
  · exact (hb1.grown hgrow (by have := hb1.size; omega) (fun k hk => (hown.lt k hk).1)).setCell (p := ⟨b, 1, none⟩) hB _

end Go.Proofs.YtekpbpcfeopilaaDoor.Bld

/-! area.Join: what the data of sectors is, for every list of at most a million sectors; with a Builder of the call's own. -/
namespace Go.Proofs.YtekpbpcfeopilaaDoor.Join
open Go Go.RowKit Go.Proofs.YtekpbpcfeopilaaDoorCore Go.Proofs.YtekpbpcfeopilaaDoor.LawPa Go.Proofs.YtekpbpcfeopilaaDoor.Pars Go.Proofs.YtekpbpcfeopilaaDoor.Bld Go.Proofs.YtekpbpcfeopilaaDoorW.PrintWords Go.Proofs.YtekpbpcfeopilaaDoorW.PrintLast

/-- The data that sectors hold together, from the place i on. -/
def joinL (g : Int) : List ByteArray → Nat → List UInt8
  | [], _ => []
  | s :: r, i => if (parseS s).2.2.2 = true ∧ (parseS s).1 = g ∧ (parseS s).2.1 = (i : Int) then (if (parseS s).2.2.1.size < 55 then (parseS s).2.2.1.data.toList else (parseS s).2.2.1.data.toList ++ joinL g r (i + 1)) else []

theorem parse_size (s : ByteArray) : (parseS s).2.2.1.size ≤ 55 := by
  unfold parseS
  split
  · rename_i h
    simp only [isCell, Bool.and_eq_true, decide_eq_true_eq] at h
    simp only [ByteArray.size_extract]
    omega
  · exact Nat.zero_le 55

theorem joinL_at (g : Int) (l : List ByteArray) (k : Nat) (h : k < l.length) : joinL g (l.drop k) k = if (parseS l[k]).2.2.2 = true ∧ (parseS l[k]).1 = g ∧ (parseS l[k]).2.1 = (k : Int) then (if (parseS l[k]).2.2.1.size < 55 then (parseS l[k]).2.2.1.data.toList else (parseS l[k]).2.2.1.data.toList ++ joinL g (l.drop (k + 1)) (k + 1)) else [] := by
  rw [List.drop_eq_getElem_cons h, joinL]

/-- What holds at the head of a round: gk rounds are to come at most. -/
structure Inv (l0 : List ByteArray) (g : Int) (w : World) (gk : Nat) (v : Value) (wr : World) (k : Nat) (acc : List UInt8) : Prop where
  le : k ≤ l0.length
  slot : v = .int .i64 k
  ghost : gk + k = l0.length
  joined : joinL g l0 0 = acc ++ joinL g (l0.drop k) k
  short : acc.length ≤ 55 * k
  bld : Lib.IsBuilder 79 5 w.heap.size w.heap.size (Lib.byteCells acc) wr
  below : Below w.heap.size w wr
  size : w.heap.size ≤ wr.heap.size
def Rel (l0 : List ByteArray) (g : Int) (w : World) (gk : Nat) (v : Value) (wr : World) : Prop := ∃ k acc, Inv l0 g w gk v wr k acc

theorem str_cells (s : ByteArray) : Lib.strCells s = Lib.byteCells s.data.toList := by simp [Lib.strCells, Lib.byteCells]

theorem builder_kept {T e : TypeId} {B b : Nat} {bs : List Value} {w w1 : World} (h : Lib.IsBuilder T e B b bs w) (hb : Below w.heap.size w w1) : Lib.IsBuilder T e B b bs w1 := by
  have k : ∀ p, Lib.BuilderAt T e B b p bs w → Lib.BuilderAt T e B b p bs w1 := by
    rintro p ⟨h1, v, h2, h3, h4⟩
    exact ⟨h1, v, below_row hb (heap_lt h2) h2, pw_own_below h3 hb, h4⟩
  rcases h with h | h
  · exact Or.inl (k _ h)
  · exact Or.inr (k _ h)

theorem builder_lt {T e : TypeId} {B b : Nat} {bs : List Value} {w : World} (h : Lib.IsBuilder T e B b bs w) : b < w.heap.size := by
  rcases h with h | h
  · exact h.lt
  · exact h.lt

/-- The end: the Builder's String. -/
theorem string_end {l0 : List ByteArray} {g : Int} {w wr : World} {acc : List UInt8} (hj : joinL g l0 0 = acc) (hb : Lib.IsBuilder 79 5 w.heap.size w.heap.size (Lib.byteCells acc) wr) (hl : Below w.heap.size w wr) :
    Calls Tryd.prog 40 #[.pointer (some ⟨w.heap.size, 0, none⟩)] wr fun e w' => e = .returned (.string ⟨(joinL g l0 0).toArray⟩) ∧ Below w.heap.size w w' := by
  subst hj
  refine (Tryd.Builder_String_any w.heap.size w.heap.size _ wr hb hl.size).mono ?_
  rintro e w' ⟨rfl, h⟩
  exact ⟨rfl, hl.trans h⟩

set_option maxHeartbeats 8000000 in
set_option maxRecDepth 100000 in
theorem join_any (A0 : Option Addr) (c0 : Nat) (l0 : List ByteArray) (g : Int) (w : World) (hr0 : Kd.C Kd.string w A0 l0.length l0) (_hc0 : l0.length ≤ c0) (hl : l0.length ≤ 1000000) :
    Calls Tryd.prog 16 #[.slice A0 l0.length c0, .int .i64 g] w fun e w' => e = .returned (.string ⟨(joinL g l0 0).toArray⟩) ∧ Below w.heap.size w w' := by
  have HR0 := Lib.hid hr0
  clear hr0
  go_enter Tryd.func16, Tryd.ntmps16
  go_wp2
  go_loopg [12] l0.length (fun gk v wr => Rel l0 g w gk v wr)
  case atStart => exact ⟨0, [], ⟨Nat.zero_le _, rfl, by omega, by simp, by simp, Lib.fresh_isBuilder _ _ w, (Below.refl _ _).alloc (Nat.le_refl _) _, by simp⟩⟩
  case round =>
    obtain ⟨k, acc, ⟨hk, rfl, hg, hj, hs, hb, hbel, hsz⟩⟩ := hrel
    have HJ := Lib.hid hj
    have HG := Lib.hid hg
    have HB := Lib.hid hb
    have HW := Lib.hid hbel
    clear hj hg hb hbel
    by_cases hlt : k < l0.length
    · obtain ⟨ad, e, hx⟩ := Kd.at_string HR0.out (k : Int) (by omega) (by omega)
      cases e
      rw [Int.toNat_natCast] at hx
      replace hx := (HW.out.cell (World.block_lt_of_cell? w _ hx)).trans hx
      obtain ⟨s, hs0⟩ : ∃ s, rdOf ByteArray.empty l0 (k : Int) = s := ⟨_, rfl⟩
      have hs1 : l0[k] = s := by rw [← hs0]; simp [rdOf, hlt]
      rw [hs0] at hx
      have HS := Lib.hid hs1
      clear hs0 hs1
      have hp := parse_all s
      have hd := joinL_at g l0 k hlt
      rw [HS.out] at hd
      have h55 := parse_size s
      obtain ⟨⟨pg, pi, pd, pok⟩, hq⟩ : ∃ q, parseS s = q := ⟨_, rfl⟩
      rw [hq] at hd h55
      have HP : LawPa.ParseIs 12 s pg pi pd pok := by
        intro wx
        have := LawPa.parse_all s wx
        rw [hq] at this
        exact this
      clear hp hq
      have HD := Lib.hid hd
      clear hd
      simp only at h55 HD
      go_wp2_with fail
      refine (HP _).mono ?_
      rintro e w1 ⟨rfl, hb1⟩
      have HB1 := Lib.hid (builder_kept HB.out hb1)
      have HW1 := Lib.hid (HW.out.trans (hb1.mono hsz))
      have hsz1 : w.heap.size ≤ w1.heap.size := Nat.le_trans hsz hb1.size
      clear HB HW hb1 hx
      have fin : ∀ (wx : World) (o : Obj) (hn : joinL g (l0.drop k) k = []) , Calls Tryd.prog 40 #[.pointer (some ⟨w.heap.size, 0, none⟩)] (w1.alloc o) fun e w' => e = .returned (.string ⟨(joinL g l0 0).toArray⟩) ∧ Below w.heap.size w w' := fun _ o hn =>
        string_end (by rw [HJ.out, hn, List.append_nil]) (builder_kept HB1.out ((Below.refl _ _).alloc (Nat.le_refl _) o)) (HW1.out.alloc hsz1 o)
      have FIN := Lib.hid fin
      clear fin
      by_cases hok : pok = true ∧ pg = g ∧ pi = (k : Int)
      · obtain ⟨rfl, rfl, rfl⟩ := hok
        have HD2 : Hid (joinL pg (l0.drop k) k = if pd.size < 55 then pd.data.toList else pd.data.toList ++ joinL pg (l0.drop (k + 1)) (k + 1)) := by
          have := HD.out
          rw [if_pos ⟨rfl, rfl, rfl⟩] at this
          exact this
        clear HD FIN
        have hpl : pd.data.toList.length = pd.size := by simp
        go_wp2_with fail
        refine (write_any w.heap.size w.heap.size _ pd _ (builder_kept HB1.out ((Below.refl _ _).alloc (Nat.le_refl _) _)) (by rw [Lib.byteCells_length]; omega) (by simp; omega)).mono ?_
        rintro e w3 ⟨rfl, hb3, hl3, hw3⟩
        have hc3 : ∀ j, w3.cell? ⟨w1.heap.size, j, none⟩ = (#[Value.int .i64 pg, .int .i64 k, .string pd])[j]? := by
          intro j
          have := hw3.block w1.heap.size _ (heap_alloc_new w1 _) (by have := builder_lt HB1.out; omega) (by intro cur fr e; simp at e)
          unfold World.cell?
          rw [this]
          simp
        have HB3 : Hid (Lib.IsBuilder 79 5 w.heap.size w.heap.size (Lib.byteCells (acc ++ pd.data.toList)) w3) := by
          have := hb3
          rw [str_cells] at this
          show Lib.IsBuilder _ _ _ _ _ _
          simpa [Lib.byteCells] using this
        have HL3 := Lib.hid ((HW1.out.alloc hsz1 (.cells #[.int .i64 pg, .int .i64 k, .string pd] 23)).trans hl3)
        have hsz3 : w.heap.size ≤ w3.heap.size := by have := hw3.size; simp at this; omega
        clear hb3 hl3 hw3 HB1 HW1
        by_cases h5 : pd.size < 55
        · have HN : Hid (joinL pg l0 0 = acc ++ pd.data.toList) := by
            have := HD2.out
            rw [if_pos h5] at this
            show _ = _
            rw [HJ.out, this]
          clear HD2
          go_wp2_with fail
          refine (string_end HN.out HB3.out HL3.out).mono ?_
          rintro e w4 ⟨rfl, hb4⟩
          go_wp2_with fail
          go_ret
          exact ⟨rfl, hb4⟩
        · have HN : Hid (joinL pg l0 0 = acc ++ pd.data.toList ++ joinL pg (l0.drop (k + 1)) (k + 1)) := by
            have := HD2.out
            rw [if_neg h5] at this
            show _ = _
            rw [HJ.out, this, List.append_assoc]
          clear HD2
          go_wp2_with fail
          go_roundg (gk - 1)
          case measure => have := HG.out; omega
          case rel => exact ⟨k + 1, acc ++ pd.data.toList, ⟨by omega, by go_num, by have := HG.out; omega, HN.out, by rw [List.length_append, hpl]; omega, HB3.out, HL3.out, hsz3⟩⟩
      · have hn : joinL g (l0.drop k) k = [] := by rw [HD.out]; exact if_neg hok
        have HN := Lib.hid hn
        clear hn
        by_cases hp1 : pok = true
        · subst hp1
          by_cases hp2 : pg = g
          · subst hp2
            have hp3 : (pi != (k : Int)) = true := by
              rw [bne_iff_ne]; intro e; exact hok ⟨rfl, rfl, e⟩
            clear hok
            go_wp2_with fail
            refine (FIN.out w1 _ HN.out).mono ?_
            rintro e w3 ⟨rfl, hb3⟩
            go_wp2_with fail
            go_ret
            exact ⟨rfl, hb3⟩
          · have hp3 : (pg != g) = true := by rw [bne_iff_ne]; exact hp2
            clear hok hp2
            go_wp2_with fail
            all_goals
              refine (FIN.out w1 _ HN.out).mono ?_
              rintro e w3 ⟨rfl, hb3⟩
              go_wp2_with fail
              go_ret
              exact ⟨rfl, hb3⟩
        · obtain rfl : pok = false := by simpa using hp1
          clear hok hp1
          go_wp2_with fail
          refine (FIN.out w1 _ HN.out).mono ?_
          rintro e w3 ⟨rfl, hb3⟩
          go_wp2_with fail
          go_ret
          exact ⟨rfl, hb3⟩
    · have hn : joinL g (l0.drop k) k = [] := by rw [List.drop_eq_nil_of_le (by omega)]; rfl
      have HN : Hid (joinL g l0 0 = acc) := by
        show _ = _
        rw [HJ.out, hn, List.append_nil]
      clear hn
      go_wp2_with fail
      refine (string_end HN.out HB.out HW.out).mono ?_
      rintro e w4 ⟨rfl, hb4⟩
      go_wp2_with fail
      go_ret
      exact ⟨rfl, hb4⟩

end Go.Proofs.YtekpbpcfeopilaaDoor.Join
