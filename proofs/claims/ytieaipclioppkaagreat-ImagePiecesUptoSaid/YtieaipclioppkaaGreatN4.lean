/- Numbers as bytes: what the printed Put of the program and the reference's Put compute, for every number of at most eight bytes; strings.Builder at this program: WriteString, with all that it leaves alone; after the kit's own shelf. For every builder that the caller made, under Go's own limit on its length; words.Get: what it answers, for every text, place and width; no condition but the text's length; pack.put: a value's bytes. -/
import Derived.Test.YtieaipclioppkaaGreatCore
import Derived.Test.YtieaipclioppkaaGreatPLeafx
import Derived.Test.YtieaipclioppkaaGreatProg
import Derived.Lib.Builder
import Derived.Shelf.Strings.Builder1
import Derived.Laws.Bits64b
import Derived.Test.YtieaipclioppkaaGreatFr
import Derived.IntWalk
import Derived.LoopTactic
import Derived.Lib.SmallJoins
import Derived.Laws.Bits64
set_option linter.unusedSimpArgs false
set_option linter.unusedVariables false

/-! Numbers as bytes: what the printed Put of the program and the reference's Put compute, for every number of at most eight bytes. -/
namespace Go.Proofs.YtieaipclioppkaaGreat.Puts
open Go Go.RowKit Go.Proofs.YtieaipclioppkaaGreatCore Go.Proofs.YtieaipclioppkaaGreat.PLeaf Go.Proofs.YtieaipclioppkaaGreatW.PrintWords Go.Proofs.YtieaipclioppkaaGreatW.PrintLast Go.Proofs.YtieaipclioppkaaGreatW.PrintMore

/-- The low bytes of a number, the highest first. -/
def beL : Nat → Nat → List UInt8
  | 0, _ => []
  | k + 1, n => beL k (n / 256) ++ [UInt8.ofNat (n % 256)]
theorem beL_length (k n : Nat) : (beL k n).length = k := by induction k generalizing n with | zero => rfl | succ k ih => simp [beL, ih]
def be (k n : Nat) : ByteArray := ⟨(beL k n).toArray⟩
theorem be_size (k n : Nat) : (be k n).size = k := by simp [be, ByteArray.size, beL_length]

theorem beL_cons (k n : Nat) : beL (k + 1) n = UInt8.ofNat (n / 256 ^ k % 256) :: beL k n := by
  induction k generalizing n with
  | zero => simp [beL]
  | succ k ih =>
    rw [beL, ih]
    simp only [List.cons_append, beL]
    congr 2
    rw [Nat.div_div_eq_div_mul, Nat.pow_succ, Nat.mul_comm]

/-- The same, as numbers. -/
def beN : Nat → Nat → List Int
  | 0, _ => []
  | k + 1, n => ((n / 256 ^ k % 256 : Nat) : Int) :: beN k n
theorem beN_bytes (k n : Nat) : (beN k n).map (fun x => UInt8.ofNat x.toNat) = beL k n := by
  induction k with
  | zero => rfl
  | succ k ih => simp only [beN, List.map_cons, Int.toNat_natCast, ih, beL_cons]
theorem beN_length (k n : Nat) : (beN k n).length = k := by induction k with | zero => rfl | succ k ih => simp [beN, ih]
theorem str_beN (k n : Nat) : strOfNums (beN k n) = be k n := by unfold strOfNums be; rw [beN_bytes]

theorem pow_256 (m : Nat) : (2 : Int) ^ (8 * m) = ((256 ^ m : Nat) : Int) := by
  rw [Int.natCast_pow, Int.pow_mul]
  rfl
theorem pow_byte (n m : Nat) : (n : Int) / 2 ^ (8 * m) % 256 = ((n / 256 ^ m % 256 : Nat) : Int) := by
  rw [pow_256, ← Int.natCast_ediv]
  rfl

theorem byte_at (n m : Nat) (hm : m < 8) : (shr .u64 (n : Int) (wrap64 (8 * (m : Int)))) % 256 = ((n / 256 ^ m % 256 : Nat) : Int) := by
  have e : wrap64 (8 * (m : Int)) = 8 * (m : Int) := by unfold wrap64; omega
  rw [e]
  unfold shr
  have hmin : min (8 * (m : Int)).toNat (IntKind.bits .u64) = 8 * m := by simp [IntKind.bits]; omega
  rw [hmin]
  exact pow_byte n m

theorem put_loop (n : Nat) : ∀ (m k : Nat) (acc : List Int), m ≤ 8 → acc.length + m ≤ 8 → m < k → words_Put.l0 k (n : Int) acc ((m : Int) - 1) = some (strOfNums (acc ++ beN m n)) := by
  intro m
  induction m with
  | zero =>
    intro k acc _ _ hk
    obtain ⟨k, rfl⟩ : ∃ j, k = j + 1 := ⟨k - 1, by omega⟩
    simp only [words_Put.l0]
    rw [if_neg (by omega)]
    simp [beN]
  | succ m ih =>
    intro k acc hm hl hk
    obtain ⟨k, rfl⟩ : ∃ j, k = j + 1 := ⟨k - 1, by omega⟩
    simp only [words_Put.l0]
    have e0 : (((m + 1 : Nat) : Int) - 1) = (m : Int) := by omega
    rw [e0, if_pos (by omega), if_pos (by unfold wrap64; omega), if_pos (by omega), byte_at n m (by omega)]
    have e1 : wrap64 ((m : Int) - 1) = (m : Int) - 1 := by unfold wrap64; omega
    rw [e1, ih k _ (by omega) (by simp; omega) (by omega)]
    simp [beN]

theorem put_f (n x : Int) (h0 : 0 ≤ n) (h8 : n ≤ 8) (hx : 0 ≤ x) : words_Put.f 10 n x = some (be n.toNat x.toNat) := by
  obtain ⟨n, rfl⟩ := Int.eq_ofNat_of_zero_le h0
  obtain ⟨x, rfl⟩ := Int.eq_ofNat_of_zero_le hx
  unfold words_Put.f
  have e : (mx 0 (mn (n : Int) 8)) - 1 = (n : Int) - 1 := by unfold mx mn; (repeat' split) <;> omega
  rw [e, put_loop x n 10 [] (by omega) (by simp; omega) (by omega)]
  simp [str_beN]

theorem put_at (n x : Int) (w : World) (hn : 0 ≤ n) (hn8 : n ≤ 8) (hx : 0 ≤ x) (_hx2 : x < 18446744073709551616) :
    Calls Tryz.prog 97 #[.int .i64 n, .int .u64 x] w fun e w' => e = .returned (.string (be n.toNat x.toNat)) ∧ Below w.heap.size w w' :=
  words_Put.calls 10 n x _ w (put_f n x hn hn8 hx)



end Go.Proofs.YtieaipclioppkaaGreat.Puts

/-! strings.Builder at this program: WriteString, with all that it leaves alone; after the kit's own shelf. For every builder that the caller made, under Go's own limit on its length. -/
namespace Go.Proofs.YtieaipclioppkaaGreat.Bld
open Go Go.RowKit Go.Proofs.YtieaipclioppkaaGreatCore

/-- What a call on the builder in block b leaves alone: every block that was there, but b itself and rows of bytes. -/
structure Left (b : Nat) (w w' : World) : Prop where
  os : w'.os = w.os
  tape : w'.tape = w.tape
  output : w'.output = w.output
  size : w.heap.size ≤ w'.heap.size
  block : ∀ k o, w.heap[k]? = some o → k ≠ b → (∀ cur fr, o ≠ .cells cur 5 fr) → w'.heap[k]? = some o

theorem sizeB : (Tryz.prog.info? 51).map (·.size) = some 2 := by kernel_rfl
theorem liesB : liesAt Tryz.prog Tryz.prog.depth 51 (2 / Tryz.prog.cellsOf 51) 0 51 1 = true := by kernel_rfl
theorem infoB : (Tryz.prog.info? 5).map (fun i => (i.zero, i.size, i.bytes)) = some (some (.int .u8 0), 1, 1) := by kernel_rfl

set_option maxHeartbeats 1000000 in
set_option maxRecDepth 100000 in
theorem check_used (b : Nat) (w : World) (h0 : w.cell? ⟨b, 0, none⟩ = some (.pointer (some ⟨b, 0, none⟩))) :
    Calls Tryz.prog 32 #[.pointer (some ⟨b, 0, none⟩)] w fun e w' => e = .returned (.tuple #[]) ∧ w' = w := by
  obtain ⟨j, hj, _⟩ := Option.map_eq_some_iff.1 sizeB
  have hne := fun (wx : World) => Lib.run_neq_ptr_same wx ⟨b, 0, none⟩ Tryz.underlying49 hj
  go_enter Tryz.func32, Tryz.ntmps32
  go_wp2
  go_end0
  exact ⟨rfl, rfl⟩

set_option maxHeartbeats 1000000 in
set_option maxRecDepth 100000 in
theorem check_fresh (b : Nat) (w : World) (h0 : w.cell? ⟨b, 0, none⟩ = some (.pointer none)) (hsh : w.shape? b = some (51, 2)) (hfz : w.frozen? ⟨b, 0, none⟩ = false) :
    Calls Tryz.prog 32 #[.pointer (some ⟨b, 0, none⟩)] w fun e w' => e = .returned (.tuple #[]) ∧ w' = w.setCell ⟨b, 0, none⟩ (.pointer (some ⟨b, 0, none⟩)) := by
  obtain ⟨j, hj, hjs⟩ := Option.map_eq_some_iff.1 sizeB
  go_enter Tryz.func32, Tryz.ntmps32
  go_wp2
  rw [Lib.run_to_unsafe w ⟨b, 0, none⟩ Tryz.underlying49 Tryz.underlying142 hj (by rw [hjs]; decide) hsh (Nat.zero_lt_succ 1)]
  simp only [Result.andThen]
  rw [Oper.upon_value]
  go_wp2
  rw [run_callFunc_extern Tryz.func73 (by kernel_rfl) (by kernel_rfl) (by kernel_rfl) (e := Extern.AbiNoEscape.same) (by kernel_rfl)]
  rw [Lib.run_noEscape]
  simp only [Result.andThen]
  rw [Oper.upon_value]
  go_wp2
  rw [Lib.run_from_unsafe w ⟨b, 0, none⟩ Tryz.underlying142 Tryz.underlying49 hj hsh liesB]
  simp only [Result.andThen]
  rw [Oper.upon_value]
  go_wp2
  go_end0
  exact ⟨rfl, rfl⟩

theorem left_refl (b : Nat) (w : World) : Left b w w := ⟨rfl, rfl, rfl, Nat.le_refl _, fun _ _ h _ _ => h⟩
theorem left_set (b j : Nat) (w : World) (v : Value) : Left b w (w.setCell ⟨b, j, none⟩ v) := ⟨rfl, rfl, rfl, by simp [World.setCell], fun k _ h hk _ => (Below.heap_setCell w ⟨b, j, none⟩ v k hk).trans h⟩
theorem left_trans {b : Nat} {w w1 w2 : World} (h : Left b w w1) (k : Left b w1 w2) : Left b w w2 :=
  ⟨k.os.trans h.os, k.tape.trans h.tape, k.output.trans h.output, Nat.le_trans h.size k.size, fun i o hi hb ho => k.block i o (h.block i o hi hb ho) hb ho⟩
theorem left_grown {b : Nat} {w w1 : World} {v : Value} {B n : Nat} {xs : List Value} (hown : w.ownsRow B 5 1 v n xs) (hg : w.grownBy w1 v.ownBlock) : Left b w w1 := by
  refine ⟨hg.os, hg.tape, hg.output, hg.size, fun k o hk _ ho => ?_⟩
  rw [hg.block k (heap_lt hk) (fun e => ?_)]
  · exact hk
  · rcases hown.2 with ⟨rfl, _⟩ | ⟨g, cap, cur, rfl, _, hh, _⟩
    · cases e
    · obtain rfl : k = g := by simpa [Value.ownBlock] using e
      rw [hh] at hk
      exact ho cur (0, 0) (Option.some.inj hk).symm

theorem check_any (B b : Nat) (bs : List Value) (w : World) (h : Lib.IsBuilder 51 5 B b bs w) :
    Calls Tryz.prog 32 #[.pointer (some ⟨b, 0, none⟩)] w fun e w' => e = .returned (.tuple #[]) ∧ Lib.BuilderAt 51 5 B b (.pointer (some ⟨b, 0, none⟩)) bs w' ∧ Below B w w' ∧ Left b w w' := by
  rcases h with h | h
  · refine (check_fresh b w h.cell0 h.shape h.frozen0).mono ?_
    rintro e w' ⟨rfl, rfl⟩
    exact ⟨rfl, h.used _, (Below.refl B w).setCell (p := ⟨b, 0, none⟩) h.1 _, left_set b 0 w _⟩
  · refine (check_used b w h.cell0).mono ?_
    rintro e w' ⟨rfl, rfl⟩
    exact ⟨rfl, h, Below.refl B _, left_refl b _⟩

set_option maxHeartbeats 1000000 in
set_option maxRecDepth 100000 in
theorem write_any (B b : Nat) (bs : List Value) (s : ByteArray) (w : World) (h : Lib.IsBuilder 51 5 B b bs w) (hlen : bs.length + s.size ≤ 140737488355328) (hBw : B ≤ w.heap.size) :
    Calls Tryz.prog 21 #[.pointer (some ⟨b, 0, none⟩), .string s] w fun e w' => e = .returned (.tuple #[.int .i64 s.size, .nilIface]) ∧
      Lib.IsBuilder 51 5 B b (bs ++ Lib.strCells s) w' ∧ Below B w w' ∧ Left b w w' := by
  obtain ⟨i0, hi, hz0, hz1, hz2⟩ := info_parts infoB
  go_enter Tryz.func21, Tryz.ntmps21
  go_wp2_with (go_at_call 32; refine (check_any B b bs _ h).mono ?_)
  rintro e w1 ⟨rfl, h1, hb1, hl1⟩
  obtain ⟨hB, v, hbk, hown, hne⟩ := h1
  have c0 : w1.cell? ⟨b, 0, none⟩ = some (.pointer (some ⟨b, 0, none⟩)) := by rw [Lib.cell_of_heap hbk]; rfl
  have c1 : w1.cell? ⟨b, 1, none⟩ = some v := by rw [Lib.cell_of_heap hbk]; rfl
  go_wp2_with (at_builtin; refine Lib.wpList_append_own_string _ rfl _ _ 26 9 rfl B 5 i0 Tryz.underlying26 Tryz.underlying9 hi hz0 hz1 hz2 _ _ _ rfl hown s rfl ?c3 ?c4 ?c5 ?_)
  case c3 => unfold maxLen; omega
  case c4 => omega
  case c5 => have := hb1.size; omega
  intro v' w2 hown' hgrow _
  have hlt : b < w1.heap.size := heap_lt hbk
  have hb2 : w2.heap[b]? = some (.cells #[.pointer (some ⟨b, 0, none⟩), v] 51 (0, 0)) := by
    rw [hgrow.block b hlt (fun e => hne e.symm)]
    exact hbk
  have d0 : w2.cell? ⟨b, 0, none⟩ = some (.pointer (some ⟨b, 0, none⟩)) := by rw [Lib.cell_of_heap hb2]; rfl
  have d1 : w2.cell? ⟨b, 1, none⟩ = some v := by rw [Lib.cell_of_heap hb2]; rfl
  have f1 : w2.frozen? ⟨b, 1, none⟩ = false := Lib.frozen_of_heap hb2 1
  have hl2 : Left b w1 w2 := left_grown hown hgrow
  obtain ⟨ao, n', cap, rfl⟩ : ∃ ao n' cap, v' = .slice ao n' cap := by
    rcases hown'.2 with ⟨hv, _⟩ | ⟨g, cap, cur, hv, _⟩
    · exact ⟨_, _, _, hv⟩
    · exact ⟨_, _, _, hv⟩
  go_wp2
  go_ret2
  refine ⟨rfl, Or.inr ?_, ?_, left_trans (left_trans hl1 hl2) (left_set b 1 w2 _)⟩
  · exact Lib.BuilderAt.put (T := 51) (e := 5) hB hb2 (bs' := bs ++ Lib.strCells s) (by simpa [Lib.strCells_length] using hown') (by decide)
  · exact (hb1.grown hgrow (by have := hb1.size; omega) (fun k hk => (hown.lt k hk).1)).setCell (p := ⟨b, 1, none⟩) hB _

end Go.Proofs.YtieaipclioppkaaGreat.Bld

/-! words.Get: what it answers, for every text, place and width; no condition but the text's length. -/
namespace Go.Proofs.YtieaipclioppkaaGreat.Gw
open Go Go.RowKit Go.Proofs.YtieaipclioppkaaGreatCore Go.Proofs.YtieaipclioppkaaGreat.PLeaf Go.Proofs.YtieaipclioppkaaGreat.Puts Go.Proofs.YtieaipclioppkaaGreatW.PrintWords Go.Proofs.YtieaipclioppkaaGreatW.PrintLast Go.Proofs.YtieaipclioppkaaGreatW.PrintMore

theorem snoc_ind {α : Type} {p : List α → Prop} (h0 : p []) (h1 : ∀ l a, p l → p (l ++ [a])) (l : List α) : p l := by
  have : ∀ r : List α, p r.reverse := by
    intro r
    induction r with
    | nil => exact h0
    | cons a r ih => rw [List.reverse_cons]; exact h1 _ _ ih
  have := this l.reverse
  rwa [List.reverse_reverse] at this

/-- The number of bytes, the highest first. -/
def val : List UInt8 → Nat → Nat
  | [], a => a
  | b :: l, a => val l (a * 256 + b.toNat)
def num (l : List UInt8) : Nat := val l 0

theorem val_snoc (l : List UInt8) (b : UInt8) : ∀ a, val (l ++ [b]) a = val l a * 256 + b.toNat := by
  induction l with
  | nil => intro a; rfl
  | cons x l ih => intro a; simp [val, ih]
theorem num_snoc (l : List UInt8) (b : UInt8) : num (l ++ [b]) = num l * 256 + b.toNat := val_snoc l b 0
theorem num_lt (l : List UInt8) : num l < 256 ^ l.length := by
  refine snoc_ind (p := fun l => num l < 256 ^ l.length) (by simp [num, val]) (fun l b ih => ?_) l
  · rw [num_snoc, List.length_append, List.length_singleton, Nat.pow_succ]
    have := b.toNat_lt
    omega
theorem beL_num (l : List UInt8) : beL l.length (num l) = l := by
  refine snoc_ind (p := fun l => beL l.length (num l) = l) rfl (fun l b ih => ?_) l
  · rw [num_snoc, List.length_append, List.length_singleton, beL]
    have hb := b.toNat_lt
    have e1 : (num l * 256 + b.toNat) / 256 = num l := by omega
    have e2 : (num l * 256 + b.toNat) % 256 = b.toNat := by omega
    rw [e1, e2, ih]
    simp

theorem or_add (x : Nat) (b : UInt8) (hx : x < 72057594037927936) : Go.bits .or .u64 (IntKind.u64.wrap ((x : Int) * 256)) (IntKind.u64.wrap ((b.toNat : Nat) : Int)) = ((x * 256 + b.toNat : Nat) : Int) := by
  have hb := b.toNat_lt
  have e1 : IntKind.u64.wrap ((x : Int) * 256) = ((x * 256 : Nat) : Int) := by rw [IntKind.wrap_u64]; omega
  have e2 : IntKind.u64.wrap ((b.toNat : Nat) : Int) = ((b.toNat : Nat) : Int) := by rw [IntKind.wrap_u64]; omega
  rw [e1, e2, bits_or_u64_nat _ _ (by omega) (by omega)]
  congr 1
  have : x * 256 ||| b.toNat = x * 2 ^ 8 + b.toNat := by
    rw [show (256 : Nat) = 2 ^ 8 from rfl, Nat.mul_comm x, Nat.two_pow_add_eq_or_of_lt (by omega)]
  rw [this]

/-- The bytes of a text from a place on. -/
def cut (s : ByteArray) (a n : Nat) : List UInt8 := (s.data.toList.drop a).take n
theorem cut_length (s : ByteArray) (a n : Nat) (h : a + n ≤ s.size) : (cut s a n).length = n := by simp [cut]; omega
theorem cut_succ (s : ByteArray) (a n : Nat) (h : a + n < s.size) : cut s a (n + 1) = cut s a n ++ [s[a + n]] := by
  unfold cut
  rw [List.take_succ_eq_append_getElem (by simp; omega)]
  congr 1
  simp
  rfl
theorem bt_cut (s : ByteArray) (k : Nat) (h : k < s.size) : bt s (k : Int) = ((s[k].toNat : Nat) : Int) := by simp [bt, h]

theorem get_loop (s : ByteArray) (a n : Nat) (hn : n ≤ 8) (hs : a + n ≤ s.size) (hb : s.size ≤ 9223372036854775000) : ∀ (m j k : Nat), j + m = n → m < k →
    words_Get.l0 k s (a : Int) (n : Int) ((num (cut s a j) : Nat) : Int) (n : Int) (j : Int) = some (((num (cut s a n) : Nat) : Int), ((a + n : Nat) : Int), 0) := by
  intro m
  induction m with
  | zero =>
    intro j k hj hk
    obtain ⟨k, rfl⟩ : ∃ j, k = j + 1 := ⟨k - 1, by omega⟩
    obtain rfl : j = n := by omega
    simp only [words_Get.l0]
    rw [if_neg (by omega)]
    have : wrap64 ((a : Int) + (j : Int)) = ((a + j : Nat) : Int) := by unfold wrap64; omega
    rw [this]
  | succ m ih =>
    intro j k hj hk
    obtain ⟨k, rfl⟩ : ∃ j, k = j + 1 := ⟨k - 1, by omega⟩
    simp only [words_Get.l0]
    have e : wrap64 ((a : Int) + (j : Int)) = ((a + j : Nat) : Int) := by unfold wrap64; omega
    have e2 : wrap64 ((j : Int) + 1) = ((j + 1 : Nat) : Int) := by unfold wrap64; omega
    rw [if_pos (by omega), e, if_pos (by omega), if_pos (by omega), bt_cut s (a + j) (by omega)]
    have hlt := num_lt (cut s a j)
    rw [cut_length s a j (by omega)] at hlt
    have h7 : (256 : Nat) ^ j ≤ 256 ^ 7 := Nat.pow_le_pow_right (by decide) (by omega)
    rw [or_add _ _ (by have : (256 : Nat) ^ 7 = 72057594037927936 := by decide
                       omega), e2, ← num_snoc, ← cut_succ s a j (by omega)]
    exact ih (j + 1) k (by omega) (by omega)

theorem get_f (s : ByteArray) (a n : Nat) (h1 : 1 ≤ n) (hn : n ≤ 8) (hs : a + n ≤ s.size) (hb : s.size ≤ 9223372036854775000) : words_Get.f 100 s (a : Int) (n : Int) = some (((num (cut s a n) : Nat) : Int), ((a + n : Nat) : Int), 0) := by
  unfold words_Get.f
  rw [if_neg (by omega), if_neg (by omega), if_neg (by omega)]
  have e : decide ((a : Int) > (s.size : Int)) = false := by simp; omega
  rw [e]
  show words_Get.j0 (99 + 1) _ _ _ _ = _
  simp only [words_Get.j0]
  rw [if_neg (by simp), if_neg (by unfold wrap64; omega)]
  have := get_loop s a n hn hs hb n 0 99 (by omega) (by omega)
  simpa [cut, num, val] using this

theorem wrap_id {x : Int} (h : -9223372036854775808 ≤ x) (h2 : x ≤ 9223372036854775807) : wrap64 x = x := by unfold wrap64; omega
def getS (s : ByteArray) (a n : Int) : Int × Int × Int :=
  if n < 1 ∨ 8 < n ∨ a < 0 ∨ (s.size : Int) < a then (0, 0, 2) else if (s.size : Int) - a < n then (0, 0, 3) else (((num (cut s a.toNat n.toNat) : Nat) : Int), a + n, 0)

theorem j_true (s : ByteArray) (a n : Int) : words_Get.j0 (99 + 1) s a n true = some (0, 0, 2) := by
  simp only [words_Get.j0]
  rfl
theorem getS_f (s : ByteArray) (a n : Int) (hb : s.size ≤ 9223372036854775000) : words_Get.f 100 s a n = some (getS s a n) := by
  unfold getS
  by_cases h1 : n < 1 ∨ 8 < n ∨ a < 0 ∨ (s.size : Int) < a
  · rw [if_pos h1]
    unfold words_Get.f
    by_cases c1 : n < 1
    · rw [if_pos c1]; exact j_true s a n
    · rw [if_neg c1]
      by_cases c2 : n > 8
      · rw [if_pos c2]; exact j_true s a n
      · rw [if_neg c2]
        by_cases c3 : a < 0
        · rw [if_pos c3]; exact j_true s a n
        · rw [if_neg c3, decide_eq_true (show a > (s.size : Int) by omega)]
          exact j_true s a n
  · rw [if_neg h1]
    by_cases h2 : (s.size : Int) - a < n
    · rw [if_pos h2]
      unfold words_Get.f
      rw [if_neg (by omega), if_neg (by omega), if_neg (by omega), decide_eq_false (show ¬ a > (s.size : Int) by omega)]
      show words_Get.j0 (99 + 1) _ _ _ _ = _
      simp only [words_Get.j0]
      rw [if_neg (by decide), wrap_id (by omega) (by omega), if_pos h2]
    · rw [if_neg h2]
      obtain ⟨x, rfl⟩ := Int.eq_ofNat_of_zero_le (show 0 ≤ a by omega)
      obtain ⟨y, rfl⟩ := Int.eq_ofNat_of_zero_le (show 0 ≤ n by omega)
      have := get_f s x y (by omega) (by omega) (by omega) hb
      simpa using this
theorem get_at (s : ByteArray) (a n : Int) (w : World) (hb : s.size ≤ 9223372036854775000) :
    Calls Tryz.prog 101 #[.string s, .int .i64 a, .int .i64 n] w fun e w' => e = .returned (.tuple #[.int .u64 (getS s a n).1, .int .i64 (getS s a n).2.1, .int .i64 (getS s a n).2.2]) ∧ Drawn0 w w' :=
  words_Get.calls 100 s a n _ _ _ w (getS_f s a n hb)

end Go.Proofs.YtieaipclioppkaaGreat.Gw

/-! pack.put: a value's bytes. -/
namespace Go.Proofs.YtieaipclioppkaaGreat.Pk
open Go Go.RowKit Go.Joins Go.Proofs.YtieaipclioppkaaGreatCore Go.Proofs.YtieaipclioppkaaGreat.PLeaf Go.Proofs.YtieaipclioppkaaGreat.Puts Go.Proofs.YtieaipclioppkaaGreat.Bld Go.Proofs.YtieaipclioppkaaGreat.Fr Go.Proofs.YtieaipclioppkaaGreatW.PrintWords Go.Proofs.YtieaipclioppkaaGreatW.PrintLast Go.Proofs.YtieaipclioppkaaGreatW.PrintMore

abbrev V := S65
theorem xor_ones (a : Nat) (h : a < 18446744073709551616) : a ^^^ 18446744073709551615 = 18446744073709551615 - a := by
  have e : (BitVec.ofNat 64 a ^^^ BitVec.allOnes 64).toNat = a ^^^ 18446744073709551615 := by
    rw [BitVec.toNat_xor, BitVec.toNat_ofNat, BitVec.toNat_allOnes, Nat.mod_eq_of_lt h]
  rw [← e, BitVec.xor_allOnes, BitVec.toNat_not, BitVec.toNat_ofNat, Nat.mod_eq_of_lt h]
/-- A number without a sign for one with. -/
def foldN (n : Int) : Nat := if 0 ≤ n then 2 * n.toNat else 2 * (-n - 1).toNat + 1
theorem fold_f (n : Int) (h1 : -9223372036854775808 ≤ n) (h2 : n ≤ 9223372036854775807) : words_Fold.f n = some (foldN n : Int) := by
  unfold words_Fold.f
  congr 1
  rw [IntKind.wrap_u64, IntKind.wrap_u64]
  by_cases h : 0 ≤ n
  · have e1 : wrap64 (n * 2) % 18446744073709551616 = ((foldN n : Nat) : Int) := by unfold wrap64 foldN; rw [if_pos h]; omega
    have e2 : n / 9223372036854775808 % 18446744073709551616 = ((0 : Nat) : Int) := by omega
    have hb : foldN n < 18446744073709551616 := by unfold foldN; rw [if_pos h]; omega
    rw [e1, e2, bits_xor_u64_nat _ _ hb (by decide), Nat.xor_zero]
  · obtain ⟨a, ha⟩ : ∃ a : Nat, 18446744073709551616 + 2 * n = (a : Int) := ⟨(18446744073709551616 + 2 * n).toNat, by omega⟩
    have e1 : wrap64 (n * 2) % 18446744073709551616 = (a : Int) := by unfold wrap64; omega
    have e2 : n / 9223372036854775808 % 18446744073709551616 = ((18446744073709551615 : Nat) : Int) := by omega
    rw [e1, e2, bits_xor_u64_nat _ _ (by omega) (by decide), xor_ones a (by omega)]
    unfold foldN
    rw [if_neg h]
    omega
/-- How many bytes a number has. -/
def widthN : Nat → Nat → Nat
  | 0, _ => 0
  | k + 1, n => if n = 0 then 0 else 1 + widthN k (n / 256)
mutual
/-- The bytes of a value, up to an error; the error. -/
def encV : Nat → V → List UInt8 × Int
  | deep, ⟨k, n, s, l⟩ =>
    if k = 0 then (1 :: (beL 1 (widthN 9 (foldN n)) ++ beL (widthN 9 (foldN n)) (foldN n)), 0)
    else if k = 1 then (if 4096 < s.size then ([], 5) else (2 :: (beL 2 s.size ++ s.data.toList), 0))
    else if k = 2 then (if 256 < l.length ∨ 8 ≤ deep then ([], 5) else (3 :: (beL 2 l.length ++ (encL (deep + 1) l).1), (encL (deep + 1) l).2))
    else ([], 2)
def encL : Nat → List V → List UInt8 × Int
  | _, [] => ([], 0)
  | deep, x :: r => if (encV deep x).2 = 0 then ((encV deep x).1 ++ (encL deep r).1, (encL deep r).2) else encV deep x
end

theorem fold_lt (n : Int) (h1 : -9223372036854775808 ≤ n) (h2 : n ≤ 9223372036854775807) : foldN n < 18446744073709551616 := by unfold foldN; split <;> omega
theorem builder_fr {T e : TypeId} {B b : Nat} {bs : List Value} {w w1 : World} {S : Nat → Prop} (h : Lib.IsBuilder T e B b bs w) (f : Fr S w w1) (hS : ∀ k, B ≤ k → ¬ S k) : Lib.IsBuilder T e B b bs w1 := by
  have k : ∀ p, Lib.BuilderAt T e B b p bs w → Lib.BuilderAt T e B b p bs w1 := by
    rintro p ⟨h1, v, h2, h3, h4⟩
    refine ⟨h1, v, f.at_ h2 (hS b h1), ⟨h3.1, h3.2.imp id ?_⟩, h4⟩
    rintro ⟨g, cap, cur, k1, k2, k3, k4⟩
    exact ⟨g, cap, cur, k1, k2, f.at_ k3 (hS g k2), k4⟩
  rcases h with h | h
  · exact Or.inl (k _ h)
  · exact Or.inr (k _ h)
theorem builder_kept {T e : TypeId} {B b : Nat} {bs : List Value} {w w1 : World} (h : Lib.IsBuilder T e B b bs w) (hb : Below w.heap.size w w1) : Lib.IsBuilder T e B b bs w1 := builder_fr (S := fun _ => False) h (Fr.of_below hb) (fun _ _ h => h)
theorem cells_app (bs : List UInt8) (s : ByteArray) : Lib.byteCells bs ++ Lib.strCells s = Lib.byteCells (bs ++ s.data.toList) := by
  unfold Lib.byteCells Lib.strCells
  rw [List.map_append]
structure WInv (F : Nat) (wr0 wr : World) (gk : Nat) (vj vm : Value) (j m : Nat) : Prop where
  le : j ≤ 8
  sj : vj = .int .i64 j
  sm : vm = .int .u64 m
  ghost : gk + j = 8
  lt : m < 256 ^ (8 - j)
  width : widthN 9 F = j + widthN (9 - j) m
  same : wr = wr0
def WRel (F : Nat) (wr0 : World) (gk : Nat) (vj vm : Value) (wr : World) : Prop := ∃ j m, WInv F wr0 wr gk vj vm j m

set_option maxHeartbeats 4000000 in
set_option maxRecDepth 100000 in
theorem put_int (n : Int) (s : ByteArray) (vl : Value) (deep : Int) (B b : Nat) (bs : List UInt8) (w : World) (hn1 : -9223372036854775808 ≤ n) (hn2 : n ≤ 9223372036854775807) (h : Lib.IsBuilder 51 5 B b (Lib.byteCells bs) w) (hl : bs.length ≤ 140737488355000) (hB : B ≤ w.heap.size) :
    Calls Tryz.prog 54 #[.pointer (some ⟨b, 0, none⟩), .agg #[.int .i64 0, .int .i64 n, .string s, vl], .int .i64 deep] w fun e w' => e = .returned (.int .i64 0) ∧
      Lib.IsBuilder 51 5 B b (Lib.byteCells (bs ++ (1 :: (beL 1 (widthN 9 (foldN n)) ++ beL (widthN 9 (foldN n)) (foldN n))))) w' ∧ Below B w w' := by
  obtain ⟨wb, hwb⟩ : ∃ wb, w.alloc (.cells #[.int .i64 0, .int .i64 n, .string s, vl] 65) = wb := ⟨_, rfl⟩
  have hbb : Below w.heap.size w wb := by rw [← hwb]; exact (Below.refl _ _).alloc (Nat.le_refl _) _
  have hqb : wb.heap[w.heap.size]? = some (.cells #[.int .i64 0, .int .i64 n, .string s, vl] 65 (0, 0)) := by rw [← hwb]; exact heap_alloc_new _ _
  obtain ⟨q, hq⟩ : ∃ q, w.heap.size = q := ⟨_, rfl⟩
  rw [hq] at hqb
  have c0 : wb.cell? ⟨q, 0, none⟩ = some (.int .i64 0) := cell_of_block hqb 0
  have c1 : wb.cell? ⟨q, 1, none⟩ = some (.int .i64 n) := cell_of_block hqb 1
  obtain ⟨F, hF⟩ : ∃ F : Nat, foldN n = F := ⟨_, rfl⟩
  have hff := fold_f n hn1 hn2
  rw [hF] at hff
  have HBB := Lib.hid hbb
  have HFF := Lib.hid hff
  have HBU := Lib.hid h
  have HF := Lib.hid hF
  clear h hff hF hbb
  go_enter Tryz.func54, Tryz.ntmps54
  go_wp2_with (first | (rw [hwb]) | (rw [hq]))
  refine (words_Fold.calls n _ wb HFF.out).mono ?_
  rintro e w2 ⟨rfl, hd2⟩
  have HB2 := Lib.hid (HBB.out.trans ((Drawn0.below hd2).mono HBB.out.size))
  clear hd2
  go_wp2_with fail
  go_loopg [8, 9] 8 (fun gk vj vm wr => WRel F w2 gk vj vm wr)
  case atStart => exact ⟨0, F, ⟨by omega, rfl, rfl, rfl, by show F < 18446744073709551616; rw [← HF.out]; exact fold_lt n hn1 hn2, by rw [Nat.zero_add, Nat.sub_zero], rfl⟩⟩
  case round =>
    obtain ⟨j, m, hj, rfl, rfl, hg, hlt, hw, rfl⟩ := hrel
    have HG := Lib.hid hg
    have HLT := Lib.hid hlt
    have HW := Lib.hid hw
    clear hg hlt hw
    by_cases hm : m = 0
    · subst hm
      have hw0 : widthN 9 F = j := by
        have := HW.out
        rw [this]
        have : widthN (9 - j) 0 = 0 := by
          rcases h9 : 9 - j with _ | k
          · rfl
          · rfl
        omega
      have HW0 := Lib.hid hw0
      clear hw0
      go_wp2_with fail
      refine (put_at 1 (j : Int) _ (by omega) (by omega) (by omega) (by omega)).mono ?_
      rintro e w3 ⟨rfl, hb3⟩
      have HB3 := Lib.hid (HB2.out.trans (hb3.mono HB2.out.size))
      clear hb3
      rw [Int.toNat_natCast, show (1 : Int).toNat = 1 from rfl]
      obtain ⟨t1, ht1⟩ : ∃ t, be 1 j = t := ⟨_, rfl⟩
      have hs1 : t1.size = 1 := by rw [← ht1, be_size]
      rw [ht1]
      have HT1 := Lib.hid ht1
      clear ht1
      go_wp2_with fail
      refine (put_at (j : Int) (F : Int) _ (by omega) (by omega) (by omega) (by rw [← HF.out]; have := fold_lt n hn1 hn2; omega)).mono ?_
      rintro e w4 ⟨rfl, hb4⟩
      have HB4 := Lib.hid (HB3.out.trans (hb4.mono HB3.out.size))
      have HBU4 := Lib.hid (builder_kept HBU.out HB4.out)
      clear hb4
      simp only [Int.toNat_natCast]
      obtain ⟨t2, ht2⟩ : ∃ t, be j F = t := ⟨_, rfl⟩
      have hs2 : t2.size = j := by rw [← ht2, be_size]
      rw [ht2]
      have HT2 := Lib.hid ht2
      clear ht2
      go_wp2_with fail
      refine (write_any B b (Lib.byteCells bs) _ w4 HBU4.out (by rw [Lib.byteCells_length]; simp only [ByteArray.size_append]; rw [hs1, hs2]; show bs.length + (1 + 1 + j) ≤ _; omega) (Nat.le_trans hB HB4.out.size)).mono ?_
      rintro e w5 ⟨rfl, hbu5, hb5, _⟩
      rw [cells_app] at hbu5
      have hbt : ((⟨#[1]⟩ : ByteArray) ++ t1 ++ t2).data.toList = 1 :: (beL 1 (widthN 9 (foldN n)) ++ beL (widthN 9 (foldN n)) (foldN n)) := by
        rw [HF.out, HW0.out, ← HT1.out, ← HT2.out, ByteArray.data_append, ByteArray.data_append]
        simp [be]
      rw [hbt] at hbu5
      have HBU5 := Lib.hid hbu5
      have HB5 : Hid (Below B w w5) := Lib.hid ((HB4.out.mono hB).trans hb5)
      clear hbu5 hb5 hbt
      go_wp2_with fail
      exact bodyPost_ret (v := .int .i64 0) (by simp [results, Tryz.results54, go_sem]) rfl ⟨rfl, HBU5.out, HB5.out⟩
    · have hm1 : 0 < m := by omega
      have hj7 : j < 8 := by
        rcases Nat.lt_or_ge j 8 with h | h
        · exact h
        · have h8 := HLT.out
          rw [show 8 - j = 0 by omega] at h8
          omega
      have hm1I : (0 : Int) < (m : Int) := by omega
      go_wp2_with fail
      go_roundg (gk - 1)
      case measure => have := HG.out; omega
      case rel =>
        refine ⟨j + 1, m / 256, ⟨by omega, by go_num, rfl, by have := HG.out; omega, ?_, ?_, rfl⟩⟩
        · have h8 := HLT.out
          rw [show 8 - j = (8 - (j + 1)) + 1 by omega, Nat.pow_succ] at h8
          exact Nat.div_lt_of_lt_mul (by rw [Nat.mul_comm]; exact h8)
        · rw [HW.out, show 9 - j = (9 - (j + 1)) + 1 by omega, widthN, if_neg hm]
          omega

set_option maxHeartbeats 4000000 in
set_option maxRecDepth 100000 in
theorem text_any (s : ByteArray) (w : World) (hs : s.size ≤ 65535) : Calls Tryz.prog 98 #[.string s] w fun e w' => e = .returned (.tuple #[.string (be 2 s.size ++ s), .int .i64 0]) ∧ Below w.heap.size w w' := by
  have v1 : IntKind.u64.wrap (s.size : Int) = (s.size : Int) := IntWalk.u64_in _ (by omega)
  have hsI : ¬ (65535 : Int) < (s.size : Int) := by omega
  go_enter Tryz.func98, Tryz.ntmps98
  go_wp2_with fail
  refine (put_at 2 (s.size : Int) _ (by omega) (by omega) (by omega) (by omega)).mono ?_
  rintro e w2 ⟨rfl, hb2⟩
  rw [Int.toNat_natCast, show (2 : Int).toNat = 2 from rfl]
  obtain ⟨t1, ht1⟩ : ∃ t, be 2 s.size = t := ⟨_, rfl⟩
  have hs1 : t1.size = 2 := by rw [← ht1, be_size]
  rw [ht1]
  have HT1 := Lib.hid ht1
  clear ht1
  go_wp2_with fail
  exact bodyPost_ret (v := .tuple #[.string (t1 ++ s), .int .i64 0]) (by simp [results, Tryz.results98, go_sem]) rfl ⟨by rw [HT1.out], hb2⟩

set_option maxHeartbeats 4000000 in
set_option maxRecDepth 100000 in
theorem put_text (n : Int) (s : ByteArray) (vl : Value) (deep : Int) (B b : Nat) (bs : List UInt8) (w : World) (h : Lib.IsBuilder 51 5 B b (Lib.byteCells bs) w) (hl : bs.length ≤ 140737488340000) (hB : B ≤ w.heap.size) :
    Calls Tryz.prog 54 #[.pointer (some ⟨b, 0, none⟩), .agg #[.int .i64 1, .int .i64 n, .string s, vl], .int .i64 deep] w fun e w' => e = .returned (.int .i64 (if 4096 < s.size then 5 else 0)) ∧
      Lib.IsBuilder 51 5 B b (Lib.byteCells (bs ++ (if 4096 < s.size then [] else 2 :: (beL 2 s.size ++ s.data.toList)))) w' ∧ Below B w w' := by
  obtain ⟨wb, hwb⟩ : ∃ wb, w.alloc (.cells #[.int .i64 1, .int .i64 n, .string s, vl] 65) = wb := ⟨_, rfl⟩
  have hbb : Below w.heap.size w wb := by rw [← hwb]; exact (Below.refl _ _).alloc (Nat.le_refl _) _
  have hqb : wb.heap[w.heap.size]? = some (.cells #[.int .i64 1, .int .i64 n, .string s, vl] 65 (0, 0)) := by rw [← hwb]; exact heap_alloc_new _ _
  obtain ⟨q, hq⟩ : ∃ q, w.heap.size = q := ⟨_, rfl⟩
  rw [hq] at hqb
  have c0 : wb.cell? ⟨q, 0, none⟩ = some (.int .i64 1) := cell_of_block hqb 0
  have c2 : wb.cell? ⟨q, 2, none⟩ = some (.string s) := cell_of_block hqb 2
  have HBB := Lib.hid hbb
  have HBU := Lib.hid h
  clear h hbb
  by_cases hs : 4096 < s.size
  · have hsI : (4096 : Int) < (s.size : Int) := by omega
    rw [if_pos hs, if_pos hs, List.append_nil]
    go_enter Tryz.func54, Tryz.ntmps54
    go_wp2_with (first | (rw [hwb]) | (rw [hq]))
    exact bodyPost_ret (v := .int .i64 5) (by simp [results, Tryz.results54, go_sem]) rfl ⟨rfl, builder_kept HBU.out HBB.out, HBB.out.mono hB⟩
  · have hsI : ¬ (4096 : Int) < (s.size : Int) := by omega
    rw [if_neg hs, if_neg hs]
    go_enter Tryz.func54, Tryz.ntmps54
    go_wp2_with (first | (rw [hwb]) | (rw [hq]))
    refine (text_any s wb (by omega)).mono ?_
    rintro e w2 ⟨rfl, hb2⟩
    have HB2 := Lib.hid (HBB.out.trans (hb2.mono HBB.out.size))
    have HBU2 := Lib.hid (builder_kept HBU.out HB2.out)
    obtain ⟨t, ht⟩ : ∃ t, be 2 s.size ++ s = t := ⟨_, rfl⟩
    have hts : t.size = 2 + s.size := by rw [← ht, ByteArray.size_append, be_size]
    rw [ht]
    have HT := Lib.hid ht
    clear hb2 ht
    go_wp2_with fail
    refine (write_any B b (Lib.byteCells bs) _ w2 HBU2.out (by rw [Lib.byteCells_length]; simp only [ByteArray.size_append]; rw [hts]; show bs.length + (1 + (2 + s.size)) ≤ _; omega) (Nat.le_trans hB HB2.out.size)).mono ?_
    rintro e w5 ⟨rfl, hbu5, hb5, _⟩
    rw [cells_app] at hbu5
    have hbt : ((⟨#[2]⟩ : ByteArray) ++ t).data.toList = 2 :: (beL 2 s.size ++ s.data.toList) := by
      rw [← HT.out, ByteArray.data_append, ByteArray.data_append]
      simp [be]
    rw [hbt] at hbu5
    have HBU5 := Lib.hid hbu5
    have HB5 : Hid (Below B w w5) := Lib.hid ((HB2.out.mono hB).trans hb5)
    clear hbu5 hb5 hbt
    go_wp2_with fail
    exact bodyPost_ret (v := .int .i64 0) (by simp [results, Tryz.results54, go_sem]) rfl ⟨rfl, HBU5.out, HB5.out⟩

/-- Its numbers are numbers. -/
inductive OkV : V → Prop
  | mk {k n : Int} {s : ByteArray} {l : List V} (h1 : -9223372036854775808 ≤ n) (h2 : n ≤ 9223372036854775807) (hl : ∀ x ∈ l, OkV x) : OkV ⟨k, n, s, l⟩
theorem encL_nil (d : Nat) : encL d [] = ([], 0) := by rw [encL]
theorem encL_cons (d : Nat) (x : V) (r : List V) : encL d (x :: r) = if (encV d x).2 = 0 then ((encV d x).1 ++ (encL d r).1, (encL d r).2) else encV d x := by rw [encL]
theorem encL_app (d : Nat) : ∀ (l r : List V), (encL d l).2 = 0 → encL d (l ++ r) = ((encL d l).1 ++ (encL d r).1, (encL d r).2) := by
  intro l
  induction l with
  | nil => intro r _; rw [encL_nil]; rfl
  | cons x l ih =>
    intro r h
    rw [List.cons_append, encL_cons, encL_cons]
    rw [encL_cons] at h
    by_cases hx : (encV d x).2 = 0
    · rw [if_pos hx] at h
      rw [if_pos hx, if_pos hx, ih r h, List.append_assoc]
    · rw [if_neg hx] at h
      exact absurd h hx
theorem encV_list (d : Nat) (n : Int) (s : ByteArray) (l : List V) : encV d ⟨2, n, s, l⟩ = if 256 < l.length ∨ 8 ≤ d then ([], 5) else (3 :: (beL 2 l.length ++ (encL (d + 1) l).1), (encL (d + 1) l).2) := by
  rw [encV, if_neg (by decide), if_neg (by decide), if_pos rfl]
structure LInv (l : List V) (d : Nat) (w0 : World) (B b : Nat) (bs : List UInt8) (gk : Nat) (v : Value) (w wr : World) (k : Nat) : Prop where
  le : k ≤ l.length
  slot : v = .int .i64 k
  ghost : gk + k = l.length
  good : (encL d (l.take k)).2 = 0
  bld : Lib.IsBuilder 51 5 B b (Lib.byteCells (bs ++ (encL d (l.take k)).1)) wr
  below : Below B w wr
def LRel (l : List V) (d : Nat) (w0 : World) (B b : Nat) (bs : List UInt8) (w : World) (gk : Nat) (v : Value) (wr : World) : Prop := ∃ k, LInv l d w0 B b bs gk v w wr k

set_option maxHeartbeats 8000000 in
set_option maxRecDepth 100000 in
theorem put_list (n : Int) (s : ByteArray) (l : List V) (A : Option Addr) (c : Nat) (deep : Nat) (w0 w : World) (B b : Nat) (bs : List UInt8) (hC : k65.C w0 A l.length l) (h0 : Below w0.heap.size w0 w) (h0B : w0.heap.size ≤ B) (hB : B ≤ w.heap.size) (h : Lib.IsBuilder 51 5 B b (Lib.byteCells bs) w)
    (hl : bs.length + (encV deep ⟨2, n, s, l⟩).1.length ≤ 140737488340000)
    (ih : ∀ x ∈ l, ∀ (cs : List Value) (w : World) (bs : List UInt8), k65.K w0 x cs → Below w0.heap.size w0 w → B ≤ w.heap.size → Lib.IsBuilder 51 5 B b (Lib.byteCells bs) w → bs.length + (encV (deep + 1) x).1.length ≤ 140737488340000 →
      Calls Tryz.prog 54 #[.pointer (some ⟨b, 0, none⟩), .agg cs.toArray, .int .i64 ((deep + 1 : Nat) : Int)] w fun e w' => e = .returned (.int .i64 (encV (deep + 1) x).2) ∧ Lib.IsBuilder 51 5 B b (Lib.byteCells (bs ++ (encV (deep + 1) x).1)) w' ∧ Below B w w') :
    Calls Tryz.prog 54 #[.pointer (some ⟨b, 0, none⟩), .agg #[.int .i64 2, .int .i64 n, .string s, .slice A l.length c], .int .i64 (deep : Int)] w fun e w' => e = .returned (.int .i64 (encV deep ⟨2, n, s, l⟩).2) ∧
      Lib.IsBuilder 51 5 B b (Lib.byteCells (bs ++ (encV deep ⟨2, n, s, l⟩).1)) w' ∧ Below B w w' := by
  rw [encV_list] at hl ⊢
  obtain ⟨wb, hwb⟩ : ∃ wb, w.alloc (.cells #[.int .i64 2, .int .i64 n, .string s, .slice A l.length c] 65) = wb := ⟨_, rfl⟩
  have hbb : Below w.heap.size w wb := by rw [← hwb]; exact (Below.refl _ _).alloc (Nat.le_refl _) _
  have hqb : wb.heap[w.heap.size]? = some (.cells #[.int .i64 2, .int .i64 n, .string s, .slice A l.length c] 65 (0, 0)) := by rw [← hwb]; exact heap_alloc_new _ _
  obtain ⟨q, hq⟩ : ∃ q, w.heap.size = q := ⟨_, rfl⟩
  rw [hq] at hqb
  have c0 : wb.cell? ⟨q, 0, none⟩ = some (.int .i64 2) := cell_of_block hqb 0
  have c3 : wb.cell? ⟨q, 3, none⟩ = some (.slice A l.length c) := cell_of_block hqb 3
  have HBB := Lib.hid hbb
  have HBU := Lib.hid h
  clear h hbb
  by_cases hbad : 256 < l.length ∨ 8 ≤ deep
  · rw [if_pos hbad] at hl ⊢
    by_cases hb1 : 256 < l.length
    · have hb1I : (256 : Int) < (l.length : Int) := by omega
      go_enter Tryz.func54, Tryz.ntmps54
      go_wp2_with (first | (rw [hwb]) | (rw [hq]))
      exact bodyPost_ret (v := .int .i64 5) (by simp [results, Tryz.results54, go_sem]) rfl ⟨rfl, builder_kept HBU.out HBB.out, HBB.out.mono hB⟩
    · have hb1I : ¬ (256 : Int) < (l.length : Int) := by omega
      have hb2I : (8 : Int) ≤ (deep : Int) := by omega
      go_enter Tryz.func54, Tryz.ntmps54
      go_wp2_with (first | (rw [hwb]) | (rw [hq]))
      exact bodyPost_ret (v := .int .i64 5) (by simp [results, Tryz.results54, go_sem]) rfl ⟨rfl, builder_kept HBU.out HBB.out, HBB.out.mono hB⟩
  · rw [if_neg hbad] at hl ⊢
    have hb1I : ¬ (256 : Int) < (l.length : Int) := by omega
    have hb2I : ¬ (8 : Int) ≤ (deep : Int) := by omega
    have v1 : IntKind.u64.wrap (l.length : Int) = (l.length : Int) := IntWalk.u64_in _ (by omega)
    have HC := Lib.hid hC
    have H0 := Lib.hid h0
    have HIH := Lib.hid ih
    have HL := Lib.hid hl
    clear hC h0 ih hl
    go_enter Tryz.func54, Tryz.ntmps54
    go_wp2_with (first | (rw [hwb]) | (rw [hq]))
    refine (put_at 2 (l.length : Int) _ (by omega) (by omega) (by omega) (by omega)).mono ?_
    rintro e w2 ⟨rfl, hb2⟩
    have HB2 := Lib.hid (HBB.out.trans (hb2.mono HBB.out.size))
    have HBU2 := Lib.hid (builder_kept HBU.out HB2.out)
    rw [Int.toNat_natCast, show (2 : Int).toNat = 2 from rfl]
    obtain ⟨t, ht⟩ : ∃ t, be 2 l.length = t := ⟨_, rfl⟩
    have hts : t.size = 2 := by rw [← ht, be_size]
    rw [ht]
    have HT := Lib.hid ht
    clear ht
    have HQB := Lib.hid hqb
    go_wp2_with fail
    refine (write_any B b (Lib.byteCells bs) _ w2 HBU2.out (by rw [Lib.byteCells_length]; simp only [ByteArray.size_append]; rw [hts]; have := HL.out; show bs.length + (1 + 2) ≤ _; omega) (Nat.le_trans hB HB2.out.size)).mono ?_
    rintro e w5 ⟨rfl, hbu5, hb5, hleft⟩
    rw [cells_app] at hbu5
    have hbt : ((⟨#[3]⟩ : ByteArray) ++ t).data.toList = 3 :: beL 2 l.length := by
      rw [← HT.out, ByteArray.data_append]
      simp [be]
    rw [hbt] at hbu5
    have HBU5 := Lib.hid hbu5
    have HB5 : Hid (Below B w w5) := Lib.hid ((HB2.out.mono hB).trans hb5)
    have hbq : b < q := by
      rw [← hq]
      rcases HBU.out with ⟨_, v, h, _⟩ | ⟨_, v, h, _⟩
      · exact heap_lt h
      · exact heap_lt h
    have hq2 : w2.heap[q]? = some (.cells #[.int .i64 2, .int .i64 n, .string s, .slice A l.length c] 65 (0, 0)) := (hb2.block q (heap_lt HQB.out)).trans HQB.out
    have hq5 := hleft.block q _ hq2 (by omega) (fun cur fr e => by injection e with _ e _; exact absurd e (by decide))
    have c3 : w5.cell? ⟨q, 3, none⟩ = some (.slice A l.length c) := cell_of_block hq5 3
    clear hbu5 hb5 hbt hb2 hq2 hq5 hleft hqb
    go_wp2_with fail
    go_loopg [76] l.length (fun gk v wr => LRel l (deep + 1) w0 B b (bs ++ (3 :: beL 2 l.length)) w gk v wr)
    case atStart => exact ⟨0, ⟨Nat.zero_le _, rfl, rfl, by rw [List.take_zero, encL_nil], by rw [List.take_zero, encL_nil, List.append_nil]; exact HBU5.out, HB5.out⟩⟩
    case round =>
      obtain ⟨k, hk, rfl, hg, hgood, hbld, hbel⟩ := hrel
      have HG := Lib.hid hg
      have HGD := Lib.hid hgood
      have HBD := Lib.hid hbld
      have HBL := Lib.hid hbel
      clear hg hgood hbld hbel
      by_cases hlt : k < l.length
      · have hw0r : Below w0.heap.size w0 wr := H0.out.trans (HBL.out.mono h0B)
        obtain ⟨ad, cl, hA, _, hK, hc0⟩ := Kd.C_get HC.out z65 (k : Int) (by omega) (by omega)
        subst hA
        obtain ⟨x, hx⟩ : ∃ x, l[k] = x := ⟨_, rfl⟩
        have hxk : l.getD (k : Int).toNat z65 = x := by rw [Int.toNat_natCast, List.getD_eq_getElem?_getD, List.getElem?_eq_getElem hlt, ← hx]; rfl
        rw [hxk] at hK
        have hK0 := hK
        obtain ⟨A3, c3', rfl, _, _⟩ := k65_open hK
        have hcc : ∀ (j : Nat) (u : Value), [Value.int .i64 x.f0, .int .i64 x.f1, .string x.f2, .slice A3 x.f3.length c3'][j]? = some u → w0.cell? (ad.add (k * 4 + j)) = some u := fun j u hj => by have := hc0 j u hj; rwa [Int.toNat_natCast] at this
        have d0 : wr.cell? (ad.add (k * 4)) = some (.int .i64 x.f0) := pw_cell_below hw0r (hcc 0 _ rfl)
        have d1 : wr.cell? ⟨(ad.add (k * 4)).block, (ad.add (k * 4)).off + 1, none⟩ = some (.int .i64 x.f1) := pw_cell_below hw0r (by rw [← add_field _ _ 1 (by omega)]; exact hcc 1 _ rfl)
        have d2 : wr.cell? ⟨(ad.add (k * 4)).block, (ad.add (k * 4)).off + 2, none⟩ = some (.string x.f2) := pw_cell_below hw0r (by rw [← add_field _ _ 2 (by omega)]; exact hcc 2 _ rfl)
        have d3 : wr.cell? ⟨(ad.add (k * 4)).block, (ad.add (k * 4)).off + 3, none⟩ = some (.slice A3 x.f3.length c3') := pw_cell_below hw0r (by rw [← add_field _ _ 3 (by omega)]; exact hcc 3 _ rfl)
        have htk : l.take (k + 1) = l.take k ++ [x] := by rw [List.take_succ_eq_append_getElem hlt, hx]
        have happ := encL_app (deep + 1) (l.take k) (l.drop k) HGD.out
        rw [List.take_append_drop, List.drop_eq_getElem_cons hlt, hx, encL_cons] at happ
        have HAP := Lib.hid happ
        have HTK := Lib.hid htk
        have hlen : bs.length + 3 + ((encL (deep + 1) (l.take k)).1.length + (encV (deep + 1) x).1.length) ≤ 140737488340000 := by
          have h1 := HL.out
          rw [happ] at h1
          simp only [List.length_cons, List.length_append, beL_length] at h1
          by_cases hx0 : (encV (deep + 1) x).2 = 0
          · rw [if_pos hx0] at h1
            simp only [List.length_append] at h1
            omega
          · rw [if_neg hx0] at h1
            omega
        have hcall := HIH.out x (by rw [← hx]; exact List.getElem_mem hlt) _ (wr.alloc (.cells #[.int .i64 x.f0, .int .i64 x.f1, .string x.f2, .slice A3 x.f3.length c3'] 65)) _ hK0 (hw0r.alloc hw0r.size _) (by have := HBL.out.size; simp; omega) (builder_kept HBD.out ((Below.refl _ _).alloc (Nat.le_refl _) _)) (by simp only [List.length_append, List.length_cons, beL_length]; omega)
        have HCALL := Lib.hid hcall
        clear happ htk hlen hcall hK hK0 hc0 hcc hxk
        go_wp2_with fail
        refine HCALL.out.mono ?_
        rintro e w8 ⟨rfl, hbu8, hb8⟩
        have HB8 : Hid (Below B w w8) := Lib.hid (HBL.out.trans (((Below.refl B wr).alloc (by have := HBL.out.size; omega) _).trans hb8))
        have HBU8 := Lib.hid hbu8
        obtain ⟨E, hE⟩ : ∃ E, (encV (deep + 1) x).2 = E := ⟨_, rfl⟩
        rw [hE]
        have HE := Lib.hid hE
        clear hbu8 hb8 hE HCALL d0 d1 d2 d3
        by_cases hE0 : E = 0
        · subst hE0
          go_wp2_with fail
          go_roundg (gk - 1)
          case measure => have := HG.out; omega
          case rel =>
            have h1 := encL_app (deep + 1) (l.take k) [x] HGD.out
            rw [encL_cons, if_pos HE.out, encL_nil] at h1
            refine ⟨k + 1, ⟨by omega, by go_num, by have := HG.out; omega, by rw [HTK.out, h1], ?_, HB8.out⟩⟩
            rw [HTK.out, h1, List.append_nil, ← List.append_assoc]
            exact HBU8.out
        · have hE1 : (E == 0) = false := by simpa using hE0
          have hE2 : (encL (deep + 1) l) = ((encL (deep + 1) (l.take k)).1 ++ (encV (deep + 1) x).1, E) := by
            rw [HAP.out, if_neg (by rw [HE.out]; exact hE0), HE.out]
          have HE2 := Lib.hid hE2
          clear hE2
          go_wp2_with fail
          exact bodyPost_ret (v := .int .i64 E) (by simp [results, Tryz.results54, go_sem]) rfl ⟨by rw [HE2.out], by rw [HE2.out]; have := HBU8.out; simpa using this, HB8.out⟩
      · obtain rfl : k = l.length := by omega
        have hgd := HGD.out
        have hbd := HBD.out
        rw [List.take_of_length_le (Nat.le_refl _)] at hgd hbd
        have HGD2 := Lib.hid hgd
        have HBD2 := Lib.hid hbd
        clear hgd hbd
        go_wp2_with fail
        exact bodyPost_ret (v := .int .i64 0) (by simp [results, Tryz.results54, go_sem]) rfl ⟨by rw [HGD2.out], by have := HBD2.out; simpa using this, HBL.out⟩

set_option maxHeartbeats 4000000 in
set_option maxRecDepth 100000 in
theorem put_else (k n : Int) (s : ByteArray) (vl : Value) (deep : Int) (h0 : k ≠ 0) (h1 : k ≠ 1) (h2 : k ≠ 2) (b : Nat) (w : World) :
    Calls Tryz.prog 54 #[.pointer (some ⟨b, 0, none⟩), .agg #[.int .i64 k, .int .i64 n, .string s, vl], .int .i64 deep] w fun e w' => e = .returned (.int .i64 2) ∧ Below w.heap.size w w' := by
  have q0 : (k == 0) = false := by simpa using h0
  have q1 : (k == 1) = false := by simpa using h1
  have q2 : (k == 2) = false := by simpa using h2
  clear h0 h1 h2
  go_enter Tryz.func54, Tryz.ntmps54
  go_wp2_with fail
  exact bodyPost_ret (v := .int .i64 2) (by simp [results, Tryz.results54, go_sem]) rfl ⟨rfl, (Below.refl _ _).alloc (Nat.le_refl _) _⟩

theorem put_all (w0 : World) (B b : Nat) (h0B : w0.heap.size ≤ B) : ∀ (N : Nat) (v : V), SizeOf.sizeOf v < N → OkV v → ∀ (deep : Nat) (cs : List Value) (w : World) (bs : List UInt8), k65.K w0 v cs → Below w0.heap.size w0 w → B ≤ w.heap.size → Lib.IsBuilder 51 5 B b (Lib.byteCells bs) w → bs.length + (encV deep v).1.length ≤ 140737488340000 →
      Calls Tryz.prog 54 #[.pointer (some ⟨b, 0, none⟩), .agg cs.toArray, .int .i64 (deep : Int)] w fun e w' => e = .returned (.int .i64 (encV deep v).2) ∧ Lib.IsBuilder 51 5 B b (Lib.byteCells (bs ++ (encV deep v).1)) w' ∧ Below B w w' := by
  intro N
  induction N with
  | zero => intro v h; omega
  | succ N ihN =>
    intro v hv hok deep cs w bs hK h0 hB hb hl
    obtain ⟨A, c, rfl, _, hC⟩ := k65_open hK
    obtain ⟨k, n, s, l⟩ := v
    obtain ⟨hn1, hn2, hxs⟩ := hok
    by_cases h0k : k = 0
    · subst h0k
      have e : encV deep ⟨0, n, s, l⟩ = (1 :: (beL 1 (widthN 9 (foldN n)) ++ beL (widthN 9 (foldN n)) (foldN n)), 0) := by rw [encV, if_pos rfl]
      rw [e] at hl ⊢
      exact put_int n s _ deep B b bs w hn1 hn2 hb (by omega) hB
    · by_cases h1k : k = 1
      · subst h1k
        have e : encV deep ⟨1, n, s, l⟩ = (if 4096 < s.size then [] else 2 :: (beL 2 s.size ++ s.data.toList), if 4096 < s.size then 5 else 0) := by
          rw [encV, if_neg (by decide), if_pos rfl]
          split <;> rfl
        rw [e] at hl ⊢
        exact put_text n s _ deep B b bs w hb (by omega) hB
      · by_cases h2k : k = 2
        · subst h2k
          refine put_list n s l A c deep w0 w B b bs hC h0 h0B hB hb hl (fun x hx cs w bs hK h0 hB hb hl => ?_)
          have hlt : SizeOf.sizeOf x < N := by
            have h1 := List.sizeOf_lt_of_mem hx
            have h2 : SizeOf.sizeOf (⟨2, n, s, l⟩ : V) = 1 + SizeOf.sizeOf (2 : Int) + SizeOf.sizeOf n + SizeOf.sizeOf s + SizeOf.sizeOf l := S65.mk.sizeOf_spec 2 n s l
            omega
          exact ihN x hlt (hxs x hx) (deep + 1) cs w bs hK h0 hB hb hl
        · have e : encV deep ⟨k, n, s, l⟩ = ([], 2) := by rw [encV, if_neg h0k, if_neg h1k, if_neg h2k]
          rw [e, List.append_nil]
          refine (put_else k n s _ deep h0k h1k h2k b w).mono ?_
          rintro e w' ⟨rfl, hb'⟩
          exact ⟨rfl, builder_kept hb hb', hb'.mono hB⟩

end Go.Proofs.YtieaipclioppkaaGreat.Pk
