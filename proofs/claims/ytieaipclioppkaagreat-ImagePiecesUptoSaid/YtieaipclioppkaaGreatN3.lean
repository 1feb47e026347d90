/- A tenant's state as it lies in memory: its cells; whole blocks read and written; tenant.New: a tenant that has nothing yet; image's checks over nothing: Equal, ContainsFunc, rises, nodes, sound; Weight. -/
import Derived.Test.YtieaipclioppkaaGreatCore
import Derived.Test.YtieaipclioppkaaGreatFr
import Derived.Test.YtieaipclioppkaaGreatProg
import Derived.Laws.Rows
import Derived.Laws.Tables
import Derived.Deep.DeepMust
import Derived.Great.Walk
import Derived.Great.BuildSlice
import Derived.Lib.SmallJoins
import Derived.Test.YtieaipclioppkaaGreatN1
set_option linter.unusedSimpArgs false
set_option linter.unusedVariables false

/-! A tenant's state as it lies in memory: its cells; whole blocks read and written. -/
namespace Go.Proofs.YtieaipclioppkaaGreat.St
open Go Go.RowKit Go.Proofs.YtieaipclioppkaaGreatCore Go.Proofs.YtieaipclioppkaaGreat.Fr

/-- A tenant's state, its lists as they stand in the cells. -/
structure TS where
  num : Int
  epoch : Int
  roles : List Int
  g : Value
  f : Value
  r : Value
  next : Int
  q : Value
  tick : Int
  left : Int
  c : Value
  ncall : Int
  seen : List Int
def ints (l : List Int) : List Value := l.map (Value.int .i64)
def TS.cs (s : TS) : List Value := [.int .i64 s.num, .int .i64 s.epoch] ++ (ints s.roles ++ ([s.g, s.f, s.r, .int .i64 s.next, s.q, .int .i64 s.tick, .int .i64 s.left, s.c, .int .i64 s.ncall] ++ ints s.seen))
structure TS.Ok (s : TS) : Prop where
  roles : s.roles.length = 16
  seen : s.seen.length = 8
  one : s.g.oneCell' = true ∧ s.f.oneCell' = true ∧ s.r.oneCell' = true ∧ s.q.oneCell' = true ∧ s.c.oneCell' = true
theorem ints_length (l : List Int) : (ints l).length = l.length := by simp [ints]
theorem TS.len {s : TS} (h : s.Ok) : s.cs.length = 35 := by
  unfold TS.cs
  simp only [List.length_append, ints_length, h.roles, h.seen, List.length_cons, List.length_nil]
theorem TS.oneCell {s : TS} (h : s.Ok) : s.cs.toArray.all (·.oneCell') = true := by
  rw [Array.all_eq_true_iff_forall_mem]
  intro v hv
  simp only [TS.cs, ints, List.mem_toArray, List.mem_append, List.mem_cons, List.mem_map, List.not_mem_nil, or_false] at hv
  obtain ⟨a, b, c, d, e⟩ := h.one
  rcases hv with (rfl | rfl) | (⟨x, _, rfl⟩ | (rfl | rfl | rfl | rfl | rfl | rfl | rfl | rfl | rfl) | ⟨x, _, rfl⟩) <;> first | assumption | rfl
theorem TS.at0 (s : TS) : s.cs[0]? = some (.int .i64 s.num) := rfl
theorem TS.at1 (s : TS) : s.cs[1]? = some (.int .i64 s.epoch) := rfl
theorem TS.atR {s : TS} (h : s.Ok) (i : Nat) (hi : i < 16) : s.cs[2 + i]? = some (.int .i64 (s.roles.getD i 0)) := by
  unfold TS.cs
  rw [List.getElem?_append_right (by simp), List.getElem?_append_left (by rw [ints_length, h.roles]; simp; omega)]
  simp [ints, List.getElem?_eq_getElem (show i < s.roles.length by rw [h.roles]; exact hi)]
theorem TS.atM {s : TS} (h : s.Ok) (i : Nat) (hi : i < 9) : s.cs[18 + i]? = [s.g, s.f, s.r, .int .i64 s.next, s.q, .int .i64 s.tick, .int .i64 s.left, s.c, .int .i64 s.ncall][i]? := by
  unfold TS.cs
  rw [List.getElem?_append_right (by simp; omega), List.getElem?_append_right (by rw [ints_length, h.roles]; simp; omega), List.getElem?_append_left (by rw [ints_length, h.roles]; simp; omega)]
  rw [ints_length, h.roles]
  congr 1
  simp
  omega
theorem TS.atS {s : TS} (h : s.Ok) (i : Nat) (hi : i < 8) : s.cs[27 + i]? = some (.int .i64 (s.seen.getD i 0)) := by
  unfold TS.cs
  rw [List.getElem?_append_right (by simp; omega), List.getElem?_append_right (by rw [ints_length, h.roles]; simp; omega), List.getElem?_append_right (by rw [ints_length, h.roles]; simp; omega)]
  rw [ints_length, h.roles]
  have e : 27 + i - [Value.int .i64 s.num, .int .i64 s.epoch].length - 16 - [s.g, s.f, s.r, .int .i64 s.next, s.q, .int .i64 s.tick, .int .i64 s.left, s.c, .int .i64 s.ncall].length = i := by simp; omega
  rw [e]
  simp [ints, List.getElem?_eq_getElem (show i < s.seen.length by rw [h.seen]; exact hi)]

/-- A block that is a state. -/
def SAt (w : World) (q : Nat) (s : TS) : Prop := w.heap[q]? = some (.cells s.cs.toArray 42 (0, 0))
theorem SAt.cell {w : World} {q : Nat} {s : TS} (h : SAt w q s) {j : Nat} {v : Value} (hj : s.cs[j]? = some v) : w.cell? ⟨q, j, none⟩ = some v := by
  rw [cell_of_row w q j _ _ _ h]
  simpa using hj
theorem SAt.fz {w : World} {q : Nat} {s : TS} (h : SAt w q s) (j : Nat) : w.frozen? ⟨q, j, none⟩ = false := Lib.frozen_of_heap h j
theorem sizeS : (Tryz.prog.info? 42).map (·.size) = some 35 := by kernel_rfl
theorem SAt.size {s : TS} (h : s.Ok) : (Tryz.prog.info? 42).map (·.size) = some s.cs.toArray.size := by rw [sizeS]; simp [TS.len h]
theorem SAt.below {w w' : World} {q : Nat} {s : TS} (h : SAt w q s) (hb : Below w.heap.size w w') : SAt w' q s := (hb.block q (heap_lt h)).trans h
theorem SAt.fr {S : Nat → Prop} {w w' : World} {q : Nat} {s : TS} (h : SAt w q s) (hb : Fr S w w') (hq : ¬ S q) : SAt w' q s := (hb.block q (heap_lt h) hq).trans h
theorem SAt.set {w : World} {q : Nat} {s s' : TS} (h : SAt w q s) {j : Nat} {v : Value} (hs : s.cs.set j v = s'.cs) : SAt (w.setCell ⟨q, j, none⟩ v) q s' := by
  unfold SAt
  rw [heap_setCell_same w q j _ _ v h]
  simp [hs]
theorem SAt.row {w : World} {q : Nat} {s s' : TS} (h : SAt w q s) : SAt (w.setRow q s'.cs.toArray) q s' := by
  unfold SAt World.setRow
  simp only [Array.getElem?_modify]
  have h' : w.heap[q]? = some (.cells s.cs.toArray 42 (0, 0)) := h
  simp [h']
theorem SAt.new (w : World) (s : TS) : SAt (w.alloc (.cells s.cs.toArray 42)) w.heap.size s := heap_alloc_new w _
theorem row_fr (w : World) (q : Nat) (c : Array Value) : Fr (fun j => j = q) w (w.setRow q c) := by
  refine ⟨rfl, rfl, rfl, by simp [World.setRow], fun k _ hk => ?_⟩
  unfold World.setRow
  simp only [Array.getElem?_modify]
  rw [if_neg (fun e => hk e.symm)]

/-- The empty state. -/
def TS.zero : TS := ⟨0, 0, [0, 0, 0, 0, 0, 0, 0, 0, 0, 0, 0, 0, 0, 0, 0, 0], .slice none 0 0, .slice none 0 0, .slice none 0 0, 0, .slice none 0 0, 0, 0, .slice none 0 0, 0, [0, 0, 0, 0, 0, 0, 0, 0]⟩
theorem infoS : (Tryz.prog.info? 42).map (fun i => (i.zero, i.size, i.bytes)) = some (some (.agg TS.zero.cs.toArray), 35, 360) := by kernel_rfl

end Go.Proofs.YtieaipclioppkaaGreat.St

/-! tenant.New: a tenant that has nothing yet. -/
namespace Go.Proofs.YtieaipclioppkaaGreat.Nw
open Go Go.RowKit Go.Proofs.YtieaipclioppkaaGreatCore Go.Proofs.YtieaipclioppkaaGreat.Fr Go.Proofs.YtieaipclioppkaaGreat.St

def TS.new0 (n : Int) : TS := ⟨n, 0, [0, 0, 0, 0, 0, 0, 0, 0, 0, 0, 0, 0, 0, 0, 0, 0], .slice none 0 0, .slice none 0 0, .slice none 0 0, 1, .slice none 0 0, -1, 0, .slice none 0 0, 1, [0, 0, 0, 0, 0, 0, 0, 0]⟩
def TS.new (n : Int) : TS := ⟨n, 0, [4, 0, 0, 0, 0, 0, 0, 0, 0, 0, 0, 0, 0, 0, 0, 0], .slice none 0 0, .slice none 0 0, .slice none 0 0, 1, .slice none 0 0, -1, 0, .slice none 0 0, 1, [0, 0, 0, 0, 0, 0, 0, 0]⟩
theorem new0_ok (n : Int) : (TS.new0 n).Ok := ⟨rfl, rfl, rfl, rfl, rfl, rfl, rfl⟩
theorem new_ok (n : Int) : (TS.new n).Ok := ⟨rfl, rfl, rfl, rfl, rfl, rfl, rfl⟩
theorem zero_ok : TS.zero.Ok := ⟨rfl, rfl, rfl, rfl, rfl, rfl, rfl⟩

def zlit : Array Value := #[.int .i64 0, .int .i64 0, .int .i64 0, .int .i64 0, .int .i64 0, .int .i64 0, .int .i64 0, .int .i64 0, .int .i64 0, .int .i64 0, .int .i64 0, .int .i64 0, .int .i64 0, .int .i64 0, .int .i64 0, .int .i64 0, .int .i64 0, .int .i64 0, .slice none 0 0, .slice none 0 0, .slice none 0 0, .int .i64 0, .slice none 0 0, .int .i64 0, .int .i64 0, .slice none 0 0, .int .i64 0, .int .i64 0, .int .i64 0, .int .i64 0, .int .i64 0, .int .i64 0, .int .i64 0, .int .i64 0, .int .i64 0]
theorem zlit_eq : zlit = TS.zero.cs.toArray := rfl

set_option maxHeartbeats 4000000 in
set_option maxRecDepth 100000 in
theorem new_any (n : Int) (w : World) : Calls Tryz.prog 14 #[.int .i64 n] w fun e w' => e = .returned (.agg (TS.new n).cs.toArray) ∧ Below w.heap.size w w' := by
  have hz := zlit_eq
  unfold zlit at hz
  dsimp only at hz
  obtain ⟨w1, hw1⟩ : ∃ w1, w.alloc (.cells TS.zero.cs.toArray 42) = w1 := ⟨_, rfl⟩
  obtain ⟨q0, hq0⟩ : ∃ q, w.heap.size = q := ⟨_, rfl⟩
  obtain ⟨w2, hw2⟩ : ∃ w2, w1.alloc (.cells TS.zero.cs.toArray 42) = w2 := ⟨_, rfl⟩
  obtain ⟨q1, hq1⟩ : ∃ q, w1.heap.size = q := ⟨_, rfl⟩
  have hs0 : SAt w1 q0 TS.zero := by rw [← hw1, ← hq0]; exact SAt.new w _
  have hb1 : Below w.heap.size w w1 := by rw [← hw1]; exact (Below.refl _ _).alloc (Nat.le_refl _) _
  have hb2 : Below w1.heap.size w1 w2 := by rw [← hw2]; exact (Below.refl _ _).alloc (Nat.le_refl _) _
  have hs1 : SAt w2 q1 TS.zero := by rw [← hw2, ← hq1]; exact SAt.new w1 _
  have hsz : w1.heap.size = w.heap.size + 1 := by rw [← hw1]; simp
  have hne : q0 ≠ q1 := by omega
  have hs0' := hs0.below hb2
  -- the record, then its first role
  have hs2 : SAt (w2.setRow q1 (TS.new0 n).cs.toArray) q1 (TS.new0 n) := hs1.row
  obtain ⟨w3, hw3⟩ : ∃ w3, w2.setRow q1 (TS.new0 n).cs.toArray = w3 := ⟨_, rfl⟩
  have hf3 : Fr (fun j => j = q1) w2 w3 := by rw [← hw3]; exact row_fr _ _ _
  rw [hw3] at hs2
  have hs3 : SAt (w3.setCell ⟨q1, 2, none⟩ (.int .i64 4)) q1 (TS.new n) := hs2.set rfl
  obtain ⟨w4, hw4⟩ : ∃ w4, w3.setCell ⟨q1, 2, none⟩ (.int .i64 4) = w4 := ⟨_, rfl⟩
  have hf4 : Fr (fun j => j = q1) w3 w4 := by rw [← hw4]; exact (Fr.refl _ _).setAt rfl
  rw [hw4] at hs3
  have hs0'' := (hs0'.fr hf3 hne).fr hf4 hne
  have hs4 : SAt (w4.setRow q0 (TS.new n).cs.toArray) q0 (TS.new n) := hs0''.row
  obtain ⟨w5, hw5⟩ : ∃ w5, w4.setRow q0 (TS.new n).cs.toArray = w5 := ⟨_, rfl⟩
  have hf5 : Fr (fun j => j = q0) w4 w5 := by rw [← hw5]; exact row_fr _ _ _
  rw [hw5] at hs4
  have hc2 := hs2.cell (TS.at0 _)
  have hc3 : w3.cell? ⟨q1, 2, none⟩ = some (.int .i64 0) := hs2.cell rfl
  have hfz := hs2.fz 2
  have HS0 := Lib.hid hs0''
  have HS1 := Lib.hid hs1
  have HS3 := Lib.hid hs3
  have HS4 := Lib.hid hs4
  have HB : Hid (Below w.heap.size w w5) := Lib.hid ((Fr.of_below (S := fun j => j = q0 ∨ j = q1) (hb1.trans (hb2.mono hb1.size))).trans (((hf3.mono (fun _ h => .inr h)).trans (hf4.mono (fun _ h => .inr h))).trans (hf5.mono (fun _ h => .inl h))) |>.below (Nat.le_refl _) (fun k hk => by have := hb1.size; omega))
  clear hsz hs0 hs1 hs2 hs3 hs4 hs0' hs0'' hb1 hb2 hf3 hf4 hf5 hne hc2
  go_enter Tryz.func14, Tryz.ntmps14
  go_wp2_with (first | (rw [hz]) | (rw [hw1]) | (rw [hw2]) | (rw [hq0]) | (rw [hq1]) | (rw [hw3]) | (rw [hw4]) | (rw [hw5]) | (refine wpList_buildTo rfl 42 _ rfl _ rfl (TS.new0 n).cs.toArray (by kernel_rfl) ?_) | (refine wpList_store_rowTo rfl 42 _ _ rfl rfl q1 (TS.new0 n).cs.toArray rfl rfl 42 TS.zero.cs.toArray HS1.out (SAt.size (new0_ok n)) rfl (TS.oneCell (new0_ok n)) ?_) | (refine wpList_load_row rfl 42 _ rfl q1 rfl 42 (TS.new n).cs.toArray (0, 0) _ HS3.out Tryz.underlying42 rfl (SAt.size (new_ok n)) ?_) | (refine wpList_store_rowTo rfl 42 _ _ rfl rfl q0 (TS.new n).cs.toArray rfl rfl 42 TS.zero.cs.toArray HS0.out (SAt.size (new_ok n)) rfl (TS.oneCell (new_ok n)) ?_))
  exact bodyPost_ret (v := .agg (TS.new n).cs.toArray) (results_cell_row (p := 2) (ty := 42) rfl _ _ q0 42 _ (0, 0) _ rfl HS4.out Tryz.underlying42 rfl (SAt.size (new_ok n))) rfl ⟨rfl, by rw [← hq0]; exact HB.out⟩

end Go.Proofs.YtieaipclioppkaaGreat.Nw

/-! image's checks over nothing: Equal, ContainsFunc, rises, nodes, sound; Weight. -/
namespace Go.Proofs.YtieaipclioppkaaGreat.Rs
open Go Go.RowKit Go.Proofs.YtieaipclioppkaaGreatCore Go.Proofs.YtieaipclioppkaaGreat.Fr Go.Proofs.YtieaipclioppkaaGreat.St Go.Proofs.YtieaipclioppkaaGreat.Nw

theorem range_empty {P : Program} {MT T E : TypeId} {w : World} {m : Nat} (ht : P.underlying MT = some (.map T E)) (hb : w.heap[m]? = some (.map #[] 0)) :
    (Instr.range MT (.map (some m))).run P w = .ok (.pointer (some ⟨w.heap.size, 0, none⟩)) (w.alloc (.mapIter (some m) 0 #[] 0)) := by
  simp [Instr.range, run_underlying ht, MapKept.run_getObj_map hb, Result.andThen, go_sem]
theorem next_empty {P : Program} {w : World} {m r : Nat} (ty : TypeId) (hr : w.heap[r]? = some (.mapIter (some m) 0 #[] 0)) (hb : w.heap[m]? = some (.map #[] 0)) :
    (Instr.next (.pointer (some ⟨r, 0, none⟩)) false ty).run P w = .ok (.tuple #[.bool false]) w := by
  rcases run_next_at (P := P) w ty r m 0 0 #[] #[] 0 hr hb (by simp) (Nat.le_refl _) with ⟨_, h⟩ | ⟨e, he, _⟩
  · exact h
  · simp [leftOf] at he
theorem pw2 {w w1 : World} {a : Addr} {u : Value} (hb : Below w.heap.size w w1) (h : w.cell? a = some u) : w1.cell? a = some u := (hb.cell (World.block_lt_of_cell? w _ h)).trans h
def ZW (w0 : World) (_v : Value) (wr : World) : Prop := w0 = wr
def Z3 (w0 : World) (n v : Value) (wr : World) : Prop := n = .int .i64 300 ∧ v = .int .i64 0 ∧ w0 = wr
def Z2 (w0 : World) (v : Value) (wr : World) : Prop := v = .int .i64 0 ∧ w0 = wr

set_option maxHeartbeats 4000000 in
set_option maxRecDepth 100000 in
theorem eq_nil (A : Option Addr) (c : Nat) (w : World) : Calls Tryz.prog 42 #[.slice A 0 c, .slice none 0 0] w fun e w' => e = .returned (.bool true) ∧ Below w.heap.size w w' := by
  go_enter Tryz.func42, Tryz.ntmps42
  go_wp2_with fail
  go_loopg [13] 1 (fun gk v wr => Z2 w v wr)
  case atStart => exact ⟨rfl, rfl⟩
  case round =>
    obtain ⟨rfl, rfl⟩ := hrel
    go_wp2_with fail
    go_ret
    exact ⟨rfl, Below.refl _ _⟩
set_option maxHeartbeats 4000000 in
set_option maxRecDepth 100000 in
theorem idx_nil (f : Value) (w : World) : Calls Tryz.prog 88 #[.slice none 0 0, f] w fun e w' => e = .returned (.int .i64 (-1)) ∧ Below w.heap.size w w' := by
  go_enter Tryz.func88, Tryz.ntmps88
  go_wp2_with fail
  go_loopg [8] 1 (fun gk v wr => Z2 w v wr)
  case atStart => exact ⟨rfl, rfl⟩
  case round =>
    obtain ⟨rfl, rfl⟩ := hrel
    go_wp2_with fail
    go_ret
    exact ⟨rfl, Below.refl _ _⟩
set_option maxHeartbeats 4000000 in
set_option maxRecDepth 100000 in
theorem cont_nil (f : Value) (w : World) : Calls Tryz.prog 44 #[.slice none 0 0, f] w fun e w' => e = .returned (.bool false) ∧ Below w.heap.size w w' := by
  go_enter Tryz.func44, Tryz.ntmps44
  go_wp2_with fail
  refine (idx_nil f _).mono ?_
  rintro e w' ⟨rfl, hb⟩
  go_wp2_with fail
  go_ret
  exact ⟨rfl, hb⟩
set_option maxHeartbeats 4000000 in
set_option maxRecDepth 100000 in
theorem risr_nil (f : Value) (b : Int) (w : World) : Calls Tryz.prog 49 #[.slice none 0 0, f, .int .i64 b] w fun e w' => e = .returned (.bool true) ∧ Below w.heap.size w w' := by
  go_enter Tryz.func49, Tryz.ntmps49
  go_wp2_with fail
  go_loopg [13] 1 (fun gk v wr => Z2 w v wr)
  case atStart => exact ⟨rfl, rfl⟩
  case round =>
    obtain ⟨rfl, rfl⟩ := hrel
    go_wp2_with fail
    go_ret
    exact ⟨rfl, Below.refl _ _⟩
set_option maxHeartbeats 4000000 in
set_option maxRecDepth 100000 in
theorem risc_nil (f : Value) (b : Int) (w : World) : Calls Tryz.prog 51 #[.slice none 0 0, f, .int .i64 b] w fun e w' => e = .returned (.bool true) ∧ Below w.heap.size w w' := by
  go_enter Tryz.func51, Tryz.ntmps51
  go_wp2_with fail
  go_loopg [13] 1 (fun gk v wr => Z2 w v wr)
  case atStart => exact ⟨rfl, rfl⟩
  case round =>
    obtain ⟨rfl, rfl⟩ := hrel
    go_wp2_with fail
    go_ret
    exact ⟨rfl, Below.refl _ _⟩

set_option maxHeartbeats 8000000 in
set_option maxRecDepth 100000 in
theorem nodes_bare (s : TS) (hok : s.Ok) (hr : s.r = .slice none 0 0) (hq : s.q = .slice none 0 0) (hc : s.c = .slice none 0 0) (w : World) : Calls Tryz.prog 53 #[.agg s.cs.toArray] w fun e w' => e = .returned (.bool true) ∧ Below w.heap.size w w' := by
  obtain ⟨w1, hw1⟩ : ∃ w1, w.alloc (.cells s.cs.toArray 42) = w1 := ⟨_, rfl⟩
  obtain ⟨q, hqq⟩ : ∃ q, w.heap.size = q := ⟨_, rfl⟩
  have hs1 : SAt w1 q s := by rw [← hw1, ← hqq]; exact SAt.new w _
  have hb1 : Below w.heap.size w w1 := by rw [← hw1]; exact (Below.refl _ _).alloc (Nat.le_refl _) _
  have c20 : w1.cell? ⟨q, 20, none⟩ = some (.slice none 0 0) := by rw [← hr]; exact hs1.cell (TS.atM hok 2 (by decide))
  have c22 : w1.cell? ⟨q, 22, none⟩ = some (.slice none 0 0) := by rw [← hq]; exact hs1.cell (TS.atM hok 4 (by decide))
  have c25 : w1.cell? ⟨q, 25, none⟩ = some (.slice none 0 0) := by rw [← hc]; exact hs1.cell (TS.atM hok 7 (by decide))
  obtain ⟨w2, hw2⟩ : ∃ w2, (w1.alloc (.map #[] 0)).alloc (.map #[] 0) = w2 := ⟨_, rfl⟩
  obtain ⟨m0, hm0⟩ : ∃ m, w1.heap.size = m := ⟨_, rfl⟩
  have hb2 : Below w1.heap.size w1 w2 := by rw [← hw2]; exact ((Below.refl _ _).alloc (Nat.le_refl _) _).alloc (by simp) _
  have d20 := pw2 hb2 c20
  have d22 := pw2 hb2 c22
  have d25 := pw2 hb2 c25
  have hM0 : w2.heap[m0]? = some (.map #[] 0) := by
    rw [← hw2, ← hm0]
    exact (Below.heap_alloc _ _ _ (by simp)).trans (heap_alloc_new w1 _)
  have hM1 : w2.heap[m0 + 1]? = some (.map #[] 0) := by
    rw [← hw2, ← hm0]
    have := heap_alloc_new (w1.alloc (.map #[] 0)) (.map #[] 0)
    rwa [World.size_alloc] at this
  have HM0 := Lib.hid hM0
  have HM1 := Lib.hid hM1
  have HB2 := Lib.hid (hb1.trans (hb2.mono hb1.size))
  have hmm := @run_makeMap Tryz.prog
  clear hs1 hb1 hr hq hc hb2 c20 c22 c25 hM0 hM1
  go_enter Tryz.func53, Tryz.ntmps53
  go_wp2_with (first | (rw [hw1]) | (rw [hqq]) | (rw [hw2]) | (rw [hm0]))
  go_loopg [23] 1 (fun gk v wr => Z2 w2 v wr)
  case atStart => exact ⟨rfl, rfl⟩
  case round =>
    obtain ⟨rfl, rfl⟩ := hrel
    go_wp2_with fail
    go_loopg [37] 1 (fun gk v wr => Z2 w2 v wr)
    case atStart => exact ⟨rfl, rfl⟩
    case round =>
      obtain ⟨rfl, rfl⟩ := hrel
      go_wp2_with fail
      go_loopg [52] 1 (fun gk v wr => Z2 w2 v wr)
      case atStart => exact ⟨rfl, rfl⟩
      case round =>
        obtain ⟨rfl, rfl⟩ := hrel
        have hra := range_empty Tryz.underlying179 HM0.out
        obtain ⟨r0, hr0⟩ : ∃ r, w2.heap.size = r := ⟨_, rfl⟩
        obtain ⟨w3, hw3⟩ : ∃ w3, w2.alloc (.mapIter (some m0) 0 #[] 0) = w3 := ⟨_, rfl⟩
        rw [hr0, hw3] at hra
        have hb3 : Below w2.heap.size w2 w3 := by rw [← hw3]; exact (Below.refl _ _).alloc (Nat.le_refl _) _
        have hR0 : w3.heap[r0]? = some (.mapIter (some m0) 0 #[] 0) := by rw [← hw3, ← hr0]; exact heap_alloc_new _ _
        have hne := fun ty => next_empty (P := Tryz.prog) ty hR0 ((hb3.block _ (heap_lt HM0.out)).trans HM0.out)
        have hM1 := (hb3.block _ (heap_lt HM1.out)).trans HM1.out
        have hrb := range_empty Tryz.underlying180 hM1
        obtain ⟨r1, hr1⟩ : ∃ r, w3.heap.size = r := ⟨_, rfl⟩
        obtain ⟨w4, hw4⟩ : ∃ w4, w3.alloc (.mapIter (some (m0 + 1)) 0 #[] 0) = w4 := ⟨_, rfl⟩
        rw [hr1, hw4] at hrb
        have hb4 : Below w3.heap.size w3 w4 := by rw [← hw4]; exact (Below.refl _ _).alloc (Nat.le_refl _) _
        have hR1 : w4.heap[r1]? = some (.mapIter (some (m0 + 1)) 0 #[] 0) := by rw [← hw4, ← hr1]; exact heap_alloc_new _ _
        have hnf := fun ty => next_empty (P := Tryz.prog) ty hR1 ((hb4.block _ (heap_lt hM1)).trans hM1)
        have HB4 := Lib.hid (HB2.out.trans ((hb3.trans (hb4.mono hb3.size)).mono HB2.out.size))
        clear hw3 hw4 hb3 hb4 hR0 hR1 hM1 hr0 hr1
        go_wp2_with fail
        go_loopg [102] 1 (fun gk v wr => ZW w3 v wr)
        case atStart => exact rfl
        case round =>
          obtain rfl := hrel
          go_wp2_with fail
          go_loopg [110] 1 (fun gk v wr => ZW w4 v wr)
          case atStart => exact rfl
          case round =>
            obtain rfl := hrel
            go_wp2_with fail
            go_ret
            exact ⟨rfl, HB4.out⟩
set_option maxHeartbeats 8000000 in
set_option maxRecDepth 100000 in
theorem weight_bare (s : TS) (hok : s.Ok) (hg : s.g = .slice none 0 0) (hf : s.f = .slice none 0 0) (hr : s.r = .slice none 0 0) (w : World) : Calls Tryz.prog 17 #[.agg s.cs.toArray] w fun e w' => e = .returned (.int .i64 300) ∧ Below w.heap.size w w' := by
  obtain ⟨w1, hw1⟩ : ∃ w1, w.alloc (.cells s.cs.toArray 42) = w1 := ⟨_, rfl⟩
  obtain ⟨q, hqq⟩ : ∃ q, w.heap.size = q := ⟨_, rfl⟩
  have hs1 : SAt w1 q s := by rw [← hw1, ← hqq]; exact SAt.new w _
  have hb1 : Below w.heap.size w w1 := by rw [← hw1]; exact (Below.refl _ _).alloc (Nat.le_refl _) _
  have c18 : w1.cell? ⟨q, 18, none⟩ = some (.slice none 0 0) := by rw [← hg]; exact hs1.cell (TS.atM hok 0 (by decide))
  have c19 : w1.cell? ⟨q, 19, none⟩ = some (.slice none 0 0) := by rw [← hf]; exact hs1.cell (TS.atM hok 1 (by decide))
  have c20 : w1.cell? ⟨q, 20, none⟩ = some (.slice none 0 0) := by rw [← hr]; exact hs1.cell (TS.atM hok 2 (by decide))
  have HB1 := Lib.hid hb1
  clear hs1 hb1 hr hf hg
  go_enter Tryz.func17, Tryz.ntmps17
  go_wp2_with (first | (rw [hw1]) | (rw [hqq]))
  go_loopg [3, 16] 1 (fun gk n v wr => Z3 w1 n v wr)
  case atStart => exact ⟨rfl, rfl, rfl⟩
  case round =>
    obtain ⟨rfl, rfl, rfl⟩ := hrel
    go_wp2_with fail
    go_loopg [3, 28] 1 (fun gk n v wr2 => Z3 w1 n v wr2)
    case atStart => exact ⟨rfl, rfl, rfl⟩
    case round =>
      obtain ⟨rfl, rfl, rfl⟩ := hrel
      go_wp2_with fail
      go_ret
      exact ⟨rfl, HB1.out⟩

end Go.Proofs.YtieaipclioppkaaGreat.Rs
