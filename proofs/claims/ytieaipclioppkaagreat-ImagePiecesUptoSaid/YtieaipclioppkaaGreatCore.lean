/- Words of our own, over no program: heap facts, copies, the end of walks. Proved for every world; no condition but those in each theorem. -/
import Derived.Below
import Derived.Tactics
import Derived.Tactics2
import Derived.WalkKit
import Derived.KernelRfl
import Derived.Lib.Hide
import Derived.Lib.BufferWrite
import Derived.Laws.CopyOwn
import Derived.Laws.IdiomStrings
import Derived.Deep.RegionHeld3
import Derived.Deep.Draws
import Derived.Deep.QuietTactic
import Derived.BigQuiet
import Derived.Outline
namespace Go.Proofs.YtieaipclioppkaaGreatCore
open Go Go.RowKit

theorem u64_bd (n : Int) : 0 ≤ IntKind.u64.wrap n ∧ IntKind.u64.wrap n < 18446744073709551616 := by rw [IntKind.wrap_u64]; omega

theorem _root_.Go.Addr.add_plain0 (g j : Nat) : (⟨g, 0, none⟩ : Addr).add j = ⟨g, j, none⟩ := by unfold Addr.add; split <;> simp_all

theorem below_drewN {B : Nat} {w : World} (n : Nat) : Below B w (w.drewN n) := ⟨rfl, rfl, rfl, Nat.le_refl _, fun _ _ => rfl⟩

theorem wp_abs {P : Program} {c : Code} {Q : Exit → Act → World → Prop} {a : Act} {w : World} (S : World → Prop) (hS : S w) (h : ∀ W, S W → c.wp P Q a W) : c.wp P Q a w := h w hS

/-- The cells of bytes. -/
def bcells (l : List UInt8) : List Value := l.map fun b => Value.int .u8 b.toNat
theorem bcells_length (l : List UInt8) : (bcells l).length = l.length := by simp [bcells]
theorem bcells_eq (l : List UInt8) : bcells l = Lib.byteCells l := rfl
theorem bcells_get (l : List UInt8) (j : Nat) (h : j < l.length) : (bcells l)[j]? = some (.int .u8 (l[j].toNat : Int)) := by simp [bcells, h]

/-- 'copy(dst, s)' from a string that fits, as one step of a region that draws its order. -/
theorem step_copy_str {P : Program} {ops : Array Oper} {o : Oper} {a : Act} {w : World} {K : Act → World → Prop} {Q : Exit → Act → World → Prop} {E : Prop}
    (hg : o.guard = none) (d x : Operand) (dT sT : TypeId) (hop : o.op = Op.call { callee := Callee.builtin Builtin.copy, args := #[d, x], argTypes := #[dT, sT] })
    (elem : TypeId) (hu : P.underlying dT = some (.slice elem)) (hz : (P.info? elem).map (·.size) = some 1)
    (g off dLen dCap : Nat) (hd : a.eval d = .slice (some ⟨g, off, none⟩) dLen dCap) (t : ByteArray) (hx : a.eval x = .string t) (hle : t.size ≤ dLen)
    (cur : Array Value) (ty : TypeId) (hh : w.heap[g]? = some (.cells cur ty (0, 0))) (hfit : off + t.size ≤ cur.size)
    (hK : K (a.put o.dst (goInt t.size)) (w.setRow g (cur.toList.take off ++ bcells t.data.toList ++ cur.toList.drop (off + t.size)).toArray)) :
    if Region.wanted o (yielded ops a.tmps) = true then Oper.wp P o a w K Q else E := by
  have hw : Region.wanted o (yielded ops a.tmps) = true := by simp [Region.wanted, hg]
  rw [if_pos hw]
  have hrun := Lib.run_copy_row_string (P := P) w dT sT o.type elem g off dLen dCap t cur ty hu hz hh hle hfit
  unfold Oper.wp
  simp [execOp, hop, resolve, invoke, builtin, hd, hx, hrun, Result.andThen]
  rw [bcells_eq, List.append_assoc] at hK
  exact hK

theorem below_row {B : Nat} {w w' : World} (h : Below B w w') {g : Nat} (hg : g < B) {o : Obj} (hh : w.heap[g]? = some o) : w'.heap[g]? = some o := (h.block g hg).trans hh
theorem below_cellB {B : Nat} {w w' : World} (h : Below B w w') {a : Addr} {v : Value} (hg : a.block < B) (hh : w.cell? a = some v) : w'.cell? a = some v := (h.cell hg).trans hh
/-- What stays below the heap that there was, seen from an elder world. -/
theorem below_to {B : Nat} {w0 w w' : World} (h : Below B w0 w) (k : Below w.heap.size w w') (hB : B ≤ w.heap.size) : Below B w0 w' := h.trans (k.mono hB)
theorem heap_lt {w : World} {g : Nat} {o : Obj} (h : w.heap[g]? = some o) : g < w.heap.size := (Array.getElem?_eq_some_iff.1 h).1
theorem heap_alloc_new (w : World) (o : Obj) : (w.alloc o).heap[w.heap.size]? = some o := by
  show (w.heap.push o)[w.heap.size]? = _
  simp
theorem heap_alloc_old (w : World) (o : Obj) (g : Nat) (x : Obj) (h : w.heap[g]? = some x) : (w.alloc o).heap[g]? = some x := (Below.heap_alloc w o g (heap_lt h)).trans h
theorem heap_drewN (w : World) (n g : Nat) : (w.drewN n).heap[g]? = w.heap[g]? := rfl

/-- A block that was just made, behind a call that changes nothing that was there. -/
theorem alloc_cells {w w4 : World} {cs : Array Value} {ty : TypeId} {fr : Nat × Nat} (hb : Below (w.alloc (.cells cs ty fr)).heap.size (w.alloc (.cells cs ty fr)) w4) : ∀ j, w4.cell? ⟨w.heap.size, j, none⟩ = cs[j]? := by
  intro j
  rw [hb.cell (p := ⟨w.heap.size, j, none⟩) (by simp)]
  unfold World.cell?
  rw [heap_alloc_new]
  simp
theorem alloc_below {w w4 : World} {o : Obj} (hb : Below (w.alloc o).heap.size (w.alloc o) w4) : Below w.heap.size w w4 := ((Below.refl _ _).alloc (Nat.le_refl _) o).trans (hb.mono (by simp))

end Go.Proofs.YtieaipclioppkaaGreatCore
