/- Rows of numbers, and of our keys, that a call makes for itself: one more, for the walk. -/
import Derived.Test.YtifdfhonhphojaaQu
import Derived.OwnWalk
import Derived.Below
namespace Go.Proofs.Ytifdfhonhphojaa.Oi
open Go Go.RowKit Go.Proofs.YtifdfhonhphojaaCore Go.Proofs.Ytifdfhonhphojaa.Fr

def OwnI (T : Nat) (w : World) (base : Nat) (v : Value) (xs : List Int) : Prop := w.ownsRow base T 1 v xs.length (xs.map (Value.int .i64))
theorem OwnI.nil (T : Nat) (w : World) (base : Nat) : OwnI T w base (.slice none 0 0) [] := World.ownsRow_nil w base T 1
theorem OwnI.alloc {T base : Nat} {w : World} {v : Value} {xs : List Int} (h : OwnI T w base v xs) (o : Obj) : OwnI T (w.alloc o) base v xs := World.ownsRow.alloc h o
theorem OwnI.below {T base : Nat} {w w' : World} {v : Value} {xs : List Int} (h : OwnI T w base v xs) (hb : Below w.heap.size w w') : OwnI T w' base v xs := by
  refine ⟨h.1, h.2.imp id ?_⟩
  rintro ⟨g, cap, cur, h1, h2, h3, h4⟩
  exact ⟨g, cap, cur, h1, h2, (hb.block g (heap_lt h3)).trans h3, h4⟩
theorem grown_below {B : Nat} {w w' : World} {v : Value} {T n size : Nat} {xs : List Value} (hb : B ≤ w.heap.size) (h : w.ownsRow B T size v n xs) (hg : w.grownBy w' v.ownBlock) : Below B w w' :=
  (Below.refl B w).grown hg hb (fun k hk => (h.lt k hk).1)
theorem cell_one (w : World) (x : Value) (t : TypeId) : (w.alloc (.cells #[x] t)).cell? ⟨w.heap.size, 0, none⟩ = some x := by unfold World.cell?; rw [heap_alloc_new]; rfl

theorem wpList_append_oi {P : Program} {T t : Nat} {i : TypeInfo} {z : Value} (ht : P.underlying t = some (.slice T)) (hi : P.info? T = some i) (hz : i.zero = some z) (hsize : i.size = 1) (hby : i.bytes = 8) (hzs : z.cells.size = 1)
    {ops : Array Oper} {rest : List Oper} {o : Oper} {a : Act} {Q : Exit → Act → World → Prop} (hg : o.guard = none) (sl x : Operand) (hop : o.op = Op.call { callee := Callee.builtin Builtin.append, args := #[sl, x], argTypes := #[t, t] })
    {w : World} {B : Nat} {v : Value} {xs : List Int} (h : OwnI T w B v xs) (hB : B ≤ w.heap.size) (hl : xs.length ≤ 100000000) (hs : a.eval sl = v) (ad : Addr) (c : Nat) (s : Int) (hx : a.eval x = .slice (some ad) 1 c) (hc : w.cell? ad = some (.int .i64 s))
    (hK : ∀ v' w', OwnI T w' B v' (xs ++ [s]) → Below B w w' → wpList P ops Q rest (a.put o.dst v') w') : wpList P ops Q (o :: rest) a w := by
  refine wpList_append_own w hg sl x t hop B T i z 1 8 ht hi hz hsize hby hzs (by decide) v xs.length (xs.map (Value.int .i64)) hs h ad 1 c [.int .i64 s] hx rfl (fun j u hj => by
    match j with
    | 0 => simp at hj; subst hj; rw [show ad.add 0 = ad from by unfold Addr.add; split <;> simp_all]; exact hc
    | j + 1 => simp at hj) (fun u hu => by simp at hu; subst hu; rfl) (by unfold maxLen; omega) (by omega) hB ?_
  intro v' w' h1 h2 _
  refine hK v' w' ?_ (grown_below hB h h2)
  unfold OwnI
  rw [List.length_append, List.length_singleton, List.map_append]
  exact h1

end Go.Proofs.Ytifdfhonhphojaa.Oi
