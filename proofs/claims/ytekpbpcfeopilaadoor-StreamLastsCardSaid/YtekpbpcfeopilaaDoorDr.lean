/- How a disk lies in memory: blocks with colours. Whatever program; the types' numbers are letters. -/
import Derived.Test.YtekpbpcfeopilaaDoorDm
import Derived.Test.YtekpbpcfeopilaaDoorWMore
import Derived.Lib.SmallJoins
namespace Go.Proofs.YtekpbpcfeopilaaDoor.Dr
open Go Go.RowKit Go.Joins Go.Proofs.YtekpbpcfeopilaaDoorCore Go.Proofs.YtekpbpcfeopilaaDoor.Dm Go.Proofs.YtekpbpcfeopilaaDoorW.PrintWords Go.Proofs.YtekpbpcfeopilaaDoorW.PrintLast Go.Proofs.YtekpbpcfeopilaaDoorW.PrintMore

/-- Of what was there only blocks of S have turned. -/
structure Fr (S : Nat → Prop) (w w' : World) : Prop where
  os : w'.os = w.os
  tape : w'.tape = w.tape
  output : w'.output = w.output
  size : w.heap.size ≤ w'.heap.size
  block : ∀ k, k < w.heap.size → ¬ S k → w'.heap[k]? = w.heap[k]?

theorem Fr.refl (S : Nat → Prop) (w : World) : Fr S w w := ⟨rfl, rfl, rfl, Nat.le_refl _, fun _ _ _ => rfl⟩
theorem Fr.trans {S : Nat → Prop} {w w1 w2 : World} (h : Fr S w w1) (k : Fr S w1 w2) : Fr S w w2 :=
  ⟨k.os.trans h.os, k.tape.trans h.tape, k.output.trans h.output, Nat.le_trans h.size k.size, fun i hi hs => (k.block i (Nat.lt_of_lt_of_le hi h.size) hs).trans (h.block i hi hs)⟩
theorem Fr.mono {S S' : Nat → Prop} {w w' : World} (h : Fr S w w') (hs : ∀ k, S k → S' k) : Fr S' w w' := ⟨h.os, h.tape, h.output, h.size, fun i hi hn => h.block i hi (fun c => hn (hs i c))⟩
theorem Fr.of_below {S : Nat → Prop} {w w' : World} (h : Below w.heap.size w w') : Fr S w w' := ⟨h.os, h.tape, h.output, h.size, fun i hi _ => h.block i hi⟩
theorem Fr.of_grown {S : Nat → Prop} {w w' : World} {row : Option Nat} (h : w.grownBy w' row) (hs : ∀ k, row = some k → S k) : Fr S w w' :=
  ⟨h.os, h.tape, h.output, h.size, fun i hi hn => h.block i hi (fun e => hn (hs i e.symm))⟩
theorem Fr.setCell {S : Nat → Prop} {w w' : World} (h : Fr S w w') {p : Addr} (hp : S p.block) (u : Value) : Fr S w (w'.setCell p u) :=
  h.trans ⟨rfl, rfl, rfl, by simp [World.setCell], fun i _ hn => Below.heap_setCell _ _ _ _ (fun e => hn (e ▸ hp))⟩
theorem Fr.setAt {S : Nat → Prop} {w w' : World} {b j : Nat} {u : Value} (h : Fr S w w') (hp : S b) : Fr S w (w'.setCell ⟨b, j, none⟩ u) :=
  h.trans ⟨rfl, rfl, rfl, by simp [World.setCell], fun i _ hn => Below.heap_setCell _ _ _ _ (fun e => hn (by have e' : i = b := e; rw [e']; exact hp))⟩
theorem Fr.alloc {S : Nat → Prop} {w w' : World} (h : Fr S w w') (o : Obj) : Fr S w (w'.alloc o) := h.trans (Fr.of_below ((Below.refl _ _).alloc (Nat.le_refl _) o))
theorem Fr.drew {S : Nat → Prop} {w w' : World} (h : Fr S w w') : Fr S w w'.drew := h.trans (Fr.of_below (Below.refl _ _).drew)
theorem Fr.drewN {S : Nat → Prop} {w w' : World} (h : Fr S w w') (n : Nat) : Fr S w (w'.drewN n) := h.trans (Fr.of_below (below_drewN n))
theorem Fr.thenBelow {S : Nat → Prop} {w w1 w2 : World} (h : Fr S w w1) (k : Below w1.heap.size w1 w2) : Fr S w w2 := h.trans (Fr.of_below k)
theorem Fr.below {S : Nat → Prop} {w w' : World} {B : Nat} (h : Fr S w w') (hB : B ≤ w.heap.size) (hs : ∀ k, k < B → ¬ S k) : Below B w w' := ⟨h.os, h.tape, h.output, h.size, fun k hk => h.block k (Nat.lt_of_lt_of_le hk hB) (hs k hk)⟩
theorem Fr.at_ {S : Nat → Prop} {w w' : World} (h : Fr S w w') {k : Nat} {o : Obj} (hk : w.heap[k]? = some o) (hs : ¬ S k) : w'.heap[k]? = some o := (h.block k (heap_lt hk) hs).trans hk

theorem Fr.cell {S : Nat → Prop} {w w' : World} (h : Fr S w w') {a : Addr} {v : Value} (hk : w.cell? a = some v) (hs : ¬ S a.block) : w'.cell? a = some v :=
  (World.cell?_of_block (h.block a.block (World.block_lt_of_cell? w _ hk) hs)).trans hk

theorem Rfr {α : Type} {d : Kd α} {e base : Nat} {ok S : Nat → Prop} {v : Value} {xs : List α} {w w' : World} (h : d.R e w base ok v xs) (f : Fr S w w') (hs : ∀ k, ok k → k < w.heap.size → ¬ S k) : d.R e w' base ok v xs :=
  Kd.R_step h (fun k ho hk => f.block k hk (hs k ho hk))

/-- A pointer to a block. -/
def ptrK : Kd Nat := Kd.scalar (fun g : Nat => Value.pointer (some ⟨g, 0, none⟩)) (fun _ => rfl)
def wrK : Kd (Int × ByteArray) := Kd.pair (Kd.int .i64) Kd.string

/-- The numbers of the types. -/
structure Tys where
  disk : Nat
  reg : Nat
  preg : Nat
  wr : Nat
  str : Nat
  u64 : Nat

def RegAt (T : Tys) (ok : Nat → Prop) (w : World) (g : Nat) (r : MReg) : Prop :=
  ok g ∧ ∃ lv qv, w.heap[g]? = some (.cells #[lv, qv] T.reg (0, 0)) ∧ Kd.R Kd.string T.str w 0 ok lv r.lasts ∧ Kd.R wrK T.wr w 0 ok qv r.queue

theorem RegAt.fr {T : Tys} {ok S : Nat → Prop} {w w' : World} {g : Nat} {r : MReg} (h : RegAt T ok w g r) (f : Fr S w w') (hs : ∀ k, ok k → k < w.heap.size → ¬ S k) : RegAt T ok w' g r := by
  obtain ⟨h0, lv, qv, hb, hl, hq⟩ := h
  exact ⟨h0, lv, qv, f.at_ hb (hs g h0 (heap_lt hb)), Rfr hl f hs, Rfr hq f hs⟩
theorem RegAt.mono {T : Tys} {ok ok' : Nat → Prop} {w : World} {g : Nat} {r : MReg} (h : RegAt T ok w g r) (hk : ∀ k, k < w.heap.size → ok k → ok' k) : RegAt T ok' w g r := by
  obtain ⟨h0, lv, qv, hb, hl, hq⟩ := h
  exact ⟨hk g (heap_lt hb) h0, lv, qv, hb, Kd.R_mono (Kd.R_bound hl) (fun k h => hk k h.2.2.1 h.1), Kd.R_mono (Kd.R_bound hq) (fun k h => hk k h.2.2.1 h.1)⟩

/-- The header's cells. -/
def hdr (m : MDisk) (rv kv : Value) : Array Value := #[rv, .bool m.off, .int .i64 m.treg, .int .i64 m.tleft, kv]

structure Lies (T : Tys) (G : Nat → Nat) (c : Nat) (w : World) (b : Nat) (m : MDisk) (rv kv : Value) (gs : List Nat) : Prop where
  head : w.heap[b]? = some (.cells (hdr m rv kv) T.disk (0, 0))
  colour : G b = c
  row : ptrK.R T.preg w 0 (fun k => G k = c + 1) rv gs
  keep : (Kd.int .u64).R T.u64 w 0 (fun k => G k = c + 2) kv m.keep
  len : gs.length = m.regs.length
  regs : ∀ i (h : i < m.regs.length), ∃ g, gs[i]? = some g ∧ RegAt T (fun k => G k = c + 3 + i) w g m.regs[i]

def DiskAt (T : Tys) (G : Nat → Nat) (c : Nat) (w : World) (b : Nat) (m : MDisk) : Prop := ∃ rv kv gs, Lies T G c w b m rv kv gs

theorem Lies.fr {T : Tys} {G : Nat → Nat} {c : Nat} {w w' : World} {b : Nat} {m : MDisk} {rv kv : Value} {gs : List Nat} {S : Nat → Prop} (h : Lies T G c w b m rv kv gs) (f : Fr S w w') (hs : ∀ k, k < w.heap.size → c ≤ G k → G k < c + 3 + m.regs.length → ¬ S k) : Lies T G c w' b m rv kv gs where
  head := f.at_ h.head (hs b (heap_lt h.head) (by rw [h.colour]; exact Nat.le_refl _) (by rw [h.colour]; omega))
  colour := h.colour
  row := Rfr h.row f (fun k ho hk => hs k hk (by omega) (by omega))
  keep := Rfr h.keep f (fun k ho hk => hs k hk (by omega) (by omega))
  len := h.len
  regs := fun i hi => by
    obtain ⟨g, hg, hr⟩ := h.regs i hi
    exact ⟨g, hg, hr.fr f (fun k ho hk => hs k hk (by omega) (by omega))⟩
theorem Lies.below {T : Tys} {G : Nat → Nat} {c : Nat} {w w' : World} {b : Nat} {m : MDisk} {rv kv : Value} {gs : List Nat} (h : Lies T G c w b m rv kv gs) (f : Below w.heap.size w w') : Lies T G c w' b m rv kv gs :=
  h.fr (S := fun _ => False) (Fr.of_below f) (fun _ _ _ _ h => h)
theorem Lies.recolour {T : Tys} {G G' : Nat → Nat} {c : Nat} {w : World} {b : Nat} {m : MDisk} {rv kv : Value} {gs : List Nat} (h : Lies T G c w b m rv kv gs) (hG : ∀ k, k < w.heap.size → G' k = G k) : Lies T G' c w b m rv kv gs where
  head := h.head
  colour := by rw [hG b (heap_lt h.head)]; exact h.colour
  row := Kd.R_mono (Kd.R_bound h.row) (fun k hk => by rw [hG k hk.2.2.1]; exact hk.1)
  keep := Kd.R_mono (Kd.R_bound h.keep) (fun k hk => by rw [hG k hk.2.2.1]; exact hk.1)
  len := h.len
  regs := fun i hi => by
    obtain ⟨g, hg, hr⟩ := h.regs i hi
    exact ⟨g, hg, hr.mono (fun k hk ho => by rw [hG k hk]; exact ho)⟩

/-- The header alone has turned. -/
theorem Lies.turn {G : Nat → Nat} {c : Nat} {T : Tys} {w w' : World} {b : Nat} {m m' : MDisk} {rv kv kv' : Value} {gs : List Nat} (h : Lies T G c w b m rv kv gs) (f : Fr (fun k => k = b) w w')
    (hh : w'.heap[b]? = some (.cells (hdr m' rv kv') T.disk (0, 0))) (hr : m'.regs = m.regs) (hk : (Kd.int .u64).R T.u64 w' 0 (fun k => G k = c + 2) kv' m'.keep) : Lies T G c w' b m' rv kv' gs where
  head := hh
  colour := h.colour
  row := Rfr h.row f (fun k ho _ e => by rw [e, h.colour] at ho; omega)
  keep := hk
  len := by rw [hr]; exact h.len
  regs := fun i hi => by
    have hi2 : i < m.regs.length := by rw [← hr]; exact hi
    obtain ⟨g, hg, ha⟩ := h.regs i hi2
    refine ⟨g, hg, ?_⟩
    have e : m'.regs[i] = m.regs[i] := by simp [hr]
    rw [e]
    exact ha.fr f (fun k ho _ e => by rw [e, h.colour] at ho; omega)

/-- What an operation on a disk leaves of the rest: new blocks have the disk's colours, old ones keep theirs; only the disk's have turned. -/
structure Step (G G' : Nat → Nat) (c : Nat) (w w' : World) : Prop where
  old : ∀ k, k < w.heap.size → G' k = G k
  fr : Fr (fun k => c ≤ G' k ∧ G' k < c + 16) w w'
theorem Lies.apart {T : Tys} {G G' : Nat → Nat} {c c' : Nat} {w w' : World} {b : Nat} {m : MDisk} {rv kv : Value} {gs : List Nat} (h : Lies T G c' w b m rv kv gs) (s : Step G G' c w w') (hm : m.regs.length ≤ 8) (hc : c' + 16 ≤ c ∨ c + 16 ≤ c') : Lies T G' c' w' b m rv kv gs :=
  (h.recolour s.old).fr s.fr (fun k hk h1 h2 h3 => by omega)

theorem Step.refl (G : Nat → Nat) (c : Nat) (w : World) : Step G G c w w := ⟨fun _ _ => rfl, Fr.refl _ _⟩
theorem Step.trans {G G' G'' : Nat → Nat} {c : Nat} {w w1 w2 : World} (h : Step G G' c w w1) (k : Step G' G'' c w1 w2) : Step G G'' c w w2 :=
  ⟨fun i hi => (k.old i (Nat.lt_of_lt_of_le hi h.fr.size)).trans (h.old i hi),
   ⟨k.fr.os.trans h.fr.os, k.fr.tape.trans h.fr.tape, k.fr.output.trans h.fr.output, Nat.le_trans h.fr.size k.fr.size, fun i hi hs => by
      have hi2 := Nat.lt_of_lt_of_le hi h.fr.size
      rw [k.fr.block i hi2 hs]
      exact h.fr.block i hi (fun hc => hs (by rw [k.old i hi2]; exact hc))⟩⟩
theorem Step.of_fr {S : Nat → Prop} {G : Nat → Nat} {c : Nat} {w w' : World} (h : Fr S w w') (hs : ∀ k, k < w.heap.size → S k → c ≤ G k ∧ G k < c + 16) : Step G G c w w' :=
  ⟨fun _ _ => rfl, ⟨h.os, h.tape, h.output, h.size, fun i hi hn => h.block i hi (fun hc => hn (hs i hi hc))⟩⟩
theorem Step.of_below {G : Nat → Nat} {c : Nat} {w w' : World} (h : Below w.heap.size w w') : Step G G c w w' := Step.of_fr (S := fun _ => False) (Fr.of_below h) (fun _ _ h => h.elim)
/-- New blocks are of a colour. -/
def ext (G : Nat → Nat) (B c : Nat) (k : Nat) : Nat := if k < B then G k else c
theorem ext_old {G : Nat → Nat} {B c k : Nat} (h : k < B) : ext G B c k = G k := if_pos h
theorem ext_new {G : Nat → Nat} {B c k : Nat} (h : B ≤ k) : ext G B c k = c := if_neg (by omega)
theorem Step.of_ext {S : Nat → Prop} {G : Nat → Nat} {c d : Nat} {w w' : World} (h : Fr S w w') (hs : ∀ k, k < w.heap.size → S k → c ≤ G k ∧ G k < c + 16) : Step G (ext G w.heap.size d) c w w' :=
  ⟨fun k hk => ext_old hk, ⟨h.os, h.tape, h.output, h.size, fun i hi hn => h.block i hi (fun hc => hn (by rw [ext_old hi]; exact hs i hi hc))⟩⟩

/-- A disk behind an operation that turned nothing but its own blocks. -/
def Did (T : Tys) (G : Nat → Nat) (c : Nat) (w : World) (b : Nat) (m' : MDisk) (w' : World) : Prop := ∃ G', Step G G' c w w' ∧ DiskAt T G' c w' b m'
theorem Did.of {T : Tys} {G G' : Nat → Nat} {c : Nat} {w w' : World} {b : Nat} {m' : MDisk} {rv kv : Value} {gs : List Nat} (s : Step G G' c w w') (h : Lies T G' c w' b m' rv kv gs) : Did T G c w b m' w' := ⟨G', s, rv, kv, gs, h⟩

end Go.Proofs.YtekpbpcfeopilaaDoor.Dr
