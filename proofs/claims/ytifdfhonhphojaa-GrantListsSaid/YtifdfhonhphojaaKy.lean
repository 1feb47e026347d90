/- The keys of this program's maps. -/
import Derived.Test.YtifdfhonhphojaaRgm
import Derived.Test.YtifdfhonhphojaaProg
import Derived.DeepKeys4
import Derived.KernelRfl
namespace Go.Proofs.Ytifdfhonhphojaa.Ky
open Go Go.RowKit Go.Maps Go.Proofs.YtifdfhonhphojaaCore Go.Proofs.Ytifdfhonhphojaa.Fr Go.Proofs.Ytifdfhonhphojaa.Mp Go.Proofs.Ytifdfhonhphojaa.Rgm

/-- Who may call what. -/
structure GKey where
  c : Int
  f : ByteArray
instance : DecidableEq GKey := fun a b => decidable_of_iff (a.c = b.c ∧ a.f = b.f) ⟨fun h => by obtain ⟨a1, a2⟩ := a; obtain ⟨b1, b2⟩ := b; obtain ⟨h1, h2⟩ := h; simp only at h1 h2; rw [h1, h2], fun h => by rw [h]; exact ⟨rfl, rfl⟩⟩
instance : Inhabited GKey := ⟨⟨0, ByteArray.empty⟩⟩
def encK (k : GKey) : Value := .agg #[.int .i64 k.c, .string k.f]
def okK (k : GKey) : Prop := (Lit.int .i64 k.c).wf = true ∧ k.f.size ≤ maxLen
def encI (n : Int) : Value := .int .i64 n
def okI (n : Int) : Prop := (Lit.int .i64 n).wf = true

theorem encI_M : MapEnc Try.prog 3 encI okI :=
  ⟨int_keyed Try.underlying3, fun k hk => ⟨_, keyOf_int_mk Try.underlying3 hk⟩, fun a b h => by injection h⟩
theorem laidOut : laidOutB Try.prog = true := by kernel_rfl
theorem keyK : Keyed Try.prog 48 := Keyed.of_law (Go.deep_law_laid (m := 4) laidOut (by decide) (of_decide_eq_true (by kernel_rfl)) (by kernel_rfl) (by kernel_rfl))
theorem encK_some (k : GKey) (hk : okK k) : ∃ l, keyOf Try.prog 48 (encK k) = some l := by
  obtain ⟨c, f⟩ := k
  obtain ⟨h1, h2⟩ := hk
  have hf : (encK ⟨c, f⟩).formed Try.prog 48 = true := by kernel_rfl
  have hkt : Try.prog.keyType 48 = true := by kernel_rfl
  have hk1 := Try.underlying48
  have hk2 := Try.underlying3
  have hk3 := Try.underlying9
  have hc1 : Try.prog.cellsOf 48 = 2 := by kernel_rfl
  have hc2 : Try.prog.cellsOf 3 = 1 := by kernel_rfl
  have hc3 : Try.prog.cellsOf 9 = 1 := by kernel_rfl
  obtain ⟨n, hn⟩ : ∃ n, Try.prog.types.size = n + 1 := ⟨Try.prog.types.size - 1, by kernel_rfl⟩
  have hl : Try.prog.keyLits (Try.prog.types.size + 1) 48 (encK ⟨c, f⟩).cells.toList = some [.int .i64 c, .string f.data.toList] := by
    rw [hn]
    simp [Program.keyLits, hk1, hk2, hk3, hc1, hc2, hc3, encK, Value.cells, h1, h2]
  refine ⟨.string (keyBytes [.int .i64 c, .string f.data.toList]), ?_⟩
  unfold keyOf
  rw [hk1]
  simp only [hkt, hf, hl]
  simp
theorem encK_inj (a b : GKey) (h : encK a = encK b) : a = b := by
  obtain ⟨a1, a2⟩ := a
  obtain ⟨b1, b2⟩ := b
  simp [encK] at h
  obtain ⟨rfl, rfl⟩ := h
  rfl
theorem encK_M : MapEnc Try.prog 48 encK okK := ⟨keyK, encK_some, encK_inj⟩

end Go.Proofs.Ytifdfhonhphojaa.Ky
