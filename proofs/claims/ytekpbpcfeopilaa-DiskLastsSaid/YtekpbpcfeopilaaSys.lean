/- Several disks beside one another, and what is none of theirs. -/
import Derived.Test.YtekpbpcfeopilaaDw
namespace Go.Proofs.Ytekpbpcfeopilaa.Sys
open Go Go.RowKit Go.Joins Go.Proofs.YtekpbpcfeopilaaCore Go.Proofs.Ytekpbpcfeopilaa.Dm Go.Proofs.Ytekpbpcfeopilaa.Dr Go.Proofs.Ytekpbpcfeopilaa.Da Go.Proofs.Ytekpbpcfeopilaa.Df Go.Proofs.Ytekpbpcfeopilaa.Dg Go.Proofs.Ytekpbpcfeopilaa.Dh Go.Proofs.Ytekpbpcfeopilaa.Di Go.Proofs.Ytekpbpcfeopilaa.Dj Go.Proofs.Ytekpbpcfeopilaa.Dk Go.Proofs.Ytekpbpcfeopilaa.Dl Go.Proofs.Ytekpbpcfeopilaa.Dn Go.Proofs.Ytekpbpcfeopilaa.Dp Go.Proofs.Ytekpbpcfeopilaa.Dq Go.Proofs.Ytekpbpcfeopilaa.Ds Go.Proofs.Ytekpbpcfeopilaa.Dt Go.Proofs.Ytekpbpcfeopilaa.Du Go.Proofs.Ytekpbpcfeopilaa.Dv Go.Proofs.Ytekpbpcfeopilaa.Dw Go.Proofs.YtekpbpcfeopilaaW.PrintWords Go.Proofs.YtekpbpcfeopilaaW.PrintLast Go.Proofs.YtekpbpcfeopilaaW.PrintMore

/-- A disk: where it lies, what it is, how much it was written to. -/
structure DK where
  b : Nat
  m : MDisk
  n : Nat
/-- Disks; the blocks of Z, which are there, are none of theirs. -/
def Dks (Z : Nat → Prop) (w : World) (ds : List DK) : Prop :=
  (∀ k, Z k → k < w.heap.size) ∧ ∃ G, (∀ i (d : DK), ds[i]? = some d → DiskAt TP G (10 + 20 * i) w d.b d.m ∧ Wf d.n d.m) ∧ ∀ k, Z k → G k = 0
theorem Dks.wf {Z : Nat → Prop} {w : World} {ds : List DK} (h : Dks Z w ds) {i : Nat} {d : DK} (hi : ds[i]? = some d) : Wf d.n d.m := by obtain ⟨_, G, h1, _⟩ := h; exact (h1 i d hi).2
theorem Dks.nil (w : World) : Dks (fun k => k < w.heap.size) w [] := ⟨fun _ h => h, fun _ => 0, by simp, fun _ _ => rfl⟩
theorem Dks.mono {Z Z' : Nat → Prop} {w : World} {ds : List DK} (h : Dks Z w ds) (hz : ∀ k, Z' k → Z k) : Dks Z' w ds := by
  obtain ⟨h0, G, h1, h2⟩ := h
  exact ⟨fun k hk => h0 k (hz k hk), G, h1, fun k hk => h2 k (hz k hk)⟩
/-- Z, and what was made between two worlds. -/
def more (Z : Nat → Prop) (w w' : World) (k : Nat) : Prop := Z k ∨ (w.heap.size ≤ k ∧ k < w'.heap.size)
/-- What turned blocks of Z alone; what was made is ours. -/
theorem Dks.own {Z S : Nat → Prop} {w w' : World} {ds : List DK} (h : Dks Z w ds) (f : Fr S w w') (hs : ∀ k, k < w.heap.size → S k → Z k) : Dks (more Z w w') w' ds := by
  obtain ⟨h0, G, h1, h2⟩ := h
  refine ⟨fun k hk => ?_, ext G w.heap.size 0, fun i d hi => ?_, fun k hz => ?_⟩
  · rcases hk with hk | hk
    · exact Nat.lt_of_lt_of_le (h0 k hk) f.size
    · exact hk.2
  · obtain ⟨⟨rv, kv, gs, h3⟩, h4⟩ := h1 i d hi
    refine ⟨⟨rv, kv, gs, (Lies.recolour h3 (G' := ext G w.heap.size 0) (fun k hk => ext_old hk)).fr f (fun k hk hc _ hsk => ?_)⟩, h4⟩
    rw [ext_old hk, h2 k (hs k hk hsk)] at hc
    omega
  · rcases hz with hz | hz
    · rw [ext_old (h0 k hz)]; exact h2 k hz
    · exact ext_new hz.1
/-- What turned nothing of what was there. -/
theorem Dks.below {Z : Nat → Prop} {w w' : World} {ds : List DK} (h : Dks Z w ds) (f : Below w.heap.size w w') : Dks (more Z w w') w' ds := h.own (S := fun _ => False) (Fr.of_below f) (fun _ _ h => h.elim)
theorem Dks.keep {Z : Nat → Prop} {w w' : World} {ds : List DK} (h : Dks Z w ds) (f : Below w.heap.size w w') : Dks Z w' ds := (h.below f).mono (fun _ hk => .inl hk)

theorem Dks.did {Z : Nat → Prop} {w w' : World} {ds : List DK} {G : Nat → Nat} {i : Nat} {d : DK} {m' : MDisk} {n' : Nat} (h0 : ∀ k, Z k → k < w.heap.size) (h1 : ∀ i (d : DK), ds[i]? = some d → DiskAt TP G (10 + 20 * i) w d.b d.m ∧ Wf d.n d.m) (h2 : ∀ k, Z k → G k = 0)
    (hi : ds[i]? = some d) (hd : Did TP G (10 + 20 * i) w d.b m' w') (hw : Wf n' m') : Dks Z w' (ds.set i ⟨d.b, m', n'⟩) ∧ Fr (fun k => ¬ Z k) w w' := by
  obtain ⟨G', hs, hd'⟩ := hd
  have hf : Fr (fun k => ¬ Z k) w w' := ⟨hs.fr.os, hs.fr.tape, hs.fr.output, hs.fr.size, fun k hk hz => hs.fr.block k hk (fun hc => by
    have hz' : Z k := Classical.byContradiction hz
    rw [hs.old k hk, h2 k hz'] at hc
    omega)⟩
  refine ⟨⟨fun k hk => Nat.lt_of_lt_of_le (h0 k hk) hf.size, G', fun j e hj => ?_, fun k hz => by rw [hs.old k (h0 k hz)]; exact h2 k hz⟩, hf⟩
  by_cases hij : i = j
  · subst hij
    have hl := (List.getElem?_eq_some_iff.1 hi).1
    rw [List.getElem?_set_self hl] at hj
    injection hj with hj
    subst hj
    exact ⟨hd', hw⟩
  · rw [List.getElem?_set_ne hij] at hj
    obtain ⟨⟨rv, kv, gs, h3⟩, h4⟩ := h1 j e hj
    exact ⟨⟨rv, kv, gs, h3.apart hs h4.few (by omega)⟩, h4⟩

theorem fr_below {Z : Nat → Prop} {w w' : World} {B : Nat} (f : Fr (fun k => ¬ Z k) w w') (hB : B ≤ w.heap.size) (hz : ∀ k, k < B → Z k) : Below B w w' := f.below hB (fun k hk h => h (hz k hk))
theorem fr_of_below {Z : Nat → Prop} {w w' : World} (f : Below w.heap.size w w') : Fr (fun k => ¬ Z k) w w' := (Fr.of_below (S := fun _ => False) f).mono (fun _ h => h.elim)

section
variable {Z : Nat → Prop} {w : World} {ds : List DK} {i : Nat} {d : DK}
theorem write_z (h : Dks Z w ds) (i : Nat) (hi : ds[i]? = some d) (hN : d.n < 1000000) (n s : Int) (x : ByteArray) :
    Calls Try.prog 25 #[.pointer (some ⟨d.b, 0, none⟩), .int .i64 n, .int .i64 s, .string x] w fun e w' => e = .returned (.int .i64 (writeE d.m n s x)) ∧ Dks Z w' (ds.set i ⟨d.b, writeM d.m n s x, d.n + 1⟩) ∧ Fr (fun k => ¬ Z k) w w' := by
  obtain ⟨h0, G, h1, h2⟩ := h
  obtain ⟨h3, h4⟩ := h1 i d hi
  exact (write_d h3 h4 hN n s x).mono fun _ _ ⟨he, hd⟩ => ⟨he, Dks.did h0 h1 h2 hi hd (write_wf h4)⟩
theorem read_z (h : Dks Z w ds) (i : Nat) (hi : ds[i]? = some d) (n s : Int) :
    Calls Try.prog 28 #[.pointer (some ⟨d.b, 0, none⟩), .int .i64 n, .int .i64 s] w fun e w' => e = .returned (.tuple #[.string (readM d.m n s), .int .i64 (findM d.m n s)]) ∧ Below w.heap.size w w' := by
  obtain ⟨h0, G, h1, h2⟩ := h
  exact read_d (h1 i d hi).1 n s
theorem sectors_z (h : Dks Z w ds) (i : Nat) (hi : ds[i]? = some d) (n : Int) :
    Calls Try.prog 21 #[.pointer (some ⟨d.b, 0, none⟩), .int .i64 n] w fun e w' => e = .returned (.int .i64 (sectorsM d.m n)) ∧ Below w.heap.size w w' := by
  obtain ⟨h0, G, h1, h2⟩ := h
  exact sectors_d (h1 i d hi).1 n
theorem image_z (h : Dks Z w ds) (i : Nat) (hi : ds[i]? = some d) (n : Int) :
    Calls Try.prog 23 #[.pointer (some ⟨d.b, 0, none⟩), .int .i64 n] w fun e w' => e = .returned (.string (imageM d.m n)) ∧ Below w.heap.size w w' := by
  obtain ⟨h0, G, h1, h2⟩ := h
  exact image_d (h1 i d hi).1 (h1 i d hi).2 n
theorem flush_z (h : Dks Z w ds) (i : Nat) (hi : ds[i]? = some d) (hN : d.n ≤ 1000000) (n : Int) :
    Calls Try.prog 30 #[.pointer (some ⟨d.b, 0, none⟩), .int .i64 n] w fun e w' => e = .returned (.int .i64 (flushE d.m n)) ∧ Dks Z w' (ds.set i ⟨d.b, flushM d.m n, d.n⟩) ∧ Fr (fun k => ¬ Z k) w w' := by
  obtain ⟨h0, G, h1, h2⟩ := h
  obtain ⟨⟨rv, kv, gs, h3⟩, h4⟩ := h1 i d hi
  exact (flush_any h3 h4 hN n).mono fun _ _ ⟨he, hd⟩ => ⟨he, Dks.did h0 h1 h2 hi hd (flush_wf h4)⟩
theorem lay_z (h : Dks Z w ds) (i : Nat) (hi : ds[i]? = some d) (n : Int) (x : ByteArray) :
    Calls Try.prog 27 #[.pointer (some ⟨d.b, 0, none⟩), .int .i64 n, .string x] w fun e w' => e = .returned (.tuple #[]) ∧ Dks Z w' (ds.set i ⟨d.b, layM d.m n x, d.n⟩) ∧ Fr (fun k => ¬ Z k) w w' := by
  obtain ⟨h0, G, h1, h2⟩ := h
  obtain ⟨⟨rv, kv, gs, h3⟩, h4⟩ := h1 i d hi
  exact (lay_any h3 h4 n x).mono fun _ _ ⟨he, hd⟩ => ⟨he, Dks.did h0 h1 h2 hi hd (lay_wf h4)⟩
theorem on_z (h : Dks Z w ds) (i : Nat) (hi : ds[i]? = some d) :
    Calls Try.prog 35 #[.pointer (some ⟨d.b, 0, none⟩)] w fun e w' => e = .returned (.tuple #[]) ∧ Dks Z w' (ds.set i ⟨d.b, onM d.m, d.n⟩) ∧ Fr (fun k => ¬ Z k) w w' := by
  obtain ⟨h0, G, h1, h2⟩ := h
  obtain ⟨⟨rv, kv, gs, h3⟩, h4⟩ := h1 i d hi
  exact (on_any h3).mono fun _ _ ⟨he, hf, hl⟩ => ⟨he, Dks.did h0 h1 h2 hi (Did.of (Step.of_fr hf (fun k _ hk => by rw [hk, h3.colour]; omega)) hl) (on_wf h4)⟩
theorem off_z (h : Dks Z w ds) (i : Nat) (hi : ds[i]? = some d) :
    Calls Try.prog 36 #[.pointer (some ⟨d.b, 0, none⟩)] w fun e w' => e = .returned (.bool d.m.off) ∧ Below w.heap.size w w' := by
  obtain ⟨h0, G, h1, h2⟩ := h
  obtain ⟨⟨rv, kv, gs, h3⟩, h4⟩ := h1 i d hi
  exact off_any h3
theorem crash_z (h : Dks Z w ds) (i : Nat) (hi : ds[i]? = some d) (hN : d.n ≤ 1000000) (A : Option Addr) (cc : Nat) (keep : List Int) (hK : ∀ x ∈ keep, 0 ≤ x ∧ x ≤ 18446744073709551615)
    (hC : ∀ W, Fr (fun k => ¬ Z k) w W → Kd.C (Kd.int .u64) W A keep.length keep) :
    Calls Try.prog 29 #[.pointer (some ⟨d.b, 0, none⟩), .slice A keep.length cc] w fun e w' => e = .returned (.tuple #[]) ∧ Dks Z w' (ds.set i ⟨d.b, crashM keep d.m, d.n⟩) ∧ Fr (fun k => ¬ Z k) w w' := by
  obtain ⟨h0, G, h1, h2⟩ := h
  obtain ⟨h3, h4⟩ := h1 i d hi
  exact (crash_d h3 h4 hN A cc keep hK (fun W hW => hC W (hW.mono (fun k hk hz => by have h5 := hk.1; rw [h2 k hz] at h5; omega)))).mono fun _ _ ⟨he, hd⟩ => ⟨he, Dks.did h0 h1 h2 hi hd (crash_wf _ h4)⟩
theorem cut_z (h : Dks Z w ds) (i : Nat) (hi : ds[i]? = some d) (n left : Int) (hleft : left ≤ 9223372036854775807) (A : Option Addr) (cc : Nat) (keep : List Int) (hk : keep.length * 8 ≤ 140737488355328) (hK : ∀ x ∈ keep, 0 ≤ x ∧ x ≤ 18446744073709551615)
    (hC : ∀ W, Fr (fun k => ¬ Z k) w W → Kd.C (Kd.int .u64) W A keep.length keep) :
    Calls Try.prog 34 #[.pointer (some ⟨d.b, 0, none⟩), .int .i64 n, .int .i64 left, .slice A keep.length cc] w fun e w' => e = .returned (.tuple #[]) ∧ Dks Z w' (ds.set i ⟨d.b, cutM d.m n left keep, d.n⟩) ∧ Fr (fun k => ¬ Z k) w w' := by
  obtain ⟨h0, G, h1, h2⟩ := h
  obtain ⟨⟨rv, kv, gs, h3⟩, h4⟩ := h1 i d hi
  exact (cut_any h3 n left A cc keep hk (fun W hW => hC W (hW.mono (fun k hk hz => by rw [hk] at hz; have h5 := h2 _ hz; rw [h3.colour] at h5; omega)))).mono fun _ _ ⟨he, hd⟩ => ⟨he, Dks.did h0 h1 h2 hi hd (cut_wf h4 hleft hK)⟩
theorem new_z (h : Dks Z w ds) (A : Option Addr) (cc : Nat) (l : List Int) (hC : Kd.C (Kd.int .i64) w A l.length l) (hcc : l.length ≤ cc) :
    Calls Try.prog 19 #[.slice A l.length cc] w fun e w' => e = .returned (.pointer (some ⟨w.heap.size, 0, none⟩)) ∧ Dks Z w' (ds ++ [⟨w.heap.size, newM l, 0⟩]) ∧ Below w.heap.size w w' := by
  obtain ⟨h0, G, h1, h2⟩ := h
  refine (new_any G (10 + 20 * ds.length) A cc l w hC hcc).mono fun _ w' ⟨he, hb, G', hG, hd⟩ => ⟨he, ⟨fun k hk => Nat.lt_of_lt_of_le (h0 k hk) hb.size, G', fun i d hi => ?_, fun k hz => by rw [hG k (h0 k hz)]; exact h2 k hz⟩, hb⟩
  by_cases hil : i < ds.length
  · rw [List.getElem?_append_left hil] at hi
    obtain ⟨h3, h4⟩ := h1 i d hi
    exact ⟨dat_below (dat_recolour h3 hG) hb, h4⟩
  · have hl := (List.getElem?_eq_some_iff.1 hi).1
    simp only [List.length_append, List.length_singleton] at hl
    obtain rfl : i = ds.length := by omega
    have e : (⟨w.heap.size, newM l, 0⟩ : DK) = d := by simpa using hi
    subst e
    exact ⟨hd, new_wf l⟩
theorem crash_lit_z (h : Dks Z w ds) (i : Nat) (hi : ds[i]? = some d) (hN : d.n ≤ 1000000) (e : Nat) (cc : Nat) (keep : List Int) (hK : ∀ x ∈ keep, 0 ≤ x ∧ x ≤ 18446744073709551615) (hl : keep.length ≤ 1000000) :
    Calls Try.prog 29 #[.pointer (some ⟨d.b, 0, none⟩), .slice (some ⟨w.heap.size, 0, none⟩) keep.length cc] (w.alloc (.cells (encs (Value.int .u64) keep).toArray e)) fun e w' => e = .returned (.tuple #[]) ∧ Dks Z w' (ds.set i ⟨d.b, crashM keep d.m, d.n⟩) ∧ Fr (fun k => ¬ Z k) w w' := by
  have hb : Below w.heap.size w (w.alloc (.cells (encs (Value.int .u64) keep).toArray e)) := (Below.refl _ _).alloc (Nat.le_refl _) _
  refine (crash_z (h.below hb) i hi hN _ cc keep hK (fun W hW => C_fr (lit_C .u64 w e keep (by omega)) hW (fun hs => hs (.inr ⟨Nat.le_refl _, by simp⟩)))).mono fun _ _ ⟨he, h1, h2⟩ => ⟨he, h1.mono (fun _ hk => .inl hk), (fr_of_below hb).trans (h2.mono (fun k hk hz => hk (.inl hz)))⟩
end

end Go.Proofs.Ytekpbpcfeopilaa.Sys
