/- The program's disk and the document's beside one another. -/
import Derived.Test.YtekpbpcfeopilaaEf
import Derived.Test.YtekpbpcfeopilaaRj
namespace Go.Proofs.Ytekpbpcfeopilaa.Eg
open Go Go.RowKit Go.Joins Go.Proofs.YtekpbpcfeopilaaCore Go.Proofs.Ytekpbpcfeopilaa.Dm Go.Proofs.Ytekpbpcfeopilaa.Dr Go.Proofs.Ytekpbpcfeopilaa.Da Go.Proofs.Ytekpbpcfeopilaa.Df Go.Proofs.Ytekpbpcfeopilaa.Dg Go.Proofs.Ytekpbpcfeopilaa.Dh Go.Proofs.Ytekpbpcfeopilaa.Di Go.Proofs.Ytekpbpcfeopilaa.Dj Go.Proofs.Ytekpbpcfeopilaa.Dk Go.Proofs.Ytekpbpcfeopilaa.Dl Go.Proofs.Ytekpbpcfeopilaa.Dn Go.Proofs.Ytekpbpcfeopilaa.Dp Go.Proofs.Ytekpbpcfeopilaa.Dq Go.Proofs.Ytekpbpcfeopilaa.Ds Go.Proofs.Ytekpbpcfeopilaa.Dt Go.Proofs.Ytekpbpcfeopilaa.Du Go.Proofs.Ytekpbpcfeopilaa.Dv Go.Proofs.Ytekpbpcfeopilaa.Dw Go.Proofs.Ytekpbpcfeopilaa.Sys Go.Proofs.Ytekpbpcfeopilaa.Eb Go.Proofs.Ytekpbpcfeopilaa.Ef Go.Proofs.Ytekpbpcfeopilaa.Ra Go.Proofs.Ytekpbpcfeopilaa.Rb Go.Proofs.Ytekpbpcfeopilaa.Rc Go.Proofs.Ytekpbpcfeopilaa.Rd Go.Proofs.Ytekpbpcfeopilaa.Re Go.Proofs.Ytekpbpcfeopilaa.Rf Go.Proofs.Ytekpbpcfeopilaa.Rg Go.Proofs.Ytekpbpcfeopilaa.Rh Go.Proofs.Ytekpbpcfeopilaa.Ri Go.Proofs.Ytekpbpcfeopilaa.Rj Go.Proofs.YtekpbpcfeopilaaW.PrintWords Go.Proofs.YtekpbpcfeopilaaW.PrintLast Go.Proofs.YtekpbpcfeopilaaW.PrintMore

/-! What both have is the same, but for where a trap lies that isn't set. -/
def Twn (m m' : MDisk) : Prop := ∃ t, m' = { m with treg := t } ∧ (m.tleft ≠ 0 → t = m.treg)
theorem Twn.refl (m : MDisk) : Twn m m := ⟨m.treg, rfl, fun _ => rfl⟩
theorem Twn.sectors {m m' : MDisk} (h : Twn m m') (n : Int) : sectorsM m' n = sectorsM m n := by obtain ⟨t, rfl, _⟩ := h; rfl
theorem Twn.image {m m' : MDisk} (h : Twn m m') (n : Int) : imageM m' n = imageM m n := by obtain ⟨t, rfl, _⟩ := h; rfl
theorem Twn.find {m m' : MDisk} (h : Twn m m') (n s : Int) : findM m' n s = findM m n s := by obtain ⟨t, rfl, _⟩ := h; rfl
theorem Twn.read {m m' : MDisk} (h : Twn m m') (n s : Int) : readM m' n s = readM m n s := by obtain ⟨t, rfl, _⟩ := h; rfl
theorem Twn.off {m m' : MDisk} (h : Twn m m') : m'.off = m.off := by obtain ⟨t, rfl, _⟩ := h; rfl
theorem Twn.regs {m m' : MDisk} (h : Twn m m') : m'.regs = m.regs := by obtain ⟨t, rfl, _⟩ := h; rfl
theorem Twn.fails {m m' : MDisk} (h : Twn m m') (n : Int) : failsM m' n = failsM m n := by
  obtain ⟨t, rfl, ht⟩ := h
  unfold failsM
  by_cases h0 : m.tleft = 0
  · simp [h0]
  · rw [ht h0]
theorem Twn.tick {m m' : MDisk} (h : Twn m m') (n : Int) : Twn (tickM m n) (tickM m' n) := by
  obtain ⟨t, rfl, ht⟩ := h
  unfold tickM
  by_cases h0 : m.tleft = 0
  · rw [if_pos (.inl h0), if_pos (.inl h0)]
    exact ⟨t, rfl, ht⟩
  · obtain rfl := ht h0
    exact Twn.refl _
theorem Twn.lose {m m' : MDisk} (h : Twn m m') (l : List Int) : Twn (loseM l m) (rloseM l m') := by
  obtain ⟨t, rfl, _⟩ := h
  exact ⟨t, rfl, fun h => (h rfl).elim⟩
theorem Twn.keep {m m' : MDisk} (h : Twn m m') : m'.keep = m.keep := by obtain ⟨t, rfl, _⟩ := h; rfl
theorem Twn.enq {m m' : MDisk} (h : Twn m m') (k : Nat) (p : Int × ByteArray) : Twn (enqM m k p) (enqM m' k p) := by
  obtain ⟨t, rfl, ht⟩ := h
  exact ⟨t, rfl, ht⟩
theorem Twn.set {m m' : MDisk} (h : Twn m m') (k : Nat) (r : MReg) : Twn (setM m k r) (setM m' k r) := by
  obtain ⟨t, rfl, ht⟩ := h
  exact ⟨t, rfl, ht⟩
theorem Twn.write {m m' : MDisk} (h : Twn m m') (n s : Int) (d : ByteArray) : Twn (writeM m n s d) (rwriteM m' n s d) := by
  unfold writeM rwriteM
  rw [h.find]
  split
  · have h2 := h.enq n.toNat (s, d)
    show Twn (if _ then _ else _) (if _ then _ else _)
    rw [h2.fails]
    split
    · rw [h2.keep]; exact h2.lose _
    · exact h2.tick n
  · exact h
theorem Twn.writeE {m m' : MDisk} (h : Twn m m') (n s : Int) (d : ByteArray) : writeE m' n s d = Dk.writeE m n s d := by
  unfold Dk.writeE
  rw [h.find, h.fails]
theorem Twn.flush {m m' : MDisk} (h : Twn m m') (n : Int) : Twn (flushM m n) (rflushM m' n) := by
  unfold flushM rflushM
  rw [h.off, h.regs, h.fails, h.keep]
  split
  · exact h
  · split
    · split
      · exact h.lose _
      · exact (h.tick n).set _ _
    · exact h
theorem Twn.flushE {m m' : MDisk} (h : Twn m m') (n : Int) : flushE m' n = Dl.flushE m n := by
  unfold Dl.flushE
  rw [h.off, h.regs, h.fails]
theorem Twn.cut {m m' : MDisk} (h : Twn m m') (n left : Int) (keep : List Int) : Twn (cutM m n left keep) (rcutM m' n left keep) := by
  obtain ⟨t, rfl, ht⟩ := h
  unfold cutM rcutM
  split
  · exact Twn.refl _
  · exact ⟨t, rfl, fun h => (h rfl).elim⟩
theorem Twn.on {m m' : MDisk} (h : Twn m m') : Twn (onM m) (ronM m') := by
  obtain ⟨t, rfl, ht⟩ := h
  exact ⟨t, rfl, fun h => (h rfl).elim⟩
theorem Twn.crash {m m' : MDisk} (h : Twn m m') (l : List Int) : Twn (crashM l m) (rcrashM l m') := by
  unfold crashM rcrashM
  rw [h.off]
  split
  · exact h.on
  · exact (h.lose l).on
theorem Twn.lay {m m' : MDisk} (h : Twn m m') (n : Int) (d : ByteArray) : Twn (layM m n d) (layM m' n d) := by
  unfold layM
  rw [h.regs]
  split
  · exact h.set _ _
  · exact h
theorem Twn.wf {m m' : MDisk} (h : Twn m m') {N : Nat} (hm : Wf N m) : Wf N m' := by
  obtain ⟨t, rfl, ht⟩ := h
  exact ⟨hm.few, hm.regs, hm.left, hm.keep⟩

/-- Both disks; the blocks of Z, which are there, are neither's. -/
def Two (Z : Nat → Prop) (w : World) (b : Nat) (m : MDisk) (b' : Nat) (m' : MDisk) : Prop :=
  (∀ k, Z k → k < w.heap.size) ∧ m.regs.length ≤ 8 ∧ m'.regs.length ≤ 8 ∧ ∃ G, DiskAt TP G 10 w b m ∧ DiskAt TR G 30 w b' m' ∧ ∀ k, Z k → G k = 0

section
variable {Z : Nat → Prop} {w w' : World} {b b' : Nat} {m m' m1 : MDisk}
theorem Two.below (h : Two Z w b m b' m') (f : Below w.heap.size w w') : Two Z w' b m b' m' := by
  obtain ⟨h0, h8, h9, G, h1, h2, h3⟩ := h
  exact ⟨fun k hk => Nat.lt_of_lt_of_le (h0 k hk) f.size, h8, h9, G, dat_below h1 f, dat_below h2 f, h3⟩
theorem Two.own {S : Nat → Prop} (h : Two Z w b m b' m') (f : Fr S w w') (hs : ∀ k, k < w.heap.size → S k → Z k) : Two (more Z w w') w' b m b' m' := by
  obtain ⟨h0, h8, h9, G, ⟨rv, kv, gs, h1⟩, ⟨rv', kv', gs', h2⟩, h3⟩ := h
  refine ⟨fun k hk => ?_, h8, h9, ext G w.heap.size 0, ⟨rv, kv, gs, (Lies.recolour h1 (G' := ext G w.heap.size 0) (fun k hk => ext_old hk)).fr f (fun k hk hc _ hsk => ?_)⟩, ⟨rv', kv', gs', (Lies.recolour h2 (G' := ext G w.heap.size 0) (fun k hk => ext_old hk)).fr f (fun k hk hc _ hsk => ?_)⟩, fun k hz => ?_⟩
  · rcases hk with hk | hk
    · exact Nat.lt_of_lt_of_le (h0 k hk) f.size
    · exact hk.2
  · rw [ext_old hk, h3 k (hs k hk hsk)] at hc
    omega
  · rw [ext_old hk, h3 k (hs k hk hsk)] at hc
    omega
  · rcases hz with hz | hz
    · rw [ext_old (h0 k hz)]; exact h3 k hz
    · exact ext_new hz.1
theorem Two.mono {Z' : Nat → Prop} (h : Two Z w b m b' m') (hz : ∀ k, Z' k → Z k) : Two Z' w b m b' m' := by
  obtain ⟨h0, h8, h9, G, h1, h2, h3⟩ := h
  exact ⟨fun k hk => h0 k (hz k hk), h8, h9, G, h1, h2, fun k hk => h3 k (hz k hk)⟩

theorem did_frame {T : Tys} {G : Nat → Nat} {c : Nat} (hc : 0 < c) (h0 : ∀ k, Z k → k < w.heap.size) (h3 : ∀ k, Z k → G k = 0) (hd : Did T G c w b m1 w') : Fr (fun k => ¬ Z k) w w' := by
  obtain ⟨G', hs, hd'⟩ := hd
  exact ⟨hs.fr.os, hs.fr.tape, hs.fr.output, hs.fr.size, fun k hk hz => hs.fr.block k hk (fun hc2 => by
    have hz' : Z k := Classical.byContradiction hz
    rw [hs.old k hk, h3 k hz'] at hc2
    omega)⟩
theorem two_did {G : Nat → Nat} (h0 : ∀ k, Z k → k < w.heap.size) (h9 : m'.regs.length ≤ 8) (h2 : DiskAt TR G 30 w b' m') (h3 : ∀ k, Z k → G k = 0) (h8 : m1.regs.length ≤ 8) (hd : Did TP G 10 w b m1 w') : Two Z w' b m1 b' m' ∧ Fr (fun k => ¬ Z k) w w' := by
  have hf := did_frame (by omega) h0 h3 hd
  obtain ⟨G', hs, hd'⟩ := hd
  obtain ⟨rv, kv, gs, h2⟩ := h2
  exact ⟨⟨fun k hk => Nat.lt_of_lt_of_le (h0 k hk) hf.size, h8, h9, G', hd', ⟨rv, kv, gs, h2.apart hs h9 (by omega)⟩, fun k hz => by rw [hs.old k (h0 k hz)]; exact h3 k hz⟩, hf⟩
theorem two_did' {G : Nat → Nat} (h0 : ∀ k, Z k → k < w.heap.size) (h8 : m.regs.length ≤ 8) (h1 : DiskAt TP G 10 w b m) (h3 : ∀ k, Z k → G k = 0) (h9 : m1.regs.length ≤ 8) (hd : Did TR G 30 w b' m1 w') : Two Z w' b m b' m1 ∧ Fr (fun k => ¬ Z k) w w' := by
  have hf := did_frame (by omega) h0 h3 hd
  obtain ⟨G', hs, hd'⟩ := hd
  obtain ⟨rv, kv, gs, h1⟩ := h1
  exact ⟨⟨fun k hk => Nat.lt_of_lt_of_le (h0 k hk) hf.size, h8, h9, G', ⟨rv, kv, gs, h1.apart hs h8 (by omega)⟩, hd', fun k hz => by rw [hs.old k (h0 k hz)]; exact h3 k hz⟩, hf⟩

variable {N : Nat}
theorem write_2 (h : Two Z w b m b' m') (hm : Wf N m) (hN : N < 1000000) (n s : Int) (x : ByteArray) :
    Calls Try.prog 25 #[.pointer (some ⟨b, 0, none⟩), .int .i64 n, .int .i64 s, .string x] w fun e w' => e = .returned (.int .i64 (writeE m n s x)) ∧ Two Z w' b (writeM m n s x) b' m' ∧ Fr (fun k => ¬ Z k) w w' := by
  obtain ⟨h0, h8, h9, G, h1, h2, h3⟩ := h
  exact (write_d h1 hm hN n s x).mono fun _ _ ⟨he, hd⟩ => ⟨he, two_did h0 h9 h2 h3 (write_wf hm).few hd⟩
theorem rwrite_2 (h : Two Z w b m b' m') (hm : Wf N m') (n s : Int) (x : ByteArray) (hw : Wf (N + 1) (rwriteM m' n s x)) (hN : N < 1000000) :
    Calls Try.prog 58 #[.pointer (some ⟨b', 0, none⟩), .int .i64 n, .int .i64 s, .string x] w fun e w' => e = .returned (.int .i64 (writeE m' n s x)) ∧ Two Z w' b m b' (rwriteM m' n s x) ∧ Fr (fun k => ¬ Z k) w w' := by
  obtain ⟨h0, h8, h9, G, h1, ⟨rv, kv, gs, h2⟩, h3⟩ := h
  exact (rput_any h2 hm hN n s x).mono fun _ _ ⟨he, hd⟩ => ⟨he, two_did' h0 h8 h1 h3 hw.few hd⟩
theorem read_2 (h : Two Z w b m b' m') (n s : Int) :
    Calls Try.prog 28 #[.pointer (some ⟨b, 0, none⟩), .int .i64 n, .int .i64 s] w fun e w' => e = .returned (.tuple #[.string (readM m n s), .int .i64 (findM m n s)]) ∧ Below w.heap.size w w' := by
  obtain ⟨h0, h8, h9, G, h1, h2, h3⟩ := h
  exact read_d h1 n s
theorem rread_2 (h : Two Z w b m b' m') (n s : Int) :
    Calls Try.prog 52 #[.pointer (some ⟨b', 0, none⟩), .int .i64 n, .int .i64 s] w fun e w' => e = .returned (.tuple #[.string (readM m' n s), .int .i64 (findM m' n s)]) ∧ Below w.heap.size w w' := by
  obtain ⟨h0, h8, h9, G, h1, ⟨rv, kv, gs, h2⟩, h3⟩ := h
  exact rread_any h2 n s
theorem sectors_2 (h : Two Z w b m b' m') (n : Int) :
    Calls Try.prog 21 #[.pointer (some ⟨b, 0, none⟩), .int .i64 n] w fun e w' => e = .returned (.int .i64 (sectorsM m n)) ∧ Below w.heap.size w w' := by
  obtain ⟨h0, h8, h9, G, h1, h2, h3⟩ := h
  exact sectors_d h1 n
theorem rsectors_2 (h : Two Z w b m b' m') (n : Int) :
    Calls Try.prog 22 #[.pointer (some ⟨b', 0, none⟩), .int .i64 n] w fun e w' => e = .returned (.int .i64 (sectorsM m' n)) ∧ Below w.heap.size w w' := by
  obtain ⟨h0, h8, h9, G, h1, ⟨rv, kv, gs, h2⟩, h3⟩ := h
  exact rsectors_any h2 n
theorem image_2 (h : Two Z w b m b' m') (hm : Wf N m) (n : Int) :
    Calls Try.prog 23 #[.pointer (some ⟨b, 0, none⟩), .int .i64 n] w fun e w' => e = .returned (.string (imageM m n)) ∧ Below w.heap.size w w' := by
  obtain ⟨h0, h8, h9, G, h1, h2, h3⟩ := h
  exact image_d h1 hm n
theorem rimage_2 (h : Two Z w b m b' m') (hm : Wf N m') (n : Int) :
    Calls Try.prog 51 #[.pointer (some ⟨b', 0, none⟩), .int .i64 n] w fun e w' => e = .returned (.string (imageM m' n)) ∧ Below w.heap.size w w' := by
  obtain ⟨h0, h8, h9, G, h1, ⟨rv, kv, gs, h2⟩, h3⟩ := h
  exact rimage_any h2 hm n
theorem flush_2 (h : Two Z w b m b' m') (hm : Wf N m) (hN : N ≤ 1000000) (n : Int) :
    Calls Try.prog 30 #[.pointer (some ⟨b, 0, none⟩), .int .i64 n] w fun e w' => e = .returned (.int .i64 (flushE m n)) ∧ Two Z w' b (flushM m n) b' m' ∧ Fr (fun k => ¬ Z k) w w' := by
  obtain ⟨h0, h8, h9, G, ⟨rv, kv, gs, h1⟩, h2, h3⟩ := h
  exact (flush_any h1 hm hN n).mono fun _ _ ⟨he, hd⟩ => ⟨he, two_did h0 h9 h2 h3 (flush_wf hm).few hd⟩
theorem rflush_2 (h : Two Z w b m b' m') (hm : Wf N m') (hN : N ≤ 1000000) (n : Int) (hw : Wf N (rflushM m' n)) :
    Calls Try.prog 53 #[.pointer (some ⟨b', 0, none⟩), .int .i64 n] w fun e w' => e = .returned (.int .i64 (flushE m' n)) ∧ Two Z w' b m b' (rflushM m' n) ∧ Fr (fun k => ¬ Z k) w w' := by
  obtain ⟨h0, h8, h9, G, h1, ⟨rv, kv, gs, h2⟩, h3⟩ := h
  exact (rflush_any h2 hm hN n).mono fun _ _ ⟨he, hd⟩ => ⟨he, two_did' h0 h8 h1 h3 hw.few hd⟩
theorem lay_2 (h : Two Z w b m b' m') (hm : Wf N m) (n : Int) (x : ByteArray) :
    Calls Try.prog 27 #[.pointer (some ⟨b, 0, none⟩), .int .i64 n, .string x] w fun e w' => e = .returned (.tuple #[]) ∧ Two Z w' b (layM m n x) b' m' ∧ Fr (fun k => ¬ Z k) w w' := by
  obtain ⟨h0, h8, h9, G, ⟨rv, kv, gs, h1⟩, h2, h3⟩ := h
  exact (lay_any h1 hm n x).mono fun _ _ ⟨he, hd⟩ => ⟨he, two_did h0 h9 h2 h3 (lay_wf hm).few hd⟩
theorem rlay_2 (h : Two Z w b m b' m') (hm : Wf N m') (n : Int) (x : ByteArray) :
    Calls Try.prog 57 #[.pointer (some ⟨b', 0, none⟩), .int .i64 n, .string x] w fun e w' => e = .returned (.tuple #[]) ∧ Two Z w' b m b' (layM m' n x) ∧ Fr (fun k => ¬ Z k) w w' := by
  obtain ⟨h0, h8, h9, G, h1, ⟨rv, kv, gs, h2⟩, h3⟩ := h
  exact (rlay_any h2 hm n x).mono fun _ _ ⟨he, hd⟩ => ⟨he, two_did' h0 h8 h1 h3 (lay_wf hm).few hd⟩
theorem on_2 (h : Two Z w b m b' m') :
    Calls Try.prog 35 #[.pointer (some ⟨b, 0, none⟩)] w fun e w' => e = .returned (.tuple #[]) ∧ Two Z w' b (onM m) b' m' ∧ Fr (fun k => ¬ Z k) w w' := by
  obtain ⟨h0, h8, h9, G, ⟨rv, kv, gs, h1⟩, h2, h3⟩ := h
  exact (on_any h1).mono fun _ _ ⟨he, hf, hl⟩ => ⟨he, two_did h0 h9 h2 h3 h8 (Did.of (Step.of_fr hf (fun k _ hk => by rw [hk, h1.colour]; omega)) hl)⟩
theorem ron_2 (h : Two Z w b m b' m') :
    Calls Try.prog 56 #[.pointer (some ⟨b', 0, none⟩)] w fun e w' => e = .returned (.tuple #[]) ∧ Two Z w' b m b' (ronM m') ∧ Fr (fun k => ¬ Z k) w w' := by
  obtain ⟨h0, h8, h9, G, h1, ⟨rv, kv, gs, h2⟩, h3⟩ := h
  exact (ron_any h2).mono fun _ _ ⟨he, hf, hl⟩ => ⟨he, two_did' h0 h8 h1 h3 h9 (Did.of (Step.of_fr hf (fun k _ hk => by rw [hk, h2.colour]; omega)) hl)⟩
theorem off_2 (h : Two Z w b m b' m') :
    Calls Try.prog 36 #[.pointer (some ⟨b, 0, none⟩)] w fun e w' => e = .returned (.bool m.off) ∧ Below w.heap.size w w' := by
  obtain ⟨h0, h8, h9, G, ⟨rv, kv, gs, h1⟩, h2, h3⟩ := h
  exact off_any h1
theorem crash_2 (h : Two Z w b m b' m') (hm : Wf N m) (hN : N ≤ 1000000) (A : Option Addr) (cc : Nat) (keep : List Int) (hK : ∀ x ∈ keep, 0 ≤ x ∧ x ≤ 18446744073709551615)
    (hC : ∀ W, Fr (fun k => ¬ Z k) w W → Kd.C (Kd.int .u64) W A keep.length keep) :
    Calls Try.prog 29 #[.pointer (some ⟨b, 0, none⟩), .slice A keep.length cc] w fun e w' => e = .returned (.tuple #[]) ∧ Two Z w' b (crashM keep m) b' m' ∧ Fr (fun k => ¬ Z k) w w' := by
  obtain ⟨h0, h8, h9, G, h1, h2, h3⟩ := h
  exact (crash_d h1 hm hN A cc keep hK (fun W hW => hC W (hW.mono (fun k hk hz => by have h5 := hk.1; rw [h3 k hz] at h5; omega)))).mono fun _ _ ⟨he, hd⟩ => ⟨he, two_did h0 h9 h2 h3 (crash_wf keep hm).few hd⟩
theorem rcrash_2 (h : Two Z w b m b' m') (hm : Wf N m') (hN : N ≤ 1000000) (A : Option Addr) (cc : Nat) (keep : List Int) (hK : ∀ x ∈ keep, 0 ≤ x ∧ x ≤ 18446744073709551615) (hw : Wf N (rcrashM keep m'))
    (hC : ∀ W, Fr (fun k => ¬ Z k) w W → Kd.C (Kd.int .u64) W A keep.length keep) :
    Calls Try.prog 55 #[.pointer (some ⟨b', 0, none⟩), .slice A keep.length cc] w fun e w' => e = .returned (.tuple #[]) ∧ Two Z w' b m b' (rcrashM keep m') ∧ Fr (fun k => ¬ Z k) w w' := by
  obtain ⟨h0, h8, h9, G, h1, ⟨rv, kv, gs, h2⟩, h3⟩ := h
  exact (rcrash_any h2 hm hN A cc keep hK (fun W hW => hC W (hW.mono (fun k hk hz => by have h5 := hk.1; rw [h3 k hz] at h5; omega)))).mono fun _ _ ⟨he, hd⟩ => ⟨he, two_did' h0 h8 h1 h3 hw.few hd⟩
theorem cut_2 (h : Two Z w b m b' m') (hm : Wf N m) (n left : Int) (hleft : left ≤ 9223372036854775807) (A : Option Addr) (cc : Nat) (keep : List Int) (hk : keep.length * 8 ≤ 140737488355328) (hK : ∀ x ∈ keep, 0 ≤ x ∧ x ≤ 18446744073709551615)
    (hC : ∀ W, Fr (fun k => ¬ Z k) w W → Kd.C (Kd.int .u64) W A keep.length keep) :
    Calls Try.prog 34 #[.pointer (some ⟨b, 0, none⟩), .int .i64 n, .int .i64 left, .slice A keep.length cc] w fun e w' => e = .returned (.tuple #[]) ∧ Two Z w' b (cutM m n left keep) b' m' ∧ Fr (fun k => ¬ Z k) w w' := by
  obtain ⟨h0, h8, h9, G, ⟨rv, kv, gs, h1⟩, h2, h3⟩ := h
  exact (cut_any h1 n left A cc keep hk (fun W hW => hC W (hW.mono (fun k hk hz => by rw [hk] at hz; have h5 := h3 _ hz; rw [h1.colour] at h5; omega)))).mono fun _ _ ⟨he, hd⟩ => ⟨he, two_did h0 h9 h2 h3 (cut_wf hm hleft hK).few hd⟩
theorem rcut_2 (h : Two Z w b m b' m') (n left : Int) (A : Option Addr) (cc : Nat) (keep : List Int) (hk : keep.length * 8 ≤ 140737488355328) (hw : (rcutM m' n left keep).regs.length ≤ 8)
    (hC : ∀ W, Fr (fun k => ¬ Z k) w W → Kd.C (Kd.int .u64) W A keep.length keep) :
    Calls Try.prog 54 #[.pointer (some ⟨b', 0, none⟩), .int .i64 n, .int .i64 left, .slice A keep.length cc] w fun e w' => e = .returned (.tuple #[]) ∧ Two Z w' b m b' (rcutM m' n left keep) ∧ Fr (fun k => ¬ Z k) w w' := by
  obtain ⟨h0, h8, h9, G, h1, ⟨rv, kv, gs, h2⟩, h3⟩ := h
  exact (rcut_any h2 n left A cc keep hk (fun W hW => hC W (hW.mono (fun k hk hz => by rw [hk] at hz; have h5 := h3 _ hz; rw [h2.colour] at h5; omega)))).mono fun _ _ ⟨he, hd⟩ => ⟨he, two_did' h0 h8 h1 h3 hw hd⟩
end

end Go.Proofs.Ytekpbpcfeopilaa.Eg
