/- The statements' own: wakes; DiskNil. -/
import Derived.Test.YtekpbpcfeopilaaDv
namespace Go.Proofs.Ytekpbpcfeopilaa.Dw
open Go Go.RowKit Go.Joins Go.Proofs.YtekpbpcfeopilaaCore Go.Proofs.Ytekpbpcfeopilaa.Dm Go.Proofs.Ytekpbpcfeopilaa.Dr Go.Proofs.Ytekpbpcfeopilaa.Da Go.Proofs.Ytekpbpcfeopilaa.Df Go.Proofs.Ytekpbpcfeopilaa.Dg Go.Proofs.Ytekpbpcfeopilaa.Dh Go.Proofs.Ytekpbpcfeopilaa.Di Go.Proofs.Ytekpbpcfeopilaa.Dj Go.Proofs.Ytekpbpcfeopilaa.Dk Go.Proofs.Ytekpbpcfeopilaa.Dl Go.Proofs.Ytekpbpcfeopilaa.Dn Go.Proofs.Ytekpbpcfeopilaa.Dp Go.Proofs.Ytekpbpcfeopilaa.Dq Go.Proofs.Ytekpbpcfeopilaa.Ds Go.Proofs.Ytekpbpcfeopilaa.Dt Go.Proofs.Ytekpbpcfeopilaa.Du Go.Proofs.Ytekpbpcfeopilaa.Dv Go.Proofs.Ytekpbpcfeopilaa.Reg Go.Proofs.YtekpbpcfeopilaaW.PrintWords Go.Proofs.YtekpbpcfeopilaaW.PrintLast Go.Proofs.YtekpbpcfeopilaaW.PrintMore

/-- A slice of numbers that was typed out. -/
theorem lit_C (k : IntKind) (W : World) (e : Nat) (xs : List Int) (h : xs.length ≤ 9223372036854775807) : Kd.C (Kd.int k) (W.alloc (.cells (encs (Value.int k) xs).toArray e)) (some ⟨W.heap.size, 0, none⟩) xs.length xs := by
  have ho := own_lit_of (enc := Value.int k) W 0 e xs (Nat.zero_le _) h
  obtain ⟨A, c, he, hr⟩ := own_reads_of (d := (0 : Int)) ho
  injection he with he1 he2 he3
  rw [he1]
  exact Kd.C_of_reads (h1 := fun _ => rfl) hr

theorem dat_below {T : Tys} {G : Nat → Nat} {c : Nat} {w w' : World} {b : Nat} {m : MDisk} (h : DiskAt T G c w b m) (f : Below w.heap.size w w') : DiskAt T G c w' b m := by
  obtain ⟨rv, kv, gs, h⟩ := h
  exact ⟨rv, kv, gs, h.below f⟩
theorem dat_recolour {T : Tys} {G G' : Nat → Nat} {c : Nat} {w : World} {b : Nat} {m : MDisk} (h : DiskAt T G c w b m) (hG : ∀ k, k < w.heap.size → G' k = G k) : DiskAt T G' c w b m := by
  obtain ⟨rv, kv, gs, h⟩ := h
  exact ⟨rv, kv, gs, h.recolour hG⟩
theorem dat_lt {T : Tys} {G : Nat → Nat} {c : Nat} {w : World} {b : Nat} {m : MDisk} (h : DiskAt T G c w b m) : b < w.heap.size := by
  obtain ⟨rv, kv, gs, h⟩ := h
  exact heap_lt h.head

theorem write_d {G : Nat → Nat} {c : Nat} {w : World} {b : Nat} {m : MDisk} (h : DiskAt TP G c w b m) {N : Nat} (hm : Wf N m) (hN : N < 1000000) (n s : Int) (d : ByteArray) :
    Calls Try.prog 25 #[.pointer (some ⟨b, 0, none⟩), .int .i64 n, .int .i64 s, .string d] w fun e w' => e = .returned (.int .i64 (writeE m n s d)) ∧ Did TP G c w b (writeM m n s d) w' := by
  obtain ⟨rv, kv, gs, h⟩ := h
  exact write_any h hm hN n s d
theorem read_d {G : Nat → Nat} {c : Nat} {w : World} {b : Nat} {m : MDisk} (h : DiskAt TP G c w b m) (n s : Int) :
    Calls Try.prog 28 #[.pointer (some ⟨b, 0, none⟩), .int .i64 n, .int .i64 s] w fun e w' => e = .returned (.tuple #[.string (readM m n s), .int .i64 (findM m n s)]) ∧ Below w.heap.size w w' := by
  obtain ⟨rv, kv, gs, h⟩ := h
  exact read_any h n s
theorem sectors_d {G : Nat → Nat} {c : Nat} {w : World} {b : Nat} {m : MDisk} (h : DiskAt TP G c w b m) (n : Int) :
    Calls Try.prog 21 #[.pointer (some ⟨b, 0, none⟩), .int .i64 n] w fun e w' => e = .returned (.int .i64 (sectorsM m n)) ∧ Below w.heap.size w w' := by
  obtain ⟨rv, kv, gs, h⟩ := h
  exact sectors_any h n
theorem image_d {G : Nat → Nat} {c : Nat} {w : World} {b : Nat} {m : MDisk} (h : DiskAt TP G c w b m) {N : Nat} (hm : Wf N m) (n : Int) :
    Calls Try.prog 23 #[.pointer (some ⟨b, 0, none⟩), .int .i64 n] w fun e w' => e = .returned (.string (imageM m n)) ∧ Below w.heap.size w w' := by
  obtain ⟨rv, kv, gs, h⟩ := h
  exact image_any h hm n
theorem crash_d {G : Nat → Nat} {c : Nat} {w : World} {b : Nat} {m : MDisk} (h : DiskAt TP G c w b m) {N : Nat} (hm : Wf N m) (hN : N ≤ 1000000) (A : Option Addr) (cc : Nat) (keep : List Int) (hK : ∀ x ∈ keep, 0 ≤ x ∧ x ≤ 18446744073709551615)
    (hC : ∀ W, Fr (regC G c) w W → Kd.C (Kd.int .u64) W A keep.length keep) :
    Calls Try.prog 29 #[.pointer (some ⟨b, 0, none⟩), .slice A keep.length cc] w fun e w' => e = .returned (.tuple #[]) ∧ Did TP G c w b (crashM keep m) w' := by
  obtain ⟨rv, kv, gs, h⟩ := h
  exact crash_any h hm hN A cc keep hK hC

/-- What is read by cells of one block stays as long as that block isn't turned. -/
theorem C_fr {k : IntKind} {S : Nat → Prop} {w W : World} {q n : Nat} {xs : List Int} (h : Kd.C (Kd.int k) w (some ⟨q, 0, none⟩) n xs) (f : Fr S w W) (hq : ¬ S q) : Kd.C (Kd.int k) W (some ⟨q, 0, none⟩) n xs := by
  refine ⟨h.1, h.2.1, fun hn => ?_⟩
  obtain ⟨ad, ha, hc⟩ := h.2.2 hn
  injection ha with ha
  subst ha
  refine ⟨_, rfl, fun j x hj => ?_⟩
  obtain ⟨c, h1, h2, h3⟩ := hc j x hj
  refine ⟨c, h1, h2, fun i u hu => ?_⟩
  have := h3 i u hu
  rw [Addr.add_plain0] at this ⊢
  exact f.cell this hq

theorem step_below {G G' : Nat → Nat} {c B : Nat} {w w' : World} (s : Step G G' c w w') (hB : B ≤ w.heap.size) (hG : ∀ k, k < B → G k = 0) (hc : 0 < c) : Below B w w' :=
  s.fr.below hB (fun k hk hs => by rw [s.old k (by omega), hG k hk] at hs; omega)

/-- A disk that a call made for itself. -/
def St (w0 w : World) (b : Nat) (m : MDisk) (N : Nat) : Prop := ∃ G, DiskAt TP G 10 w b m ∧ Below w0.heap.size w0 w ∧ (∀ k, k < w0.heap.size → G k = 0) ∧ Wf N m
theorem St.bel {w0 w : World} {b : Nat} {m : MDisk} {N : Nat} (h : St w0 w b m N) : Below w0.heap.size w0 w := by obtain ⟨G, _, h2, _⟩ := h; exact h2
theorem St.wf {w0 w : World} {b : Nat} {m : MDisk} {N : Nat} (h : St w0 w b m N) : Wf N m := by obtain ⟨G, _, _, _, h4⟩ := h; exact h4
theorem St.below {w0 w w' : World} {b : Nat} {m : MDisk} {N : Nat} (h : St w0 w b m N) (f : Below w.heap.size w w') : St w0 w' b m N := by
  obtain ⟨G, h1, h2, h3, h4⟩ := h
  exact ⟨G, dat_below h1 f, h2.trans (f.mono h2.size), h3, h4⟩
theorem St.alloc {w0 w : World} {b : Nat} {m : MDisk} {N : Nat} (h : St w0 w b m N) (o : Obj) : St w0 (w.alloc o) b m N := h.below ((Below.refl _ _).alloc (Nat.le_refl _) o)
theorem St.did {G : Nat → Nat} {w0 w w' : World} {b : Nat} {m' : MDisk} {N' : Nat} (hd : Did TP G 10 w b m' w') (h2 : Below w0.heap.size w0 w) (h3 : ∀ k, k < w0.heap.size → G k = 0) (h4 : Wf N' m') : St w0 w' b m' N' := by
  obtain ⟨G', hs, hd⟩ := hd
  exact ⟨G', hd, h2.trans (step_below hs h2.size h3 (by omega)), fun k hk => by rw [hs.old k (Nat.lt_of_lt_of_le hk h2.size)]; exact h3 k hk, h4⟩

theorem write_s {w0 w : World} {b : Nat} {m : MDisk} {N : Nat} (h : St w0 w b m N) (hN : N < 1000000) (n s : Int) (d : ByteArray) :
    Calls Try.prog 25 #[.pointer (some ⟨b, 0, none⟩), .int .i64 n, .int .i64 s, .string d] w fun e w' => e = .returned (.int .i64 (writeE m n s d)) ∧ St w0 w' b (writeM m n s d) (N + 1) := by
  obtain ⟨G, h1, h2, h3, h4⟩ := h
  exact (write_d h1 h4 hN n s d).mono fun _ _ ⟨he, hd⟩ => ⟨he, St.did hd h2 h3 (write_wf h4)⟩
theorem read_s {w0 w : World} {b : Nat} {m : MDisk} {N : Nat} (h : St w0 w b m N) (n s : Int) :
    Calls Try.prog 28 #[.pointer (some ⟨b, 0, none⟩), .int .i64 n, .int .i64 s] w fun e w' => e = .returned (.tuple #[.string (readM m n s), .int .i64 (findM m n s)]) ∧ St w0 w' b m N := by
  obtain ⟨G, h1, h2, h3, h4⟩ := id h
  exact (read_d h1 n s).mono fun _ _ ⟨he, hd⟩ => ⟨he, h.below hd⟩
theorem sectors_s {w0 w : World} {b : Nat} {m : MDisk} {N : Nat} (h : St w0 w b m N) (n : Int) :
    Calls Try.prog 21 #[.pointer (some ⟨b, 0, none⟩), .int .i64 n] w fun e w' => e = .returned (.int .i64 (sectorsM m n)) ∧ St w0 w' b m N := by
  obtain ⟨G, h1, h2, h3, h4⟩ := id h
  exact (sectors_d h1 n).mono fun _ _ ⟨he, hd⟩ => ⟨he, h.below hd⟩
theorem image_s {w0 w : World} {b : Nat} {m : MDisk} {N : Nat} (h : St w0 w b m N) (n : Int) :
    Calls Try.prog 23 #[.pointer (some ⟨b, 0, none⟩), .int .i64 n] w fun e w' => e = .returned (.string (imageM m n)) ∧ St w0 w' b m N := by
  obtain ⟨G, h1, h2, h3, h4⟩ := id h
  exact (image_d h1 h4 n).mono fun _ _ ⟨he, hd⟩ => ⟨he, h.below hd⟩
/-- Crash with numbers that were typed out just ahead. -/
theorem crash_lit {w0 w : World} {b : Nat} {m : MDisk} {N : Nat} (h : St w0 w b m N) (hN : N ≤ 1000000) (e : Nat) (keep : List Int) (hK : ∀ x ∈ keep, 0 ≤ x ∧ x ≤ 18446744073709551615) (hl : keep.length ≤ 1000000) (cc : Nat) :
    Calls Try.prog 29 #[.pointer (some ⟨b, 0, none⟩), .slice (some ⟨w.heap.size, 0, none⟩) keep.length cc] (w.alloc (.cells (encs (Value.int .u64) keep).toArray e)) fun e w' => e = .returned (.tuple #[]) ∧ St w0 w' b (crashM keep m) N := by
  obtain ⟨G, h1, h2, h3, h4⟩ := h
  have h1' := dat_below (dat_recolour (G' := ext G w.heap.size 0) h1 (fun k hk => ext_old hk)) ((Below.refl _ _).alloc (Nat.le_refl _) (.cells (encs (Value.int .u64) keep).toArray e))
  have h2' : Below w0.heap.size w0 (w.alloc (.cells (encs (Value.int .u64) keep).toArray e)) := h2.trans ((Below.refl _ _).alloc h2.size _)
  have h3' : ∀ k, k < w0.heap.size → ext G w.heap.size 0 k = 0 := fun k hk => by rw [ext_old (Nat.lt_of_lt_of_le hk h2.size)]; exact h3 k hk
  refine (crash_d h1' h4 hN _ cc keep hK (fun W hW => C_fr (lit_C .u64 w e keep (by omega)) hW (fun hs => ?_))).mono fun _ _ ⟨he, hd⟩ => ⟨he, St.did hd h2' h3' (crash_wf _ h4)⟩
  have := hs.1
  rw [ext_new (Nat.le_refl _)] at this
  omega
theorem new_s (A : Option Addr) (cc : Nat) (l : List Int) (w0 w : World) (hb : Below w0.heap.size w0 w) (hC : Kd.C (Kd.int .i64) w A l.length l) (hcc : l.length ≤ cc) :
    Calls Try.prog 19 #[.slice A l.length cc] w fun e w' => e = .returned (.pointer (some ⟨w.heap.size, 0, none⟩)) ∧ St w0 w' w.heap.size (newM l) 0 :=
  (new_any (fun _ => 0) 10 A cc l w hC hcc).mono fun _ _ ⟨he, hb2, G', hG, hd⟩ => ⟨he, G', hd, hb.trans (hb2.mono hb.size), fun k hk => hG k (Nat.lt_of_lt_of_le hk hb.size), new_wf l⟩

def xS : ByteArray := secB ⟨#[120]⟩ 0
def yS : ByteArray := secB ⟨#[121]⟩ 0
theorem x_eq : sectorB ⟨#[120]⟩ = xS := by rfl
theorem y_eq : sectorB ⟨#[121]⟩ = yS := by rfl

def m0 : MDisk := newM [2]
def m1 : MDisk := writeM m0 0 1 xS
def m2 : MDisk := writeM m1 0 1 yS
def m3 : MDisk := crashM [1] m2
theorem e1 : writeE m0 0 1 xS = 0 := by kernel_rfl
theorem e2 : writeE m1 0 1 yS = 0 := by kernel_rfl
theorem e3 : findM m3 0 1 = 0 := by kernel_rfl
theorem e4 : readM m3 0 1 = xS := by kernel_rfl
theorem e5 : sectorsM m3 0 = 2 := by kernel_rfl
theorem e6 : (imageM m3 0).size = 128 := by kernel_rfl

set_option maxHeartbeats 4000000 in
set_option maxRecDepth 100000 in
theorem wakes_any (w : World) : Calls Try.prog 24 #[] w fun e w' => e = .returned (.bool true) ∧ Below w.heap.size w w' := by
  obtain ⟨ma, ea⟩ : ∃ ma, m0 = ma := ⟨_, rfl⟩
  obtain ⟨mb, eb⟩ : ∃ mb, m1 = mb := ⟨_, rfl⟩
  obtain ⟨mc, ec⟩ : ∃ mc, m2 = mc := ⟨_, rfl⟩
  obtain ⟨md, ed⟩ : ∃ md, m3 = md := ⟨_, rfl⟩
  obtain ⟨x, ex⟩ : ∃ x, xS = x := ⟨_, rfl⟩
  obtain ⟨y, ey⟩ : ∃ y, yS = y := ⟨_, rfl⟩
  obtain ⟨im, ei⟩ : ∃ im, imageM m3 0 = im := ⟨_, rfl⟩
  have EA : Hid (newM [2] = ma) := ea
  have EB : Hid (writeM ma 0 1 x = mb) := by show _ = _; rw [← ea, ← ex]; exact eb
  have EC : Hid (writeM mb 0 1 y = mc) := by show _ = _; rw [← eb, ← ey]; exact ec
  have ED : Hid (crashM [1] mc = md) := by show _ = _; rw [← ec]; exact ed
  have F1 : Hid (writeE ma 0 1 x = 0) := by show _ = _; rw [← ea, ← ex]; exact e1
  have F2 : Hid (writeE mb 0 1 y = 0) := by show _ = _; rw [← eb, ← ey]; exact e2
  have F3 : Hid (findM md 0 1 = 0) := by show _ = _; rw [← ed]; exact e3
  have F4 : Hid (readM md 0 1 = x) := by show _ = _; rw [← ed, ← ex]; exact e4
  have F5 : Hid (sectorsM md 0 = 2) := by show _ = _; rw [← ed]; exact e5
  have F6 : Hid (imageM md 0 = im) := by show _ = _; rw [← ed]; exact ei
  have him : im.size = 128 := by rw [← ei]; exact e6
  have F7 := Lib.hid him
  have F8 : Hid (sectorB ⟨#[120]⟩ = x) := by show _ = _; rw [← ex]; exact x_eq
  have F9 : Hid (sectorB ⟨#[121]⟩ = y) := by show _ = _; rw [← ey]; exact y_eq
  clear ea eb ec ed ex ey ei him
  go_enter Try.func24, Try.ntmps24
  go_wp2_with fail
  have hC := lit_C .i64 w 3 [2] (by decide)
  refine (new_s (some ⟨w.heap.size, 0, none⟩) 1 [2] w _ ((Below.refl _ _).alloc (Nat.le_refl _) _) hC (by decide)).mono ?_
  rintro e w1 ⟨rfl, hs1⟩
  rw [EA.out, show (w.alloc (.cells (encs (Value.int .i64) [2]).toArray 3)).heap.size = w.heap.size + 1 from by simp] at hs1
  have HS1 := Lib.hid hs1
  clear hC hs1
  go_wp2_with fail
  refine (sector_any ⟨#[120]⟩ w1).mono ?_
  rintro e w2 ⟨rfl, hb2⟩
  rw [F8.out]
  have HS2 := Lib.hid (HS1.out.below hb2)
  clear hb2 HS1
  go_wp2_with fail
  refine (sector_any ⟨#[121]⟩ w2).mono ?_
  rintro e w3 ⟨rfl, hb3⟩
  rw [F9.out]
  have HS3 := Lib.hid (HS2.out.below hb3)
  clear hb3 HS2
  go_wp2_with fail
  refine (write_s HS3.out (by omega) 0 1 x).mono ?_
  rintro e w4 ⟨rfl, hs4⟩
  rw [EB.out] at hs4
  rw [F1.out]
  have HS4 := Lib.hid hs4
  clear hs4 HS3
  go_wp2_with fail
  refine (write_s HS4.out (by omega) 0 1 y).mono ?_
  rintro e w5 ⟨rfl, hs5⟩
  rw [EC.out] at hs5
  rw [F2.out]
  have HS5 := Lib.hid hs5
  clear hs5 HS4
  go_wp2_with fail
  refine (crash_lit HS5.out (by omega) 59 [1] (by simp) (by decide) 1).mono ?_
  rintro e w6 ⟨rfl, hs6⟩
  rw [ED.out] at hs6
  have HS6 := Lib.hid hs6
  clear hs6 HS5
  go_wp2_with fail
  refine (read_s HS6.out 0 1).mono ?_
  rintro e w7 ⟨rfl, hs7⟩
  rw [F3.out, F4.out]
  have HS7 := Lib.hid hs7
  clear hs7 HS6
  go_wp2_with fail
  refine (sectors_s HS7.out 0).mono ?_
  rintro e w8 ⟨rfl, hs8⟩
  rw [F5.out]
  have HS8 := Lib.hid hs8
  clear hs8 HS7
  go_wp2_with fail
  refine (image_s HS8.out 0).mono ?_
  rintro e w9 ⟨rfl, hs9⟩
  rw [F6.out]
  have HS9 := Lib.hid hs9
  have him : (im.size : Int) = 128 := by rw [F7.out]; rfl
  clear hs9 HS8
  go_wp2_with fail
  refine bodyPost_ret (v := .bool true) (by simp [results, Try.results24, go_sem]) rfl ?_
  exact ⟨rfl, HS9.out.bel⟩

set_option maxHeartbeats 4000000 in
set_option maxRecDepth 100000 in
theorem diskNil (x0 x1 x2 x3 : Int) (d : ByteArray) (A : Option Addr) (n cc : Nat) (w : World) :
    Calls Try.prog 11 #[.agg #[.int .i64 x0, .int .i64 x1, .int .i64 x2, .int .i64 x3, .string d, .slice A n cc]] w fun e w' => e = .returned (.bool true) ∧ Below w.heap.size w w' := by
  have HP : Hid ((w.alloc (.cells #[.int .i64 x0, .int .i64 x1, .int .i64 x2, .int .i64 x3, .string d, .slice A n cc] 52)).heap[w.heap.size]? = some (.cells #[.int .i64 x0, .int .i64 x1, .int .i64 x2, .int .i64 x3, .string d, .slice A n cc] 52 (0, 0))) := heap_alloc_new _ _
  have HB : Hid (Below w.heap.size w (w.alloc (.cells #[.int .i64 x0, .int .i64 x1, .int .i64 x2, .int .i64 x3, .string d, .slice A n cc] 52))) := (Below.refl _ _).alloc (Nat.le_refl _) _
  go_enter Try.func11, Try.ntmps11
  go_wp2_with fail
  refine (read_nil _ _ _).mono ?_
  rintro e w1 ⟨rfl, hb⟩
  have HP1 := Lib.hid (blk_below HP.out hb)
  have HB1 := Lib.hid (HB.out.trans (hb.mono HB.out.size))
  clear hb HP HB
  have c1 : World.cell? _ ⟨w.heap.size, 1, none⟩ = some (.int .i64 x1) := cell_of_block HP1.out 1
  have c2 : World.cell? _ ⟨w.heap.size, 2, none⟩ = some (.int .i64 x2) := cell_of_block HP1.out 2
  have c3 : World.cell? _ ⟨w.heap.size, 3, none⟩ = some (.int .i64 x3) := cell_of_block HP1.out 3
  have c4 : World.cell? _ ⟨w.heap.size, 4, none⟩ = some (.string d) := cell_of_block HP1.out 4
  have c5 : World.cell? _ ⟨w.heap.size, 5, none⟩ = some (.slice A n cc) := cell_of_block HP1.out 5
  go_wp2_with fail
  clear c1 c2 c3 c4 c5
  refine (cut_nil _ _ _ _).mono ?_
  rintro e w2 ⟨rfl, hb⟩
  have HP2 := Lib.hid (blk_below HP1.out hb)
  have HB2 := Lib.hid (HB1.out.trans (hb.mono HB1.out.size))
  clear hb HP1 HB1
  have c1 : World.cell? _ ⟨w.heap.size, 1, none⟩ = some (.int .i64 x1) := cell_of_block HP2.out 1
  have c2 : World.cell? _ ⟨w.heap.size, 2, none⟩ = some (.int .i64 x2) := cell_of_block HP2.out 2
  have c3 : World.cell? _ ⟨w.heap.size, 3, none⟩ = some (.int .i64 x3) := cell_of_block HP2.out 3
  have c4 : World.cell? _ ⟨w.heap.size, 4, none⟩ = some (.string d) := cell_of_block HP2.out 4
  have c5 : World.cell? _ ⟨w.heap.size, 5, none⟩ = some (.slice A n cc) := cell_of_block HP2.out 5
  go_wp2_with fail
  clear c1 c2 c3 c4 c5
  refine (crash_nil _ _).mono ?_
  rintro e w3 ⟨rfl, hb⟩
  have HP3 := Lib.hid (blk_below HP2.out hb)
  have HB3 := Lib.hid (HB2.out.trans (hb.mono HB2.out.size))
  clear hb HP2 HB2
  have c1 : World.cell? _ ⟨w.heap.size, 1, none⟩ = some (.int .i64 x1) := cell_of_block HP3.out 1
  have c2 : World.cell? _ ⟨w.heap.size, 2, none⟩ = some (.int .i64 x2) := cell_of_block HP3.out 2
  have c3 : World.cell? _ ⟨w.heap.size, 3, none⟩ = some (.int .i64 x3) := cell_of_block HP3.out 3
  have c4 : World.cell? _ ⟨w.heap.size, 4, none⟩ = some (.string d) := cell_of_block HP3.out 4
  have c5 : World.cell? _ ⟨w.heap.size, 5, none⟩ = some (.slice A n cc) := cell_of_block HP3.out 5
  go_wp2_with fail
  clear c1 c2 c3 c4 c5
  refine (on_nil _).mono ?_
  rintro e w4 ⟨rfl, hb⟩
  have HP4 := Lib.hid (blk_below HP3.out hb)
  have HB4 := Lib.hid (HB3.out.trans (hb.mono HB3.out.size))
  clear hb HP3 HB3
  have c1 : World.cell? _ ⟨w.heap.size, 1, none⟩ = some (.int .i64 x1) := cell_of_block HP4.out 1
  have c2 : World.cell? _ ⟨w.heap.size, 2, none⟩ = some (.int .i64 x2) := cell_of_block HP4.out 2
  have c3 : World.cell? _ ⟨w.heap.size, 3, none⟩ = some (.int .i64 x3) := cell_of_block HP4.out 3
  have c4 : World.cell? _ ⟨w.heap.size, 4, none⟩ = some (.string d) := cell_of_block HP4.out 4
  have c5 : World.cell? _ ⟨w.heap.size, 5, none⟩ = some (.slice A n cc) := cell_of_block HP4.out 5
  go_wp2_with fail
  clear c1 c2 c3 c4 c5
  refine (lay_nil _ _ _).mono ?_
  rintro e w5 ⟨rfl, hb⟩
  have HP5 := Lib.hid (blk_below HP4.out hb)
  have HB5 := Lib.hid (HB4.out.trans (hb.mono HB4.out.size))
  clear hb HP4 HB4
  have c1 : World.cell? _ ⟨w.heap.size, 1, none⟩ = some (.int .i64 x1) := cell_of_block HP5.out 1
  have c2 : World.cell? _ ⟨w.heap.size, 2, none⟩ = some (.int .i64 x2) := cell_of_block HP5.out 2
  have c3 : World.cell? _ ⟨w.heap.size, 3, none⟩ = some (.int .i64 x3) := cell_of_block HP5.out 3
  have c4 : World.cell? _ ⟨w.heap.size, 4, none⟩ = some (.string d) := cell_of_block HP5.out 4
  have c5 : World.cell? _ ⟨w.heap.size, 5, none⟩ = some (.slice A n cc) := cell_of_block HP5.out 5
  go_wp2_with fail
  clear c1 c2 c3 c4 c5
  refine (wakes_any _).mono ?_
  rintro e w6 ⟨rfl, hb⟩
  have HP6 := Lib.hid (blk_below HP5.out hb)
  have HB6 := Lib.hid (HB5.out.trans (hb.mono HB5.out.size))
  clear hb HP5 HB5
  have c1 : World.cell? _ ⟨w.heap.size, 1, none⟩ = some (.int .i64 x1) := cell_of_block HP6.out 1
  have c2 : World.cell? _ ⟨w.heap.size, 2, none⟩ = some (.int .i64 x2) := cell_of_block HP6.out 2
  have c3 : World.cell? _ ⟨w.heap.size, 3, none⟩ = some (.int .i64 x3) := cell_of_block HP6.out 3
  have c4 : World.cell? _ ⟨w.heap.size, 4, none⟩ = some (.string d) := cell_of_block HP6.out 4
  have c5 : World.cell? _ ⟨w.heap.size, 5, none⟩ = some (.slice A n cc) := cell_of_block HP6.out 5
  go_wp2_with fail
  clear c1 c2 c3 c4 c5
  refine (write_nil _ _ _ _).mono ?_
  rintro e w7 ⟨rfl, hb⟩
  have HP7 := Lib.hid (blk_below HP6.out hb)
  have HB7 := Lib.hid (HB6.out.trans (hb.mono HB6.out.size))
  clear hb HP6 HB6
  have c1 : World.cell? _ ⟨w.heap.size, 1, none⟩ = some (.int .i64 x1) := cell_of_block HP7.out 1
  have c2 : World.cell? _ ⟨w.heap.size, 2, none⟩ = some (.int .i64 x2) := cell_of_block HP7.out 2
  have c3 : World.cell? _ ⟨w.heap.size, 3, none⟩ = some (.int .i64 x3) := cell_of_block HP7.out 3
  have c4 : World.cell? _ ⟨w.heap.size, 4, none⟩ = some (.string d) := cell_of_block HP7.out 4
  have c5 : World.cell? _ ⟨w.heap.size, 5, none⟩ = some (.slice A n cc) := cell_of_block HP7.out 5
  go_wp2_with fail
  clear c1 c2 c3 c4 c5
  refine (flush_nil _ _).mono ?_
  rintro e w8 ⟨rfl, hb⟩
  have HP8 := Lib.hid (blk_below HP7.out hb)
  have HB8 := Lib.hid (HB7.out.trans (hb.mono HB7.out.size))
  clear hb HP7 HB7
  have c1 : World.cell? _ ⟨w.heap.size, 1, none⟩ = some (.int .i64 x1) := cell_of_block HP8.out 1
  have c2 : World.cell? _ ⟨w.heap.size, 2, none⟩ = some (.int .i64 x2) := cell_of_block HP8.out 2
  have c3 : World.cell? _ ⟨w.heap.size, 3, none⟩ = some (.int .i64 x3) := cell_of_block HP8.out 3
  have c4 : World.cell? _ ⟨w.heap.size, 4, none⟩ = some (.string d) := cell_of_block HP8.out 4
  have c5 : World.cell? _ ⟨w.heap.size, 5, none⟩ = some (.slice A n cc) := cell_of_block HP8.out 5
  go_wp2_with fail
  clear c1 c2 c3 c4 c5
  refine (sectors_nil _ _).mono ?_
  rintro e w9 ⟨rfl, hb⟩
  have HP9 := Lib.hid (blk_below HP8.out hb)
  have HB9 := Lib.hid (HB8.out.trans (hb.mono HB8.out.size))
  clear hb HP8 HB8
  have c1 : World.cell? _ ⟨w.heap.size, 1, none⟩ = some (.int .i64 x1) := cell_of_block HP9.out 1
  have c2 : World.cell? _ ⟨w.heap.size, 2, none⟩ = some (.int .i64 x2) := cell_of_block HP9.out 2
  have c3 : World.cell? _ ⟨w.heap.size, 3, none⟩ = some (.int .i64 x3) := cell_of_block HP9.out 3
  have c4 : World.cell? _ ⟨w.heap.size, 4, none⟩ = some (.string d) := cell_of_block HP9.out 4
  have c5 : World.cell? _ ⟨w.heap.size, 5, none⟩ = some (.slice A n cc) := cell_of_block HP9.out 5
  go_wp2_with fail
  clear c1 c2 c3 c4 c5
  refine (image_nil _ _).mono ?_
  rintro e w10 ⟨rfl, hb⟩
  have HP10 := Lib.hid (blk_below HP9.out hb)
  have HB10 := Lib.hid (HB9.out.trans (hb.mono HB9.out.size))
  clear hb HP9 HB9
  have c1 : World.cell? _ ⟨w.heap.size, 1, none⟩ = some (.int .i64 x1) := cell_of_block HP10.out 1
  have c2 : World.cell? _ ⟨w.heap.size, 2, none⟩ = some (.int .i64 x2) := cell_of_block HP10.out 2
  have c3 : World.cell? _ ⟨w.heap.size, 3, none⟩ = some (.int .i64 x3) := cell_of_block HP10.out 3
  have c4 : World.cell? _ ⟨w.heap.size, 4, none⟩ = some (.string d) := cell_of_block HP10.out 4
  have c5 : World.cell? _ ⟨w.heap.size, 5, none⟩ = some (.slice A n cc) := cell_of_block HP10.out 5
  go_wp2_with fail
  clear c1 c2 c3 c4 c5
  refine (off_nil _).mono ?_
  rintro e w11 ⟨rfl, hb⟩
  have HP11 := Lib.hid (blk_below HP10.out hb)
  have HB11 := Lib.hid (HB10.out.trans (hb.mono HB10.out.size))
  clear hb HP10 HB10
  have c1 : World.cell? _ ⟨w.heap.size, 1, none⟩ = some (.int .i64 x1) := cell_of_block HP11.out 1
  have c2 : World.cell? _ ⟨w.heap.size, 2, none⟩ = some (.int .i64 x2) := cell_of_block HP11.out 2
  have c3 : World.cell? _ ⟨w.heap.size, 3, none⟩ = some (.int .i64 x3) := cell_of_block HP11.out 3
  have c4 : World.cell? _ ⟨w.heap.size, 4, none⟩ = some (.string d) := cell_of_block HP11.out 4
  have c5 : World.cell? _ ⟨w.heap.size, 5, none⟩ = some (.slice A n cc) := cell_of_block HP11.out 5
  go_wp2_with fail
  refine bodyPost_ret (v := .bool true) (by simp [results, Try.results11, go_sem]) rfl ?_
  exact ⟨rfl, HB11.out⟩

end Go.Proofs.Ytekpbpcfeopilaa.Dw
