/- A table of grants: Has, Add, Drop, List, New. -/
import Derived.Test.YtifdfhonhphojaaSf
import Derived.Test.YtifdfhonhphojaaNamed
import Derived.Deep.QuietTactic
import Derived.BigQuiet
import Derived.StillTailTactics
namespace Go.Proofs.Ytifdfhonhphojaa.Tb
open Go Go.RowKit Go.Proofs.YtifdfhonhphojaaCore Go.Proofs.Ytifdfhonhphojaa.Fr Go.Proofs.Ytifdfhonhphojaa.Mp Go.Proofs.Ytifdfhonhphojaa.Rgm Go.Proofs.Ytifdfhonhphojaa.Ky Go.Proofs.Ytifdfhonhphojaa.Ks Go.Proofs.Ytifdfhonhphojaa.Co Go.Proofs.Ytifdfhonhphojaa.So Go.Proofs.Ytifdfhonhphojaa.Ko Go.Proofs.Ytifdfhonhphojaa.Sf Go.Proofs.Ytifdfhonhphojaa.Named

def trues (ks : List GKey) : List (GKey × Bool) := ks.map fun k => (k, true)
theorem trues_fst (ks : List GKey) : (trues ks).map Prod.fst = ks := by simp [trues, List.map_map, Function.comp_def]
theorem look_trues (ks : List GKey) (k : GKey) : ((Mp.look (trues ks) k).map Value.bool).getD (.bool false) = .bool (decide (k ∈ ks)) := by
  have h := look_iff (l := trues ks) (k := k)
  rw [trues_fst] at h
  cases hl : Mp.look (trues ks) k with
  | none =>
    rw [hl] at h
    have : ¬ k ∈ ks := fun hk => by have := h.2 hk; cases this
    simp [this]
  | some v =>
    rw [hl] at h
    have hk : k ∈ ks := h.1 rfl
    have hv : v = true := by
      have : ∀ l : List GKey, Mp.look (trues l) k = some v → v = true := by
        intro l
        induction l with
        | nil => intro h; cases h
        | cons a l ih =>
          intro h
          show v = true
          unfold trues at h
          rw [List.map_cons, Mp.look] at h
          split at h
          · injection h with h; exact h.symm
          · exact ih h
      exact this ks hl
    simp [hk, hv]
theorem put_trues {ks : List GKey} {k : GKey} (h : ¬ k ∈ ks) : put (trues ks) k true = trues (ks ++ [k]) := by
  rw [(look_none (l := trues ks) (k := k) (fun p hp e => by
    obtain ⟨x, hx, rfl⟩ := List.mem_map.1 hp
    exact h (e ▸ hx))).2.1]
  simp [trues]
theorem del_trues (ks : List GKey) (k : GKey) : del (trues ks) k = trues (ks.erase k) := by
  induction ks with
  | nil => rfl
  | cons a ks ih =>
    unfold trues at ih ⊢
    rw [List.map_cons, del, List.erase_cons]
    by_cases h : a = k
    · rw [if_pos h, if_pos (by simpa using h)]
    · rw [if_neg h, if_neg (by simpa using h), ih, List.map_cons]

structure TabAt (w : World) (tb mb : Nat) (ks : List GKey) : Prop where
  head : w.heap[tb]? = some (.cells #[.map (some mb)] 69 (0, 0))
  map : MapIs encK Value.bool okK w mb (trues ks)
theorem TabAt.fr {S : Nat → Prop} {w w' : World} {tb mb : Nat} {ks : List GKey} (h : TabAt w tb mb ks) (f : Fr S w w') (h1 : ¬ S tb) (h2 : ¬ S mb) : TabAt w' tb mb ks := ⟨f.at_ h.head h1, h.map.fr f h2⟩
theorem TabAt.below {w w' : World} {tb mb : Nat} {ks : List GKey} (h : TabAt w tb mb ks) (f : Below w.heap.size w w') : TabAt w' tb mb ks := h.fr (S := fun _ => False) (Fr.of_below f) (fun h => h) (fun h => h)
theorem TabAt.cell {w : World} {tb mb : Nat} {ks : List GKey} (h : TabAt w tb mb ks) : w.cell? ⟨tb, 0, none⟩ = some (.map (some mb)) := by unfold World.cell?; rw [h.head]; rfl
theorem TabAt.nodup {w : World} {tb mb : Nat} {ks : List GKey} (h : TabAt w tb mb ks) : ks.Nodup := by have := h.map.nodup; rwa [trues_fst] at this
theorem TabAt.look {w : World} {tb mb : Nat} {ks : List GKey} (h : TabAt w tb mb ks) {k : GKey} (hk : okK k) : (Instr.lookup 59 (.map (some mb)) (.agg #[.int .i64 k.c, .string k.f]) false).run Try.prog w = .ok (.bool (decide (k ∈ ks))) w := by
  have := h.map.lookup encK_M Try.underlying59 (z := .bool false) (Try.zeroValue4 w) hk
  rw [look_trues] at this
  exact this

theorem pw_below {w w' : World} {a : Addr} {v : Value} (hb : Below w.heap.size w w') (h : w.cell? a = some v) : w'.cell? a = some v := (hb.cell (World.block_lt_of_cell? w _ h)).trans h
theorem box_cells (w : World) (k : GKey) : (w.alloc (.cells #[.int .i64 k.c, .string k.f] 48)).cell? ⟨w.heap.size, 0, none⟩ = some (.int .i64 k.c) ∧ (w.alloc (.cells #[.int .i64 k.c, .string k.f] 48)).cell? ⟨w.heap.size, 1, none⟩ = some (.string k.f) := by
  constructor <;> (unfold World.cell?; rw [heap_alloc_new]; rfl)

set_option maxHeartbeats 4000000 in
set_option maxRecDepth 100000 in
theorem has_nil (k : GKey) (w : World) : Calls Try.prog 20 #[.pointer none, .agg #[.int .i64 k.c, .string k.f]] w fun e w' => e = .returned (.bool false) ∧ Below w.heap.size w w' := by
  have hb1 : Below w.heap.size w (w.alloc (.cells #[.int .i64 k.c, .string k.f] 48)) := (Below.refl _ _).alloc (Nat.le_refl _) _
  obtain ⟨w1, hw1⟩ : ∃ w1, w.alloc (.cells #[.int .i64 k.c, .string k.f] 48) = w1 := ⟨_, rfl⟩
  rw [hw1] at hb1
  have HB1 := Lib.hid hb1
  clear hb1
  go_enter Try.func20, Try.ntmps20
  go_wp2_with (rw [hw1])
  go_quiet (fail)
  go_wp2_with fail
  refine bodyPost_ret (v := .bool false) (by simp [results, Try.results20, go_sem]) rfl ⟨rfl, HB1.out.trans ((Go.Proofs.YtifdfhonhphojaaCore.below_drewN _).mono HB1.out.size)⟩

set_option maxHeartbeats 4000000 in
set_option maxRecDepth 100000 in
theorem has_any {w : World} {tb mb : Nat} {ks : List GKey} (h : TabAt w tb mb ks) {k : GKey} (hk : okK k) : Calls Try.prog 20 #[.pointer (some ⟨tb, 0, none⟩), .agg #[.int .i64 k.c, .string k.f]] w fun e w' => e = .returned (.bool (decide (k ∈ ks))) ∧ Below w.heap.size w w' := by
  have hb1 : Below w.heap.size w (w.alloc (.cells #[.int .i64 k.c, .string k.f] 48)) := (Below.refl _ _).alloc (Nat.le_refl _) _
  obtain ⟨c0, c1⟩ := box_cells w k
  obtain ⟨w1, hw1⟩ : ∃ w1, w.alloc (.cells #[.int .i64 k.c, .string k.f] 48) = w1 := ⟨_, rfl⟩
  rw [hw1] at hb1 c0 c1
  have h1 := h.below hb1
  have ht := h1.cell
  have hl := fun a => (h1.below (Go.Proofs.YtifdfhonhphojaaCore.below_drewN (w := w1) a)).look hk
  obtain ⟨b, hbb⟩ : ∃ b, decide (k ∈ ks) = b := ⟨_, rfl⟩
  rw [hbb] at hl
  have HBB := Lib.hid hbb
  have HB1 := Lib.hid hb1
  obtain ⟨kc, kf⟩ := k
  simp only at c0 c1 hl
  have HL := Lib.hid hl
  clear hb1 h h1 hbb hk hl
  go_enter Try.func20, Try.ntmps20
  go_wp2_with (rw [hw1])
  go_quiet ((rw [HL.out]; exact ⟨rfl, rfl⟩))
  go_wp2_with fail
  refine bodyPost_ret (v := .bool b) (by simp [results, Try.results20, go_sem]) rfl ⟨by rw [HBB.out], HB1.out.trans ((Go.Proofs.YtifdfhonhphojaaCore.below_drewN _).mono HB1.out.size)⟩


/-- What Add answers. -/
def addE (ks : List GKey) (k : GKey) : Int := if k.c < 0 ∨ 8 ≤ k.c then 2 else if namedB k.f = false then 30 else if k ∈ ks then 34 else if 16 ≤ ks.length then 35 else 0
def addT (ks : List GKey) (k : GKey) : List GKey := if addE ks k = 0 then ks ++ [k] else ks

set_option maxHeartbeats 4000000 in
set_option maxRecDepth 100000 in
theorem add_nil (k : GKey) (w : World) : Calls Try.prog 17 #[.pointer none, .agg #[.int .i64 k.c, .string k.f]] w fun e w' => e = .returned (.int .i64 1) ∧ Below w.heap.size w w' := by
  have hb1 : Below w.heap.size w (w.alloc (.cells #[.int .i64 k.c, .string k.f] 48)) := (Below.refl _ _).alloc (Nat.le_refl _) _
  obtain ⟨c0, c1⟩ := box_cells w k
  obtain ⟨w1, hw1⟩ : ∃ w1, w.alloc (.cells #[.int .i64 k.c, .string k.f] 48) = w1 := ⟨_, rfl⟩
  rw [hw1] at hb1 c0 c1
  have HB1 := Lib.hid hb1
  clear hb1
  go_enter Try.func17, Try.ntmps17
  go_wp2_with (rw [hw1])
  refine bodyPost_ret (v := .int .i64 1) (by simp [results, Try.results17, go_sem]) rfl ⟨rfl, HB1.out⟩

set_option maxHeartbeats 4000000 in
set_option maxRecDepth 100000 in
theorem add_arg1 {w : World} {tb mb : Nat} {ks : List GKey} (h : TabAt w tb mb ks) {k : GKey} (hk : okK k) (hkc : k.c < 0) :
    Calls Try.prog 17 #[.pointer (some ⟨tb, 0, none⟩), .agg #[.int .i64 k.c, .string k.f]] w fun e w' => e = .returned (.int .i64 2) ∧ Below w.heap.size w w' := by
  have hb1 : Below w.heap.size w (w.alloc (.cells #[.int .i64 k.c, .string k.f] 48)) := (Below.refl _ _).alloc (Nat.le_refl _) _
  obtain ⟨c0, c1⟩ := box_cells w k
  obtain ⟨w1, hw1⟩ : ∃ w1, w.alloc (.cells #[.int .i64 k.c, .string k.f] 48) = w1 := ⟨_, rfl⟩
  rw [hw1] at hb1 c0 c1
  have HB1 := Lib.hid hb1
  clear hb1
  clear h hk
  go_enter Try.func17, Try.ntmps17
  go_wp2_with (rw [hw1])
  refine bodyPost_ret (v := .int .i64 2) (by simp [results, Try.results17, go_sem]) rfl ⟨rfl, HB1.out⟩

set_option maxHeartbeats 4000000 in
set_option maxRecDepth 100000 in
theorem add_arg2 {w : World} {tb mb : Nat} {ks : List GKey} (h : TabAt w tb mb ks) {k : GKey} (hk : okK k) (hkc : 8 ≤ k.c) :
    Calls Try.prog 17 #[.pointer (some ⟨tb, 0, none⟩), .agg #[.int .i64 k.c, .string k.f]] w fun e w' => e = .returned (.int .i64 2) ∧ Below w.heap.size w w' := by
  have hb1 : Below w.heap.size w (w.alloc (.cells #[.int .i64 k.c, .string k.f] 48)) := (Below.refl _ _).alloc (Nat.le_refl _) _
  obtain ⟨c0, c1⟩ := box_cells w k
  obtain ⟨w1, hw1⟩ : ∃ w1, w.alloc (.cells #[.int .i64 k.c, .string k.f] 48) = w1 := ⟨_, rfl⟩
  rw [hw1] at hb1 c0 c1
  have HB1 := Lib.hid hb1
  clear hb1
  clear h hk
  have hk0 : ¬ k.c < 0 := by omega
  go_enter Try.func17, Try.ntmps17
  go_wp2_with (rw [hw1])
  refine bodyPost_ret (v := .int .i64 2) (by simp [results, Try.results17, go_sem]) rfl ⟨rfl, HB1.out⟩

set_option maxHeartbeats 4000000 in
set_option maxRecDepth 100000 in
theorem add_name {w : World} {tb mb : Nat} {ks : List GKey} (h : TabAt w tb mb ks) {k : GKey} (hk : okK k) (hkc : 0 ≤ k.c ∧ k.c < 8) (hn : namedB k.f = false) :
    Calls Try.prog 17 #[.pointer (some ⟨tb, 0, none⟩), .agg #[.int .i64 k.c, .string k.f]] w fun e w' => e = .returned (.int .i64 30) ∧ Below w.heap.size w w' := by
  have hb1 : Below w.heap.size w (w.alloc (.cells #[.int .i64 k.c, .string k.f] 48)) := (Below.refl _ _).alloc (Nat.le_refl _) _
  obtain ⟨c0, c1⟩ := box_cells w k
  obtain ⟨w1, hw1⟩ : ∃ w1, w.alloc (.cells #[.int .i64 k.c, .string k.f] 48) = w1 := ⟨_, rfl⟩
  rw [hw1] at hb1 c0 c1
  have HB1 := Lib.hid hb1
  clear hb1
  clear h hk
  have hk0 : ¬ k.c < 0 := by omega
  have hk8 : ¬ 8 ≤ k.c := by omega
  have HN := Lib.hid hn
  clear hn
  go_enter Try.func17, Try.ntmps17
  go_wp2_with (rw [hw1])
  refine (named_any _ _).mono ?_
  rintro e w2 ⟨rfl, hb2⟩
  rw [HN.out]
  have HB2 := Lib.hid (HB1.out.trans (hb2.mono HB1.out.size))
  have d0 := pw_below hb2 c0
  have d1 := pw_below hb2 c1
  clear hb2 c0 c1
  go_wp2_with fail
  refine bodyPost_ret (v := .int .i64 30) (by simp [results, Try.results17, go_sem]) rfl ⟨rfl, HB2.out⟩

set_option maxHeartbeats 4000000 in
set_option maxRecDepth 100000 in
theorem add_there {w : World} {tb mb : Nat} {ks : List GKey} (h : TabAt w tb mb ks) {k : GKey} (hk : okK k) (hkc : 0 ≤ k.c ∧ k.c < 8) (hn : namedB k.f = true) (hin : k ∈ ks) :
    Calls Try.prog 17 #[.pointer (some ⟨tb, 0, none⟩), .agg #[.int .i64 k.c, .string k.f]] w fun e w' => e = .returned (.int .i64 34) ∧ Below w.heap.size w w' := by
  have hb1 : Below w.heap.size w (w.alloc (.cells #[.int .i64 k.c, .string k.f] 48)) := (Below.refl _ _).alloc (Nat.le_refl _) _
  obtain ⟨c0, c1⟩ := box_cells w k
  obtain ⟨w1, hw1⟩ : ∃ w1, w.alloc (.cells #[.int .i64 k.c, .string k.f] 48) = w1 := ⟨_, rfl⟩
  rw [hw1] at hb1 c0 c1
  have HB1 := Lib.hid hb1
  clear hb1
  have hk0 : ¬ k.c < 0 := by omega
  have hk8 : ¬ 8 ≤ k.c := by omega
  have HN := Lib.hid hn
  clear hn
  have hd : decide (k ∈ ks) = true := by simpa using hin
  go_enter Try.func17, Try.ntmps17
  go_wp2_with (rw [hw1])
  refine (named_any _ _).mono ?_
  rintro e w2 ⟨rfl, hb2⟩
  rw [HN.out]
  have HB2 := Lib.hid (HB1.out.trans (hb2.mono HB1.out.size))
  have d0 := pw_below hb2 c0
  have d1 := pw_below hb2 c1
  have h2 := (h.below HB2.out)
  have ht := h2.cell
  have hl := fun a => (h2.below (Go.Proofs.YtifdfhonhphojaaCore.below_drewN (w := w2) a)).look hk
  rw [hd] at hl
  have HL := Lib.hid hl
  have H2 := Lib.hid h2
  have H := Lib.hid h
  obtain ⟨kc, kf⟩ := k
  simp only at d0 d1 HL hk0 hk8
  clear hb2 c0 c1 hl h2
  go_wp2_with fail
  go_quiet ((rw [HL.out]; exact ⟨rfl, rfl⟩))
  obtain ⟨w3, hw3⟩ : ∃ w3, w2.drewN nq = w3 := ⟨_, rfl⟩
  rw [hw3]
  have hb3 : Below w2.heap.size w2 w3 := by rw [← hw3]; exact Go.Proofs.YtifdfhonhphojaaCore.below_drewN _
  have HB3 := Lib.hid (HB2.out.trans (hb3.mono HB2.out.size))
  clear hw3 hb3 ht d0 d1
  go_wp2_with fail
  refine bodyPost_ret (v := .int .i64 34) (by simp [results, Try.results17, go_sem]) rfl ⟨rfl, HB3.out⟩

set_option maxHeartbeats 4000000 in
set_option maxRecDepth 100000 in
theorem add_full {w : World} {tb mb : Nat} {ks : List GKey} (h : TabAt w tb mb ks) {k : GKey} (hk : okK k) (hkc : 0 ≤ k.c ∧ k.c < 8) (hn : namedB k.f = true) (hin : ¬ k ∈ ks) (hl16 : 16 ≤ ks.length) :
    Calls Try.prog 17 #[.pointer (some ⟨tb, 0, none⟩), .agg #[.int .i64 k.c, .string k.f]] w fun e w' => e = .returned (.int .i64 35) ∧ Below w.heap.size w w' := by
  have hb1 : Below w.heap.size w (w.alloc (.cells #[.int .i64 k.c, .string k.f] 48)) := (Below.refl _ _).alloc (Nat.le_refl _) _
  obtain ⟨c0, c1⟩ := box_cells w k
  obtain ⟨w1, hw1⟩ : ∃ w1, w.alloc (.cells #[.int .i64 k.c, .string k.f] 48) = w1 := ⟨_, rfl⟩
  rw [hw1] at hb1 c0 c1
  have HB1 := Lib.hid hb1
  clear hb1
  have hk0 : ¬ k.c < 0 := by omega
  have hk8 : ¬ 8 ≤ k.c := by omega
  have HN := Lib.hid hn
  clear hn
  have hd : decide (k ∈ ks) = false := by simpa using hin
  go_enter Try.func17, Try.ntmps17
  go_wp2_with (rw [hw1])
  refine (named_any _ _).mono ?_
  rintro e w2 ⟨rfl, hb2⟩
  rw [HN.out]
  have HB2 := Lib.hid (HB1.out.trans (hb2.mono HB1.out.size))
  have d0 := pw_below hb2 c0
  have d1 := pw_below hb2 c1
  have h2 := (h.below HB2.out)
  have ht := h2.cell
  have hl := fun a => (h2.below (Go.Proofs.YtifdfhonhphojaaCore.below_drewN (w := w2) a)).look hk
  rw [hd] at hl
  have HL := Lib.hid hl
  have H2 := Lib.hid h2
  have H := Lib.hid h
  obtain ⟨kc, kf⟩ := k
  simp only at d0 d1 HL hk0 hk8
  clear hb2 c0 c1 hl h2
  go_wp2_with fail
  go_quiet ((rw [HL.out]; exact ⟨rfl, rfl⟩))
  obtain ⟨w3, hw3⟩ : ∃ w3, w2.drewN nq = w3 := ⟨_, rfl⟩
  rw [hw3]
  have hb3 : Below w2.heap.size w2 w3 := by rw [← hw3]; exact Go.Proofs.YtifdfhonhphojaaCore.below_drewN _
  have HB3 := Lib.hid (HB2.out.trans (hb3.mono HB2.out.size))
  have h3 := H2.out.below hb3
  have ht3 := h3.cell
  have e0 := pw_below hb3 d0
  have e1 := pw_below hb3 d1
  have hln := h3.map.len Try.underlying59 3
  have hlk : (trues ks).length = ks.length := by simp [trues]
  rw [hlk] at hln
  obtain ⟨n, hnn⟩ : ∃ n, ks.length = n := ⟨_, rfl⟩
  rw [hnn] at hln hl16
  have hln' : (Builtin.len_ #[59] 3 #[Value.map (some mb)]).run Try.prog w3 = .ok (.int .i64 n) w3 := hln
  clear hw3 hb3 ht d0 d1 hlk hln hnn
  have hI : (16 : Int) ≤ (n : Int) := by omega
  clear h3
  go_wp2_with fail
  refine bodyPost_ret (v := .int .i64 35) (by simp [results, Try.results17, go_sem]) rfl ⟨rfl, HB3.out⟩

set_option maxHeartbeats 4000000 in
set_option maxRecDepth 100000 in
theorem add_ok {w : World} {tb mb : Nat} {ks : List GKey} (h : TabAt w tb mb ks) {k : GKey} (hk : okK k) (hkc : 0 ≤ k.c ∧ k.c < 8) (hn : namedB k.f = true) (hin : ¬ k ∈ ks) (hl16 : ks.length < 16) :
    Calls Try.prog 17 #[.pointer (some ⟨tb, 0, none⟩), .agg #[.int .i64 k.c, .string k.f]] w fun e w' => e = .returned (.int .i64 0) ∧ TabAt w' tb mb (ks ++ [k]) ∧ Fr (fun i => i = mb) w w' := by
  have hb1 : Below w.heap.size w (w.alloc (.cells #[.int .i64 k.c, .string k.f] 48)) := (Below.refl _ _).alloc (Nat.le_refl _) _
  obtain ⟨c0, c1⟩ := box_cells w k
  obtain ⟨w1, hw1⟩ : ∃ w1, w.alloc (.cells #[.int .i64 k.c, .string k.f] 48) = w1 := ⟨_, rfl⟩
  rw [hw1] at hb1 c0 c1
  have HB1 := Lib.hid hb1
  clear hb1
  have hk0 : ¬ k.c < 0 := by omega
  have hk8 : ¬ 8 ≤ k.c := by omega
  have HN := Lib.hid hn
  clear hn
  have hd : decide (k ∈ ks) = false := by simpa using hin
  go_enter Try.func17, Try.ntmps17
  go_wp2_with (rw [hw1])
  refine (named_any _ _).mono ?_
  rintro e w2 ⟨rfl, hb2⟩
  rw [HN.out]
  have HB2 := Lib.hid (HB1.out.trans (hb2.mono HB1.out.size))
  have d0 := pw_below hb2 c0
  have d1 := pw_below hb2 c1
  have h2 := (h.below HB2.out)
  have ht := h2.cell
  have hl := fun a => (h2.below (Go.Proofs.YtifdfhonhphojaaCore.below_drewN (w := w2) a)).look hk
  rw [hd] at hl
  have HL := Lib.hid hl
  have H2 := Lib.hid h2
  have H := Lib.hid h
  obtain ⟨kc, kf⟩ := k
  simp only at d0 d1 HL hk0 hk8
  clear hb2 c0 c1 hl h2
  go_wp2_with fail
  go_quiet ((rw [HL.out]; exact ⟨rfl, rfl⟩))
  obtain ⟨w3, hw3⟩ : ∃ w3, w2.drewN nq = w3 := ⟨_, rfl⟩
  rw [hw3]
  have hb3 : Below w2.heap.size w2 w3 := by rw [← hw3]; exact Go.Proofs.YtifdfhonhphojaaCore.below_drewN _
  have HB3 := Lib.hid (HB2.out.trans (hb3.mono HB2.out.size))
  have h3 := H2.out.below hb3
  have ht3 := h3.cell
  have e0 := pw_below hb3 d0
  have e1 := pw_below hb3 d1
  have hln := h3.map.len Try.underlying59 3
  have hlk : (trues ks).length = ks.length := by simp [trues]
  rw [hlk] at hln
  obtain ⟨n, hnn⟩ : ∃ n, ks.length = n := ⟨_, rfl⟩
  rw [hnn] at hln hl16
  have hln' : (Builtin.len_ #[59] 3 #[Value.map (some mb)]).run Try.prog w3 = .ok (.int .i64 n) w3 := hln
  clear hw3 hb3 ht d0 d1 hlk hln hnn
  have hI : ¬ (16 : Int) ≤ (n : Int) := by omega
  obtain ⟨w4, hst, hm4, hf4, hs4⟩ := (h3.map.fr (S := fun _ => False) (Fr.refl _ w3).drew (fun h => h)).store encK_M Try.underlying59 hk true
  rw [put_trues hin] at hm4
  have hst' : (Instr.mapUpdate 59 (.map (some mb)) (.agg #[.int .i64 kc, .string kf]) (.bool true)).run Try.prog w3.drew = .ok () w4 := hst
  have hne : tb ≠ mb := fun e => by
    obtain ⟨es, c, hb, _⟩ := h3.map
    have := h3.head
    rw [e, hb] at this
    cases this
  have hhead : w4.heap[tb]? = some (.cells #[.map (some mb)] 69 (0, 0)) := hf4.at_ h3.head hne
  have hf5 : Fr (fun i => i = mb) w w4 := ((Fr.of_below (S := fun i => i = mb) HB3.out).drew).trans hf4
  have HH := Lib.hid hhead
  have HM4 := Lib.hid hm4
  have HF5 := Lib.hid hf5
  have HST := Lib.hid hst'
  clear h3 hst hst' hm4 hf4 hs4 hne hhead hf5
  go_wp2_with fail
  refine wp_region_still_tail 5 (by kernel_rfl) (by kernel_rfl) ?_
  simp only [List.take_succ_cons, List.take_zero, List.drop_succ_cons, List.drop_zero]
  repeat still_step
  refine wpStill_nil ?_
  change wpList _ _ _ _ _ w3.drew
  have hst' := HST.out
  go_wp2_with fail
  refine bodyPost_ret (v := .int .i64 0) (by simp [results, Try.results17, go_sem]) rfl ⟨rfl, ⟨HH.out, HM4.out⟩, HF5.out⟩

theorem add_any {w : World} {tb mb : Nat} {ks : List GKey} (h : TabAt w tb mb ks) {k : GKey} (hk : okK k) :
    Calls Try.prog 17 #[.pointer (some ⟨tb, 0, none⟩), .agg #[.int .i64 k.c, .string k.f]] w fun e w' => e = .returned (.int .i64 (addE ks k)) ∧ TabAt w' tb mb (addT ks k) ∧ Fr (fun i => i = mb) w w' := by
  have no : ∀ {E : Int} {e : Ending} {w' : World}, addE ks k = E → E ≠ 0 → e = .returned (.int .i64 E) → Below w.heap.size w w' → e = .returned (.int .i64 (addE ks k)) ∧ TabAt w' tb mb (addT ks k) ∧ Fr (fun i => i = mb) w w' := by
    intro E e w' h1 h2 h3 h4
    refine ⟨by rw [h3, h1], ?_, Fr.of_below h4⟩
    unfold addT
    rw [if_neg (by rw [h1]; exact h2)]
    exact h.below h4
  by_cases c1 : k.c < 0
  · exact (add_arg1 h hk c1).mono fun _ _ ⟨he, hb⟩ => no (by unfold addE; rw [if_pos (.inl c1)]) (by decide) he hb
  · by_cases c2 : 8 ≤ k.c
    · exact (add_arg2 h hk c2).mono fun _ _ ⟨he, hb⟩ => no (by unfold addE; rw [if_pos (.inr c2)]) (by decide) he hb
    · have hc : ¬ (k.c < 0 ∨ 8 ≤ k.c) := by omega
      cases hn : namedB k.f with
      | false => exact (add_name h hk ⟨by omega, by omega⟩ hn).mono fun _ _ ⟨he, hb⟩ => no (by unfold addE; rw [if_neg hc, if_pos hn]) (by decide) he hb
      | true =>
        have hn' : ¬ namedB k.f = false := by rw [hn]; simp
        by_cases c3 : k ∈ ks
        · exact (add_there h hk ⟨by omega, by omega⟩ hn c3).mono fun _ _ ⟨he, hb⟩ => no (by unfold addE; rw [if_neg hc, if_neg hn', if_pos c3]) (by decide) he hb
        · by_cases c4 : 16 ≤ ks.length
          · exact (add_full h hk ⟨by omega, by omega⟩ hn c3 c4).mono fun _ _ ⟨he, hb⟩ => no (by unfold addE; rw [if_neg hc, if_neg hn', if_neg c3, if_pos c4]) (by decide) he hb
          · have e0 : addE ks k = 0 := by unfold addE; rw [if_neg hc, if_neg hn', if_neg c3, if_neg c4]
            refine (add_ok h hk ⟨by omega, by omega⟩ hn c3 (by omega)).mono fun _ _ ⟨he, h1, h2⟩ => ⟨by rw [he, e0], ?_, h2⟩
            unfold addT
            rw [if_pos e0]
            exact h1


/-- What Drop answers. -/
def dropE (ks : List GKey) (k : GKey) : Int := if k ∈ ks then 0 else 13

set_option maxHeartbeats 4000000 in
set_option maxRecDepth 100000 in
theorem drop_nil (k : GKey) (w : World) : Calls Try.prog 15 #[.pointer none, .agg #[.int .i64 k.c, .string k.f]] w fun e w' => e = .returned (.int .i64 1) ∧ Below w.heap.size w w' := by
  have hb1 : Below w.heap.size w (w.alloc (.cells #[.int .i64 k.c, .string k.f] 48)) := (Below.refl _ _).alloc (Nat.le_refl _) _
  obtain ⟨c0, c1⟩ := box_cells w k
  obtain ⟨w1, hw1⟩ : ∃ w1, w.alloc (.cells #[.int .i64 k.c, .string k.f] 48) = w1 := ⟨_, rfl⟩
  rw [hw1] at hb1 c0 c1
  have HB1 := Lib.hid hb1
  clear hb1
  go_enter Try.func15, Try.ntmps15
  go_wp2_with (rw [hw1])
  refine bodyPost_ret (v := .int .i64 1) (by simp [results, Try.results15, go_sem]) rfl ⟨rfl, HB1.out⟩

set_option maxHeartbeats 4000000 in
set_option maxRecDepth 100000 in
theorem drop_no {w : World} {tb mb : Nat} {ks : List GKey} (h : TabAt w tb mb ks) {k : GKey} (hk : okK k) (hin : ¬ k ∈ ks) :
    Calls Try.prog 15 #[.pointer (some ⟨tb, 0, none⟩), .agg #[.int .i64 k.c, .string k.f]] w fun e w' => e = .returned (.int .i64 13) ∧ Below w.heap.size w w' := by
  have hd : decide (k ∈ ks) = false := by simpa using hin
  have hb1 : Below w.heap.size w (w.alloc (.cells #[.int .i64 k.c, .string k.f] 48)) := (Below.refl _ _).alloc (Nat.le_refl _) _
  obtain ⟨c0, c1⟩ := box_cells w k
  obtain ⟨w1, hw1⟩ : ∃ w1, w.alloc (.cells #[.int .i64 k.c, .string k.f] 48) = w1 := ⟨_, rfl⟩
  rw [hw1] at hb1 c0 c1
  have HB1 := Lib.hid hb1
  clear hb1
  have h1 := h.below HB1.out
  have ht := h1.cell
  have hl := fun a => (h1.below (Go.Proofs.YtifdfhonhphojaaCore.below_drewN (w := w1) a)).look hk
  rw [hd] at hl
  have HL := Lib.hid hl
  have H1 := Lib.hid h1
  obtain ⟨kc, kf⟩ := k
  simp only at c0 c1 HL
  clear hl h1
  go_enter Try.func15, Try.ntmps15
  go_wp2_with (rw [hw1])
  go_quiet ((rw [HL.out]; exact ⟨rfl, rfl⟩))
  obtain ⟨w3, hw3⟩ : ∃ w3, w1.drewN nq = w3 := ⟨_, rfl⟩
  rw [hw3]
  have hb3 : Below w1.heap.size w1 w3 := by rw [← hw3]; exact Go.Proofs.YtifdfhonhphojaaCore.below_drewN _
  have HB3 := Lib.hid (HB1.out.trans (hb3.mono HB1.out.size))
  clear hw3 hb3 ht c0 c1
  go_wp2_with fail
  refine bodyPost_ret (v := .int .i64 13) (by simp [results, Try.results15, go_sem]) rfl ⟨rfl, HB3.out⟩

set_option maxHeartbeats 4000000 in
set_option maxRecDepth 100000 in
theorem drop_ok {w : World} {tb mb : Nat} {ks : List GKey} (h : TabAt w tb mb ks) {k : GKey} (hk : okK k) (hin : k ∈ ks) :
    Calls Try.prog 15 #[.pointer (some ⟨tb, 0, none⟩), .agg #[.int .i64 k.c, .string k.f]] w fun e w' => e = .returned (.int .i64 0) ∧ TabAt w' tb mb (ks.erase k) ∧ Fr (fun i => i = mb) w w' := by
  have hd : decide (k ∈ ks) = true := by simpa using hin
  have hb1 : Below w.heap.size w (w.alloc (.cells #[.int .i64 k.c, .string k.f] 48)) := (Below.refl _ _).alloc (Nat.le_refl _) _
  obtain ⟨c0, c1⟩ := box_cells w k
  obtain ⟨w1, hw1⟩ : ∃ w1, w.alloc (.cells #[.int .i64 k.c, .string k.f] 48) = w1 := ⟨_, rfl⟩
  rw [hw1] at hb1 c0 c1
  have HB1 := Lib.hid hb1
  clear hb1
  have h1 := h.below HB1.out
  have ht := h1.cell
  have hl := fun a => (h1.below (Go.Proofs.YtifdfhonhphojaaCore.below_drewN (w := w1) a)).look hk
  rw [hd] at hl
  have HL := Lib.hid hl
  have H1 := Lib.hid h1
  obtain ⟨kc, kf⟩ := k
  simp only at c0 c1 HL
  clear hl h1
  go_enter Try.func15, Try.ntmps15
  go_wp2_with (rw [hw1])
  go_quiet ((rw [HL.out]; exact ⟨rfl, rfl⟩))
  obtain ⟨w3, hw3⟩ : ∃ w3, w1.drewN nq = w3 := ⟨_, rfl⟩
  rw [hw3]
  have hb3 : Below w1.heap.size w1 w3 := by rw [← hw3]; exact Go.Proofs.YtifdfhonhphojaaCore.below_drewN _
  have HB3 := Lib.hid (HB1.out.trans (hb3.mono HB1.out.size))
  have h3 := H1.out.below hb3
  have ht3 := h3.cell
  have e0 := pw_below hb3 c0
  have e1 := pw_below hb3 c1
  obtain ⟨w4, hst, hm4, hf4, hs4⟩ := (h3.map.fr (S := fun _ => False) (Fr.refl _ w3).drew (fun h => h)).delete encK_M Try.underlying59 hk 0
  rw [del_trues] at hm4
  have hst' : (Builtin.delete_ #[59, 48] 0 #[.map (some mb), .agg #[.int .i64 kc, .string kf]]).run Try.prog w3.drew = .ok (.tuple #[]) w4 := hst
  have hne : tb ≠ mb := fun e => by
    obtain ⟨es, c, hb, _⟩ := h3.map
    have := h3.head
    rw [e, hb] at this
    cases this
  have hhead : w4.heap[tb]? = some (.cells #[.map (some mb)] 69 (0, 0)) := hf4.at_ h3.head hne
  have hf5 : Fr (fun i => i = mb) w w4 := ((Fr.of_below (S := fun i => i = mb) HB3.out).drew).trans hf4
  have HH := Lib.hid hhead
  have HM4 := Lib.hid hm4
  have HF5 := Lib.hid hf5
  have HST := Lib.hid hst'
  clear hw3 hb3 ht c0 c1 h3 hst hst' hm4 hf4 hs4 hne hhead hf5
  go_wp2_with fail
  refine wp_region_still_tail 5 (by kernel_rfl) (by kernel_rfl) ?_
  simp only [List.take_succ_cons, List.take_zero, List.drop_succ_cons, List.drop_zero]
  repeat still_step
  refine wpStill_nil ?_
  change wpList _ _ _ _ _ w3.drew
  have hst' := HST.out
  go_wp2_with fail
  refine bodyPost_ret (v := .int .i64 0) (by simp [results, Try.results15, go_sem]) rfl ⟨rfl, ⟨HH.out, HM4.out⟩, HF5.out⟩

theorem drop_any {w : World} {tb mb : Nat} {ks : List GKey} (h : TabAt w tb mb ks) {k : GKey} (hk : okK k) :
    Calls Try.prog 15 #[.pointer (some ⟨tb, 0, none⟩), .agg #[.int .i64 k.c, .string k.f]] w fun e w' => e = .returned (.int .i64 (dropE ks k)) ∧ TabAt w' tb mb (ks.erase k) ∧ Fr (fun i => i = mb) w w' := by
  unfold dropE
  by_cases c : k ∈ ks
  · rw [if_pos c]
    exact drop_ok h hk c
  · rw [if_neg c, List.erase_of_not_mem c]
    exact (drop_no h hk c).mono fun _ _ ⟨he, hb⟩ => ⟨he, h.below hb, Fr.of_below hb⟩

set_option maxHeartbeats 4000000 in
set_option maxRecDepth 100000 in
theorem list_nil (w : World) : Calls Try.prog 22 #[.pointer none] w fun e w' => e = .returned (.slice none 0 0) ∧ Below w.heap.size w w' := by
  go_enter Try.func22, Try.ntmps22
  go_wp2_with fail
  refine bodyPost_ret (v := .slice none 0 0) (by simp [results, Try.results22, go_sem]) rfl ⟨rfl, Below.refl _ _⟩

set_option maxHeartbeats 4000000 in
set_option maxRecDepth 100000 in
theorem list_any {w : World} {tb mb : Nat} {ks : List GKey} (h : TabAt w tb mb ks) (hl : ks.length ≤ 1000) :
    Calls Try.prog 22 #[.pointer (some ⟨tb, 0, none⟩)] w fun e w' => ∃ v, e = .returned v ∧ w'.ownsRow (w.heap.size + 1) 48 2 v ks.length ((sortK ks).flatMap cellsK) ∧ (v = .slice none 0 0 ↔ ks = []) ∧ Below w.heap.size w w' := by
  have hlen : (trues ks).length ≤ 1000000 := by simp [trues]; omega
  have hs := sorted_keys mb (trues ks) w h.map hlen
  have HS := Lib.hid hs
  have ht := h.cell
  have H := Lib.hid h
  clear hs hlen h
  go_enter Try.func22, Try.ntmps22
  go_wp2_with fail
  refine (key_keys _ _).mono ?_
  rintro e w' ⟨rfl, rfl⟩
  clear ht
  obtain ⟨w1, hw1⟩ : ∃ w1, w.alloc (.cells #[.map (some mb)] 59) = w1 := ⟨_, rfl⟩
  rw [hw1] at HS
  rw [hw1]
  go_wp2_with fail
  refine HS.out.mono ?_
  rintro e w2 ⟨v, ss, rfl, hp, hr, hn, hb⟩
  rw [trues_fst] at hp
  have hss : sortK ss = sortK ks := by
    have hnd := H.out.nodup
    exact sortK_eq (hp.nodup_iff.2 hnd) (hp.trans (sortK_perm ks).symm) (strict_of ((sortK_perm ks).nodup_iff.2 hnd) (sortK_sorted ks))
  rw [hss, hp.length_eq] at hr
  have hn2 : v = .slice none 0 0 ↔ ks = [] := hn.trans ⟨fun e => by rw [e] at hp; exact List.nil_perm.1 hp, fun e => by rw [e] at hp; exact List.perm_nil.1 hp⟩
  have HR := Lib.hid hr
  have HN2 := Lib.hid hn2
  have HB := Lib.hid hb
  clear hr hn hn2 hb hss hp hw1
  go_wp2_with fail
  go_ret
  exact ⟨v, rfl, HR.out, HN2.out, HB.out⟩

end Go.Proofs.Ytifdfhonhphojaa.Tb
