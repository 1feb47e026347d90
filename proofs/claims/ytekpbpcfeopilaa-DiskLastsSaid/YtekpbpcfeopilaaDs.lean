/- The program's disk: New. -/
import Derived.Test.YtekpbpcfeopilaaDq
import Derived.Test.YtekpbpcfeopilaaReg
namespace Go.Proofs.Ytekpbpcfeopilaa.Ds
open Go Go.RowKit Go.Joins Go.Proofs.YtekpbpcfeopilaaCore Go.Proofs.Ytekpbpcfeopilaa.Dm Go.Proofs.Ytekpbpcfeopilaa.Dr Go.Proofs.Ytekpbpcfeopilaa.Da Go.Proofs.Ytekpbpcfeopilaa.Df Go.Proofs.Ytekpbpcfeopilaa.Dg Go.Proofs.Ytekpbpcfeopilaa.Dh Go.Proofs.Ytekpbpcfeopilaa.Di Go.Proofs.Ytekpbpcfeopilaa.Dj Go.Proofs.Ytekpbpcfeopilaa.Dk Go.Proofs.Ytekpbpcfeopilaa.Dl Go.Proofs.Ytekpbpcfeopilaa.Dn Go.Proofs.Ytekpbpcfeopilaa.Dp Go.Proofs.Ytekpbpcfeopilaa.Dq Go.Proofs.Ytekpbpcfeopilaa.Reg Go.Proofs.YtekpbpcfeopilaaW.PrintWords Go.Proofs.YtekpbpcfeopilaaW.PrintLast Go.Proofs.YtekpbpcfeopilaaW.PrintMore

def clampN (n : Int) : Nat := (max 0 (min n 4096)).toNat
def newR (n : Int) : MReg := ⟨List.replicate (clampN n) noneS, []⟩
def newM (l : List Int) : MDisk := ⟨(l.take 8).map newR, false, 0, 0, []⟩

/-- A cell that is held. -/
structure HeldC (B : Nat) (v : Value) (w' : World) : Prop where
  cell : w'.cell? ⟨B, 0, none⟩ = some v
theorem HeldC.below {B : Nat} {v : Value} {w' w2 : World} (h : HeldC B v w') (hb : Below w'.heap.size w' w2) : HeldC B v w2 := ⟨pw_cell_below hb h.cell⟩
theorem HeldC.alloc {B : Nat} {v : Value} {w' : World} (h : HeldC B v w') (o : Obj) : HeldC B v (w'.alloc o) := h.below ((Below.refl _ _).alloc (Nat.le_refl _) o)
theorem infoPreg : (Try.prog.info? 79).map (fun i => (i.zero, i.size, i.bytes)) = some (some (.pointer none), 1, 8) := by kernel_rfl

theorem new_lies {G' : Nat → Nat} {c : Nat} {wr w7 w8 w10 : World} {B N base7 c7 cr c10 n : Nat} {A7 Ar A10 : Option Addr} {gs : List Nat} {regs : List MReg} (HL : Lies TP G' c wr B ⟨regs, false, 0, 0, []⟩ (.slice Ar gs.length cr) (.slice none 0 0) gs)
    (hb : Below wr.heap.size wr w8) (h7 : wr.heap.size ≤ w7.heap.size) (hr8 : w8.heap[w7.heap.size]? = some (.cells #[.slice A7 N c7, .slice none 0 0] TP.reg (0, 0))) (hR7 : Kd.string.R TP.str w7 base7 (fun _ => True) (.slice A7 N c7) (List.replicate N noneS)) (hbase : wr.heap.size ≤ base7)
    (hb8 : Below w7.heap.size w7 w8) (hg10 : w8.grownBy w10 (Value.slice Ar gs.length cr).ownBlock) (hR10 : ptrK.R TP.preg w10 0 (fun i => (G' i = c + 1 ∧ i < wr.heap.size) ∨ w8.heap.size ≤ i) (.slice A10 n c10) (gs ++ [w7.heap.size])) :
    Fr (fun j => j = B ∨ some j = (Value.slice Ar gs.length cr).ownBlock) wr (w10.setCell ⟨B, 0, none⟩ (.slice A10 n c10)) ∧
    Lies TP (fun j => if j < wr.heap.size then G' j else if j < w8.heap.size then c + 3 + regs.length else c + 1) c (w10.setCell ⟨B, 0, none⟩ (.slice A10 n c10)) B ⟨regs ++ [⟨List.replicate N noneS, []⟩], false, 0, 0, []⟩ (.slice A10 n c10) (.slice none 0 0) (gs ++ [w7.heap.size]) := by
  obtain ⟨G2, hG2⟩ : ∃ G2 : Nat → Nat, (fun j => if j < wr.heap.size then G' j else if j < w8.heap.size then c + 3 + regs.length else c + 1) = G2 := ⟨_, rfl⟩
  have g1 : ∀ j, j < wr.heap.size → G2 j = G' j := fun j hj => by rw [← hG2]; exact if_pos hj
  have g2 : ∀ j, wr.heap.size ≤ j → j < w8.heap.size → G2 j = c + 3 + regs.length := fun j hj hj2 => by rw [← hG2]; show (if _ then _ else _) = _; rw [if_neg (by omega), if_pos hj2]
  have g3 : ∀ j, w8.heap.size ≤ j → G2 j = c + 1 := fun j hj => by rw [← hG2]; show (if _ then _ else _) = _; rw [if_neg (by have := hb.size; omega), if_neg (by omega)]
  rw [hG2]
  clear hG2
  have hBl : B < wr.heap.size := heap_lt HL.head
  have hown : ∀ q, (Value.slice Ar gs.length cr).ownBlock = some q → G' q = c + 1 ∧ q < wr.heap.size := fun q hq => ⟨HL.row.1 q hq, Kd.R_lt HL.row q hq⟩
  have hBne : some B ≠ (Value.slice Ar gs.length cr).ownBlock := fun e => by have h1 := (hown B e.symm).1; have h2 := HL.colour; omega
  have f1 : Fr (fun j => some j = (Value.slice Ar gs.length cr).ownBlock) wr w10 := (Fr.of_below hb).trans (Fr.of_grown hg10 (fun q hq => hq.symm))
  have f2 : Fr (fun j => j = B ∨ some j = (Value.slice Ar gs.length cr).ownBlock) wr (w10.setCell ⟨B, 0, none⟩ (.slice A10 n c10)) := Fr.setAt (f1.mono (fun j hj => .inr hj)) (.inl rfl)
  have hh10 : w10.heap[B]? = some (.cells (hdr ⟨regs, false, 0, 0, []⟩ (.slice Ar gs.length cr) (.slice none 0 0)) TP.disk (0, 0)) := f1.at_ HL.head hBne
  have hh11 := block_setCell hh10 (i := 0) (.slice A10 n c10)
  have e11 : (hdr ⟨regs, false, 0, 0, []⟩ (.slice Ar gs.length cr) (.slice none 0 0)).setIfInBounds 0 (.slice A10 n c10) = hdr ⟨regs ++ [⟨List.replicate N noneS, []⟩], false, 0, 0, []⟩ (.slice A10 n c10) (.slice none 0 0) := by simp [hdr]
  rw [e11] at hh11
  have f3 : Fr (fun j => j < wr.heap.size) w8 (w10.setCell ⟨B, 0, none⟩ (.slice A10 n c10)) := Fr.setAt (Fr.of_grown hg10 (fun q hq => (hown q hq).2)) hBl
  have f4 : Fr (fun j => j < wr.heap.size) w7 (w10.setCell ⟨B, 0, none⟩ (.slice A10 n c10)) := (Fr.of_below hb8).trans f3
  refine ⟨f2, ?_⟩
  constructor
  · exact hh11
  · rw [g1 B hBl]; exact HL.colour
  · have h := Kd.R_set hR10 hh10 (by decide) 0 (.slice A10 n c10)
    exact Kd.R_mono h (fun i hi => by
      rcases hi with hi | hi
      · rw [g1 i hi.2]; exact hi.1
      · exact g3 i hi)
  · exact Kd.R_nil _ _ _ _ _
  · have := HL.len
    simp at this ⊢
    exact this
  · intro i hi
    have hlen := HL.len
    simp only at hlen
    by_cases hik : i < regs.length
    · obtain ⟨g, hg, hr⟩ := HL.regs i hik
      refine ⟨g, by rw [List.getElem?_append_left (by omega)]; exact hg, ?_⟩
      have er : (regs ++ [(⟨List.replicate N noneS, []⟩ : MReg)])[i] = regs[i] := by simp [hik]
      simp only [er]
      have hr2 := (hr.mono (ok' := fun j => G' j = c + 3 + i ∧ j < wr.heap.size) (fun j hj ho => ⟨ho, hj⟩)).fr f2 (fun j hj _ hs => by
        rcases hs with hs | hs
        · have h1 := hj.1; rw [hs, HL.colour] at h1; omega
        · have h1 := (hown j hs.symm).1; omega)
      exact hr2.mono (fun j _ hj => by rw [g1 j hj.2]; exact hj.1)
    · have hil : i < regs.length + 1 := by simpa using hi
      obtain rfl : i = regs.length := by omega
      refine ⟨w7.heap.size, by rw [← hlen]; simp, ?_⟩
      have er : (regs ++ [(⟨List.replicate N noneS, []⟩ : MReg)])[regs.length] = ⟨List.replicate N noneS, []⟩ := by simp
      simp only [er]
      refine ⟨g2 _ h7 (heap_lt hr8), _, _, f3.at_ hr8 (by omega), ?_, Kd.R_nil _ _ _ _ _⟩
      have h := Rfr (Kd.R_mono (Kd.R_bound hR7) (ok' := fun j => wr.heap.size ≤ j ∧ j < w7.heap.size) (fun j hj => ⟨Nat.le_trans hbase hj.2.1, hj.2.2.1⟩)) f4 (fun j hj _ hs => by omega)
      exact Kd.R_lower (Kd.R_mono h (fun j hj => g2 j hj.1 (by have := hb8.size; omega))) (Nat.zero_le _)

structure NInv (G : Nat → Nat) (c : Nat) (l : List Int) (w : World) (gk : Nat) (v : Value) (wr : World) (k : Nat) (G' : Nat → Nat) (rv : Value) (gs : List Nat) : Prop where
  hi : k ≤ min l.length 8
  slot : v = .int .i64 k
  ghost : gk + k = min l.length 8
  old : ∀ j, j < w.heap.size → G' j = G j
  lies : Lies TP G' c wr w.heap.size ⟨(l.take k).map newR, false, 0, 0, []⟩ rv (.slice none 0 0) gs
  bel : Below w.heap.size w wr
  fresh : ∀ q, rv.ownBlock = some q → w.heap.size ≤ q
def NRel (G : Nat → Nat) (c : Nat) (l : List Int) (w : World) (gk : Nat) (v : Value) (wr : World) : Prop := ∃ k G' rv gs, NInv G c l w gk v wr k G' rv gs

set_option maxHeartbeats 4000000 in
set_option maxRecDepth 100000 in
theorem new_any (G : Nat → Nat) (c : Nat) (A : Option Addr) (cc : Nat) (l : List Int) (w : World) (hC : Kd.C (Kd.int .i64) w A l.length l) (hcc : l.length ≤ cc) :
    Calls Try.prog 19 #[.slice A l.length cc] w fun e w' => e = .returned (.pointer (some ⟨w.heap.size, 0, none⟩)) ∧ Below w.heap.size w w' ∧ ∃ G', (∀ j, j < w.heap.size → G' j = G j) ∧ DiskAt TP G' c w' w.heap.size (newM l) := by
  have HC := Lib.hid hC
  clear hC
  have hmx := HC.out.2.1
  go_enter Try.func19, Try.ntmps19
  go_wp2_with fail
  obtain ⟨w1, hw1⟩ : ∃ w1, w.alloc (.cells #[.slice none 0 0, .bool false, .int .i64 0, .int .i64 0, .slice none 0 0] 78) = w1 := ⟨_, rfl⟩
  rw [hw1]
  have hb1 : Below w.heap.size w w1 := by rw [← hw1]; exact (Below.refl _ _).alloc (Nat.le_refl _) _
  have hh1 : w1.heap[w.heap.size]? = some (.cells (hdr ⟨[], false, 0, 0, []⟩ (.slice none 0 0) (.slice none 0 0)) TP.disk (0, 0)) := by rw [← hw1, heap_alloc_new]; rfl
  clear hw1
  have h1 : Lies TP (ext G w.heap.size c) c w1 w.heap.size ⟨[], false, 0, 0, []⟩ (.slice none 0 0) (.slice none 0 0) [] := ⟨hh1, ext_new (Nat.le_refl _), Kd.R_nil _ _ _ _ _, Kd.R_nil _ _ _ _ _, rfl, fun i hi => by simp at hi⟩
  have H1 := Lib.hid h1
  have HB1 := Lib.hid hb1
  clear h1 hh1 hb1
  have emin : (min (l.length : Int) 8) = ((min l.length 8 : Nat) : Int) := by omega
  obtain ⟨M, hM⟩ : ∃ M, min l.length 8 = M := ⟨_, rfl⟩
  rw [hM] at emin
  have emax : max (M : Int) 0 = (M : Int) := by omega
  rw [emin, emax, Int.toNat_natCast]
  have HM := Lib.hid hM
  have hM8 : M ≤ 8 := by omega
  have hMl : M ≤ l.length := by omega
  clear emin emax hM
  go_loopg [14] M (fun gk v wr => NRel G c l w gk v wr)
  case atStart => exact ⟨0, _, _, _, ⟨Nat.zero_le _, rfl, by have := HM.out; omega, fun j hj => ext_old hj, H1.out, HB1.out, fun q hq => by cases hq⟩⟩
  case round =>
    obtain ⟨k, G', rv, gs, hk, rfl, hgk, hold, hlies, hbel, hfresh⟩ := hrel
    have hkM : k ≤ M := by rw [HM.out] at hk; exact hk
    have HG := Lib.hid hgk
    have HO := Lib.hid hold
    have HL := Lib.hid hlies
    have HB := Lib.hid hbel
    have HFR := Lib.hid hfresh
    clear hk hgk hold hlies hbel hfresh H1 HB1
    by_cases hlt : k < M
    · obtain ⟨ad, rfl, hx⟩ := Kd.at_int (Kd.C_below HC.out HB.out) (k : Int) (by omega) (by omega)
      obtain ⟨x, hx0⟩ : ∃ x, rd l (k : Int) = x := ⟨_, rfl⟩
      rw [hx0, Int.toNat_natCast] at hx
      have HX := Lib.hid hx0
      clear hx0
      obtain ⟨Ar, cr, rfl, _, _⟩ := Kd.R_reads HL.out.row
      have hlen : gs.length = k := by rw [HL.out.len]; simp; omega
      have hx0 : wr.cell? ⟨w.heap.size, 0, none⟩ = some (.slice Ar k cr) := by rw [← hlen]; exact cell_of_block HL.out.head 0
      have hf0 : wr.frozen? ⟨w.heap.size, 0, none⟩ = false := unfrozen_of_block HL.out.head 0
      have hlt2 : (k : Int) < (M : Int) := by omega
      have HLEN := Lib.hid hlen
      have hBr : w.heap.size < wr.heap.size := heap_lt HL.out.head
      clear hlen
      go_wp2_with fail
      refine wp_region_T 17 (HeldC w.heap.size (.slice Ar k cr)) (by kernel_rfl) ?_
      have hS0 : HeldC w.heap.size (.slice Ar k cr) wr.drew := ⟨hx0⟩
      refine wpAnyT_take (i := 0) (v := ?mv1) rfl (by kernel_rfl) (by kernel_rfl) (by kernel_rfl) rfl rfl (by kernel_rfl) (by rfl) (fun _ _ _ h => h) (Or.inl ⟨by rfl, ?mh1⟩) (by assumption) ?mr1
      case mh1 => intro w hSw; (try have hSw1 := hSw.1); go_simp; try with_reducible rfl
      (try simp only [Act.put]); (try simp only [List.setIfInBounds_toArray]); (try simp only [List.set_cons_zero, List.set_cons_succ])
      refine wpAnyT_take (i := 1) (v := ?mv2) rfl (by kernel_rfl) (by kernel_rfl) (by kernel_rfl) rfl rfl (by kernel_rfl) (by rfl) (fun _ _ _ h => h) (Or.inl ⟨by rfl, ?mh2⟩) (by assumption) ?mr2
      case mh2 => intro w hSw; (try have hSw1 := hSw.1); go_simp; try with_reducible rfl
      (try simp only [Act.put]); (try simp only [List.setIfInBounds_toArray]); (try simp only [List.set_cons_zero, List.set_cons_succ])
      refine wpAnyT_take (i := 2) (v := ?mv3) rfl (by kernel_rfl) (by kernel_rfl) (by kernel_rfl) rfl rfl (by kernel_rfl) (by rfl) (fun _ _ _ h => h) (Or.inl ⟨by rfl, ?mh3⟩) (by assumption) ?mr3
      case mh3 => intro w hSw; (try have hSw1 := hSw.1); go_simp; try with_reducible rfl
      (try simp only [Act.put]); (try simp only [List.setIfInBounds_toArray]); (try simp only [List.set_cons_zero, List.set_cons_succ])
      refine wpAnyT_take (i := 3) (v := ?mv4) rfl (by kernel_rfl) (by kernel_rfl) (by kernel_rfl) rfl rfl (by kernel_rfl) (by rfl) (fun _ _ _ h => h) (Or.inl ⟨by rfl, ?mh4⟩) (by assumption) ?mr4
      case mh4 => intro w hSw; (try have hSw1 := hSw.1); go_simp; try with_reducible rfl
      (try simp only [Act.put]); (try simp only [List.setIfInBounds_toArray]); (try simp only [List.set_cons_zero, List.set_cons_succ])
      refine wpAnyT_take (i := 4) (v := ?mv5) rfl (by kernel_rfl) (by kernel_rfl) (by kernel_rfl) rfl rfl (by kernel_rfl) (by rfl) (fun _ _ _ h => h) (Or.inl ⟨by rfl, ?mh5⟩) (by assumption) ?mr5
      case mh5 => intro w hSw; (try have hSw1 := hSw.1); go_simp; try with_reducible rfl
      (try simp only [Act.put]); (try simp only [List.setIfInBounds_toArray]); (try simp only [List.set_cons_zero, List.set_cons_succ])
      refine wpAnyT_take (i := 7) (v := ?mv6) rfl (by kernel_rfl) (by kernel_rfl) (by kernel_rfl) rfl rfl (by kernel_rfl) (by rfl) (fun _ _ _ h => h) (Or.inl ⟨by rfl, ?mh6⟩) (by assumption) ?mr6
      case mh6 => intro w hSw; (try have hSw1 := hSw.1); go_simp; try with_reducible rfl
      (try simp only [Act.put]); (try simp only [List.setIfInBounds_toArray]); (try simp only [List.set_cons_zero, List.set_cons_succ])
      refine wpAnyT_take (i := 8) (v := ?mv7) rfl (by kernel_rfl) (by kernel_rfl) (by kernel_rfl) rfl rfl (by kernel_rfl) (by rfl) (fun _ _ _ h => h) (Or.inl ⟨by rfl, ?mh7⟩) (by assumption) ?mr7
      case mh7 => intro w hSw; (try have hSw1 := hSw.1); go_simp; try with_reducible rfl
      (try simp only [Act.put]); (try simp only [List.setIfInBounds_toArray]); (try simp only [List.set_cons_zero, List.set_cons_succ])
      refine wpAnyT_take (i := 9) (v := ?mv8) rfl (by kernel_rfl) (by kernel_rfl) (by kernel_rfl) rfl rfl (by kernel_rfl) (by rfl) (fun _ _ _ h => h) (Or.inl ⟨by rfl, ?mh8⟩) (by assumption) ?mr8
      case mh8 => intro w hSw; (try have hSw1 := hSw.1); go_simp; try with_reducible rfl
      (try simp only [Act.put]); (try simp only [List.setIfInBounds_toArray]); (try simp only [List.set_cons_zero, List.set_cons_succ])
      refine wpAnyT_one (j := 5) rfl (by kernel_rfl) (fun K hK => ?_)
      go_simp
      go_at_call 42
      refine (none_any _).mono ?_
      rintro e w5 ⟨rfl, hb5⟩
      have hS5 := hS0.below hb5
      refine hK.out _ _ (fun _ => hS5) ?_
      clear hK K
      (try simp only [Act.put]); (try simp only [List.setIfInBounds_toArray]); (try simp only [List.set_cons_zero, List.set_cons_succ])
      refine wpAnyT_one (j := 6) rfl (by kernel_rfl) (fun K hK => ?_)
      go_simp
      have hS6 := hS5.alloc (.cells #[.string noneS] 9)
      refine hK.out _ _ (fun _ => hS6) ?_
      clear hK K
      (try simp only [Act.put]); (try simp only [List.setIfInBounds_toArray]); (try simp only [List.set_cons_zero, List.set_cons_succ])
      refine wpAnyT_one (j := 10) rfl (by kernel_rfl) (fun K hK => ?_)
      go_simp
      go_at_call 41
      have ecl : max 0 (min x 4096) = ((clampN x : Nat) : Int) := by unfold clampN; omega
      rw [ecl]
      clear ecl
      refine (repeat_any ⟨w5.heap.size, 0, none⟩ noneS (clampN x) (by unfold clampN; omega) _ (by unfold World.cell?; rw [heap_alloc_new]; rfl)).mono ?_
      rintro e w7 ⟨v7, rfl, hR7, hb7⟩
      have hS7 := hS6.below hb7
      obtain ⟨A7, c7, rfl, _, _⟩ := Kd.R_reads hR7
      rw [List.length_replicate] at hR7 ⊢
      have HR7 := Lib.hid hR7
      have HB7 := Lib.hid hb7
      clear hR7 hb7
      refine hK.out _ _ (fun _ => hS7) ?_
      clear hK K
      (try simp only [Act.put]); (try simp only [List.setIfInBounds_toArray]); (try simp only [List.set_cons_zero, List.set_cons_succ])
      refine wpAnyT_take (i := 11) (v := ?mv9) rfl (by kernel_rfl) (by kernel_rfl) (by kernel_rfl) rfl rfl (by kernel_rfl) (by rfl) (fun _ _ _ h => h) (Or.inl ⟨by rfl, ?mh9⟩) (by assumption) ?mr9
      case mh9 => intro w hSw; (try have hSw1 := hSw.1); go_simp; try with_reducible rfl
      (try simp only [Act.put]); (try simp only [List.setIfInBounds_toArray]); (try simp only [List.set_cons_zero, List.set_cons_succ])
      refine wpAnyT_one (j := 12) rfl (by kernel_rfl) (fun K hK => ?_)
      go_simp
      have hS8 := hS7.alloc (.cells #[.slice A7 (clampN x) c7, .slice none 0 0] 84)
      refine hK.out _ _ (fun _ => hS8) ?_
      clear hK K
      (try simp only [Act.put]); (try simp only [List.setIfInBounds_toArray]); (try simp only [List.set_cons_zero, List.set_cons_succ])
      refine wpAnyT_one (j := 13) rfl (by kernel_rfl) (fun K hK => ?_)
      go_simp
      obtain ⟨w8, hw8⟩ : ∃ w8, w7.alloc (.cells #[.slice A7 (clampN x) c7, .slice none 0 0] 84) = w8 := ⟨_, rfl⟩
      have hz8 : w7.heap.size + 1 = w8.heap.size := by rw [← hw8]; simp
      have hr8 : w8.heap[w7.heap.size]? = some (.cells #[.slice A7 (clampN x) c7, .slice none 0 0] 84 (0, 0)) := by rw [← hw8]; exact heap_alloc_new _ _
      have hb8 : Below w7.heap.size w7 w8 := by rw [← hw8]; exact (Below.refl _ _).alloc (Nat.le_refl _) _
      rw [hw8, hz8]
      rw [hw8] at hS8
      have hS9 := hS8.alloc (.cells #[.pointer (some ⟨w7.heap.size, 0, none⟩)] 79)
      refine hK.out _ _ (fun _ => hS9) ?_
      clear hK K
      (try simp only [Act.put]); (try simp only [List.setIfInBounds_toArray]); (try simp only [List.set_cons_zero, List.set_cons_succ])
      have hbr8 : Below wr.heap.size wr w8 := ((((below_drew (Below.refl _ _)).trans hb5).alloc (by have := hb5.size; simpa using this) (.cells #[.string noneS] 9)).trans (HB7.out.mono (by have := hb5.size; simp at this ⊢; omega))).trans (hb8.mono (by have := hb5.size; have := HB7.out.size; simp at *; omega))
      have hrow : ptrK.R TP.preg w8 0 (fun i => (G' i = c + 1 ∧ i < wr.heap.size) ∨ w8.heap.size ≤ i) (.slice Ar k cr) gs := by
        have h := Kd.R_below (Kd.R_mono (Kd.R_bound HL.out.row) (ok' := fun i => (G' i = c + 1 ∧ i < wr.heap.size) ∨ w8.heap.size ≤ i) (fun i hi => .inl ⟨hi.1, hi.2.2.1⟩)) hbr8
        rw [HLEN.out] at h
        exact h
      have HROW := Lib.hid hrow
      have hne : ∀ q, (Value.slice Ar k cr).ownBlock = some q → G' q = c + 1 := fun q hq => by
        have h := HL.out.row
        rw [HLEN.out] at h
        exact h.1 q hq
      have HNE := Lib.hid hne
      have HBR8 := Lib.hid hbr8
      clear hne hrow hbr8
      have hgl : gs.length < 8 := by have := HLEN.out; omega
      refine wpAnyT_one (j := 14) rfl (by kernel_rfl) (fun K hK => ?_)
      refine Kd.R_append_step ptrK (w0 := w8) (W := w8) 0 rfl (.tmp 22) (.tmp 31) 74 79 (.pointer none) 8 rfl Try.underlying74 infoPreg rfl (by decide) (by decide) (.slice Ar k cr) gs w7.heap.size [.pointer (some ⟨w7.heap.size, 0, none⟩)] (fun i => (G' i = c + 1 ∧ i < wr.heap.size) ∨ w8.heap.size ≤ i) (fun _ => False) rfl rfl ?aP (fun _ hk => hk.elim) (fun i hi => .inr hi) HROW.out (Below.refl _ _) (Nat.zero_le _) (by omega) ?_
      case aP => exact rfl
      intro v10 w10 hR10 hB10 hg10 hat10
      obtain ⟨A10, c10, rfl, _, _⟩ := Kd.R_reads hR10
      have hh10 : w10.heap[w.heap.size]? = w8.heap[w.heap.size]? := hg10.block w.heap.size (by have := HBR8.out.size; omega) (fun e => by have h1 := HNE.out _ e.symm; have h2 := HL.out.colour; omega)
      have hx10 : w10.cell? ⟨w.heap.size, 0, none⟩ = some (.slice Ar k cr) := (World.cell?_of_block (a := ⟨w.heap.size, 0, none⟩) hh10).trans hS8.cell
      have hS10 : HeldC w.heap.size (.slice Ar k cr) w10 := ⟨hx10⟩
      have h7r : wr.heap.size ≤ w5.heap.size := by have := hb5.size; simpa using this
      have h7s : w5.heap.size + 1 ≤ w7.heap.size := by have := HB7.out.size; simpa using this
      have hnl := new_lies (N := clampN x) (by have h := HL.out; exact h) HBR8.out (by omega) hr8 HR7.out (by simp; omega) hb8 (by rw [HLEN.out]; exact hg10) hR10
      have hf10 : w10.frozen? ⟨w.heap.size, 0, none⟩ = false := by
        have h := hh10.trans ((HBR8.out.block w.heap.size hBr).trans HL.out.head)
        exact unfrozen_of_block h 0
      rw [HLEN.out, List.length_append, HLEN.out] at hnl
      have HNL := Lib.hid hnl
      have hlen10 : (gs ++ [w7.heap.size]).length = k + 1 := by simp [HLEN.out]
      rw [hlen10] at *
      have hfr10 : ∀ q, (Value.slice A10 (k + 1) c10).ownBlock = some q → w.heap.size ≤ q := fun q hq => by
        rcases hat10 with h | ⟨b, h, hb⟩
        · have hq2 := h.symm.trans ((show (Value.slice A10 (gs ++ [w7.heap.size]).length c10).ownBlock = (Value.slice A10 (k + 1) c10).ownBlock from by cases A10 <;> rfl).trans hq); rw [← HLEN.out] at hq2; exact HFR.out q hq2
        · have hq2 := h.symm.trans ((show (Value.slice A10 (gs ++ [w7.heap.size]).length c10).ownBlock = (Value.slice A10 (k + 1) c10).ownBlock from by cases A10 <;> rfl).trans hq); injection hq2 with hq2; subst hq2; have := HBR8.out.size; omega
      have HFR10 := Lib.hid hfr10
      clear hnl hR10 hB10 hg10 hat10 hh10 hfr10
      refine hK.out _ _ (fun _ => hS10) ?_
      clear hK K
      (try simp only [Act.put]); (try simp only [List.setIfInBounds_toArray]); (try simp only [List.set_cons_zero, List.set_cons_succ])
      refine wpAnyT_one (j := 15) rfl (by kernel_rfl) (fun K hK => ?_)
      go_simp
      refine hK.out _ _ (fun _ => hS10) ?_
      clear hK K
      (try simp only [Act.put]); (try simp only [List.setIfInBounds_toArray]); (try simp only [List.set_cons_zero, List.set_cons_succ])
      refine wpAnyT_one (j := 16) rfl (by kernel_rfl) (fun K hK => ?_)
      go_simp
      refine hK.out _ _ (fun _ => hS10) ?_
      clear hK K
      (try simp only [Act.put]); (try simp only [List.setIfInBounds_toArray]); (try simp only [List.set_cons_zero, List.set_cons_succ])
      refine wpAnyT_one (j := 17) rfl (by kernel_rfl) (fun K hK => ?_)
      go_simp
      refine hK.out _ _ (fun _ => past_t ‹_›) ?_
      clear hK K
      (try simp only [Act.put]); (try simp only [List.setIfInBounds_toArray]); (try simp only [List.set_cons_zero, List.set_cons_succ])
      refine wpAnyT_done (by kernel_rfl) ?_ _
      clear hS0 hS5 hS6 hS7 hS8 hS9 hS10 hx10 hf10
      go_wp2_with fail
      go_roundg (gk - 1)
      case measure => have := HG.out; omega
      case rel =>
        have hl := HNL.out.2
        have e : (l.take (k + 1)).map newR = (l.take k).map newR ++ [⟨List.replicate (clampN x) noneS, []⟩] := by
          rw [List.take_succ_eq_append_getElem (by omega), List.map_append]
          have ex : l[k] = x := by have := HX.out; simp [rd, show k < l.length by omega] at this; exact this
          simp only [List.map_cons, List.map_nil, ex]
          rfl
        rw [← e] at hl
        have hbn := HNL.out.1.below (B := w.heap.size) (by omega) (fun j hj hs => by
            rcases hs with hs | hs
            · omega
            · rw [← HLEN.out] at hs
              have := HFR.out j hs.symm
              omega)
        exact ⟨k + 1, _, _, _, ⟨by rw [HM.out]; omega, by go_num, by have := HG.out; omega, fun j hj => (show (if j < wr.heap.size then G' j else _) = _ from by rw [if_pos (by omega)]; exact HO.out j hj), hl, HB.out.trans hbn, HFR10.out⟩⟩
    · obtain rfl : k = M := by omega
      go_wp2_with fail
      refine bodyPost_ret (v := .pointer (some ⟨w.heap.size, 0, none⟩)) (by simp [results, Try.results19, go_sem]) rfl ?_
      refine ⟨rfl, HB.out, G', HO.out, ?_⟩
      have e : newM l = ⟨(l.take k).map newR, false, 0, 0, []⟩ := by
        unfold newM
        by_cases h8 : l.length ≤ 8
        · rw [List.take_of_length_le h8, List.take_of_length_le (by have := HM.out; omega)]
        · have : k = 8 := by have := HM.out; omega
          rw [this]
      rw [e]
      exact ⟨_, _, _, HL.out⟩

end Go.Proofs.Ytekpbpcfeopilaa.Ds
