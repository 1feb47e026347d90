/- The program's disk: Lay. -/
import Derived.Test.YtekpbpcfeopilaaDs
namespace Go.Proofs.Ytekpbpcfeopilaa.Dt
open Go Go.RowKit Go.Joins Go.Proofs.YtekpbpcfeopilaaCore Go.Proofs.Ytekpbpcfeopilaa.Dm Go.Proofs.Ytekpbpcfeopilaa.Dr Go.Proofs.Ytekpbpcfeopilaa.Da Go.Proofs.Ytekpbpcfeopilaa.Df Go.Proofs.Ytekpbpcfeopilaa.Dg Go.Proofs.Ytekpbpcfeopilaa.Dh Go.Proofs.Ytekpbpcfeopilaa.Di Go.Proofs.Ytekpbpcfeopilaa.Dj Go.Proofs.Ytekpbpcfeopilaa.Dk Go.Proofs.Ytekpbpcfeopilaa.Dl Go.Proofs.Ytekpbpcfeopilaa.Dn Go.Proofs.Ytekpbpcfeopilaa.Dp Go.Proofs.Ytekpbpcfeopilaa.Dq Go.Proofs.Ytekpbpcfeopilaa.Ds Go.Proofs.Ytekpbpcfeopilaa.Reg Go.Proofs.YtekpbpcfeopilaaW.PrintWords Go.Proofs.YtekpbpcfeopilaaW.PrintLast Go.Proofs.YtekpbpcfeopilaaW.PrintMore

set_option maxHeartbeats 4000000 in
set_option maxRecDepth 100000 in
theorem lay_nil (n : Int) (d : ByteArray) (w : World) : Calls Try.prog 27 #[.pointer none, .int .i64 n, .string d] w fun e w' => e = .returned (.tuple #[]) ∧ Below w.heap.size w w' := by
  go_enter Try.func27, Try.ntmps27
  go_wp2_with fail
  refine (at_nil _ _).mono ?_
  rintro e w1 ⟨rfl, hb1⟩
  go_wp2_with fail
  exact bodyPost_ret (v := .tuple #[]) (by simp [results, Try.results27, go_sem]) rfl ⟨rfl, hb1⟩

/-- Sector i of data, with noughts behind. -/
def secL (l : List UInt8) (i : Nat) : List UInt8 := (l.drop (64 * i)).take 64 ++ List.replicate (64 - ((l.drop (64 * i)).take 64).length) 0
def secB (d : ByteArray) (i : Nat) : ByteArray := ⟨(secL d.data.toList i).toArray⟩
def layL (N : Nat) (d : ByteArray) : List ByteArray := (List.range N).map (secB d)
def layM (m : MDisk) (n : Int) (d : ByteArray) : MDisk :=
  if 0 ≤ n ∧ n < m.regs.length then setM m n.toNat ⟨layL (m.regs.getD n.toNat ⟨[], []⟩).lasts.length d, []⟩ else m

theorem sec_eq {d dj : ByteArray} {j q : Nat} (h : dj.data.toList = d.data.toList.drop (64 * j)) (hq : min dj.size 64 = q) : dj.extract 0 q ++ noneS.extract q 64 = secB d j := by
  have hl : dj.data.toList.length = dj.size := data_length dj
  have e1 : (dj.extract 0 q).data.toList = dj.data.toList.take q := by simp [ByteArray.data_extract]
  have e2 : (noneS.extract q 64).data.toList = List.replicate (64 - q) 0 := by
    simp [ByteArray.data_extract, noneS]
  unfold secB secL
  rw [← h]
  apply ByteArray.ext
  apply Array.toList_inj.1
  rw [ByteArray.data_append, Array.toList_append, e1, e2]
  have e3 : dj.data.toList.take q = dj.data.toList.take 64 := by
    by_cases h64 : dj.size ≤ 64
    · rw [List.take_of_length_le (by omega), List.take_of_length_le (by omega)]
    · have : q = 64 := by omega
      rw [this]
  have e4 : (dj.data.toList.take 64).length = q := by rw [List.length_take, hl]; omega
  rw [e3, e4]
theorem rest_eq {d dj : ByteArray} {j q : Nat} (h : dj.data.toList = d.data.toList.drop (64 * j)) (hq : min dj.size 64 = q) : (dj.extract q dj.size).data.toList = d.data.toList.drop (64 * (j + 1)) := by
  have hl : dj.data.toList.length = dj.size := data_length dj
  have e1 : (dj.extract q dj.size).data.toList = dj.data.toList.drop q := by
    rw [ByteArray.data_extract, Array.toList_extract]
    simp [List.extract_eq_take_drop]
    rw [List.take_of_length_le]
    rw [List.length_drop, hl]
    exact Nat.le_refl _
  rw [e1]
  by_cases h64 : dj.size ≤ 64
  · rw [List.drop_of_length_le (by omega)]
    rw [List.drop_of_length_le]
    have h2 := congrArg List.length h
    rw [List.length_drop, hl] at h2
    omega
  · have : q = 64 := by omega
    rw [this, h, List.drop_drop]
    congr 1
theorem row_set {d : ByteArray} {l0 : List ByteArray} {j : Nat} (hj : j < l0.length) : (layL j d ++ l0.drop j).set j (secB d j) = layL (j + 1) d ++ l0.drop (j + 1) := by
  have hl : (layL j d).length = j := by simp [layL]
  rw [List.set_append_right _ _ (by omega), hl, Nat.sub_self, List.drop_eq_getElem_cons hj, List.set_cons_zero]
  simp [layL, List.range_succ]

structure LyInv (ok : Nat → Prop) (d : ByteArray) (N : Nat) (l0 : List ByteArray) (w1 : World) (g : Nat) (A : Option Addr) (cc : Nat) (gk : Nat) (dv v : Value) (wr : World) (j : Nat) (dj : ByteArray) : Prop where
  hi : j ≤ N
  slot : v = .int .i64 j
  dslot : dv = .string dj
  ghost : gk + j = N
  rest : dj.data.toList = d.data.toList.drop (64 * j)
  fr : Fr ok w1 wr
  head : wr.heap[g]? = some (.cells #[.slice A N cc, .slice none 0 0] TP.reg (0, 0))
  row : Kd.R Kd.string TP.str wr 0 ok (.slice A N cc) (layL j d ++ l0.drop j)
def LyRel (ok : Nat → Prop) (d : ByteArray) (N : Nat) (l0 : List ByteArray) (w1 : World) (g : Nat) (A : Option Addr) (cc : Nat) (gk : Nat) (dv v : Value) (wr : World) : Prop := ∃ j dj, LyInv ok d N l0 w1 g A cc gk dv v wr j dj

set_option maxHeartbeats 4000000 in
set_option maxRecDepth 100000 in
theorem lay_any {G : Nat → Nat} {c : Nat} {w : World} {b : Nat} {m : MDisk} {rv kv : Value} {gs : List Nat} (h : Lies TP G c w b m rv kv gs) {N : Nat} (hm : Wf N m) (n : Int) (d : ByteArray) :
    Calls Try.prog 27 #[.pointer (some ⟨b, 0, none⟩), .int .i64 n, .string d] w fun e w' => e = .returned (.tuple #[]) ∧ Did TP G c w b (layM m n d) w' := by
  have H := Lib.hid h
  have h8 := hm.few
  clear h hm
  by_cases hn : 0 ≤ n ∧ n < m.regs.length
  · obtain ⟨k, rfl⟩ : ∃ k : Nat, n = (k : Int) := ⟨n.toNat, by omega⟩
    have hk : k < m.regs.length := by omega
    obtain ⟨r, hr0⟩ : ∃ r, m.regs[k] = r := ⟨_, rfl⟩
    have em : Hid (layM m (k : Int) d = setM m k ⟨layL r.lasts.length d, []⟩) := by show _ = _; unfold layM; rw [if_pos hn, Int.toNat_natCast]; simp [hk, hr0]
    obtain ⟨g, eg, _⟩ := H.out.regs k hk
    have ep : regP gs (k : Int) = some ⟨g, 0, none⟩ := by rw [regP_nat, eg]; rfl
    have EG := Lib.hid eg
    have EP := Lib.hid ep
    clear hn eg ep
    go_enter Try.func27, Try.ntmps27
    go_wp2_with fail
    refine (at_any H.out (k : Int)).mono ?_
    rintro e w1 ⟨rfl, hb1⟩
    rw [EP.out]
    have H1 := Lib.hid (H.out.below hb1)
    obtain ⟨g2, hg2, hr⟩ := H1.out.regs k hk
    rw [EG.out] at hg2
    obtain rfl : g = g2 := by simpa using hg2
    rw [hr0] at hr
    obtain ⟨hgk, lv, qv, hb, hl, hq⟩ := hr
    obtain ⟨A, cc, rfl, hcc, hC⟩ := Kd.R_reads hl
    have hx0 : w1.cell? ⟨g, 0, none⟩ = some (.slice A r.lasts.length cc) := cell_of_block hb 0
    have hx1 : w1.cell? ⟨g, 1, none⟩ = some qv := cell_of_block hb 1
    have hf1 : w1.frozen? ⟨g, 1, none⟩ = false := unfrozen_of_block hb 1
    obtain ⟨Aq, cq, rfl, _, _⟩ := Kd.R_reads hq
    go_wp2_with fail
    have hA0 : LyRel (fun i => G i = c + 3 + k) d r.lasts.length r.lasts w1 g A cc r.lasts.length (.string d) (.int .i64 0) (w1.setCell ⟨g, 1, none⟩ (.slice none 0 0)) := by
      refine ⟨0, d, ⟨Nat.zero_le _, rfl, rfl, rfl, by simp, ?_, ?_, ?_⟩⟩
      · exact Fr.setAt (Fr.refl _ _) hgk
      · have h := block_setCell hb (i := 1) (.slice none 0 0)
        have e : (#[Value.slice A r.lasts.length cc, Value.slice Aq r.queue.length cq] : Array Value).setIfInBounds 1 (.slice none 0 0) = #[.slice A r.lasts.length cc, .slice none 0 0] := by simp
        rw [e] at h
        exact h
      · have h := Kd.R_set hl hb (by decide) 1 (.slice none 0 0)
        simpa [layL] using h
    have HA0 := Lib.hid hA0
    have HGK := Lib.hid hgk
    have hN := hC.2.1
    have HCC := Lib.hid hcc
    clear hA0 hgk hb hl hq hC hcc hx0 hx1 hf1 hg2 hr0
    obtain ⟨N, hN0⟩ : ∃ N, r.lasts.length = N := ⟨_, rfl⟩
    rw [hN0] at HA0 em hN HCC ⊢
    go_loopg [2, 22] N (fun gk dv v wr => LyRel (fun i => G i = c + 3 + k) d N r.lasts w1 g A cc gk dv v wr)
    case atStart => exact HA0.out
    case round =>
      obtain ⟨j, dj, hj, rfl, rfl, hgk, hrest, hfr, hhead, hrow⟩ := hrel
      have HG := Lib.hid hgk
      have HRE := Lib.hid hrest
      have HF := Lib.hid hfr
      have HH := Lib.hid hhead
      have HR := Lib.hid hrow
      clear hgk hrest hfr hhead hrow HA0
      by_cases hlt : j < N
      · have hx0 : wr.cell? ⟨g, 0, none⟩ = some (.slice A N cc) := cell_of_block HH.out 0
        obtain ⟨q, hq⟩ : ∃ q : Nat, min dj.size 64 = q := ⟨_, rfl⟩
        have hqi : min (dj.size : Int) 64 = (q : Int) := by omega
        have hq1 : q ≤ dj.size := by omega
        have hq2 : q ≤ 64 := by omega
        obtain ⟨sj, hsj⟩ : ∃ sj, dj.extract 0 q = sj := ⟨_, rfl⟩
        have hss : sj.size = q := by rw [← hsj, ByteArray.size_extract]; omega
        have HQ := Lib.hid hq
        have HSS := Lib.hid hss
        clear hq
        go_wp2_with (rw [hsj])
        have hlen : (layL j d ++ r.lasts.drop j).length = N := by simp [layL]; omega
        have hrow := HR.out
        obtain ⟨qb, cap, eqb, _, hqlt, _⟩ := Kd.R_form hrow (by omega)
        simp only [Value.slice.injEq] at eqb
        obtain ⟨rfl, hN3, rfl⟩ := eqb
        clear hN3
        have hcf := Kd.R_cell ByteArray.empty (by rw [hlen]; exact hrow) (j : Int) (by omega) (by omega)
        rw [Int.toNat_natCast] at hcf
        have HCF := Lib.hid hcf
        have HLEN := Lib.hid hlen
        have HSJ := Lib.hid hsj
        have hij : (j : Int) < (N : Int) := by omega
        clear hcf hlen hrow hsj
        have hnq : (noneS.size : Int) = 64 := rfl
        have hqi64 : (q : Int) ≤ 64 := by omega
        have hqi0 : (0 : Int) ≤ (q : Int) := by omega
        have hnq2 : noneS.size = 64 := rfl
        have hHS0 : HeldC g (.slice (some ⟨qb, 0, none⟩) N cc) wr.drew := ⟨hx0⟩
        refine wp_region_T 12 (HeldC g (.slice (some ⟨qb, 0, none⟩) N cc)) (by kernel_rfl) ?_
        refine wpAnyT_take (i := 0) (v := ?mv1) rfl (by kernel_rfl) (by kernel_rfl) (by kernel_rfl) rfl rfl (by kernel_rfl) (by rfl) (fun _ _ _ h => h) (Or.inl ⟨by rfl, ?mh1⟩) (by assumption) ?mr1
        case mh1 => intro w hSw; (try have hSw1 := hSw.1); go_simp; try with_reducible rfl
        (try simp only [Act.put]); (try simp only [List.setIfInBounds_toArray]); (try simp only [List.set_cons_zero, List.set_cons_succ])
        refine wpAnyT_take (i := 1) (v := ?mv2) rfl (by kernel_rfl) (by kernel_rfl) (by kernel_rfl) rfl rfl (by kernel_rfl) (by rfl) (fun _ _ _ h => h) (Or.inl ⟨by rfl, ?mh2⟩) (by assumption) ?mr2
        case mh2 => intro w hSw; (try have hSw1 := hSw.1); go_simp; try with_reducible rfl
        (try simp only [Act.put]); (try simp only [List.setIfInBounds_toArray]); (try simp only [List.set_cons_zero, List.set_cons_succ])
        refine wpAnyT_take (i := 2) (v := ?mv3) rfl (by kernel_rfl) (by kernel_rfl) (by kernel_rfl) rfl rfl (by kernel_rfl) (by rfl) (fun _ _ _ h => h) (Or.inl ⟨by rfl, ?mh3⟩) (by assumption) ?mr3
        case mh3 => intro w hSw; (try have hSw1 := hSw.1); go_simp; try with_reducible rfl
        (try simp only [Act.put]); (try simp only [List.setIfInBounds_toArray]); (try simp only [List.set_cons_zero, List.set_cons_succ])
        refine wpAnyT_take (i := 3) (v := ?mv4) rfl (by kernel_rfl) (by kernel_rfl) (by kernel_rfl) rfl rfl (by kernel_rfl) (by rfl) (fun _ _ _ h => h) (Or.inl ⟨by rfl, ?mh4⟩) (by assumption) ?mr4
        case mh4 => intro w hSw; (try have hSw1 := hSw.1); go_simp; try with_reducible rfl
        (try simp only [Act.put]); (try simp only [List.setIfInBounds_toArray]); (try simp only [List.set_cons_zero, List.set_cons_succ])
        refine wpAnyT_take (i := 4) (v := ?mv5) rfl (by kernel_rfl) (by kernel_rfl) (by kernel_rfl) rfl rfl (by kernel_rfl) (by rfl) (fun _ _ _ h => h) (Or.inl ⟨by rfl, ?mh5⟩) (by assumption) ?mr5
        case mh5 => intro w hSw; (try have hSw1 := hSw.1); go_simp; try with_reducible rfl
        (try simp only [Act.put]); (try simp only [List.setIfInBounds_toArray]); (try simp only [List.set_cons_zero, List.set_cons_succ])
        refine wpAnyT_take (i := 5) (v := ?mv6) rfl (by kernel_rfl) (by kernel_rfl) (by kernel_rfl) rfl rfl (by kernel_rfl) (by rfl) (fun _ _ _ h => h) (Or.inl ⟨by rfl, ?mh6⟩) (by assumption) ?mr6
        case mh6 => intro w hSw; (try have hSw1 := hSw.1); go_simp; try with_reducible rfl
        (try simp only [Act.put]); (try simp only [List.setIfInBounds_toArray]); (try simp only [List.set_cons_zero, List.set_cons_succ])
        refine wpAnyT_take (i := 7) (v := ?mv7) rfl (by kernel_rfl) (by kernel_rfl) (by kernel_rfl) rfl rfl (by kernel_rfl) (by rfl) (fun _ _ _ h => h) (Or.inl ⟨by rfl, ?mh7⟩) (by assumption) ?mr7
        case mh7 => intro w hSw; (try have hSw1 := hSw.1); go_simp; try with_reducible rfl
        (try simp only [Act.put]); (try simp only [List.setIfInBounds_toArray]); (try simp only [List.set_cons_zero, List.set_cons_succ])
        refine wpAnyT_take (i := 8) (v := ?mv8) rfl (by kernel_rfl) (by kernel_rfl) (by kernel_rfl) rfl rfl (by kernel_rfl) (by rfl) (fun _ _ _ h => h) (Or.inl ⟨by rfl, ?mh8⟩) (by assumption) ?mr8
        case mh8 => intro w hSw; (try have hSw1 := hSw.1); go_simp; try with_reducible rfl
        (try simp only [Act.put]); (try simp only [List.setIfInBounds_toArray]); (try simp only [List.set_cons_zero, List.set_cons_succ])
        refine wpAnyT_one (j := 6) rfl (by kernel_rfl) (fun K hK => ?_)
        go_simp
        go_at_call 42
        refine (none_any _).mono ?_
        rintro e w5 ⟨rfl, hb5⟩
        have hHS5 := hHS0.below hb5
        have hc5 := pw_cell_below hb5 (a := ⟨qb, j, none⟩) HCF.out.1
        have hf5 : w5.frozen? ⟨qb, j, none⟩ = false := (hb5.frozen (p := ⟨qb, j, none⟩) hqlt).trans HCF.out.2
        refine hK.out _ _ (fun _ => hHS5) ?_
        clear hK K
        (try simp only [Act.put]); (try simp only [List.setIfInBounds_toArray]); (try simp only [List.set_cons_zero, List.set_cons_succ])
        refine wpAnyT_take (i := 9) (v := ?mv9) rfl (by kernel_rfl) (by kernel_rfl) (by kernel_rfl) rfl rfl (by kernel_rfl) (by rfl) (fun _ _ _ h => h) (Or.inl ⟨by rfl, ?mh9⟩) (by assumption) ?mr9
        case mh9 => intro w hSw; (try have hSw1 := hSw.1); go_simp; try with_reducible rfl
        (try simp only [Act.put]); (try simp only [List.setIfInBounds_toArray]); (try simp only [List.set_cons_zero, List.set_cons_succ])
        refine wpAnyT_take (i := 10) (v := ?mv10) rfl (by kernel_rfl) (by kernel_rfl) (by kernel_rfl) rfl rfl (by kernel_rfl) (by rfl) (fun _ _ _ h => h) (Or.inl ⟨by rfl, ?mh10⟩) (by assumption) ?mr10
        case mh10 => intro w hSw; (try have hSw1 := hSw.1); go_simp; try with_reducible rfl
        (try simp only [Act.put]); (try simp only [List.setIfInBounds_toArray]); (try simp only [List.set_cons_zero, List.set_cons_succ])
        refine wpAnyT_one (j := 11) rfl (by kernel_rfl) (fun K hK => ?_)
        go_simp
        refine hK.out _ _ (fun _ => hHS5) ?_
        clear hK K
        (try simp only [Act.put]); (try simp only [List.setIfInBounds_toArray]); (try simp only [List.set_cons_zero, List.set_cons_succ])
        refine wpAnyT_one (j := 12) rfl (by kernel_rfl) (fun K hK => ?_)
        go_simp
        refine hK.out _ _ (fun _ => past_t ‹_›) ?_
        clear hK K
        (try simp only [Act.put]); (try simp only [List.setIfInBounds_toArray]); (try simp only [List.set_cons_zero, List.set_cons_succ])
        refine wpAnyT_done (by kernel_rfl) ?_ _
        have ev : sj ++ noneS.extract q 64 = secB d j := by rw [← HSJ.out]; exact sec_eq HRE.out HQ.out
        rw [ev]
        have f6 : Fr (fun i => G i = c + 3 + k) wr (w5.setCell ⟨qb, j, none⟩ (.string (secB d j))) := by
          refine Fr.setAt ?_ (HR.out.1 qb rfl)
          exact Fr.drew (Fr.refl _ _) |>.thenBelow hb5
        have hh6 := (Fr.block (S := fun i => i = qb) (Fr.setAt (Fr.drew (Fr.refl _ wr) |>.thenBelow hb5) rfl (j := j) (u := .string (secB d j))) g (heap_lt HH.out) (fun e => by
          have h1 := Kd.R_ne HR.out HH.out (by decide)
          exact h1 (by rw [e]; rfl))).trans HH.out
        have hR6 : Kd.R Kd.string TP.str (w5.setCell ⟨qb, j, none⟩ (.string (secB d j))) 0 (fun i => G i = c + 3 + k) (.slice (some ⟨qb, 0, none⟩) N cc) (layL (j + 1) d ++ r.lasts.drop (j + 1)) := by
          have h1 := Kd.R_below (w1 := w5) HR.out ((below_drew (Below.refl _ _)).trans hb5)
          have h2 := (Kd.R_put (by rw [HLEN.out]; exact h1) (j : Int) (secB d j)).1
          have hjl : j < r.lasts.length := by have := HLEN.out; simp [layL] at this; omega
          rw [Int.toNat_natCast, row_set hjl] at h2
          have e : (layL j d ++ r.lasts.drop j).length = N := HLEN.out
          rw [e] at h2
          exact h2
        have HF6 := Lib.hid (HF.out.trans f6)
        have HH6 := Lib.hid hh6
        have HR6 := Lib.hid hR6
        have HRE6 := Lib.hid (rest_eq HRE.out HQ.out)
        clear ev f6 hh6 hR6 hHS0 hHS5 hc5 hf5
        go_wp2_with fail
        go_roundg (gk - 1)
        case measure => have := HG.out; omega
        case rel => exact ⟨j + 1, _, ⟨by omega, by go_num, rfl, by have := HG.out; omega, HRE6.out, HF6.out, HH6.out, HR6.out⟩⟩
      · obtain rfl : j = N := by omega
        go_wp2_with fail
        refine bodyPost_end (v := .tuple #[]) (by simp [results, Try.results27, go_sem]) rfl ?_
        refine ⟨rfl, ?_⟩
        rw [em.out]
        have hrow := HR.out
        rw [List.drop_of_length_le (by omega), List.append_nil] at hrow
        refine Did.of ((Step.of_below hb1).trans (Step.of_fr HF.out (fun i _ hi => ?_))) (reg_lies H1.out EG.out HF.out ⟨HGK.out, _, _, HH.out, hrow, Kd.R_nil _ _ _ _ _⟩)
        omega
  · have em : Hid (layM m n d = m) := by show _ = _; unfold layM; rw [if_neg hn]
    have ep : regP gs n = none := by
      by_cases h0 : n < 0
      · exact regP_neg h0
      · obtain ⟨k, rfl⟩ : ∃ k : Nat, n = (k : Int) := ⟨n.toNat, by omega⟩
        rw [regP_nat, List.getElem?_eq_none (by have := H.out.len; omega)]
        rfl
    have EP := Lib.hid ep
    clear ep hn
    go_enter Try.func27, Try.ntmps27
    go_wp2_with fail
    refine (at_any H.out n).mono ?_
    rintro e w1 ⟨rfl, hb1⟩
    rw [EP.out]
    go_wp2_with fail
    refine bodyPost_ret (v := .tuple #[]) (by simp [results, Try.results27, go_sem]) rfl ?_
    exact ⟨rfl, by rw [em.out]; exact Did.of (Step.of_below hb1) (H.out.below hb1)⟩

end Go.Proofs.Ytekpbpcfeopilaa.Dt
