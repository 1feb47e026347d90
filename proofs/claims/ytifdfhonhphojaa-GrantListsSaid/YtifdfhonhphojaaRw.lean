/- grant.Reach: the walk. -/
import Derived.Test.YtifdfhonhphojaaSo
import Derived.Test.YtifdfhonhphojaaQu
import Derived.Test.YtifdfhonhphojaaRp
import Derived.Test.YtifdfhonhphojaaSt
import Derived.Deep.LoopGhost
import Derived.Carry
import Derived.OwnWalk
import Derived.Deep.DeepFit
namespace Go.Proofs.Ytifdfhonhphojaa.Rw
open Go Go.RowKit Go.Proofs.YtifdfhonhphojaaCore Go.Proofs.Ytifdfhonhphojaa.Fr Go.Proofs.Ytifdfhonhphojaa.Mp Go.Proofs.Ytifdfhonhphojaa.Ky Go.Proofs.Ytifdfhonhphojaa.Ks Go.Proofs.Ytifdfhonhphojaa.So Go.Proofs.Ytifdfhonhphojaa.Qu Go.Proofs.Ytifdfhonhphojaa.Rp Go.Proofs.Ytifdfhonhphojaa.St

theorem pw_below {w w' : World} {a : Addr} {v : Value} (hb : Below w.heap.size w w') (h : w.cell? a = some v) : w'.cell? a = some v := (hb.cell (World.block_lt_of_cell? w _ h)).trans h
/-- Edges in line. -/
def EdgesAt (w : World) (A : Option Addr) (es : Edges) : Prop :=
  ∀ (i : Nat) (e : Int × Int), es[i]? = some e → ∃ ad, A = some ad ∧ w.cell? (ad.add (i * 2)) = some (.int .i64 e.1) ∧ w.cell? ⟨(ad.add (i * 2)).block, (ad.add (i * 2)).off + 1, none⟩ = some (.int .i64 e.2)
theorem EdgesAt.below {w w' : World} {A : Option Addr} {es : Edges} (h : EdgesAt w A es) (hb : Below w.heap.size w w') : EdgesAt w' A es := fun i e hi => by
  obtain ⟨ad, h1, h2, h3⟩ := h i e hi
  exact ⟨ad, h1, pw_below hb h2, pw_below hb h3⟩
theorem infoInt : (Try.prog.info? 3).map (fun i => (i.zero, i.size, i.bytes)) = some (some (.int .i64 0), 1, 8) := by kernel_rfl

structure QSt (w0 : World) (mb : Nat) (met : List Int) (W : World) (v : Value) (g : Nat) (q : List Int) : Prop where
  map : MapIs encI Value.bool okI W mb (tru met)
  que : Txq 3 W v g q
  ne : g ≠ mb
  new : w0.heap.size ≤ g
  mbn : w0.heap.size ≤ mb
  bel : Below w0.heap.size w0 W
theorem QSt.below {w0 W W' : World} {mb g : Nat} {met q : List Int} {v : Value} (h : QSt w0 mb met W v g q) (hb : Below W.heap.size W W') : QSt w0 mb met W' v g q :=
  ⟨h.map.at_ (hb.block _ h.map.lt), h.que.at_ (hb.block _ h.que.lt), h.ne, h.new, h.mbn, h.bel.trans (hb.mono h.bel.size)⟩
theorem QSt.append {w0 W W6 W7 : World} {mb g g7 : Nat} {met q q7 : List Int} {v v7 : Value} (h : QSt w0 mb met W v g q) (hb : Below W.heap.size W W6) (ht : Txq 3 W7 v7 g7 q7) (hf : Fr (fun k => k = g) W6 W7) (hg : g7 = g ∨ W6.heap.size ≤ g7) : QSt w0 mb met W7 v7 g7 q7 := by
  have h6 := h.below hb
  refine ⟨h6.map.fr hf (fun e => h.ne e.symm), ht, ?_, ?_, h.mbn, h6.bel.trans (hf.below h6.bel.size (fun k hk e => by have := h.new; omega))⟩
  · rcases hg with rfl | hg
    · exact h.ne
    · have := h6.map.lt; omega
  · rcases hg with rfl | hg
    · exact h.new
    · exact Nat.le_trans h6.bel.size hg

/-- What Reach comes to: a new slice that holds the numbers. -/
def ReachPost (w : World) (es : Edges) (a : Int) (e : Ending) (w' : World) : Prop :=
  ∃ v l, e = .returned v ∧ IsReach es a l ∧ w'.ownsRow w.heap.size 3 1 v l.length (l.map (Value.int .i64)) ∧ Below w.heap.size w w'

structure OInv (es : Edges) (a : Int) (w : World) (gk : Nat) (v : Value) (wr : World) (met q : List Int) (g : Nat) : Prop where
  ghost : gk = todo es met q
  small : todo es met q ≤ (1 + 2 * es.length) * (2 * es.length + 1) + 1
  bfs : Bfs es a met q
  st : QSt w w.heap.size met wr v g q
def ORel (es : Edges) (a : Int) (w : World) (gk : Nat) (v : Value) (wr : World) : Prop := ∃ met q g, OInv es a w gk v wr met q g
structure IInv (es : Edges) (w : World) (met r : List Int) (x : Int) (gk : Nat) (v u : Value) (wr : World) (j g : Nat) : Prop where
  hi : j ≤ es.length
  slot : u = .int .i64 j
  ghost : gk + j = es.length
  st : QSt w w.heap.size met wr v g (r ++ nbrs x (es.take j))
def IRel (es : Edges) (w : World) (met r : List Int) (x : Int) (gk : Nat) (v u : Value) (wr : World) : Prop := ∃ j g, IInv es w met r x gk v u wr j g

theorem nbrs_take {es : Edges} {x : Int} {j : Nat} {e : Int × Int} (h : es[j]? = some e) : nbrs x (es.take (j + 1)) = nbrs x (es.take j) ++ ((if e.1 = x then [e.2] else []) ++ (if e.2 = x then [e.1] else [])) := by
  have hj := (List.getElem?_eq_some_iff.1 h).1
  rw [List.take_succ_eq_append_getElem hj]
  have : es[j] = e := by rw [List.getElem?_eq_getElem hj] at h; injection h
  rw [this]
  simp [nbrs]

theorem cell0 {w : World} {g : Nat} {x y : Value} {t : TypeId} (h : w.heap[g]? = some (.cells #[x, y] t (0, 0))) : w.cell? ⟨g, 0, none⟩ = some x := by unfold World.cell?; rw [h]; rfl
theorem cell1 {w : World} {g : Nat} {x y : Value} {t : TypeId} (h : w.heap[g]? = some (.cells #[x, y] t (0, 0))) : w.cell? ⟨g, 1, none⟩ = some y := by unfold World.cell?; rw [h]; rfl

set_option maxHeartbeats 160000000 in
set_option maxRecDepth 100000 in
theorem reach_any (a : Int) (A : Option Addr) (cc : Nat) (es : Edges) (w : World) (hE : EdgesAt w A es) (hl : es.length ≤ 1000) (hcc : es.length ≤ cc) (hok : ∀ x ∈ univ a es, okI x) :
    Calls Try.prog 11 #[.int .i64 a, .slice A es.length cc] w (ReachPost w es a) := by
  have hmm := @run_makeMap Try.prog
  have HE := Lib.hid hE
  have HOK := Lib.hid hok
  obtain ⟨M, hM⟩ : ∃ M, es.length = M := ⟨_, rfl⟩
  have HM := Lib.hid hM
  rw [hM] at hl hcc
  obtain ⟨w1, hw1⟩ : ∃ w1, (w.alloc (.map #[] 0)).alloc (.cells #[.int .i64 a] 3) = w1 := ⟨_, rfl⟩
  have hst : QSt w w.heap.size [] w1 (.slice (some ⟨w.heap.size + 1, 0, none⟩) 1 1) (w.heap.size + 1) [a] := by
    rw [← hw1]
    have hq := Txq.one 3 (w.alloc (.map #[] 0)) a
    rw [World.size_alloc] at hq
    refine ⟨?_, hq, by omega, by omega, Nat.le_refl _, ((Below.refl _ _).alloc (Nat.le_refl _) _).alloc (by simp) _⟩
    have h := MapIs.made (V := Bool) encI Value.bool okI w
    exact h.at_ (Below.heap_alloc _ _ _ (by simp))
  have HST := Lib.hid hst
  clear hE hok hst
  rw [hM]
  clear hM
  obtain ⟨i0, hi0, hz0, hz1, hz2⟩ := info_parts infoInt
  have HI0 := Lib.hid hi0
  have HZ0 := Lib.hid hz0
  have HZ1 := Lib.hid hz1
  have HZ2 := Lib.hid hz2
  clear hi0 hz0 hz1 hz2
  go_enter Try.func11, Try.ntmps11
  go_wp2_with (rw [hw1])
  go_loopg [6] (todo es [] [a]) (fun gk v wr => ORel es a w gk v wr)
  case atStart => exact ⟨[], [a], _, ⟨rfl, by unfold todo; simp, Bfs.start es a, HST.out⟩⟩
  case round =>
    obtain ⟨met, q, g, hgk, hsm, hbfs, hst⟩ := hrel
    have HG := Lib.hid hgk
    have HSM := Lib.hid hsm
    have HB := Lib.hid hbfs
    have HS := Lib.hid hst
    clear hgk hsm hbfs hst HST hw1 hmm
    cases q with
    | nil =>
      obtain ⟨off, cap, cur, rfl, _⟩ := HS.out.que
      simp only [List.length_nil]
      have hlen : (tru met).length ≤ 10000000 := by
        have := HB.out.len
        rw [tru_len]
        rw [HM.out] at this
        omega
      have hs := sorted_ints _ _ _ HS.out.map hlen
      rw [tru_fst] at hs
      have HSO := Lib.hid hs
      clear hs hlen
      go_wp2_with fail
      refine (int_keys _ _).mono ?_
      rintro e w' ⟨rfl, rfl⟩
      go_wp2_with fail
      refine HSO.out.mono ?_
      rintro e w2 ⟨v, ss, rfl, hp, hr, hn, hbl⟩
      have hend : ReachPost w es a (.returned v) w2 := by
        refine ⟨v, upL ss, rfl, HB.out.reach hp, ?_, HS.out.bel.trans (hbl.mono HS.out.bel.size)⟩
        have e1 : (upL ss).length = ss.length := (upL_perm ss).length_eq
        rw [e1]
        exact ⟨hr.1, hr.2.imp id fun ⟨g, cap, cur, h1, h2, h3⟩ => ⟨g, cap, cur, h1, (by have := HS.out.bel.size; omega), h3⟩⟩
      have HEND := Lib.hid hend
      clear hr hn hbl hp hend
      go_wp2_with fail
      refine bodyPost_ret (v := v) (by simp [results, Try.results11, go_sem]) rfl HEND.out
    | cons x r =>
      obtain ⟨off, cap, rfl, hrc, hcm, hx, hq2⟩ := HS.out.que.next
      obtain ⟨n, hn⟩ : ∃ n, r.length = n := ⟨_, rfl⟩
      rw [hn] at hq2 hrc
      rw [hn]
      have HN := Lib.hid hn
      have hI : (0 : Int) < (n : Int) + 1 := by omega
      have hxm := HB.out.inQ x (List.mem_cons_self ..)
      have hl1 := HS.out.map.lookup encI_M Try.underlying61 (z := .bool false) (Try.zeroValue4 wr) (HOK.out x hxm)
      rw [look_tru] at hl1
      have HQ2 := Lib.hid hq2
      have HX := Lib.hid hx
      by_cases hin : x ∈ met
      · have hd : decide (x ∈ met) = true := by simpa using hin
        rw [hd] at hl1
        have hl1' : (Instr.lookup 61 (.map (some w.heap.size)) (.int .i64 x) false).run Try.prog wr = .ok (.bool true) wr := hl1
        clear hl1 hq2 hxm hd
        by_cases hcap : cap = 0
        · subst hcap
          obtain rfl : n = 0 := by omega
          have hq3 := HQ2.out
          rw [if_pos rfl] at hq3
          have HQ3 := Lib.hid hq3
          clear hq3
          go_wp2_with fail
          go_roundg (todo es met r)
          case measure => have h1 := HG.out; have h2 := todo_skip (es := es) (n := x) (met := met) (q := r); omega
          case rel =>
            have hs := HS.out
            exact ⟨met, r, g, ⟨rfl, by have h1 := HSM.out; have h2 := todo_skip (es := es) (n := x) (met := met) (q := r); omega, HB.out.skip hin, ⟨hs.map, HQ3.out, hs.ne, hs.new, hs.mbn, hs.bel⟩⟩⟩
        · have hq3 := HQ2.out
          rw [if_neg hcap] at hq3
          have HQ3 := Lib.hid hq3
          clear hq3
          go_wp2_with fail
          go_roundg (todo es met r)
          case measure => have h1 := HG.out; have h2 := todo_skip (es := es) (n := x) (met := met) (q := r); omega
          case rel =>
            have hs := HS.out
            exact ⟨met, r, g, ⟨rfl, by have h1 := HSM.out; have h2 := todo_skip (es := es) (n := x) (met := met) (q := r); omega, HB.out.skip hin, ⟨hs.map, HQ3.out, hs.ne, hs.new, hs.mbn, hs.bel⟩⟩⟩
      · have hd : decide (x ∈ met) = false := by simpa using hin
        rw [hd] at hl1
        have hl1' : (Instr.lookup 61 (.map (some w.heap.size)) (.int .i64 x) false).run Try.prog wr = .ok (.bool false) wr := hl1
        obtain ⟨w2, hst, hm2, hf2, hz2⟩ := HS.out.map.store encI_M Try.underlying61 (HOK.out x hxm) true
        rw [put_tru hin] at hm2
        have hst' : (Instr.mapUpdate 61 (.map (some w.heap.size)) (.int .i64 x) (.bool true)).run Try.prog wr = .ok () w2 := hst
        have htm := todo_meet HB.out hin
        have hbm := HB.out.meet hin
        obtain ⟨o2, ho2⟩ : ∃ o2, (if cap = 0 then off else off + 1) = o2 := ⟨_, rfl⟩
        have hq3 := HQ2.out
        rw [ho2] at hq3
        have hs := HS.out
        have hs2 : QSt w w.heap.size (met ++ [x]) w2 (.slice (some ⟨g, o2, none⟩) n cap) g r := ⟨hm2, hq3.fr hf2 hs.ne, hs.ne, hs.new, hs.mbn, hs.bel.trans (hf2.below hs.bel.size (fun k hk e => by omega))⟩
        have HS2 := Lib.hid hs2
        have HTM := Lib.hid htm
        have HBM := Lib.hid hbm
        have HO2 := Lib.hid ho2
        clear hl1 hst hm2 hf2 hz2 hq2 hxm hd htm hbm hq3 hs hs2 ho2
        have hcap2 : (cap = 0 ∧ off = o2) ∨ (¬ cap = 0 ∧ off + 1 = o2) := by
          have := HO2.out
          by_cases h : cap = 0
          · rw [if_pos h] at this; exact .inl ⟨h, this⟩
          · rw [if_neg h] at this; exact .inr ⟨h, this⟩
        rcases hcap2 with ⟨hcap, hoo⟩ | ⟨hcap, hoo⟩
        · have hn0 : n = 0 := by omega
          subst hn0
          subst hcap
          subst hoo
          go_wp2_with fail
          obtain ⟨gO, rfl⟩ : ∃ gO : Nat, gO = gk := ⟨_, rfl⟩
          obtain ⟨wo, rfl⟩ : ∃ wo : World, wo = wr := ⟨_, rfl⟩
          go_loopg [6, 29] M (fun gk v u wr => IRel es w (met ++ [x]) r x gk v u wr)
          case atStart => exact ⟨0, g, ⟨Nat.zero_le _, rfl, by rw [HM.out]; rfl, by rw [show r ++ nbrs x (es.take 0) = r from by simp [nbrs]]; exact HS2.out⟩⟩
          case round =>
            obtain ⟨j, g3, hj, rfl, hgj, hs3⟩ := hrel
            rw [HM.out] at hj hgj
            have HGJ := Lib.hid hgj
            have HS3 := Lib.hid hs3
            clear hgj hs3 HS2 hl1' hst'
            obtain ⟨off3, cap3, cur3, rfl, _⟩ := HS3.out.que
            by_cases hlt : j < M
            · have hltI : (j : Int) < (M : Int) := by omega
              have hjl : j < es.length := by rw [HM.out]; exact hlt
              obtain ⟨⟨ea, eb⟩, hej⟩ : ∃ e, es[j]? = some e := ⟨_, List.getElem?_eq_getElem hjl⟩
              obtain ⟨ad, rfl, k0, k1⟩ := HE.out j _ hej
              have m0 := pw_below HS3.out.bel k0
              have m1 := pw_below HS3.out.bel k1
              have HEJ := Lib.hid hej
              obtain ⟨wb, hwb⟩ : ∃ wb, wr.alloc (.cells #[.int .i64 ea, .int .i64 eb] 26) = wb := ⟨_, rfl⟩
              obtain ⟨bk, hbk⟩ : ∃ bk, wr.heap.size = bk := ⟨_, rfl⟩
              have hbb : Below wr.heap.size wr wb := by rw [← hwb]; exact (Below.refl _ _).alloc (Nat.le_refl _) _
              have hxb : wb.heap[bk]? = some (.cells #[.int .i64 ea, .int .i64 eb] 26 (0, 0)) := by rw [← hwb, ← hbk]; exact heap_alloc_new _ _
              have HNEb := Lib.hid (show g3 ≠ bk from by have := HS3.out.que.lt; omega)
              have HXb := Lib.hid hxb
              have cA := cell0 hxb
              have cB := cell1 hxb
              obtain ⟨ln, hln⟩ : ∃ ln, (r ++ nbrs x (es.take j)).length = ln := ⟨_, rfl⟩
              have hlenb : (r ++ nbrs x (es.take j)).length ≤ 100000000 - 1 := by
                have h1 := nbrs_len x (es.take j)
                have h2 : (es.take j).length ≤ M := by rw [List.length_take]; omega
                have h3 := HSM.out
                have h4 : r.length ≤ todo es met (x :: r) := by unfold todo; rw [List.length_cons]; omega
                have h5 : (1 + 2 * es.length) * (2 * es.length + 1) ≤ (1 + 2 * 1000) * (2 * 1000 + 1) := by
                  have : es.length ≤ 1000 := by rw [HM.out]; exact hl
                  exact Nat.mul_le_mul (by omega) (by omega)
                rw [List.length_append]
                omega
              have hqb := HS3.out.below hbb
              rw [hln] at hqb hlenb
              rw [hln]
              have HQb := Lib.hid hqb
              have HLNb := Lib.hid hln
              clear hbb hxb hej k0 k1 hln hqb
              cases hea : (ea == x) <;> cases heb : (eb == x)
              · -- false false
                have hA : (ea == x) = false := hea
                have hB : (eb == x) = false := heb
                go_wp2_with (first | (rw [hwb]))
                refine wp_loop_rounds 3 ?_
                rw [_root_.Go.rounds_succ]
                go_wp2_with fail
                rw [_root_.Go.rounds_succ]
                go_wp2_with fail
                rw [_root_.Go.rounds_succ]
                go_wp2_with fail
                have hnb : r ++ nbrs x (es.take j) = r ++ nbrs x (es.take (j + 1)) := by
                  have e1 : ¬ ea = x := by simpa using hA
                  have e2 : ¬ eb = x := by simpa using hB
                  rw [nbrs_take HEJ.out]
                  simp only [if_neg e1, if_neg e2]
                  simp
                have hqq := HQb.out
                rw [hnb] at hqq
                have HQQ := Lib.hid hqq
                clear hqq hnb
                go_roundg (gk - 1)
                case measure => have := HGJ.out; omega
                case rel => exact ⟨j + 1, _, ⟨by rw [HM.out]; omega, by go_num, by have := HGJ.out; rw [HM.out]; omega, HQQ.out⟩⟩
              · -- false true
                have hA : (ea == x) = false := hea
                have hB : (eb == x) = true := heb
                go_wp2_with (first | (rw [hwb]))
                refine wp_loop_rounds 3 ?_
                rw [_root_.Go.rounds_succ]
                go_wp2_with fail
                rw [_root_.Go.rounds_succ]
                have hb6B : Below wb.heap.size wb (wb.alloc (.cells #[.int .i64 ea] 3)) := (Below.refl _ _).alloc (Nat.le_refl _) _
                have hc6B : (wb.alloc (.cells #[.int .i64 ea] 3)).cell? ⟨wb.heap.size, 0, none⟩ = some (.int .i64 ea) := by unfold World.cell?; rw [heap_alloc_new]; rfl
                have hq6B := (HQb.out.below hb6B).que
                obtain ⟨w6B, hw6B⟩ : ∃ w6B, wb.alloc (.cells #[.int .i64 ea] 3) = w6B := ⟨_, rfl⟩
                obtain ⟨a6B, ha6B⟩ : ∃ a6B, wb.heap.size = a6B := ⟨_, rfl⟩
                rw [hw6B] at hb6B hc6B hq6B
                rw [ha6B] at hc6B
                have HB6B := Lib.hid hb6B
                have HC6B := Lib.hid hc6B
                have HQ6B := Lib.hid hq6B
                clear hb6B hc6B hq6B
                go_wp2_with (first | (rw [hw6B]) | (rw [ha6B]) | (at_builtin; go_must ((refine wpList_append_q (T := 3) (t := 27) Try.underlying27 HI0.out HZ0.out HZ1.out HZ2.out rfl rfl (.tmp 41) (.tmp 46) rfl HQ6B.out HLNb.out (by omega) rfl ⟨a6B, 0, none⟩ 1 _ rfl HC6B.out ?_; intro oB pB gB wB htB hfB hgB; have hqB := HQb.out.append HB6B.out htB hfB hgB; have hxB : wB.heap[bk]? = some (.cells #[.int .i64 ea, .int .i64 eb] 26 (0, 0)) := hfB.at_ ((HB6B.out.block _ (heap_lt HXb.out)).trans HXb.out) (fun e => HNEb.out e.symm); have hneB : gB ≠ bk := (by rcases hgB with e | e; exact (by rw [e]; exact HNEb.out); have h1 := heap_lt HXb.out; have h2 := HB6B.out.size; exact (fun e2 => by omega)); have HQB := Lib.hid hqB; have HXB := Lib.hid hxB; have HNEB := Lib.hid hneB; have cA := cell0 hxB; have cB := cell1 hxB; clear htB hfB hgB hqB hxB hneB hw6B ha6B))))
                rw [_root_.Go.rounds_succ]
                go_wp2_with fail
                have hnb : r ++ nbrs x (es.take j) ++ [ea] = r ++ nbrs x (es.take (j + 1)) := by
                  have e1 : ¬ ea = x := by simpa using hA
                  have e2 : eb = x := by simpa using hB
                  rw [nbrs_take HEJ.out]
                  simp only [if_neg e1, if_pos e2]
                  simp
                have hqq := HQB.out
                rw [hnb] at hqq
                have HQQ := Lib.hid hqq
                clear hqq hnb
                go_roundg (gk - 1)
                case measure => have := HGJ.out; omega
                case rel => exact ⟨j + 1, _, ⟨by rw [HM.out]; omega, by go_num, by have := HGJ.out; rw [HM.out]; omega, HQQ.out⟩⟩
              · -- true false
                have hA : (ea == x) = true := hea
                have hB : (eb == x) = false := heb
                go_wp2_with (first | (rw [hwb]))
                refine wp_loop_rounds 3 ?_
                rw [_root_.Go.rounds_succ]
                have hb6A : Below wb.heap.size wb (wb.alloc (.cells #[.int .i64 eb] 3)) := (Below.refl _ _).alloc (Nat.le_refl _) _
                have hc6A : (wb.alloc (.cells #[.int .i64 eb] 3)).cell? ⟨wb.heap.size, 0, none⟩ = some (.int .i64 eb) := by unfold World.cell?; rw [heap_alloc_new]; rfl
                have hq6A := (HQb.out.below hb6A).que
                obtain ⟨w6A, hw6A⟩ : ∃ w6A, wb.alloc (.cells #[.int .i64 eb] 3) = w6A := ⟨_, rfl⟩
                obtain ⟨a6A, ha6A⟩ : ∃ a6A, wb.heap.size = a6A := ⟨_, rfl⟩
                rw [hw6A] at hb6A hc6A hq6A
                rw [ha6A] at hc6A
                have HB6A := Lib.hid hb6A
                have HC6A := Lib.hid hc6A
                have HQ6A := Lib.hid hq6A
                clear hb6A hc6A hq6A
                go_wp2_with (first | (rw [hw6A]) | (rw [ha6A]) | (at_builtin; go_must ((refine wpList_append_q (T := 3) (t := 27) Try.underlying27 HI0.out HZ0.out HZ1.out HZ2.out rfl rfl (.tmp 41) (.tmp 46) rfl HQ6A.out HLNb.out (by omega) rfl ⟨a6A, 0, none⟩ 1 _ rfl HC6A.out ?_; intro oA pA gA wA htA hfA hgA; have hqA := HQb.out.append HB6A.out htA hfA hgA; have hxA : wA.heap[bk]? = some (.cells #[.int .i64 ea, .int .i64 eb] 26 (0, 0)) := hfA.at_ ((HB6A.out.block _ (heap_lt HXb.out)).trans HXb.out) (fun e => HNEb.out e.symm); have hneA : gA ≠ bk := (by rcases hgA with e | e; exact (by rw [e]; exact HNEb.out); have h1 := heap_lt HXb.out; have h2 := HB6A.out.size; exact (fun e2 => by omega)); have HQA := Lib.hid hqA; have HXA := Lib.hid hxA; have HNEA := Lib.hid hneA; have cA := cell0 hxA; have cB := cell1 hxA; clear htA hfA hgA hqA hxA hneA hw6A ha6A))))
                have hlnA : (r ++ nbrs x (es.take j) ++ [eb]).length = ln + 1 := by rw [List.length_append, List.length_singleton, HLNb.out]
                have HLNA := Lib.hid hlnA
                clear hlnA
                have hlenA : ln + 1 ≤ 100000000 := by omega
                rw [_root_.Go.rounds_succ]
                go_wp2_with fail
                rw [_root_.Go.rounds_succ]
                go_wp2_with fail
                have hnb : r ++ nbrs x (es.take j) ++ [eb] = r ++ nbrs x (es.take (j + 1)) := by
                  have e1 : ea = x := by simpa using hA
                  have e2 : ¬ eb = x := by simpa using hB
                  rw [nbrs_take HEJ.out]
                  simp only [if_pos e1, if_neg e2]
                  simp
                have hqq := HQA.out
                rw [hnb] at hqq
                have HQQ := Lib.hid hqq
                clear hqq hnb
                go_roundg (gk - 1)
                case measure => have := HGJ.out; omega
                case rel => exact ⟨j + 1, _, ⟨by rw [HM.out]; omega, by go_num, by have := HGJ.out; rw [HM.out]; omega, HQQ.out⟩⟩
              · -- true true
                have hA : (ea == x) = true := hea
                have hB : (eb == x) = true := heb
                go_wp2_with (first | (rw [hwb]))
                refine wp_loop_rounds 3 ?_
                rw [_root_.Go.rounds_succ]
                have hb6A : Below wb.heap.size wb (wb.alloc (.cells #[.int .i64 eb] 3)) := (Below.refl _ _).alloc (Nat.le_refl _) _
                have hc6A : (wb.alloc (.cells #[.int .i64 eb] 3)).cell? ⟨wb.heap.size, 0, none⟩ = some (.int .i64 eb) := by unfold World.cell?; rw [heap_alloc_new]; rfl
                have hq6A := (HQb.out.below hb6A).que
                obtain ⟨w6A, hw6A⟩ : ∃ w6A, wb.alloc (.cells #[.int .i64 eb] 3) = w6A := ⟨_, rfl⟩
                obtain ⟨a6A, ha6A⟩ : ∃ a6A, wb.heap.size = a6A := ⟨_, rfl⟩
                rw [hw6A] at hb6A hc6A hq6A
                rw [ha6A] at hc6A
                have HB6A := Lib.hid hb6A
                have HC6A := Lib.hid hc6A
                have HQ6A := Lib.hid hq6A
                clear hb6A hc6A hq6A
                go_wp2_with (first | (rw [hw6A]) | (rw [ha6A]) | (at_builtin; go_must ((refine wpList_append_q (T := 3) (t := 27) Try.underlying27 HI0.out HZ0.out HZ1.out HZ2.out rfl rfl (.tmp 41) (.tmp 46) rfl HQ6A.out HLNb.out (by omega) rfl ⟨a6A, 0, none⟩ 1 _ rfl HC6A.out ?_; intro oA pA gA wA htA hfA hgA; have hqA := HQb.out.append HB6A.out htA hfA hgA; have hxA : wA.heap[bk]? = some (.cells #[.int .i64 ea, .int .i64 eb] 26 (0, 0)) := hfA.at_ ((HB6A.out.block _ (heap_lt HXb.out)).trans HXb.out) (fun e => HNEb.out e.symm); have hneA : gA ≠ bk := (by rcases hgA with e | e; exact (by rw [e]; exact HNEb.out); have h1 := heap_lt HXb.out; have h2 := HB6A.out.size; exact (fun e2 => by omega)); have HQA := Lib.hid hqA; have HXA := Lib.hid hxA; have HNEA := Lib.hid hneA; have cA := cell0 hxA; have cB := cell1 hxA; clear htA hfA hgA hqA hxA hneA hw6A ha6A))))
                have hlnA : (r ++ nbrs x (es.take j) ++ [eb]).length = ln + 1 := by rw [List.length_append, List.length_singleton, HLNb.out]
                have HLNA := Lib.hid hlnA
                clear hlnA
                have hlenA : ln + 1 ≤ 100000000 := by omega
                rw [_root_.Go.rounds_succ]
                have hb6B : Below wA.heap.size wA (wA.alloc (.cells #[.int .i64 ea] 3)) := (Below.refl _ _).alloc (Nat.le_refl _) _
                have hc6B : (wA.alloc (.cells #[.int .i64 ea] 3)).cell? ⟨wA.heap.size, 0, none⟩ = some (.int .i64 ea) := by unfold World.cell?; rw [heap_alloc_new]; rfl
                have hq6B := (HQA.out.below hb6B).que
                obtain ⟨w6B, hw6B⟩ : ∃ w6B, wA.alloc (.cells #[.int .i64 ea] 3) = w6B := ⟨_, rfl⟩
                obtain ⟨a6B, ha6B⟩ : ∃ a6B, wA.heap.size = a6B := ⟨_, rfl⟩
                rw [hw6B] at hb6B hc6B hq6B
                rw [ha6B] at hc6B
                have HB6B := Lib.hid hb6B
                have HC6B := Lib.hid hc6B
                have HQ6B := Lib.hid hq6B
                clear hb6B hc6B hq6B
                go_wp2_with (first | (rw [hw6B]) | (rw [ha6B]) | (at_builtin; go_must ((refine wpList_append_q (T := 3) (t := 27) Try.underlying27 HI0.out HZ0.out HZ1.out HZ2.out rfl rfl (.tmp 41) (.tmp 46) rfl HQ6B.out HLNA.out (by omega) rfl ⟨a6B, 0, none⟩ 1 _ rfl HC6B.out ?_; intro oB pB gB wB htB hfB hgB; have hqB := HQA.out.append HB6B.out htB hfB hgB; have hxB : wB.heap[bk]? = some (.cells #[.int .i64 ea, .int .i64 eb] 26 (0, 0)) := hfB.at_ ((HB6B.out.block _ (heap_lt HXA.out)).trans HXA.out) (fun e => HNEA.out e.symm); have hneB : gB ≠ bk := (by rcases hgB with e | e; exact (by rw [e]; exact HNEA.out); have h1 := heap_lt HXA.out; have h2 := HB6B.out.size; exact (fun e2 => by omega)); have HQB := Lib.hid hqB; have HXB := Lib.hid hxB; have HNEB := Lib.hid hneB; have cA := cell0 hxB; have cB := cell1 hxB; clear htB hfB hgB hqB hxB hneB hw6B ha6B))))
                rw [_root_.Go.rounds_succ]
                go_wp2_with fail
                have hnb : r ++ nbrs x (es.take j) ++ [eb] ++ [ea] = r ++ nbrs x (es.take (j + 1)) := by
                  have e1 : ea = x := by simpa using hA
                  have e2 : eb = x := by simpa using hB
                  rw [nbrs_take HEJ.out]
                  simp only [if_pos e1, if_pos e2]
                  simp
                have hqq := HQB.out
                rw [hnb] at hqq
                have HQQ := Lib.hid hqq
                clear hqq hnb
                go_roundg (gk - 1)
                case measure => have := HGJ.out; omega
                case rel => exact ⟨j + 1, _, ⟨by rw [HM.out]; omega, by go_num, by have := HGJ.out; rw [HM.out]; omega, HQQ.out⟩⟩
            · obtain rfl : j = M := by omega
              have hall : r ++ nbrs x (es.take j) = r ++ nbrs x es := by rw [List.take_of_length_le (by rw [HM.out]; exact Nat.le_refl _)]
              have hs4 := HS3.out
              rw [hall] at hs4
              rw [hall]
              obtain ⟨ln, hln⟩ : ∃ ln, (r ++ nbrs x es).length = ln := ⟨_, rfl⟩
              rw [hln] at hs4
              rw [hln]
              have HLS := Lib.hid hs4
              clear hs4 hall hln
              go_wp2_with fail
              go_roundg (todo es (met ++ [x]) (r ++ nbrs x es))
              case measure => have := HG.out; have := HTM.out; omega
              case rel => exact ⟨met ++ [x], r ++ nbrs x es, g3, ⟨rfl, by have h1 := HSM.out; have h2 := HTM.out; omega, HBM.out, HLS.out⟩⟩
        · subst hoo
          go_wp2_with fail
          obtain ⟨gO, rfl⟩ : ∃ gO : Nat, gO = gk := ⟨_, rfl⟩
          obtain ⟨wo, rfl⟩ : ∃ wo : World, wo = wr := ⟨_, rfl⟩
          go_loopg [6, 29] M (fun gk v u wr => IRel es w (met ++ [x]) r x gk v u wr)
          case atStart => exact ⟨0, g, ⟨Nat.zero_le _, rfl, by rw [HM.out]; rfl, by rw [show r ++ nbrs x (es.take 0) = r from by simp [nbrs]]; exact HS2.out⟩⟩
          case round =>
            obtain ⟨j, g3, hj, rfl, hgj, hs3⟩ := hrel
            rw [HM.out] at hj hgj
            have HGJ := Lib.hid hgj
            have HS3 := Lib.hid hs3
            clear hgj hs3 HS2 hl1' hst'
            obtain ⟨off3, cap3, cur3, rfl, _⟩ := HS3.out.que
            by_cases hlt : j < M
            · have hltI : (j : Int) < (M : Int) := by omega
              have hjl : j < es.length := by rw [HM.out]; exact hlt
              obtain ⟨⟨ea, eb⟩, hej⟩ : ∃ e, es[j]? = some e := ⟨_, List.getElem?_eq_getElem hjl⟩
              obtain ⟨ad, rfl, k0, k1⟩ := HE.out j _ hej
              have m0 := pw_below HS3.out.bel k0
              have m1 := pw_below HS3.out.bel k1
              have HEJ := Lib.hid hej
              obtain ⟨wb, hwb⟩ : ∃ wb, wr.alloc (.cells #[.int .i64 ea, .int .i64 eb] 26) = wb := ⟨_, rfl⟩
              obtain ⟨bk, hbk⟩ : ∃ bk, wr.heap.size = bk := ⟨_, rfl⟩
              have hbb : Below wr.heap.size wr wb := by rw [← hwb]; exact (Below.refl _ _).alloc (Nat.le_refl _) _
              have hxb : wb.heap[bk]? = some (.cells #[.int .i64 ea, .int .i64 eb] 26 (0, 0)) := by rw [← hwb, ← hbk]; exact heap_alloc_new _ _
              have HNEb := Lib.hid (show g3 ≠ bk from by have := HS3.out.que.lt; omega)
              have HXb := Lib.hid hxb
              have cA := cell0 hxb
              have cB := cell1 hxb
              obtain ⟨ln, hln⟩ : ∃ ln, (r ++ nbrs x (es.take j)).length = ln := ⟨_, rfl⟩
              have hlenb : (r ++ nbrs x (es.take j)).length ≤ 100000000 - 1 := by
                have h1 := nbrs_len x (es.take j)
                have h2 : (es.take j).length ≤ M := by rw [List.length_take]; omega
                have h3 := HSM.out
                have h4 : r.length ≤ todo es met (x :: r) := by unfold todo; rw [List.length_cons]; omega
                have h5 : (1 + 2 * es.length) * (2 * es.length + 1) ≤ (1 + 2 * 1000) * (2 * 1000 + 1) := by
                  have : es.length ≤ 1000 := by rw [HM.out]; exact hl
                  exact Nat.mul_le_mul (by omega) (by omega)
                rw [List.length_append]
                omega
              have hqb := HS3.out.below hbb
              rw [hln] at hqb hlenb
              rw [hln]
              have HQb := Lib.hid hqb
              have HLNb := Lib.hid hln
              clear hbb hxb hej k0 k1 hln hqb
              cases hea : (ea == x) <;> cases heb : (eb == x)
              · -- false false
                have hA : (ea == x) = false := hea
                have hB : (eb == x) = false := heb
                go_wp2_with (first | (rw [hwb]))
                refine wp_loop_rounds 3 ?_
                rw [_root_.Go.rounds_succ]
                go_wp2_with fail
                rw [_root_.Go.rounds_succ]
                go_wp2_with fail
                rw [_root_.Go.rounds_succ]
                go_wp2_with fail
                have hnb : r ++ nbrs x (es.take j) = r ++ nbrs x (es.take (j + 1)) := by
                  have e1 : ¬ ea = x := by simpa using hA
                  have e2 : ¬ eb = x := by simpa using hB
                  rw [nbrs_take HEJ.out]
                  simp only [if_neg e1, if_neg e2]
                  simp
                have hqq := HQb.out
                rw [hnb] at hqq
                have HQQ := Lib.hid hqq
                clear hqq hnb
                go_roundg (gk - 1)
                case measure => have := HGJ.out; omega
                case rel => exact ⟨j + 1, _, ⟨by rw [HM.out]; omega, by go_num, by have := HGJ.out; rw [HM.out]; omega, HQQ.out⟩⟩
              · -- false true
                have hA : (ea == x) = false := hea
                have hB : (eb == x) = true := heb
                go_wp2_with (first | (rw [hwb]))
                refine wp_loop_rounds 3 ?_
                rw [_root_.Go.rounds_succ]
                go_wp2_with fail
                rw [_root_.Go.rounds_succ]
                have hb6B : Below wb.heap.size wb (wb.alloc (.cells #[.int .i64 ea] 3)) := (Below.refl _ _).alloc (Nat.le_refl _) _
                have hc6B : (wb.alloc (.cells #[.int .i64 ea] 3)).cell? ⟨wb.heap.size, 0, none⟩ = some (.int .i64 ea) := by unfold World.cell?; rw [heap_alloc_new]; rfl
                have hq6B := (HQb.out.below hb6B).que
                obtain ⟨w6B, hw6B⟩ : ∃ w6B, wb.alloc (.cells #[.int .i64 ea] 3) = w6B := ⟨_, rfl⟩
                obtain ⟨a6B, ha6B⟩ : ∃ a6B, wb.heap.size = a6B := ⟨_, rfl⟩
                rw [hw6B] at hb6B hc6B hq6B
                rw [ha6B] at hc6B
                have HB6B := Lib.hid hb6B
                have HC6B := Lib.hid hc6B
                have HQ6B := Lib.hid hq6B
                clear hb6B hc6B hq6B
                go_wp2_with (first | (rw [hw6B]) | (rw [ha6B]) | (at_builtin; go_must ((refine wpList_append_q (T := 3) (t := 27) Try.underlying27 HI0.out HZ0.out HZ1.out HZ2.out rfl rfl (.tmp 41) (.tmp 46) rfl HQ6B.out HLNb.out (by omega) rfl ⟨a6B, 0, none⟩ 1 _ rfl HC6B.out ?_; intro oB pB gB wB htB hfB hgB; have hqB := HQb.out.append HB6B.out htB hfB hgB; have hxB : wB.heap[bk]? = some (.cells #[.int .i64 ea, .int .i64 eb] 26 (0, 0)) := hfB.at_ ((HB6B.out.block _ (heap_lt HXb.out)).trans HXb.out) (fun e => HNEb.out e.symm); have hneB : gB ≠ bk := (by rcases hgB with e | e; exact (by rw [e]; exact HNEb.out); have h1 := heap_lt HXb.out; have h2 := HB6B.out.size; exact (fun e2 => by omega)); have HQB := Lib.hid hqB; have HXB := Lib.hid hxB; have HNEB := Lib.hid hneB; have cA := cell0 hxB; have cB := cell1 hxB; clear htB hfB hgB hqB hxB hneB hw6B ha6B))))
                rw [_root_.Go.rounds_succ]
                go_wp2_with fail
                have hnb : r ++ nbrs x (es.take j) ++ [ea] = r ++ nbrs x (es.take (j + 1)) := by
                  have e1 : ¬ ea = x := by simpa using hA
                  have e2 : eb = x := by simpa using hB
                  rw [nbrs_take HEJ.out]
                  simp only [if_neg e1, if_pos e2]
                  simp
                have hqq := HQB.out
                rw [hnb] at hqq
                have HQQ := Lib.hid hqq
                clear hqq hnb
                go_roundg (gk - 1)
                case measure => have := HGJ.out; omega
                case rel => exact ⟨j + 1, _, ⟨by rw [HM.out]; omega, by go_num, by have := HGJ.out; rw [HM.out]; omega, HQQ.out⟩⟩
              · -- true false
                have hA : (ea == x) = true := hea
                have hB : (eb == x) = false := heb
                go_wp2_with (first | (rw [hwb]))
                refine wp_loop_rounds 3 ?_
                rw [_root_.Go.rounds_succ]
                have hb6A : Below wb.heap.size wb (wb.alloc (.cells #[.int .i64 eb] 3)) := (Below.refl _ _).alloc (Nat.le_refl _) _
                have hc6A : (wb.alloc (.cells #[.int .i64 eb] 3)).cell? ⟨wb.heap.size, 0, none⟩ = some (.int .i64 eb) := by unfold World.cell?; rw [heap_alloc_new]; rfl
                have hq6A := (HQb.out.below hb6A).que
                obtain ⟨w6A, hw6A⟩ : ∃ w6A, wb.alloc (.cells #[.int .i64 eb] 3) = w6A := ⟨_, rfl⟩
                obtain ⟨a6A, ha6A⟩ : ∃ a6A, wb.heap.size = a6A := ⟨_, rfl⟩
                rw [hw6A] at hb6A hc6A hq6A
                rw [ha6A] at hc6A
                have HB6A := Lib.hid hb6A
                have HC6A := Lib.hid hc6A
                have HQ6A := Lib.hid hq6A
                clear hb6A hc6A hq6A
                go_wp2_with (first | (rw [hw6A]) | (rw [ha6A]) | (at_builtin; go_must ((refine wpList_append_q (T := 3) (t := 27) Try.underlying27 HI0.out HZ0.out HZ1.out HZ2.out rfl rfl (.tmp 41) (.tmp 46) rfl HQ6A.out HLNb.out (by omega) rfl ⟨a6A, 0, none⟩ 1 _ rfl HC6A.out ?_; intro oA pA gA wA htA hfA hgA; have hqA := HQb.out.append HB6A.out htA hfA hgA; have hxA : wA.heap[bk]? = some (.cells #[.int .i64 ea, .int .i64 eb] 26 (0, 0)) := hfA.at_ ((HB6A.out.block _ (heap_lt HXb.out)).trans HXb.out) (fun e => HNEb.out e.symm); have hneA : gA ≠ bk := (by rcases hgA with e | e; exact (by rw [e]; exact HNEb.out); have h1 := heap_lt HXb.out; have h2 := HB6A.out.size; exact (fun e2 => by omega)); have HQA := Lib.hid hqA; have HXA := Lib.hid hxA; have HNEA := Lib.hid hneA; have cA := cell0 hxA; have cB := cell1 hxA; clear htA hfA hgA hqA hxA hneA hw6A ha6A))))
                have hlnA : (r ++ nbrs x (es.take j) ++ [eb]).length = ln + 1 := by rw [List.length_append, List.length_singleton, HLNb.out]
                have HLNA := Lib.hid hlnA
                clear hlnA
                have hlenA : ln + 1 ≤ 100000000 := by omega
                rw [_root_.Go.rounds_succ]
                go_wp2_with fail
                rw [_root_.Go.rounds_succ]
                go_wp2_with fail
                have hnb : r ++ nbrs x (es.take j) ++ [eb] = r ++ nbrs x (es.take (j + 1)) := by
                  have e1 : ea = x := by simpa using hA
                  have e2 : ¬ eb = x := by simpa using hB
                  rw [nbrs_take HEJ.out]
                  simp only [if_pos e1, if_neg e2]
                  simp
                have hqq := HQA.out
                rw [hnb] at hqq
                have HQQ := Lib.hid hqq
                clear hqq hnb
                go_roundg (gk - 1)
                case measure => have := HGJ.out; omega
                case rel => exact ⟨j + 1, _, ⟨by rw [HM.out]; omega, by go_num, by have := HGJ.out; rw [HM.out]; omega, HQQ.out⟩⟩
              · -- true true
                have hA : (ea == x) = true := hea
                have hB : (eb == x) = true := heb
                go_wp2_with (first | (rw [hwb]))
                refine wp_loop_rounds 3 ?_
                rw [_root_.Go.rounds_succ]
                have hb6A : Below wb.heap.size wb (wb.alloc (.cells #[.int .i64 eb] 3)) := (Below.refl _ _).alloc (Nat.le_refl _) _
                have hc6A : (wb.alloc (.cells #[.int .i64 eb] 3)).cell? ⟨wb.heap.size, 0, none⟩ = some (.int .i64 eb) := by unfold World.cell?; rw [heap_alloc_new]; rfl
                have hq6A := (HQb.out.below hb6A).que
                obtain ⟨w6A, hw6A⟩ : ∃ w6A, wb.alloc (.cells #[.int .i64 eb] 3) = w6A := ⟨_, rfl⟩
                obtain ⟨a6A, ha6A⟩ : ∃ a6A, wb.heap.size = a6A := ⟨_, rfl⟩
                rw [hw6A] at hb6A hc6A hq6A
                rw [ha6A] at hc6A
                have HB6A := Lib.hid hb6A
                have HC6A := Lib.hid hc6A
                have HQ6A := Lib.hid hq6A
                clear hb6A hc6A hq6A
                go_wp2_with (first | (rw [hw6A]) | (rw [ha6A]) | (at_builtin; go_must ((refine wpList_append_q (T := 3) (t := 27) Try.underlying27 HI0.out HZ0.out HZ1.out HZ2.out rfl rfl (.tmp 41) (.tmp 46) rfl HQ6A.out HLNb.out (by omega) rfl ⟨a6A, 0, none⟩ 1 _ rfl HC6A.out ?_; intro oA pA gA wA htA hfA hgA; have hqA := HQb.out.append HB6A.out htA hfA hgA; have hxA : wA.heap[bk]? = some (.cells #[.int .i64 ea, .int .i64 eb] 26 (0, 0)) := hfA.at_ ((HB6A.out.block _ (heap_lt HXb.out)).trans HXb.out) (fun e => HNEb.out e.symm); have hneA : gA ≠ bk := (by rcases hgA with e | e; exact (by rw [e]; exact HNEb.out); have h1 := heap_lt HXb.out; have h2 := HB6A.out.size; exact (fun e2 => by omega)); have HQA := Lib.hid hqA; have HXA := Lib.hid hxA; have HNEA := Lib.hid hneA; have cA := cell0 hxA; have cB := cell1 hxA; clear htA hfA hgA hqA hxA hneA hw6A ha6A))))
                have hlnA : (r ++ nbrs x (es.take j) ++ [eb]).length = ln + 1 := by rw [List.length_append, List.length_singleton, HLNb.out]
                have HLNA := Lib.hid hlnA
                clear hlnA
                have hlenA : ln + 1 ≤ 100000000 := by omega
                rw [_root_.Go.rounds_succ]
                have hb6B : Below wA.heap.size wA (wA.alloc (.cells #[.int .i64 ea] 3)) := (Below.refl _ _).alloc (Nat.le_refl _) _
                have hc6B : (wA.alloc (.cells #[.int .i64 ea] 3)).cell? ⟨wA.heap.size, 0, none⟩ = some (.int .i64 ea) := by unfold World.cell?; rw [heap_alloc_new]; rfl
                have hq6B := (HQA.out.below hb6B).que
                obtain ⟨w6B, hw6B⟩ : ∃ w6B, wA.alloc (.cells #[.int .i64 ea] 3) = w6B := ⟨_, rfl⟩
                obtain ⟨a6B, ha6B⟩ : ∃ a6B, wA.heap.size = a6B := ⟨_, rfl⟩
                rw [hw6B] at hb6B hc6B hq6B
                rw [ha6B] at hc6B
                have HB6B := Lib.hid hb6B
                have HC6B := Lib.hid hc6B
                have HQ6B := Lib.hid hq6B
                clear hb6B hc6B hq6B
                go_wp2_with (first | (rw [hw6B]) | (rw [ha6B]) | (at_builtin; go_must ((refine wpList_append_q (T := 3) (t := 27) Try.underlying27 HI0.out HZ0.out HZ1.out HZ2.out rfl rfl (.tmp 41) (.tmp 46) rfl HQ6B.out HLNA.out (by omega) rfl ⟨a6B, 0, none⟩ 1 _ rfl HC6B.out ?_; intro oB pB gB wB htB hfB hgB; have hqB := HQA.out.append HB6B.out htB hfB hgB; have hxB : wB.heap[bk]? = some (.cells #[.int .i64 ea, .int .i64 eb] 26 (0, 0)) := hfB.at_ ((HB6B.out.block _ (heap_lt HXA.out)).trans HXA.out) (fun e => HNEA.out e.symm); have hneB : gB ≠ bk := (by rcases hgB with e | e; exact (by rw [e]; exact HNEA.out); have h1 := heap_lt HXA.out; have h2 := HB6B.out.size; exact (fun e2 => by omega)); have HQB := Lib.hid hqB; have HXB := Lib.hid hxB; have HNEB := Lib.hid hneB; have cA := cell0 hxB; have cB := cell1 hxB; clear htB hfB hgB hqB hxB hneB hw6B ha6B))))
                rw [_root_.Go.rounds_succ]
                go_wp2_with fail
                have hnb : r ++ nbrs x (es.take j) ++ [eb] ++ [ea] = r ++ nbrs x (es.take (j + 1)) := by
                  have e1 : ea = x := by simpa using hA
                  have e2 : eb = x := by simpa using hB
                  rw [nbrs_take HEJ.out]
                  simp only [if_pos e1, if_pos e2]
                  simp
                have hqq := HQB.out
                rw [hnb] at hqq
                have HQQ := Lib.hid hqq
                clear hqq hnb
                go_roundg (gk - 1)
                case measure => have := HGJ.out; omega
                case rel => exact ⟨j + 1, _, ⟨by rw [HM.out]; omega, by go_num, by have := HGJ.out; rw [HM.out]; omega, HQQ.out⟩⟩
            · obtain rfl : j = M := by omega
              have hall : r ++ nbrs x (es.take j) = r ++ nbrs x es := by rw [List.take_of_length_le (by rw [HM.out]; exact Nat.le_refl _)]
              have hs4 := HS3.out
              rw [hall] at hs4
              rw [hall]
              obtain ⟨ln, hln⟩ : ∃ ln, (r ++ nbrs x es).length = ln := ⟨_, rfl⟩
              rw [hln] at hs4
              rw [hln]
              have HLS := Lib.hid hs4
              clear hs4 hall hln
              go_wp2_with fail
              go_roundg (todo es (met ++ [x]) (r ++ nbrs x es))
              case measure => have := HG.out; have := HTM.out; omega
              case rel => exact ⟨met ++ [x], r ++ nbrs x es, g3, ⟨rfl, by have h1 := HSM.out; have h2 := HTM.out; omega, HBM.out, HLS.out⟩⟩

end Go.Proofs.Ytifdfhonhphojaa.Rw
