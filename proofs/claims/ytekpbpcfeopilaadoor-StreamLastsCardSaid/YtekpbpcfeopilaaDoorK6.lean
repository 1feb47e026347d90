/- A disk without a trap loses nothing; what a stream's calls leave then. Plain; no program in sight; The streams' wakes. -/
import Derived.Test.YtekpbpcfeopilaaDoorK5
import Derived.Test.YtekpbpcfeopilaaDoorK2

set_option linter.unusedSimpArgs false
set_option linter.unusedVariables false

/-! A disk without a trap loses nothing; what a stream's calls leave then. Plain; no program in sight. -/
namespace Go.Proofs.YtekpbpcfeopilaaDoor.Cm
open Go Go.Proofs.YtekpbpcfeopilaaDoor.Dm Go.Proofs.YtekpbpcfeopilaaDoor.Da Go.Proofs.YtekpbpcfeopilaaDoor.Df Go.Proofs.YtekpbpcfeopilaaDoor.Dg Go.Proofs.YtekpbpcfeopilaaDoor.Dh Go.Proofs.YtekpbpcfeopilaaDoor.Di Go.Proofs.YtekpbpcfeopilaaDoor.Dj Go.Proofs.YtekpbpcfeopilaaDoor.Dk Go.Proofs.YtekpbpcfeopilaaDoor.Dl Go.Proofs.YtekpbpcfeopilaaDoor.Ds Go.Proofs.YtekpbpcfeopilaaDoor.Areas Go.Proofs.YtekpbpcfeopilaaDoor.Lw Go.Proofs.YtekpbpcfeopilaaDoor.Fp Go.Proofs.YtekpbpcfeopilaaDoor.Tp Go.Proofs.YtekpbpcfeopilaaDoor.Sp Go.Proofs.YtekpbpcfeopilaaDoor.Sm Go.Proofs.YtekpbpcfeopilaaDoor.Fz Go.Proofs.YtekpbpcfeopilaaDoor.Hd Go.Proofs.YtekpbpcfeopilaaDoor.St Go.Proofs.YtekpbpcfeopilaaDoor.Ap Go.Proofs.YtekpbpcfeopilaaDoor.Rs

theorem fails_calm {m : MDisk} (h : m.tleft = 0) (n : Int) : failsM m n = false := by unfold failsM; simp [h]
theorem tick_calm {m : MDisk} (h : m.tleft = 0) (n : Int) : tickM m n = m := by unfold tickM; rw [if_pos (.inl h)]
theorem write_calm {m : MDisk} (h : m.tleft = 0) (n s : Int) (c : ByteArray) : (writeM m n s c).tleft = 0 ∧ writeE m n s c ≠ 11 ∨ m.off = true := by
  by_cases ho : m.off = true
  · exact .inr ho
  · left
    have hfe : (enqM m n.toNat (s, c)).tleft = 0 := h
    constructor
    · unfold writeM
      split
      · simp only [fails_calm hfe, tick_calm hfe]
        exact hfe
      · exact h
    · unfold writeE
      rw [fails_calm h]
      unfold findM
      rw [if_neg ho]
      (repeat' split) <;> simp_all
theorem flush_calm {m : MDisk} (h : m.tleft = 0) (ho : m.off = false) (n : Int) : (flushM m n).tleft = 0 ∧ flushE m n ≠ 11 := by
  unfold flushM flushE
  rw [fails_calm h, tick_calm h, ho]
  constructor
  · (repeat' split) <;> simp_all [setM]
  · (repeat' split) <;> simp_all
theorem layW_calm {k : Nat} : ∀ (cs : List ByteArray) (m : MDisk) (b : Int), m.tleft = 0 → m.off = false → (∀ m2 : MDisk, m2.tleft = 0 → m2.off = false → ∀ s c, (writeM m2 k s c).off = false) → (layW k m b cs).2.tleft = 0 ∧ (layW k m b cs).1 ≠ 11 := by
  intro cs
  induction cs with
  | nil => intro m b h ho _; exact flush_calm h ho k
  | cons c r ih =>
    intro m b h ho hw
    have h1 := write_calm h k b c
    rw [ho] at h1
    simp only [Bool.false_eq_true, or_false] at h1
    by_cases he : writeE m k b c = 0
    · rw [layW_ok he]
      exact ih _ _ h1.1 (hw m h ho b c) hw
    · rw [layW_no he]
      exact h1
theorem write_on {m : MDisk} (h : m.tleft = 0) (ho : m.off = false) (n s : Int) (c : ByteArray) : (writeM m n s c).off = false := by
  have hfe : (enqM m n.toNat (s, c)).tleft = 0 := h
  unfold writeM
  split
  · simp only [fails_calm hfe, tick_calm hfe]
    exact ho
  · exact ho
theorem lay_calm {k : Nat} (cs : List ByteArray) (m : MDisk) (b : Int) (h : m.tleft = 0) (ho : m.off = false) : (layW k m b cs).2.tleft = 0 ∧ (layW k m b cs).1 ≠ 11 :=
  layW_calm cs m b h ho (fun _ h' ho' s c => write_on h' ho' k s c)

theorem flush_on {m : MDisk} (h : m.tleft = 0) (ho : m.off = false) (n : Int) : (flushM m n).off = false := by
  unfold flushM
  rw [fails_calm h, tick_calm h, ho]
  (repeat' split) <;> simp_all [setM]
theorem lay_on {k : Nat} : ∀ (cs : List ByteArray) (m : MDisk) (b : Int), m.tleft = 0 → m.off = false → (layW k m b cs).2.off = false := by
  intro cs
  induction cs with
  | nil => intro m b h ho; exact flush_on h ho k
  | cons c r ih =>
    intro m b h ho
    have h1 := write_calm h k b c
    rw [ho] at h1
    simp only [Bool.false_eq_true, or_false] at h1
    by_cases he : writeE m k b c = 0
    · rw [layW_ok he]
      exact ih _ _ h1.1 (write_on h ho k b c)
    · rw [layW_no he]
      exact write_on h ho k b c
/-- A stream on a disk without a trap, and its records. -/
structure Good (m : MDisk) (k : Nat) (L : List ByteArray) (s : MSt) (l : List ByteArray) : Prop where
  live : Live m k L []
  calm : m.tleft = 0
  rg : s.rg = k
  h : s.h = sizeH L.length
  holds : Holds L s.h s.g s.half s.data
  data : s.data.data.toList = dataOf sumN l
  fine : ∀ b ∈ l, okB b
  sound : s.broken = false
  fits : s.data.size < 55 * s.h

theorem resE_fine : ∀ {l : List ByteArray}, (∀ b ∈ l, okB b) → resE l = 0 := by
  intro l
  induction l with
  | nil => intro _; rfl
  | cons b l ih =>
    intro h
    have hb := h b (List.mem_cons_self ..)
    have hp : (putS b).2 = 0 := by
      unfold putS
      rw [if_neg (by have := hb.1; omega), if_neg (by have := hb.2; omega)]
    rw [resE, if_pos hp]
    exact ih (fun x hx => h x (List.mem_cons_of_mem _ hx))

theorem res_calm {m : MDisk} {k : Nat} {L : List ByteArray} {s : MSt} {l : List ByteArray} (hL : Live m k L []) (hc : m.tleft = 0) (hrg : s.rg = k) (hh : s.h = sizeH L.length) (hlen : 1 + 2 * s.h ≤ L.length) (hh2 : s.h ≤ 65535) (hg : genOf L s.h = s.g) (hhf : halfOf L = s.half) (hb : s.broken = false) (hf : ∀ b ∈ l, okB b)
    (hd : (dataOf sumN l).length < 55 * s.h) (hg2 : s.g < 281474976710655) :
    (resR m s l).1 = 0 ∧ (resR m s l).2.1.g = s.g + 1 ∧ (resR m s l).2.1.b = s.b ∧ (resR m s l).2.1.h = s.h ∧ ∃ L', L'.length = L.length ∧ Good (resR m s l).2.2 k L' (resR m s l).2.1 l := by
  have hE := resE_fine hf
  have hds : (mkB (dataOf sumN l)).size < 55 * s.h := by rw [size_mkB]; exact hd
  have ho := reset_out sumN hL hlen hg hg2 hhf hds hh2
  have c1 := lay_calm (k := k) (splitL ((s.g + 1 : Nat) : Int) ((mkB (dataOf sumN l)).size / 55 + 1) 0 (mkB (dataOf sumN l))) m ((1 + (1 - s.half) * s.h : Nat) : Int) hc hL.on
  have hcalm : (resetW k s.h s.g s.half m (mkB (dataOf sumN l))).1 ≠ 11 ∧ ((resetW k s.h s.g s.half m (mkB (dataOf sumN l))).1 = 0 → (resetW k s.h s.g s.half m (mkB (dataOf sumN l))).2.tleft = 0) := by
    unfold resetW
    split
    · rename_i h0
      have hon : (layW k m ((1 + (1 - s.half) * s.h : Nat) : Int) (splitL ((s.g + 1 : Nat) : Int) ((mkB (dataOf sumN l)).size / 55 + 1) 0 (mkB (dataOf sumN l)))).2.off = false := by
        rcases lay_on (splitL ((s.g + 1 : Nat) : Int) ((mkB (dataOf sumN l)).size / 55 + 1) 0 (mkB (dataOf sumN l))) m ((1 + (1 - s.half) * s.h : Nat) : Int) hc hL.on (k := k) with h
        exact h
      exact ⟨(lay_calm _ _ _ c1.1 hon).2, fun _ => (lay_calm _ _ _ c1.1 hon).1⟩
    · exact ⟨c1.2, fun _ => c1.1⟩
  rcases ho with ⟨e0, L', hl', hlen', hhold⟩ | ⟨e11, _⟩
  · have hr : resR m s l = (0, { s with g := s.g + 1, half := 1 - s.half, data := mkB (dataOf sumN l) }, (resetW k s.h s.g s.half m (mkB (dataOf sumN l))).2) := by
      unfold resR
      rw [if_neg (by rw [hb]; decide), if_neg (by rw [hE]; decide), if_neg (by omega), hrg, if_pos e0]
    rw [hr]
    exact ⟨rfl, rfl, rfl, rfl, L', hlen', ⟨hl', hcalm.2 e0, hrg, by show s.h = _; rw [hlen', hh], hhold, data_mkB _, hf, hb, hds⟩⟩
  · exact absurd e11 hcalm.1

theorem frame_size (b : ByteArray) : (mkB (frameL sumN (toL b))).size = 6 + b.size := by rw [size_mkB, frameL_length, toL_length]
theorem app_calm {m : MDisk} {k : Nat} {L : List ByteArray} {s : MSt} {l : List ByteArray} (G : Good m k L s l) (hh2 : s.h ≤ 65535) (body : ByteArray) :
    (appR m s body = ((putS body).2, s, m) ∧ (putS body).2 ≠ 0) ∨
    (appR m s body = (12, s, m) ∧ (putS body).2 = 0 ∧ (s.h : Int) * 55 - 1 - (s.data.size : Int) < 6 + (body.size : Int)) ∨
    ((appR m s body).1 = 0 ∧ (putS body).2 = 0 ∧ ¬ (s.h : Int) * 55 - 1 - (s.data.size : Int) < 6 + (body.size : Int) ∧ (appR m s body).2.1.g = s.g ∧ (appR m s body).2.1.b = s.b ∧ (appR m s body).2.1.h = s.h ∧ (appR m s body).2.1.data.size = s.data.size + (6 + body.size) ∧
      ∃ L', L'.length = L.length ∧ Good (appR m s body).2.2 k L' (appR m s body).2.1 (l ++ [body])) := by
  by_cases h2 : (putS body).2 = 0
  · obtain ⟨hok, hp⟩ := put_fine h2
    have hfs : ((putS body).1.size : Int) = 6 + (body.size : Int) := by rw [hp, frame_size]; omega
    by_cases h3 : (s.h : Int) * 55 - 1 - (s.data.size : Int) < 6 + (body.size : Int)
    · refine .inr (.inl ⟨?_, h2, h3⟩)
      unfold appR
      rw [if_neg (by rw [G.sound]; decide), if_neg (fun h => h h2), if_pos (by rw [hfs]; exact h3)]
    · refine .inr (.inr ?_)
      have hsz : (s.data ++ (putS body).1).size = s.data.size + (6 + body.size) := by rw [ByteArray.size_append]; omega
      have hpre : s.data.data.toList <+: (s.data ++ (putS body).1).data.toList := by
        rw [ByteArray.data_append, Array.toList_append]
        exact List.prefix_append _ _
      have hfit : (s.data ++ (putS body).1).size < 55 * s.h := by omega
      have ho := append_out sumN G.live G.holds hpre hfit hh2
      have hc := lay_calm (k := k) (splitL (s.g : Int) (((s.data ++ (putS body).1).size - 55 * (s.data.size / 55)) / 55 + 1) ((s.data.size / 55 : Nat) : Int) ((s.data ++ (putS body).1).extract (55 * (s.data.size / 55)) (s.data ++ (putS body).1).size)) m ((1 + s.half * s.h + s.data.size / 55 : Nat) : Int) G.calm G.live.on
      rcases ho with ⟨e0, L', hl', hlen', hhold⟩ | ⟨e11, _⟩
      · have hr : appR m s body = (0, { s with data := s.data ++ (putS body).1 }, (appendW k s.h s.g s.half m s.data (s.data ++ (putS body).1)).2) := by
          unfold appR
          rw [if_neg (by rw [G.sound]; decide), if_neg (fun h => h h2), if_neg (by rw [hfs]; exact h3), G.rg, if_pos e0]
        rw [hr]
        refine ⟨rfl, h2, h3, rfl, rfl, rfl, hsz, L', hlen', ⟨hl', hc.1, G.rg, by show s.h = _; rw [hlen', G.h], hhold, ?_, ?_, G.sound, hfit⟩⟩
        · show (s.data ++ (putS body).1).data.toList = _
          rw [ByteArray.data_append, Array.toList_append, G.data, dataOf_snoc, hp, data_mkB]
        · intro b hb
          rcases List.mem_append.1 hb with hb | hb
          · exact G.fine b hb
          · rw [List.mem_singleton.1 hb]; exact hok
      · exact absurd e11 hc.2
  · refine .inl ⟨?_, h2⟩
    unfold appR
    rw [if_neg (by rw [G.sound]; decide), if_pos h2]

theorem good_rec {m : MDisk} {k : Nat} {L : List ByteArray} {s : MSt} {l : List ByteArray} (G : Good m k L s l) : recOf sumN L (sizeH L.length) = l ∧ genOf L (sizeH L.length) = s.g ∧ halfOf L = s.half := by
  rw [← G.h]
  refine ⟨?_, G.holds.genOf, G.holds.halfOf⟩
  rw [G.holds.recOf, G.data]
  have := recs_frames hs (l := l) G.fine (getL_nil (sm := sumN))
  rwa [List.append_nil] at this
theorem recOf_fine (L : List ByteArray) (h : Nat) : ∀ b ∈ recOf sumN L h, okB b := by
  intro b hb
  unfold recOf at hb
  split at hb
  · exact (recs_spec _).2 b hb
  · cases hb
theorem crash_live {m : MDisk} {k : Nat} {L : List ByteArray} (h : Live m k L []) (keep : List Int) : Live (crashM keep m) k L [] ∧ (crashM keep m).tleft = 0 := by
  unfold crashM
  rw [if_neg (by rw [h.on]; decide)]
  exact ⟨⟨rfl, lose_reg h.reg keep⟩, rfl⟩

/-- Opening, without a trap. -/
theorem open_calm {m : MDisk} {k : Nat} {L : List ByteArray} (b : Nat) (hL : Live m k L []) (hc : m.tleft = 0) (h0 : 0 < sizeH L.length) (hd : (dataOf sumN (recOf sumN L (sizeH L.length))).length < 55 * sizeH L.length) (hg : genOf L (sizeH L.length) < 281474976710655) :
    (resR m (Op.preS b k L) (recOf sumN L (sizeH L.length))).1 = 0 ∧ (resR m (Op.preS b k L) (recOf sumN L (sizeH L.length))).2.1.b = b ∧ ((resR m (Op.preS b k L) (recOf sumN L (sizeH L.length))).2.1.g : Int) = genOf L (sizeH L.length) + 1 ∧ (resR m (Op.preS b k L) (recOf sumN L (sizeH L.length))).2.1.h = sizeH L.length ∧
    ∃ L', L'.length = L.length ∧ Good (resR m (Op.preS b k L) (recOf sumN L (sizeH L.length))).2.2 k L' (resR m (Op.preS b k L) (recOf sumN L (sizeH L.length))).2.1 (recOf sumN L (sizeH L.length)) := by
  have hgn := genOf_nn L (sizeH L.length)
  have eh : sizeH L.length = (max 1 (min L.length 4096) - 1) / 2 := rfl
  have := res_calm (s := Op.preS b k L) (l := recOf sumN L (sizeH L.length)) hL hc rfl rfl (by show 1 + 2 * sizeH L.length ≤ _; omega) (by show sizeH L.length ≤ _; omega) (Int.toNat_of_nonneg hgn).symm rfl rfl (recOf_fine _ _) hd (by show (genOf L (sizeH L.length)).toNat < _; omega)
  obtain ⟨h1, h2, h3, h4, h5⟩ := this
  refine ⟨h1, h3, ?_, h4, h5⟩
  rw [h2]
  show (((genOf L (sizeH L.length)).toNat + 1 : Nat) : Int) = _
  omega

/-! A new disk -/
theorem none_head : parseH noneS = (0, 0, false) := by
  unfold parseH
  rw [if_pos (.inl (by decide))]
theorem none_cell : (Pars.parseS noneS).2.2.2 = false := by decide
theorem new_live (n : Nat) (hn : n ≤ 4096) : Live (newM [(n : Int)]) 0 (List.replicate n noneS) [] := by
  refine ⟨rfl, ?_⟩
  unfold newM newR clampN
  simp
  omega
theorem new_rec (n : Nat) (hn : 1 ≤ n) (h : Nat) : recOf sumN (List.replicate n noneS) h = [] ∧ genOf (List.replicate n noneS) h = 0 := by
  have hh : headOf (List.replicate n noneS) = (0, 0, false) := by
    rw [headOf_at (s := noneS) (by rw [List.getElem?_replicate, if_pos (by omega)])]
    exact none_head
  constructor
  · unfold recOf
    rw [hh]
    rfl
  · have h1 := genOf_le (L := List.replicate n noneS) (h := h) (X := 0) (by rw [hh]; exact Int.le_refl _) (fun i s _ _ hs hok => by
      have := List.eq_of_mem_replicate (List.mem_of_getElem? hs)
      rw [this, none_cell] at hok
      cases hok)
    have h2 := genOf_nn (List.replicate n noneS) h
    omega

end Go.Proofs.YtekpbpcfeopilaaDoor.Cm

/-! The streams' wakes. -/
namespace Go.Proofs.YtekpbpcfeopilaaDoor.Ws
open Go Go.RowKit Go.Joins Go.Proofs.YtekpbpcfeopilaaDoorCore Go.Proofs.YtekpbpcfeopilaaDoor.Dm Go.Proofs.YtekpbpcfeopilaaDoor.Dr Go.Proofs.YtekpbpcfeopilaaDoor.Da Go.Proofs.YtekpbpcfeopilaaDoor.Dl Go.Proofs.YtekpbpcfeopilaaDoor.Ds Go.Proofs.YtekpbpcfeopilaaDoor.Dw Go.Proofs.YtekpbpcfeopilaaDoor.Sys Go.Proofs.YtekpbpcfeopilaaDoor.PStrm Go.Proofs.YtekpbpcfeopilaaDoor.Sm Go.Proofs.YtekpbpcfeopilaaDoor.Lw Go.Proofs.YtekpbpcfeopilaaDoor.Fp Go.Proofs.YtekpbpcfeopilaaDoor.Sp Go.Proofs.YtekpbpcfeopilaaDoor.Fz Go.Proofs.YtekpbpcfeopilaaDoor.Hd Go.Proofs.YtekpbpcfeopilaaDoor.St Go.Proofs.YtekpbpcfeopilaaDoor.Ap Go.Proofs.YtekpbpcfeopilaaDoor.Rs Go.Proofs.YtekpbpcfeopilaaDoor.Op Go.Proofs.YtekpbpcfeopilaaDoor.Cm Go.Proofs.YtekpbpcfeopilaaDoorW.PrintWords Go.Proofs.YtekpbpcfeopilaaDoorW.PrintLast Go.Proofs.YtekpbpcfeopilaaDoorW.PrintMore

def aS : ByteArray := ⟨#[97]⟩
theorem put_a : (putS aS).2 = 0 := by unfold putS; rfl
theorem cap5 : stream_Capacity.f 5 = some 109 := by kernel_rfl

/-- What opening a good stream's disk anew, or a new disk, gives. -/
theorem opened {Z : Nat → Prop} {w : World} {ds : List DK} (hD : Dks Z w ds) (i : Nat) {d : DK} (hi : ds[i]? = some d) {k : Nat} {L : List ByteArray} (hL : Live d.m k L []) (hc : d.m.tleft = 0) (hn : L.length ≤ 600) (h0 : 0 < sizeH L.length) (hnd : d.n < 900000)
    (hdt : (dataOf sumN (recOf sumN L (sizeH L.length))).length < 55 * sizeH L.length) (hg : genOf L (sizeH L.length) < 281474976710655) :
    Calls Tryd.prog 21 #[.pointer (some ⟨d.b, 0, none⟩), .int .i64 (k : Int)] w fun e w' => ∃ (sb : Nat) (A : Option Addr) (c : Nat) (Z' : Nat → Prop) (m' : MDisk) (s' : MSt) (L' : List ByteArray) (N' : Nat),
      e = .returned (.tuple #[.pointer (some ⟨sb, 0, none⟩), .slice A (recOf sumN L (sizeH L.length)).length c, .int .i64 0]) ∧ (∀ k, Z k → Z' k) ∧ (∀ k, Z' k → Z k ∨ w.heap.size ≤ k) ∧ w.heap.size ≤ sb ∧ Z' sb ∧ SAt w' sb s' ∧ s'.b = d.b ∧ (s'.g : Int) = genOf L (sizeH L.length) + 1 ∧ s'.h = sizeH L.length ∧
      Kd.R Kd.string 9 w' w.heap.size (fun k => Z' k ∧ k ≠ sb) (.slice A (recOf sumN L (sizeH L.length)).length c) (recOf sumN L (sizeH L.length)) ∧ N' ≤ d.n + 1000 ∧ Dks Z' w' (ds.set i ⟨d.b, m', N'⟩) ∧ Fr (fun k => ¬ Z k) w w' ∧ L'.length = L.length ∧ Cm.Good m' k L' s' (recOf sumN L (sizeH L.length)) := by
  refine (open_all hD i hi hL hn h0 hnd).mono ?_
  intro e w' hp
  obtain ⟨h1, h2, h3, h4, L', h5, h6⟩ := open_calm d.b hL hc h0 hdt hg
  rcases hp with ⟨hne, _⟩ | ⟨_, sb, A, c, Z', he, hcl, hz1, hz2, hsb, hzs, hS, hR, ⟨N', hN', hD'⟩, hF⟩
  · exact absurd h1 hne
  · exact ⟨sb, A, c, Z', _, _, L', N', he, hz1, hz2, hsb, hzs, hS, h2, h3, h4, hR, hN', hD', hF, h5, h6⟩

set_option maxHeartbeats 8000000 in
set_option maxRecDepth 100000 in
theorem wakes_any (w : World) : Calls Tryd.prog 23 #[] w fun e w' => e = .returned (.bool true) ∧ Below w.heap.size w w' := by
  go_enter Tryd.func23, Tryd.ntmps23
  go_wp2_with fail
  have hC := lit_C .i64 w 3 [5] (by decide)
  obtain ⟨w1, hw1⟩ : ∃ w1, w.alloc (.cells (encs (Value.int .i64) [5]).toArray 3) = w1 := ⟨_, rfl⟩
  have hb1 : Below w.heap.size w w1 := by rw [← hw1]; exact (Below.refl _ _).alloc (Nat.le_refl _) _
  rw [hw1] at hC
  have hn := new_z (Dks.nil w1) (some ⟨w.heap.size, 0, none⟩) 1 [5] hC (by decide)
  obtain ⟨b, hb⟩ : ∃ b, w1.heap.size = b := ⟨_, rfl⟩
  rw [hb] at hn
  have HNW := Lib.hid hn
  have HB1 := Lib.hid hb1
  have HBE := Lib.hid hb
  have HWB : Hid (w.heap.size ≤ b) := Lib.hid (by rw [← hb]; exact hb1.size)
  clear hC hn hb1 hb
  change Calls _ _ #[.slice (some ⟨w.heap.size, 0, none⟩) 1 1] (w.alloc (.cells (encs (Value.int .i64) [5]).toArray 3)) _
  rw [hw1]
  refine HNW.out.mono ?_
  rintro e w2 ⟨rfl, hD2, hb2⟩
  rw [List.nil_append] at hD2
  have HD2 := Lib.hid hD2
  have HB2 := Lib.hid (HB1.out.trans (hb2.mono (by rw [← HBE.out]; exact HB1.out.size)))
  have hL0 := new_live 5 (by omega)
  have hr0 := new_rec 5 (by omega) (sizeH (List.replicate 5 noneS).length)
  have e5 : (List.replicate 5 noneS).length = 5 := List.length_replicate ..
  have s5 : sizeH 5 = 2 := by decide
  have ho := opened hD2 0 (d := ⟨b, newM [5], 0⟩) rfl hL0 rfl (by rw [e5]; omega) (by rw [e5, s5]; omega) (by show 0 < 900000; omega) (by rw [hr0.1, e5, s5]; decide) (by rw [hr0.2]; omega)
  rw [hr0.1, hr0.2, e5, s5] at ho
  have HO := Lib.hid ho
  clear hD2 hb2 hL0 hr0 e5 s5 ho HNW hw1
  go_wp2_with fail
  refine HO.out.mono ?_
  rintro e w3 ⟨sb, A, c, Z', m', s', L', N', rfl, hz1, hz2, hsb0, hzs, hS, hsb, hsg, hsh, hR, hN', hD3, hF, hl3, hG⟩
  have hlf := hG.holds.hlf
  have hg1 := hG.holds.g1
  have hg2 := hG.holds.g2
  have hfit := hG.fits
  rw [hsh] at hfit
  have hap := app_any hD3 0 (d := ⟨b, m', N'⟩) rfl hS hzs hsb (by omega) hlf hg1 hg2 (by omega) (by show N' < 900000; have : N' ≤ 0 + 1000 := hN'; omega) aS
  have hac := app_calm hG (by omega) aS
  have hds : s'.data.size = 0 := by
    have := congrArg List.length hG.data
    simpa [dataOf, framesL] using this
  rcases hac with ⟨_, h⟩ | ⟨_, _, h⟩ | ⟨ha1, _, _, ha2, ha3, ha4, ha5, L2, hl2, hG2⟩
  · exact absurd put_a h
  · rw [hds, hsh] at h
    exact absurd h (by decide)
  obtain ⟨⟨E2, s2, m2⟩, hr2⟩ : ∃ r, appR m' s' aS = r := ⟨_, rfl⟩
  simp only [hr2] at ha1 ha2 ha3 ha4 ha5 hG2
  rw [show (({ b := b, m := m', n := N' } : DK).m) = m' from rfl, hr2] at hap
  subst ha1
  have HAP := Lib.hid hap
  have HB3 : Hid (Below w.heap.size w w3) := Lib.hid (HB2.out.trans (hF.below HB2.out.size (fun k hk hz => hz (Nat.lt_of_lt_of_le hk HWB.out))))
  have HG2 := Lib.hid hG2
  have HG1 := Lib.hid (show s2.g = 1 by omega)
  have HH2 := Lib.hid (show s2.h = 2 by omega)
  have HL2 := Lib.hid (hl2.trans hl3)
  have HZ1 := Lib.hid hz1
  have HSB := Lib.hid hsb0
  have HZ2 := Lib.hid hz2
  have HZS := Lib.hid hzs
  have HN1 : Hid (N' ≤ 1000) := Lib.hid (by have : N' ≤ 0 + 1000 := hN'; omega)
  clear hap hF hG2 hG hS hsb hsg hsh hR hN' hD3 hl3 ha2 ha3 ha4 ha5 hl2 hz1 hz2 hzs hsb0 hds hlf hg1 hg2 hfit hr2 HO
  rw [List.length_nil]
  go_wp2_with fail
  refine HAP.out.mono ?_
  rintro e w4 ⟨rfl, hS4, ⟨N2, hN2, hD4⟩, hF4⟩
  rw [show (({ b := b, m := m', n := N' } : DK).b) = b from rfl] at hD4
  have HS4 := Lib.hid hS4
  have HD4 := Lib.hid hD4
  have HN2 : Hid (N2 ≤ 2000) := Lib.hid (by have h1 : N2 ≤ N' + 1000 := hN2; have := HN1.out; omega)
  have HB4 : Hid (Below w.heap.size w w4) := Lib.hid (HB3.out.trans (hF4.below HB3.out.size (fun k hk hz => by
    rcases hz with hz | hz
    · exact hz (HZ1.out k (Nat.lt_of_lt_of_le hk HWB.out))
    · have := HB2.out.size; have := HSB.out; omega)))
  clear hS4 hD4 hF4 hN2 HAP
  go_wp2_with fail
  refine (stream_Capacity.calls 5 109 w4 cap5).mono ?_
  rintro e w5 ⟨rfl, hb5⟩
  have HB5 := Lib.hid (HB4.out.trans (hb5.mono HB4.out.size))
  have HD5 := Lib.hid (HD4.out.keep hb5)
  have HS5 := Lib.hid (HS4.out.below hb5)
  clear hb5
  go_wp2_with fail
  refine (gen_any HS5.out).mono ?_
  rintro e w6 ⟨rfl, hb6⟩
  rw [HG1.out]
  have HB6 := Lib.hid (HB5.out.trans (hb6.mono HB5.out.size))
  have HD6 := Lib.hid (HD5.out.keep hb6)
  clear hb6
  go_wp2_with fail
  have hL6 := HG2.out.live
  have hcr := crash_live hL6 []
  have hrc := good_rec HG2.out
  have hl5 : L2.length = 5 := by rw [HL2.out]
  have s5 : sizeH 5 = 2 := by decide
  have hdt : (dataOf sumN ([] ++ [aS])).length < 55 * 2 := by rw [dataOf_snoc, List.length_append, frameL_length]; decide
  have hcz := crash_z HD6.out 0 (d := ⟨b, m2, N2⟩) rfl (by show N2 ≤ 1000000; have := HN2.out; omega) none 0 [] (by simp) (fun W _ => Kd.C_of_reads (d := (0 : Int)) (h1 := fun _ => rfl) ⟨rfl, by simp, fun h => absurd h (by simp)⟩)
  rw [show (({ b := b, m := m2, n := N2 } : DK).m) = m2 from rfl, show (({ b := b, m := m2, n := N2 } : DK).b) = b from rfl, show (({ b := b, m := m2, n := N2 } : DK).n) = N2 from rfl] at hcz
  have HCZ := Lib.hid hcz
  have HCR := Lib.hid hcr
  rw [hl5, s5] at hrc
  have HRC := Lib.hid hrc
  have HL5 := Lib.hid hl5
  have HDT := Lib.hid hdt
  clear hL6 hcr hrc hl5 s5 hdt hcz
  refine HCZ.out.mono ?_
  rintro e w7 ⟨rfl, hD7, hF7⟩
  have HD7 := Lib.hid hD7
  have HB7 : Hid (Below w.heap.size w w7) := Lib.hid (HB6.out.trans (hF7.below HB6.out.size (fun k hk hz => hz (HZ1.out k (Nat.lt_of_lt_of_le hk HWB.out)))))
  clear hD7 hF7 HCZ
  have ho := opened HD7.out 0 (d := ⟨b, crashM [] m2, N2⟩) rfl HCR.out.1 HCR.out.2 (by rw [HL5.out]; omega) (by rw [HL5.out]; decide) (by show N2 < 900000; have := HN2.out; omega) (by rw [HL5.out, show sizeH 5 = 2 by decide, HRC.out.1]; exact HDT.out) (by rw [HL5.out, show sizeH 5 = 2 by decide, HRC.out.2.1, HG1.out]; decide)
  rw [HL5.out, show sizeH 5 = 2 by decide, HRC.out.1] at ho
  have HO := Lib.hid ho
  clear ho
  go_wp2_with fail
  refine HO.out.mono ?_
  rintro e w8 ⟨sb2, A8, c8, Z8, m8, s8, L8, N8, rfl, -, -, -, -, -, -, -, -, hR8, -, -, hF8, -, -⟩
  have HB8 : Hid (Below w.heap.size w w8) := Lib.hid (HB7.out.trans (hF8.below HB7.out.size (fun k hk hz => hz (HZ1.out k (Nat.lt_of_lt_of_le hk HWB.out)))))
  have hC8 := (Kd.R_reads' hR8).2.2
  obtain ⟨_, _, hC8⟩ := Kd.reads_of_C (d := ByteArray.empty) hC8
  obtain ⟨ad, rfl, hC9⟩ := hC8 (by simp)
  have hx : w8.cell? ad = some (.string aS) := by
    have := hC9 0 (by simp)
    rw [Addr.add_zero'] at this
    exact this
  obtain ⟨ax, hax⟩ : ∃ ax, aS = ax := ⟨_, rfl⟩
  rw [hax] at hx
  have hal : ax.toList = [97] := by rw [← hax, Hd.ba_toList]; rfl
  clear hR8 hF8 hC8 hC9 HO hax
  rw [show ([] ++ [aS] : List ByteArray).length = 1 from rfl]
  go_wp2_with fail
  exact bodyPost_ret (v := .bool true) (by simp [results, Tryd.results23, go_sem]) rfl ⟨rfl, HB8.out⟩

end Go.Proofs.YtekpbpcfeopilaaDoor.Ws
