/- A new table. -/
import Derived.Test.YtifdfhonhphojaaTb
import Derived.Deep.LoopGhost
import Derived.Carry
import Derived.Deep.Slices
namespace Go.Proofs.Ytifdfhonhphojaa.Nw
open Go Go.RowKit Go.Proofs.YtifdfhonhphojaaCore Go.Proofs.Ytifdfhonhphojaa.Fr Go.Proofs.Ytifdfhonhphojaa.Mp Go.Proofs.Ytifdfhonhphojaa.Rgm Go.Proofs.Ytifdfhonhphojaa.Ky Go.Proofs.Ytifdfhonhphojaa.Ks Go.Proofs.Ytifdfhonhphojaa.Co Go.Proofs.Ytifdfhonhphojaa.So Go.Proofs.Ytifdfhonhphojaa.Ko Go.Proofs.Ytifdfhonhphojaa.Sf Go.Proofs.Ytifdfhonhphojaa.Named Go.Proofs.Ytifdfhonhphojaa.Tb

/-- Keys in line. -/
def KeysAt (w : World) (A : Option Addr) (ks : List GKey) : Prop :=
  ∀ (i : Nat) (k : GKey), ks[i]? = some k → ∃ ad, A = some ad ∧ w.cell? (ad.add (i * 2)) = some (.int .i64 k.c) ∧ w.cell? ⟨(ad.add (i * 2)).block, (ad.add (i * 2)).off + 1, none⟩ = some (.string k.f)
theorem KeysAt.below {w w' : World} {A : Option Addr} {ks : List GKey} (h : KeysAt w A ks) (hb : Below w.heap.size w w') : KeysAt w' A ks := fun i k hi => by
  obtain ⟨ad, h1, h2, h3⟩ := h i k hi
  exact ⟨ad, h1, pw_below hb h2, pw_below hb h3⟩
theorem KeysAt.nil (w : World) (A : Option Addr) : KeysAt w A [] := fun i k h => by simp at h
theorem KeysAt.owns {w : World} {base : Nat} {v : Value} {n : Nat} {ks : List GKey} (h : w.ownsRow base 48 2 v n (ks.flatMap cellsK)) : ∃ A c, v = .slice A n c ∧ n ≤ c ∧ ks.length = n ∧ KeysAt w A ks := by
  have hl := h.1
  rw [cellsK_len] at hl
  rcases h.2 with ⟨rfl, rfl⟩ | ⟨g, cap, cur, rfl, hg, hb, hn, hm, hs, ht⟩
  · have : ks = [] := List.eq_nil_of_length_eq_zero (by omega)
    subst this
    exact ⟨none, 0, rfl, Nat.le_refl _, rfl, KeysAt.nil _ _⟩
  · refine ⟨_, cap, rfl, hn, by omega, fun i k hi => ⟨_, rfl, ?_, ?_⟩⟩
    · rw [Addr.add_plain0]
      have hil := (List.getElem?_eq_some_iff.1 hi).1
      have h1 : (ks.flatMap cellsK)[i * 2]? = some (.int .i64 k.c) := by rw [flat_at, show i * 2 / 2 = i from by omega, hi, show i * 2 % 2 = 0 from by omega]; rfl
      unfold World.cell?
      rw [hb]
      show cur[i * 2]? = _
      rw [← ht, List.getElem?_take_of_lt (by omega), Array.getElem?_toList] at h1
      exact h1
    · rw [Addr.add_plain0]
      have hil := (List.getElem?_eq_some_iff.1 hi).1
      have h1 : (ks.flatMap cellsK)[i * 2 + 1]? = some (.string k.f) := by rw [flat_at, show (i * 2 + 1) / 2 = i from by omega, hi, show (i * 2 + 1) % 2 = 1 from by omega]; rfl
      unfold World.cell?
      rw [hb]
      show cur[i * 2 + 1]? = _
      rw [← ht, List.getElem?_take_of_lt (by omega), Array.getElem?_toList] at h1
      exact h1

/-- What comes of keys that are added one by one, till the first error. -/
def newM : List GKey → List GKey → Int × List GKey
  | ks, [] => (0, ks)
  | ks, k :: r => if addE ks k = 0 then newM (ks ++ [k]) r else (addE ks k, ks)

/-- What New hands back. -/
def NewPost (w : World) (l : List GKey) (e : Ending) (w' : World) : Prop :=
  Below w.heap.size w w' ∧ (((newM [] l).1 ≠ 0 ∧ e = .returned (.tuple #[.pointer none, .int .i64 (newM [] l).1])) ∨
    ((newM [] l).1 = 0 ∧ ∃ tb mb, w.heap.size ≤ tb ∧ w.heap.size ≤ mb ∧ e = .returned (.tuple #[.pointer (some ⟨tb, 0, none⟩), .int .i64 0]) ∧ TabAt w' tb mb (newM [] l).2))

structure NInv (l : List GKey) (w : World) (tb mb : Nat) (gk : Nat) (v : Value) (wr : World) (j : Nat) (ks : List GKey) : Prop where
  hi : j ≤ l.length
  slot : v = .int .i64 j
  ghost : gk + j = l.length
  tab : TabAt wr tb mb ks
  bel : Below w.heap.size w wr
  same : newM [] l = newM ks (l.drop j)
def NRel (l : List GKey) (w : World) (tb mb : Nat) (gk : Nat) (v : Value) (wr : World) : Prop := ∃ j ks, NInv l w tb mb gk v wr j ks

theorem new_err {w w' : World} {l ks : List GKey} {e : Int} (hb : Below w.heap.size w w') (h : newM [] l = (e, ks)) (he : e ≠ 0) : NewPost w l (.returned (.tuple #[.pointer none, .int .i64 e])) w' := ⟨hb, .inl (by rw [h]; exact ⟨he, rfl⟩)⟩
theorem new_ok {w w' : World} {l ks : List GKey} {tb mb : Nat} (hb : Below w.heap.size w w') (h1 : w.heap.size ≤ tb) (h2 : w.heap.size ≤ mb) (h : newM [] l = (0, ks)) (ht : TabAt w' tb mb ks) : NewPost w l (.returned (.tuple #[.pointer (some ⟨tb, 0, none⟩), .int .i64 0])) w' :=
  ⟨hb, .inr ⟨by rw [h], tb, mb, h1, h2, rfl, by rw [h]; exact ht⟩⟩

set_option maxHeartbeats 4000000 in
set_option maxRecDepth 100000 in
theorem new_any (A : Option Addr) (cc : Nat) (l : List GKey) (w : World) (hC : KeysAt w A l) (hl : l.length ≤ 1000000) (hcc : l.length ≤ cc) (hok : ∀ k ∈ l, okK k) :
    Calls Try.prog 14 #[.slice A l.length cc] w (NewPost w l) := by
  have hmm := @run_makeMap Try.prog
  have HC := Lib.hid hC
  have HOK := Lib.hid hok
  obtain ⟨w1, hw1⟩ : ∃ w1, (w.alloc (.map #[] 0)).alloc (.cells #[.map (some w.heap.size)] 69) = w1 := ⟨_, rfl⟩
  have hb1 : Below w.heap.size w w1 := by rw [← hw1]; exact ((Below.refl _ _).alloc (Nat.le_refl _) _).alloc (by simp) _
  have ht1 : TabAt w1 (w.heap.size + 1) w.heap.size [] := by
    rw [← hw1]
    refine ⟨?_, ?_⟩
    · have := heap_alloc_new (w.alloc (.map #[] 0)) (.cells #[.map (some w.heap.size)] 69)
      rwa [World.size_alloc] at this
    · have h := MapIs.made (V := Bool) encK Value.bool okK w
      exact h.at_ (Below.heap_alloc _ _ _ (by simp))
  have HB1 := Lib.hid hb1
  have HT1 := Lib.hid ht1
  obtain ⟨M, hM⟩ : ∃ M, l.length = M := ⟨_, rfl⟩
  have HM := Lib.hid hM
  rw [hM] at hl hcc
  clear hC hok hb1 ht1
  rw [hM]
  clear hM
  go_enter Try.func14, Try.ntmps14
  go_wp2_with (rw [hw1])
  go_loopg [13] M (fun gk v wr => NRel l w (w.heap.size + 1) w.heap.size gk v wr)
  case atStart => exact ⟨0, [], ⟨Nat.zero_le _, rfl, by rw [HM.out]; rfl, HT1.out, HB1.out, rfl⟩⟩
  case round =>
    obtain ⟨j, ks, hj, rfl, hg, htab, hbel, hsame⟩ := hrel
    rw [HM.out] at hj hg
    have HG := Lib.hid hg
    have HTB := Lib.hid htab
    have HB := Lib.hid hbel
    have HSA := Lib.hid hsame
    clear hg htab hbel hsame HT1 HB1 hw1 hmm
    by_cases hlt : j < M
    · have hltI : (j : Int) < (M : Int) := by omega
      have hjl : j < l.length := by rw [HM.out]; exact hlt
      obtain ⟨k, hk⟩ : ∃ k, l[j]? = some k := ⟨_, List.getElem?_eq_getElem hjl⟩
      obtain ⟨ad, rfl, g0, g1⟩ := HC.out j k hk
      have c0 := pw_below HB.out g0
      have c1 := pw_below HB.out g1
      have hkk := HOK.out k (List.mem_of_getElem? hk)
      have hdrop : l.drop j = k :: l.drop (j + 1) := by
        rw [List.getElem?_eq_getElem hjl] at hk
        injection hk with hk
        rw [← hk, List.drop_eq_getElem_cons hjl]
      have HD := Lib.hid hdrop
      have HKK := Lib.hid hkk
      obtain ⟨wb, hwb⟩ : ∃ wb, wr.alloc (.cells #[.int .i64 k.c, .string k.f] 48) = wb := ⟨_, rfl⟩
      have hbb : Below wr.heap.size wr wb := by rw [← hwb]; exact (Below.refl _ _).alloc (Nat.le_refl _) _
      obtain ⟨e0, e1⟩ := box_cells wr k
      rw [hwb] at e0 e1
      have HTB2 := Lib.hid (HTB.out.below hbb)
      have HB2 := Lib.hid (HB.out.trans (hbb.mono HB.out.size))
      clear g0 g1 hk hkk hdrop hbb
      go_wp2_with (rw [hwb])
      refine (add_any HTB2.out HKK.out).mono ?_
      rintro e w3 ⟨rfl, ht3, hf3⟩
      have hb3 : Below w.heap.size w w3 := HB2.out.trans (hf3.below HB2.out.size (fun i hi hs => by omega))
      have HT3 := Lib.hid ht3
      have HB3 := Lib.hid hb3
      obtain ⟨E, hE⟩ : ∃ E, addE ks k = E := ⟨_, rfl⟩
      rw [hE]
      clear hf3 ht3 hb3 hwb e0 e1 c0 c1
      by_cases hE0 : E = 0
      · subst hE0
        have hn : newM [] l = newM (ks ++ [k]) (l.drop (j + 1)) := by rw [HSA.out, HD.out, newM, if_pos hE]
        have ha : addT ks k = ks ++ [k] := by unfold addT; rw [if_pos hE]
        have HN := Lib.hid hn
        have ht4 := HT3.out
        rw [ha] at ht4
        have HT4 := Lib.hid ht4
        clear hn ha hE ht4
        go_wp2_with fail
        go_roundg (gk - 1)
        case measure => have := HG.out; omega
        case rel => exact ⟨j + 1, ks ++ [k], ⟨by rw [HM.out]; omega, by go_num, by have := HG.out; rw [HM.out]; omega, HT4.out, HB3.out, HN.out⟩⟩
      · have hn : newM [] l = (E, ks) := by rw [HSA.out, HD.out, newM, if_neg (by rw [hE]; exact hE0), hE]
        have HF := Lib.hid (new_err HB3.out hn hE0)
        have hEb : (E != 0) = true := by simpa using hE0
        clear hn hE
        go_wp2_with fail
        refine bodyPost_ret (v := .tuple #[.pointer none, .int .i64 E]) (by simp [results, Try.results14, go_sem]) rfl HF.out
    · obtain rfl : j = M := by omega
      have hn : newM [] l = (0, ks) := by
        rw [HSA.out, List.drop_of_length_le (by rw [HM.out]; exact Nat.le_refl _)]
        rfl
      have HF := Lib.hid (new_ok HB.out (by omega) (Nat.le_refl _) hn HTB.out)
      clear hn
      go_wp2_with fail
      refine bodyPost_ret (v := .tuple #[.pointer (some ⟨w.heap.size + 1, 0, none⟩), .int .i64 0]) (by simp [results, Try.results14, go_sem]) rfl HF.out

end Go.Proofs.Ytifdfhonhphojaa.Nw
