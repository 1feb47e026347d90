/- DiskLasts: the plain law. What may last of each sector. No program in sight. -/
import Derived.Test.YtekpbpcfeopilaaDu
import Derived.Test.YtekpbpcfeopilaaDw
namespace Go.Proofs.Ytekpbpcfeopilaa.Fa
open Go Go.Proofs.Ytekpbpcfeopilaa.Dm Go.Proofs.Ytekpbpcfeopilaa.Da Go.Proofs.Ytekpbpcfeopilaa.Df Go.Proofs.Ytekpbpcfeopilaa.Dg Go.Proofs.Ytekpbpcfeopilaa.Dh Go.Proofs.Ytekpbpcfeopilaa.Di Go.Proofs.Ytekpbpcfeopilaa.Dj Go.Proofs.Ytekpbpcfeopilaa.Dk Go.Proofs.Ytekpbpcfeopilaa.Dl Go.Proofs.Ytekpbpcfeopilaa.Ds Go.Proofs.Ytekpbpcfeopilaa.Du Go.Proofs.Ytekpbpcfeopilaa.Dv

/-- What was written to sector i. -/
def wrote : List (Int × ByteArray) → Int → List ByteArray
  | [], _ => []
  | p :: r, i => if p.1 = i then p.2 :: wrote r i else wrote r i
theorem wrote_add (q : List (Int × ByteArray)) (p : Int × ByteArray) (i : Int) : wrote (q ++ [p]) i = wrote q i ++ (if p.1 = i then [p.2] else []) := by
  induction q with
  | nil => simp only [List.nil_append, wrote]
  | cons a q ih => simp only [List.cons_append, wrote, ih]; split <;> simp

/-- One region of four sectors. -/
def four (L : List ByteArray) (Q : List (Int × ByteArray)) : MDisk := ⟨[⟨L, Q⟩], false, 0, 0, []⟩

/-- What lasts is among what lasted and what was written; if all is kept, the last of it. -/
theorem putQ_mem (kept : Nat → Bool) : ∀ (q : List (Int × ByteArray)) (k : Nat) (L : List ByteArray) (i : Nat) (x : ByteArray), (∀ p ∈ q, 0 ≤ p.1) → (putQ kept k q L)[i]? = some x → ∃ y, L[i]? = some y ∧ x ∈ y :: wrote q i := by
  intro q
  induction q with
  | nil => intro k L i x _ h; exact ⟨x, h, by simp [wrote]⟩
  | cons p q ih =>
    intro k L i x hq h
    rw [putQ] at h
    obtain ⟨y, hy, hx⟩ := ih (k + 1) _ i x (fun p hp => hq p (List.mem_cons_of_mem _ hp)) h
    have hp0 := hq p (List.mem_cons_self ..)
    by_cases hk : kept k = true
    · rw [if_pos hk] at hy
      by_cases hi : p.1.toNat = i
      · have hpi : p.1 = (i : Int) := by omega
        have hlt : i < L.length := by
          have := (List.getElem?_eq_some_iff.1 hy).1
          simpa using this
        rw [← hi, List.getElem?_set_self (by omega)] at hy
        injection hy with hy
        subst hy
        refine ⟨L[i], List.getElem?_eq_getElem hlt, ?_⟩
        rw [wrote, if_pos hpi]
        exact List.mem_cons_of_mem _ hx
      · rw [List.getElem?_set_ne hi] at hy
        refine ⟨y, hy, ?_⟩
        have hpi : ¬ p.1 = (i : Int) := by omega
        rw [wrote, if_neg hpi]
        exact hx
    · rw [if_neg hk] at hy
      refine ⟨y, hy, ?_⟩
      rw [wrote]
      split
      · rcases List.mem_cons.1 hx with h | h
        · exact List.mem_cons.2 (.inl h)
        · exact List.mem_cons_of_mem _ (List.mem_cons_of_mem _ h)
      · exact hx
theorem putQ_last (kept : Nat → Bool) (hall : ∀ i, kept i = true) : ∀ (q : List (Int × ByteArray)) (k : Nat) (L : List ByteArray) (i : Nat) (y : ByteArray), (∀ p ∈ q, 0 ≤ p.1) → L[i]? = some y → (putQ kept k q L)[i]? = (y :: wrote q i).getLast? := by
  intro q
  induction q with
  | nil => intro k L i y _ h; simp [putQ, wrote, h]
  | cons p q ih =>
    intro k L i y hq h
    have hp0 := hq p (List.mem_cons_self ..)
    rw [putQ, if_pos (hall k)]
    have hlt := (List.getElem?_eq_some_iff.1 h).1
    by_cases hi : p.1.toNat = i
    · have hpi : p.1 = (i : Int) := by omega
      rw [ih (k + 1) _ i p.2 (fun p hp => hq p (List.mem_cons_of_mem _ hp)) (by rw [← hi, List.getElem?_set_self (by omega)])]
      rw [wrote, if_pos hpi]
      rfl
    · have hpi : ¬ p.1 = (i : Int) := by omega
      rw [ih (k + 1) _ i y (fun p hp => hq p (List.mem_cons_of_mem _ hp)) (by rw [List.getElem?_set_ne hi]; exact h), wrote, if_neg hpi]

/-- The last one alone. -/
def lastT (xs : List ByteArray) : List ByteArray := xs.drop (xs.length - 1)
/-- The texts that may last, sector by sector. -/
structure May (L : List ByteArray) (Q : List (Int × ByteArray)) (may : List (List ByteArray)) : Prop where
  l4 : L.length = 4
  m4 : may.length = 4
  nn : ∀ p ∈ Q, 0 ≤ p.1 ∧ p.1 < 4
  eq : ∀ i : Nat, i < 4 → ∃ y : ByteArray, L[i]? = some y ∧ may[i]? = some (y :: wrote Q i)
theorem May.new : May (List.replicate 4 noneS) [] (List.replicate 4 [noneS]) := by
  refine ⟨by simp, by simp, by simp, fun i hi => ⟨noneS, ?_, ?_⟩⟩
  · rw [List.getElem?_replicate, if_pos hi]
  · rw [List.getElem?_replicate, if_pos hi]
    rfl
theorem May.add {L : List ByteArray} {Q : List (Int × ByteArray)} {may : List (List ByteArray)} (h : May L Q may) (k : Nat) (hk : k < 4) (s : ByteArray) (xs : List ByteArray) (hx : may[k]? = some xs) : May L (Q ++ [((k : Int), s)]) (may.set k (xs ++ [s])) := by
  refine ⟨h.l4, by rw [List.length_set]; exact h.m4, ?_, fun i hi => ?_⟩
  · intro p hp
    rcases List.mem_append.1 hp with hp | hp
    · exact h.nn p hp
    · rw [List.mem_singleton.1 hp]
      exact ⟨by show (0 : Int) ≤ (k : Int); omega, by show (k : Int) < 4; omega⟩
  · obtain ⟨y, hy, he⟩ := h.eq i hi
    refine ⟨y, hy, ?_⟩
    rw [wrote_add]
    by_cases hik : k = i
    · subst hik
      rw [if_pos rfl, List.getElem?_set_self (by rw [h.m4]; omega)]
      rw [he] at hx
      injection hx with hx
      rw [← hx]
      rfl
    · rw [if_neg (by omega), List.getElem?_set_ne hik, he, List.append_nil]
/-- The last of each alone. -/
theorem May.flush {L : List ByteArray} {Q : List (Int × ByteArray)} {may : List (List ByteArray)} (h : May L Q may) : May (putQ (fun _ => true) 0 Q L) [] (may.map lastT) := by
  refine ⟨by rw [putQ_length]; exact h.l4, by rw [List.length_map]; exact h.m4, by simp, fun i hi => ?_⟩
  obtain ⟨y, hy, he⟩ := h.eq i hi
  have hp := putQ_last (fun _ => true) (fun _ => rfl) Q 0 L i y (fun p hp => (h.nn p hp).1) hy
  have hne : y :: wrote Q i ≠ [] := by simp
  rw [List.getLast?_eq_some_getLast hne] at hp
  refine ⟨_, hp, ?_⟩
  rw [List.getElem?_map, he]
  show some (List.drop _ _) = some [_]
  congr 1
  have hd : ∀ (l : List ByteArray) (hl : l ≠ []), l.drop (l.length - 1) = [l.getLast hl] := fun l hl => by
    have h1 := List.dropLast_concat_getLast hl
    have h2 : l.dropLast.length = l.length - 1 := List.length_dropLast
    rw [← h2]
    conv => lhs; arg 2; rw [← h1]
    simp
  exact hd _ hne


theorem four_new : newM [4] = four (List.replicate 4 noneS) [] := by rfl
theorem four_find {L : List ByteArray} {Q : List (Int × ByteArray)} (hL : L.length = 4) (s : Int) (h0 : 0 ≤ s) (h4 : s < 4) : findM (four L Q) 0 s = 0 := by
  have hs : sectorsM (four L Q) 0 = 4 := by
    unfold sectorsM four
    simp [hL]
  unfold findM
  rw [if_neg (by simp [four]), if_pos ⟨by omega, h0, by rw [hs]; exact h4⟩]
theorem four_fails {L : List ByteArray} {Q : List (Int × ByteArray)} (n : Int) : failsM (four L Q) n = false := by simp [failsM, four]
theorem four_tick {L : List ByteArray} {Q : List (Int × ByteArray)} (n : Int) : tickM (four L Q) n = four L Q := by simp [tickM, four]
theorem four_enq {L : List ByteArray} {Q : List (Int × ByteArray)} (p : Int × ByteArray) : enqM (four L Q) 0 p = four L (Q ++ [p]) := by rfl
theorem four_write {L : List ByteArray} {Q : List (Int × ByteArray)} (hL : L.length = 4) (k : Nat) (hk : k < 4) (s : ByteArray) (hs : s.size = 64) : writeM (four L Q) 0 (k : Int) s = four L (Q ++ [((k : Int), s)]) := by
  unfold writeM
  rw [if_pos ⟨four_find hL _ (by omega) (by omega), hs⟩]
  show (if failsM (enqM (four L Q) 0 ((k : Int), s)) 0 = true then _ else _) = _
  rw [four_enq, four_fails, if_neg (by simp)]
  exact four_tick _
theorem four_writeE {L : List ByteArray} {Q : List (Int × ByteArray)} (hL : L.length = 4) (k : Nat) (hk : k < 4) (s : ByteArray) (hs : s.size = 64) : writeE (four L Q) 0 (k : Int) s = 0 := by
  unfold writeE
  rw [four_find hL _ (by omega) (by omega)]
  simp [hs, failsM, four]
theorem four_flush {L : List ByteArray} {Q : List (Int × ByteArray)} : flushM (four L Q) 0 = four (putQ (fun _ => true) 0 Q L) [] := by
  unfold flushM
  rw [if_neg (by simp [four]), if_pos (by simp [four]), if_neg (by simp [four_fails]), four_tick]
  rfl
theorem four_flushE {L : List ByteArray} {Q : List (Int × ByteArray)} : flushE (four L Q) 0 = 0 := by
  unfold flushE
  rw [if_neg (by simp [four]), if_pos (by simp [four]), if_neg (by simp [four_fails])]
theorem four_crash {L : List ByteArray} {Q : List (Int × ByteArray)} (keep : List Int) : crashM keep (four L Q) = four (putQ (bitK keep 0) 0 Q L) [] := by rfl
theorem four_read {L : List ByteArray} (hL : L.length = 4) (i : Nat) (hi : i < 4) {x : ByteArray} (hx : L[i]? = some x) : readM (four L []) 0 (i : Int) = x := by
  unfold readM
  rw [if_pos (four_find hL _ (by omega) (by omega))]
  simp [four, lookQ, hx]
theorem bit_all (i : Nat) : bitK [18446744073709551615] 0 i = true := by
  have h : ∀ j, j < 64 → (18446744073709551615 : Int) / 2 ^ j % 2 = 1 := by decide +kernel
  have h2 := h (i % 64) (by omega)
  unfold bitK
  simpa using h2

/-- What is read behind the loss: of the first disk one of the texts, of the other one the last of them. -/
theorem May.read {L : List ByteArray} {Q : List (Int × ByteArray)} {may : List (List ByteArray)} (h : May L Q may) (keep : List Int) (i : Nat) (hi : i < 4) {xs : List ByteArray} (hx : may[i]? = some xs) :
    findM (crashM keep (four L Q)) 0 (i : Int) = 0 ∧ readM (crashM keep (four L Q)) 0 (i : Int) ∈ xs := by
  obtain ⟨y, hy, he⟩ := h.eq i hi
  rw [he] at hx
  injection hx with hx
  rw [four_crash, ← hx]
  have hl : (putQ (bitK keep 0) 0 Q L).length = 4 := by rw [putQ_length]; exact h.l4
  refine ⟨four_find hl _ (by omega) (by omega), ?_⟩
  have hz : (putQ (bitK keep 0) 0 Q L)[i]? = some ((putQ (bitK keep 0) 0 Q L)[i]'(by omega)) := List.getElem?_eq_getElem _
  rw [four_read hl i hi hz]
  obtain ⟨y', hy', hm⟩ := putQ_mem (bitK keep 0) Q 0 L i _ (fun p hp => (h.nn p hp).1) hz
  rw [hy] at hy'
  injection hy' with hy'
  rw [hy']
  exact hm
theorem May.readAll {L : List ByteArray} {Q : List (Int × ByteArray)} {may : List (List ByteArray)} (h : May L Q may) (i : Nat) (hi : i < 4) {xs : List ByteArray} (hx : may[i]? = some xs) :
    findM (crashM [18446744073709551615] (four L Q)) 0 (i : Int) = 0 ∧ xs.getLast? = some (readM (crashM [18446744073709551615] (four L Q)) 0 (i : Int)) := by
  obtain ⟨y, hy, he⟩ := h.eq i hi
  rw [he] at hx
  injection hx with hx
  rw [four_crash, ← hx]
  have hl : (putQ (bitK [18446744073709551615] 0) 0 Q L).length = 4 := by rw [putQ_length]; exact h.l4
  refine ⟨four_find hl _ (by omega) (by omega), ?_⟩
  have hz : (putQ (bitK [18446744073709551615] 0) 0 Q L)[i]? = some ((putQ (bitK [18446744073709551615] 0) 0 Q L)[i]'(by omega)) := List.getElem?_eq_getElem _
  rw [four_read hl i hi hz, ← hz, putQ_last _ bit_all Q 0 L i y (fun p hp => (h.nn p hp).1) hy]
theorem May.some {L : List ByteArray} {Q : List (Int × ByteArray)} {may : List (List ByteArray)} (h : May L Q may) (i : Nat) (hi : i < 4) : ∃ xs, may[i]? = some xs ∧ 0 < xs.length := by
  obtain ⟨y, _, he⟩ := h.eq i hi
  exact ⟨_, he, by simp⟩

/-- The first j rows cut. -/
def cutTo (may : List (List ByteArray)) (j : Nat) : List (List ByteArray) := (may.take j).map lastT ++ may.drop j
theorem cut_zero (may : List (List ByteArray)) : cutTo may 0 = may := by simp [cutTo]
theorem cut_all (may : List (List ByteArray)) : cutTo may may.length = may.map lastT := by simp [cutTo]
theorem cut_at (may : List (List ByteArray)) (j : Nat) : (cutTo may j)[j]? = may[j]? := by
  unfold cutTo
  by_cases h : j ≤ may.length
  · rw [List.getElem?_append_right (by simp; omega)]
    simp [show min j may.length = j from by omega]
  · rw [List.getElem?_eq_none (by simp; omega), List.getElem?_eq_none (by omega)]
theorem cut_step {may : List (List ByteArray)} {j : Nat} {xs : List ByteArray} (h : may[j]? = some xs) : (cutTo may j).set j (lastT xs) = cutTo may (j + 1) := by
  have hl := (List.getElem?_eq_some_iff.1 h).1
  apply List.ext_getElem?
  intro i
  rw [List.getElem?_set]
  unfold cutTo
  by_cases h1 : j = i
  · subst h1
    rw [if_pos rfl, if_pos (by simp; omega), List.getElem?_append_left (by simp; omega), List.getElem?_map, List.getElem?_take, if_pos (by omega), h]
    rfl
  · rw [if_neg h1]
    by_cases h2 : i < j
    · rw [List.getElem?_append_left (by simp; omega), List.getElem?_append_left (by simp; omega), List.getElem?_map, List.getElem?_map, List.getElem?_take, List.getElem?_take, if_pos h2, if_pos (by omega)]
    · rw [List.getElem?_append_right (by simp; omega), List.getElem?_append_right (by simp; omega), List.getElem?_drop, List.getElem?_drop]
      congr 1
      simp
      omega

end Go.Proofs.Ytekpbpcfeopilaa.Fa
