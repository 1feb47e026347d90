/- Sectors of data, some of them replaced by cells of another generation: plain facts. -/
import Derived.Test.YtekpbpcfeopilaaDoorBack
namespace Go.Proofs.YtekpbpcfeopilaaDoor.Lost
open Go Go.RowKit Go.Proofs.YtekpbpcfeopilaaDoorCore Go.Proofs.YtekpbpcfeopilaaDoor.Puts Go.Proofs.YtekpbpcfeopilaaDoor.Pars Go.Proofs.YtekpbpcfeopilaaDoor.Join Go.Proofs.YtekpbpcfeopilaaDoor.Areas Go.Proofs.YtekpbpcfeopilaaDoor.Back Go.Proofs.YtekpbpcfeopilaaDoorW.PrintWords
open Go.Proofs.YtekpbpcfeopilaaDoor.Amk (makeS makeE goodB cellS cellL good_true)

def xS : ByteArray := ⟨#[120]⟩

/-- What stands behind some losses. -/
structure LInv (g other : Int) (x : ByteArray) (L0 L : List ByteArray) (first : Nat) : Prop where
  len : L.length = L0.length
  le : first ≤ L0.length
  same : ∀ j, j < first → L[j]? = L0[j]?
  cut : first < L0.length → ∃ s, L[first]? = some s ∧ parseS s = (other, (first : Int), xS, true)

theorem lstart (g other : Int) (x : ByteArray) (L0 : List ByteArray) : LInv g other x L0 L0 L0.length := ⟨rfl, Nat.le_refl _, fun _ _ => rfl, fun h => absurd h (Nat.lt_irrefl _)⟩

theorem make_x (other : Int) (k : Nat) (h1 : 1 ≤ other) (h2 : other ≤ 281474976710655) (hk : k ≤ 65535) : makeE other k xS = 0 ∧ parseS (makeS other k xS) = (other, (k : Int), xS, true) := by
  have hx : xS.size = 1 := rfl
  have hg : goodB other (k : Int) = true := by simp only [goodB, decide_eq_true_eq]; omega
  refine ⟨?_, ?_⟩
  · unfold makeE; rw [if_pos hg, if_neg (by omega)]
  · rw [makeS_good _ _ _ hg (by omega), parse_cell _ _ _ hg (by omega)]

theorem lstep {g other : Int} {x : ByteArray} {L0 L : List ByteArray} {first : Nat} (h : LInv g other x L0 L first) (k : Nat) (hk : k < L0.length) (h1 : 1 ≤ other) (h2 : other ≤ 281474976710655) (hk2 : k ≤ 65535) :
    LInv g other x L0 (L.set k (makeS other k xS)) (min first k) := by
  have hl := h.len
  refine ⟨by rw [List.length_set]; exact hl, by have := h.le; omega, fun j hj => ?_, fun hj => ?_⟩
  · rw [List.getElem?_set_ne (by omega)]
    exact h.same j (by omega)
  · by_cases hc : k ≤ first
    · rw [Nat.min_eq_right hc]
      exact ⟨_, List.getElem?_set_self (by omega), (make_x other k h1 h2 hk2).2⟩
    · rw [Nat.min_eq_left (by omega)]
      obtain ⟨s, hs, hp⟩ := h.cut (by omega)
      exact ⟨s, by rw [List.getElem?_set_ne (by omega)]; exact hs, hp⟩

theorem chunk_list (x : ByteArray) (j : Nat) (h : 55 * (j + 1) ≤ x.size) : (chunk x j).data.toList = (x.data.toList.drop (55 * j)).take 55 := by
  unfold chunk
  rw [Lib.extract_data]
  congr 1
  omega

theorem join_lost {g other : Int} {x : ByteArray} {L0 L : List ByteArray} {first : Nat} (hne : other ≠ g) (hg1 : 1 ≤ g) (hg2 : g ≤ 281474976710655) (hx : x.size ≤ 20000) (hL : L0 = splitL g (x.size / 55 + 1) 0 x) (h : LInv g other x L0 L first) :
    joinL g L 0 = (x.extract 0 (min x.size (first * 55))).data.toList := by
  have hlen0 : L0.length = x.size / 55 + 1 := by rw [hL]; exact splitL_len g _ 0 x (by omega)
  by_cases hf : first < L0.length
  · obtain ⟨s, hs, hp⟩ := h.cut hf
    have key : ∀ d j, j + d = first → joinL g (L.drop j) j = (x.data.toList.take (55 * first)).drop (55 * j) := by
      intro d
      induction d with
      | zero =>
        intro j hj
        obtain rfl : j = first := by omega
        have hfl : j < L.length := by have := h.len; omega
        rw [joinL_at g L j hfl]
        have e : L[j] = s := by rw [List.getElem?_eq_getElem hfl] at hs; exact Option.some.inj hs
        rw [e, hp, if_neg (fun hh => hne hh.2.1), List.drop_eq_nil_of_le (by rw [List.length_take]; omega)]
      | succ d ih =>
        intro j hj
        have hjl : j < L.length := by have := h.len; omega
        rw [joinL_at g L j hjl]
        have e0 := h.same j (by omega)
        rw [List.getElem?_eq_getElem hjl] at e0
        have e := splitL_parse g hg1 hg2 (x.size / 55 + 1) 0 x (by omega) (by omega) (by omega) j (by omega) L[j] (by rw [← hL, ← e0])
        rw [Int.zero_add] at e
        rw [e, if_pos ⟨rfl, rfl, rfl⟩]
        have hc : (chunk x j).size = 55 := by unfold chunk; rw [ByteArray.size_extract]; omega
        simp only [hc]
        rw [if_neg (by omega), ih (j + 1) (by omega), chunk_list x j (by omega)]
        have e1 : 55 * first = 55 * j + (55 + (55 * first - 55 * j - 55)) := by omega
        have e2 : (x.data.toList.take (55 * first)).drop (55 * j) = (x.data.toList.drop (55 * j)).take (55 + (55 * first - 55 * j - 55)) := by
          rw [List.drop_take]; congr 1; all_goals omega
        have e3 : (x.data.toList.take (55 * first)).drop (55 * (j + 1)) = ((x.data.toList.drop (55 * j)).drop 55).take (55 * first - 55 * j - 55) := by
          rw [List.drop_take, List.drop_drop]; congr 1
        rw [e2, e3, List.take_add]
    have := key first 0 (by omega)
    rw [List.drop_zero, Nat.mul_zero, List.drop_zero] at this
    rw [this, Lib.extract_data, List.drop_zero]
    congr 1
    omega
  · have hfe : first = L0.length := by have := h.le; omega
    have hLL : L = L0 := by
      apply List.ext_getElem?
      intro j
      by_cases hj : j < first
      · exact h.same j hj
      · rw [List.getElem?_eq_none (by have := h.len; omega), List.getElem?_eq_none (by omega)]
    have := join_split g hg1 hg2 (x.size / 55 + 1) 0 x [] (by omega) (by omega)
    rw [List.append_nil] at this
    rw [hLL, hL]
    refine this.trans ?_
    rw [Lib.extract_data, List.drop_zero, List.take_of_length_le (by simp; omega)]

theorem newL_ge : ∀ (l : List ByteArray) (a : Int), a ≤ newL l a := by
  intro l
  induction l with
  | nil => intro a; exact Int.le_refl _
  | cons s l ih =>
    intro a
    simp only [newL]
    have := ih (if (parseS s).2.2.2 = true then (if a < (parseS s).1 then (parseS s).1 else a) else a)
    refine Int.le_trans ?_ this
    (repeat' split) <;> omega
theorem newL_mem : ∀ (l : List ByteArray) (a : Int) (s : ByteArray), s ∈ l → (parseS s).2.2.2 = true → (parseS s).1 ≤ newL l a := by
  intro l
  induction l with
  | nil => intro a s h; simp at h
  | cons t l ih =>
    intro a s h hok
    simp only [newL]
    rcases List.mem_cons.1 h with rfl | h
    · refine Int.le_trans ?_ (newL_ge l _)
      rw [if_pos hok]
      split <;> omega
    · exact ih _ s h hok
theorem new_lost {g other : Int} {x : ByteArray} {L0 L : List ByteArray} {first : Nat} (h : LInv g other x L0 L first) (hf : first < L0.length) : other ≤ newL L 0 := by
  obtain ⟨s, hs, hp⟩ := h.cut hf
  have := newL_mem L 0 s (List.mem_of_getElem? hs) (by rw [hp])
  rw [hp] at this
  exact this

end Go.Proofs.YtekpbpcfeopilaaDoor.Lost
