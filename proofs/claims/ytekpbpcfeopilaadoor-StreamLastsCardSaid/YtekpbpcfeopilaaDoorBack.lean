/- The sectors of data, read back: plain facts on Split, Parse, Join and Newest, for every data and generation. -/
import Derived.Test.YtekpbpcfeopilaaDoorAreas
namespace Go.Proofs.YtekpbpcfeopilaaDoor.Back
open Go Go.RowKit Go.Proofs.YtekpbpcfeopilaaDoorCore Go.Proofs.YtekpbpcfeopilaaDoor.Puts Go.Proofs.YtekpbpcfeopilaaDoor.Pars Go.Proofs.YtekpbpcfeopilaaDoor.Join Go.Proofs.YtekpbpcfeopilaaDoor.Areas Go.Proofs.YtekpbpcfeopilaaDoorW.PrintWords
open Go.Proofs.YtekpbpcfeopilaaDoor.Amk (makeS makeE goodB cellS cellL good_true)

theorem num_beL (k n : Nat) (h : n < 256 ^ k) : num (beL k n) = n := by
  induction k generalizing n with
  | zero => simp [num, beL, val]; simp at h; omega
  | succ k ih =>
    rw [beL, num_snoc, ih (n / 256) (by rw [Nat.pow_succ] at h; omega)]
    have : (UInt8.ofNat (n % 256)).toNat = n % 256 := by simp
    rw [this]
    omega

theorem cellS_size (g i : Int) (d : ByteArray) (hd : d.size ≤ 55) : (cellS g i d).size = 64 := by
  have := Awk.cellL_length g i d
  simp [cellS, ByteArray.size]
  omega

theorem cell_parts (g i : Int) (d : ByteArray) : (cellS g i d).data.toList = beL 6 g.toNat ++ (beL 2 i.toNat ++ (UInt8.ofNat d.size :: (d.data.toList ++ List.replicate (64 - (cellL g i d).length) 0))) := by
  have e : UInt8.ofNat (d.size % 256) = UInt8.ofNat d.size := by apply UInt8.toNat_inj.1; simp
  simp only [cellS, cellL, beL, List.nil_append, e]
  simp

/-- A cell is read back from its sector. -/
theorem parse_cell (g i : Int) (d : ByteArray) (hg : goodB g i = true) (hd : d.size ≤ 55) : parseS (cellS g i d) = (g, i, d, true) := by
  obtain ⟨_, g1, g2, i1, i2⟩ := good_true hg
  have hp := cell_parts g i d
  have hsz := cellS_size g i d hd
  have c0 : cut (cellS g i d) 0 6 = beL 6 g.toNat := by
    unfold cut
    rw [hp, List.drop_zero, List.take_append_of_le_length (by rw [beL_length]; exact Nat.le_refl _), List.take_of_length_le (by rw [beL_length]; exact Nat.le_refl _)]
  have d6 : (cellS g i d).data.toList.drop 6 = beL 2 i.toNat ++ (UInt8.ofNat d.size :: (d.data.toList ++ List.replicate (64 - (cellL g i d).length) 0)) := by
    rw [hp]
    have := List.drop_left (l₁ := beL 6 g.toNat) (l₂ := beL 2 i.toNat ++ (UInt8.ofNat d.size :: (d.data.toList ++ List.replicate (64 - (cellL g i d).length) 0)))
    rwa [beL_length] at this
  have c6 : cut (cellS g i d) 6 2 = beL 2 i.toNat := by
    unfold cut
    rw [d6, List.take_append_of_le_length (by rw [beL_length]; exact Nat.le_refl _), List.take_of_length_le (by rw [beL_length]; exact Nat.le_refl _)]
  have d8 : (cellS g i d).data.toList.drop 8 = UInt8.ofNat d.size :: (d.data.toList ++ List.replicate (64 - (cellL g i d).length) 0) := by
    have h := List.drop_left (l₁ := beL 2 i.toNat) (l₂ := UInt8.ofNat d.size :: (d.data.toList ++ List.replicate (64 - (cellL g i d).length) 0))
    rw [beL_length, ← d6, List.drop_drop] at h
    exact h
  have hn : nb (cellS g i d) = d.size := by
    unfold nb
    have : (cellS g i d).data.toList.getD 8 0 = ((cellS g i d).data.toList.drop 8).getD 0 0 := by simp
    rw [this, d8]
    simp
    omega
  have d9 : (cellS g i d).data.toList.drop 9 = d.data.toList ++ List.replicate (64 - (cellL g i d).length) 0 := by
    have : (cellS g i d).data.toList.drop 9 = ((cellS g i d).data.toList.drop 8).drop 1 := by rw [List.drop_drop]
    rw [this, d8]
    rfl
  have dz : (cellS g i d).data.toList.drop (9 + d.size) = List.replicate (64 - (cellL g i d).length) 0 := by
    have h := List.drop_left (l₁ := d.data.toList) (l₂ := List.replicate (64 - (cellL g i d).length) (0 : UInt8))
    rw [← d9, List.drop_drop] at h
    have hl : d.data.toList.length = d.size := by simp
    rwa [hl] at h
  have hx : (cellS g i d).extract 9 (9 + d.size) = d := by
    apply ByteArray.ext
    apply Array.toList_inj.1
    rw [Lib.extract_data, d9]
    have hl : d.data.toList.length = 9 + d.size - 9 := by simp
    rw [← hl, List.take_left]
  have n0 : num (beL 6 g.toNat) = g.toNat := num_beL 6 _ (by omega)
  have n6 : num (beL 2 i.toNat) = i.toNat := num_beL 2 _ (by omega)
  unfold parseS isCell
  rw [c0, c6, hn, n0, n6, hsz, hx, dz]
  rw [if_pos (by simp; omega)]
  have e1 : ((g.toNat : Nat) : Int) = g := by omega
  have e2 : ((i.toNat : Nat) : Int) = i := by omega
  rw [e1, e2]

/-- The piece of data of a place. -/
def chunk (d : ByteArray) (j : Nat) : ByteArray := d.extract (55 * j) (min d.size (55 * (j + 1)))
theorem chunk_size (d : ByteArray) (j : Nat) : (chunk d j).size ≤ 55 := by unfold chunk; rw [ByteArray.size_extract]; omega
theorem chunk_zero (d : ByteArray) (h : 55 ≤ d.size) : chunk d 0 = d.extract 0 55 := by unfold chunk; congr 1; omega
theorem chunk_small (d : ByteArray) (h : d.size < 55) : chunk d 0 = d := by
  unfold chunk
  rw [show min d.size (55 * (0 + 1)) = d.size by omega]
  exact extract_all d
theorem chunk_succ (d : ByteArray) (j : Nat) (h : 55 ≤ d.size) : chunk (d.extract 55 d.size) j = chunk d (j + 1) := by
  unfold chunk
  apply ByteArray.ext
  apply Array.toList_inj.1
  have hs : (d.extract 55 d.size).size = d.size - 55 := by rw [ByteArray.size_extract]; omega
  rw [Lib.extract_data, drop_all, List.drop_drop, hs, Lib.extract_data]
  congr 1
  · omega
  · congr 1; omega

theorem makeS_good (g i : Int) (d : ByteArray) (hg : goodB g i = true) (hd : d.size ≤ 55) : makeS g i d = cellS g i d := by unfold makeS; rw [if_pos hg, if_neg (by omega)]

theorem splitL_get (g : Int) : ∀ (m : Nat) (i : Int) (d : ByteArray) (j : Nat), d.size / 55 < m → j ≤ d.size / 55 → (splitL g m i d)[j]? = some (makeS g (i + j) (chunk d j)) := by
  intro m
  induction m with
  | zero => intro i d j h; omega
  | succ m ih =>
    intro i d j h hj
    unfold splitL
    by_cases hs : d.size < 55
    · rw [if_pos hs]
      obtain rfl : j = 0 := by omega
      rw [chunk_small d hs]
      simp
    · rw [if_neg hs]
      have hsz : (d.extract 55 d.size).size = d.size - 55 := by rw [ByteArray.size_extract]; omega
      cases j with
      | zero => rw [chunk_zero d (by omega)]; simp
      | succ j =>
        rw [List.getElem?_cons_succ, ih (i + 1) (d.extract 55 d.size) j (by rw [hsz]; omega) (by rw [hsz]; omega), chunk_succ d j (by omega)]
        congr 2
        omega
theorem splitL_len (g : Int) : ∀ (m : Nat) (i : Int) (d : ByteArray), d.size / 55 < m → (splitL g m i d).length = d.size / 55 + 1 := by
  intro m
  induction m with
  | zero => intro i d h; omega
  | succ m ih =>
    intro i d h
    unfold splitL
    by_cases hs : d.size < 55
    · rw [if_pos hs]; simp; omega
    · rw [if_neg hs]
      have hsz : (d.extract 55 d.size).size = d.size - 55 := by rw [ByteArray.size_extract]; omega
      rw [List.length_cons, ih (i + 1) _ (by rw [hsz]; omega), hsz]
      omega

theorem splitL_parse (g : Int) (hg1 : 1 ≤ g) (hg2 : g ≤ 281474976710655) (m : Nat) (i : Int) (d : ByteArray) (hm : d.size / 55 < m) (hi : 0 ≤ i) (hi2 : i + (d.size / 55 : Nat) ≤ 65535) (j : Nat) (hj : j ≤ d.size / 55) (s : ByteArray) (hs : (splitL g m i d)[j]? = some s) :
    parseS s = (g, i + j, chunk d j, true) := by
  rw [splitL_get g m i d j hm hj] at hs
  obtain rfl := Option.some.inj hs
  have hgood : goodB g (i + j) = true := by simp only [goodB, decide_eq_true_eq]; omega
  rw [makeS_good _ _ _ hgood (chunk_size d j), parse_cell _ _ _ hgood (chunk_size d j)]

end Go.Proofs.YtekpbpcfeopilaaDoor.Back
