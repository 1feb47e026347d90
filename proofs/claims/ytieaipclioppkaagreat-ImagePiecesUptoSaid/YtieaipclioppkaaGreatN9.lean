/- image.Pieces and the reference's: a text cut into records; image.Whole and the reference's: records put together; ImagePieces: bytes are cut into the document's records, and records put together as it says; for texts that are no longer than 2^27 bytes together. -/
import Derived.Test.YtieaipclioppkaaGreatN5
import Derived.Test.YtieaipclioppkaaGreatN4
import Derived.Test.YtieaipclioppkaaGreatShelf
import Derived.Test.YtieaipclioppkaaGreatN7
set_option linter.unusedSimpArgs false
set_option linter.unusedVariables false

/-! image.Pieces and the reference's: a text cut into records. -/
namespace Go.Proofs.YtieaipclioppkaaGreat.Pc
open Go Go.RowKit Go.Joins Go.Proofs.YtieaipclioppkaaGreatCore Go.Proofs.YtieaipclioppkaaGreat.PLeaf Go.Proofs.YtieaipclioppkaaGreat.Fr Go.Proofs.YtieaipclioppkaaGreatW.PrintWords Go.Proofs.YtieaipclioppkaaGreatW.PrintLast Go.Proofs.YtieaipclioppkaaGreatW.PrintMore

theorem ba_loop (b : ByteArray) : ∀ (n i : Nat) (r : List UInt8), b.size - i = n → ByteArray.toList.loop b i r = r.reverse ++ b.data.toList.drop i := by
  intro n
  induction n with
  | zero =>
    intro i r h
    rw [ByteArray.toList.loop, if_neg (by omega), List.drop_of_length_le (by show b.data.size ≤ i; have : b.size = b.data.size := rfl; omega), List.append_nil]
  | succ n ih =>
    intro i r h
    have hi : i < b.data.size := by have : b.size = b.data.size := rfl; omega
    have hi2 : i < b.size := hi
    rw [ByteArray.toList.loop, if_pos hi2, ih _ _ (by omega), List.reverse_cons, List.append_assoc, List.drop_eq_getElem_cons (i := i) (by simpa using hi)]
    congr 1
    simp only [List.cons_append, List.nil_append]
    congr 1
    show b.data[i]! = _
    exact getElem!_pos b.data i hi
theorem ba_toList (b : ByteArray) : b.toList = b.data.toList := by
  unfold ByteArray.toList
  rw [ba_loop b _ 0 [] rfl]
  rfl

theorem ba_ne {t : ByteArray} (h : 0 < t.size) : t.toList.isEmpty = false ∧ t.toList ≠ [] := by
  rw [ba_toList]
  have h2 : t.data.toList.length = t.size := by simp
  cases hl : t.data.toList with
  | nil => rw [hl] at h2; simp at h2; omega
  | cons a l => exact ⟨rfl, by simp⟩
theorem ba_nil {t : ByteArray} (h : t.size = 0) : t.toList.isEmpty = true ∧ t.toList = [] := by
  rw [ba_toList]
  have h2 : t.data.toList.length = t.size := by simp
  have : t.data.toList = [] := List.length_eq_zero_iff.1 (by omega)
  rw [this]
  exact ⟨rfl, rfl⟩
/-- The k-th record of a text. -/
def pieceAt (s : ByteArray) (k : Nat) : ByteArray := (⟨#[105]⟩ : ByteArray) ++ s.extract (4000 * k) (4000 * k + min 4000 (s.size - 4000 * k))
def piecesN (s : ByteArray) : Nat := (s.size + 3999) / 4000
def pieces (s : ByteArray) : List ByteArray := (List.range (piecesN s)).map (pieceAt s)
theorem extract_extract' (s : ByteArray) (a b c d : Nat) (h : a + d ≤ b) : (s.extract a b).extract c d = s.extract (a + c) (a + d) := by
  rw [ByteArray.extract_extract]
  congr 1
  omega
theorem range_snoc (s : ByteArray) (k : Nat) : (List.range (k + 1)).map (pieceAt s) = (List.range k).map (pieceAt s) ++ [pieceAt s k] := by
  rw [List.range_succ, List.map_append]
  rfl
theorem infoStr : (Tryz.prog.info? 9).map (fun i => (i.zero, i.size, i.bytes)) = some (some (.string ⟨#[]⟩), 1, 16) := by kernel_rfl
structure PInv (s : ByteArray) (w : World) (gk : Nat) (v o : Value) (wr : World) (k : Nat) : Prop where
  le : k ≤ piecesN s
  slot : v = .string (s.extract (4000 * k) s.size)
  ghost : gk + k = piecesN s
  own : Kd.R Kd.string 9 wr w.heap.size (fun _ => True) o ((List.range k).map (pieceAt s))
  below : Below w.heap.size w wr
def PRel (s : ByteArray) (w : World) (gk : Nat) (v o : Value) (wr : World) : Prop := ∃ k, PInv s w gk v o wr k
def PcPost (s : ByteArray) (w : World) (e : Ending) (w' : World) : Prop := ∃ v, e = .returned v ∧ Kd.R Kd.string 9 w' w.heap.size (fun _ => True) v (pieces s) ∧ Below w.heap.size w w'

set_option maxHeartbeats 4000000 in
set_option maxRecDepth 100000 in
theorem pieces_any (s : ByteArray) (w : World) (hs : s.size ≤ 1000000000) : Calls Tryz.prog 8 #[.string s] w fun e w' => PcPost s w e w' := by
  go_enter Tryz.func8, Tryz.ntmps8
  go_wp2_with fail
  go_loopg [0, 3] (piecesN s) (fun gk v o wr => PRel s w gk v o wr)
  case atStart => exact ⟨0, ⟨Nat.zero_le _, by simp, rfl, Kd.R_nil _ _ _ _ _, Below.refl _ _⟩⟩
  case round =>
    obtain ⟨k, hk, rfl, hg, hown, hbel⟩ := hrel
    have HG := Lib.hid hg
    have HOW := Lib.hid hown
    have HBL := Lib.hid hbel
    clear hg hown hbel
    obtain ⟨t, ht⟩ : ∃ t, s.extract (4000 * k) s.size = t := ⟨_, rfl⟩
    have hts : t.size = s.size - 4000 * k := by rw [← ht, ByteArray.size_extract]; omega
    rw [ht]
    have HT := Lib.hid ht
    have HTS := Lib.hid hts
    have hM : t.size ≤ 1000000000 := by omega
    by_cases hlt : k < piecesN s
    · have hpos : 0 < t.size := by unfold piecesN at hlt; omega
      obtain ⟨hte, hte2⟩ := ba_ne hpos
      obtain ⟨n, hn⟩ : ∃ n, min 4000 t.size = n := ⟨_, rfl⟩
      have hmn : min (4000 : Int) (t.size : Int) = (n : Int) := by omega
      have hnt : n ≤ t.size := by omega
      have hpc : (⟨#[105]⟩ : ByteArray) ++ t.extract 0 n = pieceAt s k := by
        unfold pieceAt
        rw [← ht, extract_extract' _ _ _ _ _ (by omega), ← hts, hn, Nat.add_zero]
      have hnx : t.extract n t.size = s.extract (4000 * (k + 1)) s.size := by
        rw [← ht, extract_extract' _ _ _ _ _ (by rw [ht]; omega)]
        rw [ht]
        by_cases h4 : 4000 ≤ t.size
        · have : n = 4000 := by omega
          subst this
          congr 1 <;> omega
        · have e1 : n = t.size := by omega
          have h1 : (s.extract (4000 * k + n) (4000 * k + t.size)).size = 0 := by rw [ByteArray.size_extract]; omega
          have h2 : (s.extract (4000 * (k + 1)) s.size).size = 0 := by rw [ByteArray.size_extract]; omega
          rw [ByteArray.size_eq_zero_iff.1 h1, ByteArray.size_eq_zero_iff.1 h2]
      have HPC := Lib.hid hpc
      have HNX := Lib.hid hnx
      have hlen : (((List.range k).map (pieceAt s)).length + 1) * 16 ≤ 140737488355328 := by
        rw [List.length_map, List.length_range]
        unfold piecesN at hlt
        omega
      have hcat : ¬ 9223372036854775807 < 1 + n := by omega
      clear ht hts hn hpc hnx
      go_wp2_with fail
      refine wp_region_held_drew (S := fun _ => True) (by kernel_rfl) trivial (fun hHeld => ?_)
      refine wpAnyH_take (i := 0) (v := ?mv1) rfl (by kernel_rfl) (by kernel_rfl) (by kernel_rfl) (fun _ _ _ h => h) (Or.inl ⟨by rfl, ?mh1⟩) (by assumption) ?mr1
      case mh1 => intro w hSw; clear hSw; go_simp; try with_reducible rfl
      (try simp only [Act.put]); (try simp only [List.getElem_toArray, List.getElem_cons_zero, List.getElem_cons_succ]); (try simp only [List.setIfInBounds_toArray]); (try simp only [List.set_cons_zero, List.set_cons_succ])
      refine wpAnyH_take (i := 1) (v := ?mv2) rfl (by kernel_rfl) (by kernel_rfl) (by kernel_rfl) (fun _ _ _ h => h) (Or.inl ⟨by rfl, ?mh2⟩) (by assumption) ?mr2
      case mh2 => intro w hSw; clear hSw; go_simp; try with_reducible rfl
      (try simp only [Act.put]); (try simp only [List.getElem_toArray, List.getElem_cons_zero, List.getElem_cons_succ]); (try simp only [List.setIfInBounds_toArray]); (try simp only [List.set_cons_zero, List.set_cons_succ])
      refine wpAnyH_take (i := 2) (v := ?mv3) rfl (by kernel_rfl) (by kernel_rfl) (by kernel_rfl) (fun _ _ _ h => h) (Or.inl ⟨by rfl, ?mh3⟩) (by assumption) ?mr3
      case mh3 => intro w hSw; clear hSw; go_simp; try with_reducible rfl
      (try simp only [Act.put]); (try simp only [List.getElem_toArray, List.getElem_cons_zero, List.getElem_cons_succ]); (try simp only [List.setIfInBounds_toArray]); (try simp only [List.set_cons_zero, List.set_cons_succ])
      refine wpAnyH_take (i := 3) (v := ?mv4) rfl (by kernel_rfl) (by kernel_rfl) (by kernel_rfl) (fun _ _ _ h => h) (Or.inl ⟨by rfl, ?mh4⟩) (by assumption) ?mr4
      case mh4 => intro w hSw; clear hSw; go_simp; try with_reducible rfl
      (try simp only [Act.put]); (try simp only [List.getElem_toArray, List.getElem_cons_zero, List.getElem_cons_succ]); (try simp only [List.setIfInBounds_toArray]); (try simp only [List.set_cons_zero, List.set_cons_succ])
      refine wpAnyH_take (i := 4) (v := ?mv5) rfl (by kernel_rfl) (by kernel_rfl) (by kernel_rfl) (fun _ _ _ h => h) (Or.inl ⟨by rfl, ?mh5⟩) (by assumption) ?mr5
      case mh5 => intro w hSw; clear hSw; go_simp; try with_reducible rfl
      (try simp only [Act.put]); (try simp only [List.getElem_toArray, List.getElem_cons_zero, List.getElem_cons_succ]); (try simp only [List.setIfInBounds_toArray]); (try simp only [List.set_cons_zero, List.set_cons_succ])
      refine wpAnyH_take (i := 7) (v := ?mv6) rfl (by kernel_rfl) (by kernel_rfl) (by kernel_rfl) (fun _ _ _ h => h) (Or.inl ⟨by rfl, ?mh6⟩) (by assumption) ?mr6
      case mh6 => intro w hSw; clear hSw; go_simp; try with_reducible rfl
      (try simp only [Act.put]); (try simp only [List.getElem_toArray, List.getElem_cons_zero, List.getElem_cons_succ]); (try simp only [List.setIfInBounds_toArray]); (try simp only [List.set_cons_zero, List.set_cons_succ])
      refine wpAnyH_take (i := 8) (v := ?mv7) rfl (by kernel_rfl) (by kernel_rfl) (by kernel_rfl) (fun _ _ _ h => h) (Or.inl ⟨by rfl, ?mh7⟩) (by assumption) ?mr7
      case mh7 => intro w hSw; clear hSw; go_simp; try with_reducible rfl
      (try simp only [Act.put]); (try simp only [List.getElem_toArray, List.getElem_cons_zero, List.getElem_cons_succ]); (try simp only [List.setIfInBounds_toArray]); (try simp only [List.set_cons_zero, List.set_cons_succ])
      refine wpAnyH_take (i := 9) (v := ?mv8) rfl (by kernel_rfl) (by kernel_rfl) (by kernel_rfl) (fun _ _ _ h => h) (Or.inl ⟨by rfl, ?mh8⟩) (by assumption) ?mr8
      case mh8 => intro w hSw; clear hSw; go_simp; try with_reducible rfl
      (try simp only [Act.put]); (try simp only [List.getElem_toArray, List.getElem_cons_zero, List.getElem_cons_succ]); (try simp only [List.setIfInBounds_toArray]); (try simp only [List.set_cons_zero, List.set_cons_succ])
      refine wpAnyH_ready (rs := [5]) (by kernel_rfl) (by simp) ?_
      refine AllReadyH.cons rfl (fun K hK => ?_) AllReadyH.nil
      go_simp
      refine hK.out _ _ trivial (fun hHeld => ?_)
      clear hK K
      (try simp only [Act.put]); (try simp only [List.getElem_toArray, List.getElem_cons_zero, List.getElem_cons_succ]); (try simp only [List.setIfInBounds_toArray]); (try simp only [List.set_cons_zero, List.set_cons_succ])
      refine wpAnyH_ready (rs := [6]) (by kernel_rfl) (by simp) ?_
      refine AllReadyH.cons rfl (fun K hK => ?_) AllReadyH.nil
      refine Kd.R_append_step Kd.string (w0 := wr.drew) (W := wr.drew) w.heap.size rfl (.tmp 10) (.tmp 15) 24 9 (.string ⟨#[]⟩) 16 rfl Tryz.underlying24 infoStr rfl (by decide) (by decide) _ ((List.range k).map (pieceAt s)) ((⟨#[105]⟩ : ByteArray) ++ t.extract 0 n) [.string ((⟨#[105]⟩ : ByteArray) ++ t.extract 0 n)] (fun _ => True) (fun _ => False) rfl rfl rfl (fun _ hk => hk.elim) (fun _ _ => trivial) (Kd.R_below HOW.out (YtieaipclioppkaaGreatCore.below_drewN 1)) (Below.refl _ _) HBL.out.size hlen ?_
      intro v9 w9 ho9 hb9 hg9 hat9
      rw [HPC.out, ← range_snoc] at ho9
      have HO9 := Lib.hid ho9
      have HB9 := Lib.hid (HBL.out.trans (((YtieaipclioppkaaGreatCore.below_drewN 1).mono HBL.out.size).trans hb9))
      clear ho9 hb9 hg9 hat9 hcat
      refine hK.out _ _ trivial (fun hHeld => ?_)
      clear hK K
      (try simp only [Act.put]); (try simp only [List.getElem_toArray, List.getElem_cons_zero, List.getElem_cons_succ]); (try simp only [List.setIfInBounds_toArray]); (try simp only [List.set_cons_zero, List.set_cons_succ])
      refine wpAnyH_ready (rs := [10]) (by kernel_rfl) (by simp) ?_
      refine AllReadyH.cons rfl (fun K hK => ?_) AllReadyH.nil
      go_simp
      refine hK.out _ _ trivial (fun hHeld => ?_)
      clear hK K
      (try simp only [Act.put]); (try simp only [List.getElem_toArray, List.getElem_cons_zero, List.getElem_cons_succ]); (try simp only [List.setIfInBounds_toArray]); (try simp only [List.set_cons_zero, List.set_cons_succ])
      refine wpAnyH_ready (rs := [11]) (by kernel_rfl) (by simp) ?_
      refine AllReadyH.cons rfl (fun K hK => ?_) AllReadyH.nil
      go_simp
      refine hK.out _ _ trivial (fun hHeld => ?_)
      clear hK K
      (try simp only [Act.put]); (try simp only [List.getElem_toArray, List.getElem_cons_zero, List.getElem_cons_succ]); (try simp only [List.setIfInBounds_toArray]); (try simp only [List.set_cons_zero, List.set_cons_succ])
      refine wpAnyH_done (by kernel_rfl) ?_ _
      go_wp2_with fail
      go_roundg (gk - 1)
      case measure => have := HG.out; omega
      case rel => exact ⟨k + 1, ⟨by omega, by rw [HNX.out], by have := HG.out; omega, HO9.out, HB9.out⟩⟩
    · obtain rfl : k = piecesN s := by omega
      have hz : t.size = 0 := by unfold piecesN at hts; omega
      obtain ⟨hte, hte2⟩ := ba_nil hz
      clear ht hts hz
      go_wp2_with fail
      go_ret
      exact ⟨_, rfl, HOW.out, HBL.out⟩

structure QInv (s : ByteArray) (w : World) (gk : Nat) (v o : Value) (wr : World) (k p : Nat) : Prop where
  le : k ≤ piecesN s
  at_ : p = 4000 * k
  slot : v = .int .i64 (p : Int)
  ghost : gk + k = piecesN s
  own : Kd.R Kd.string 9 wr w.heap.size (fun _ => True) o ((List.range k).map (pieceAt s))
  below : Below w.heap.size w wr
def QRel (s : ByteArray) (w : World) (gk : Nat) (o v : Value) (wr : World) : Prop := ∃ k p, QInv s w gk v o wr k p

set_option maxHeartbeats 4000000 in
set_option maxRecDepth 100000 in
theorem rpieces_any (s : ByteArray) (w : World) (hs : s.size ≤ 1000000000) : Calls Tryz.prog 10 #[.string s] w fun e w' => PcPost s w e w' := by
  go_enter Tryz.func10, Tryz.ntmps10
  go_wp2_with fail
  go_loopg [3, 4] (piecesN s) (fun gk o v wr => QRel s w gk o v wr)
  case atStart => exact ⟨0, 0, ⟨Nat.zero_le _, rfl, rfl, rfl, Kd.R_nil _ _ _ _ _, Below.refl _ _⟩⟩
  case round =>
    obtain ⟨k, p, hk, hp, rfl, hg, hown, hbel⟩ := hrel
    have HG := Lib.hid hg
    have HOW := Lib.hid hown
    have HBL := Lib.hid hbel
    have HP := Lib.hid hp
    clear hg hown hbel
    by_cases hlt : k < piecesN s
    · have hps : p < s.size := by unfold piecesN at hlt; omega
      have hpsI : (p : Int) < (s.size : Int) := by omega
      have hlen : (((List.range k).map (pieceAt s)).length + 1) * 16 ≤ 140737488355328 := by
        rw [List.length_map, List.length_range]
        unfold piecesN at hlt
        omega
      obtain ⟨e, he⟩ : ∃ e : Nat, p + 4000 = e := ⟨_, rfl⟩
      have heI : (p : Int) + 4000 = (e : Int) := by omega
      obtain ⟨f, hf⟩ : ∃ f : Nat, min e s.size = f := ⟨_, rfl⟩
      have hpc : (⟨#[105]⟩ : ByteArray) ++ s.extract p f = pieceAt s k := by
        unfold pieceAt
        congr 2 <;> omega
      have HPC := Lib.hid hpc
      have HE : Hid (p + 4000 = e) := Lib.hid he
      by_cases hbig : s.size < e
      · have hbigI : (s.size : Int) < (e : Int) := by omega
        obtain rfl : f = s.size := by omega
        have hcat : ¬ 9223372036854775807 < 1 + (s.size - p) := by omega
        have hle : p ≤ s.size := by omega
        clear hp he hpc hf
        go_wp2_with (at_builtin; go_must ((refine Kd.R_append Kd.string (w0 := wr) w.heap.size rfl (.tmp 20) (.tmp 26) 24 9 (.string ⟨#[]⟩) 16 rfl Tryz.underlying24 infoStr rfl (by decide) (by decide) _ ((List.range k).map (pieceAt s)) ((⟨#[105]⟩ : ByteArray) ++ s.extract p s.size) [.string ((⟨#[105]⟩ : ByteArray) ++ s.extract p s.size)] (fun _ => True) (fun _ => False) rfl rfl rfl (fun _ hk => hk.elim) (fun _ _ => trivial) HOW.out (Below.refl _ _) HBL.out.size hlen ?_; intro v9 w9 ho9 hb9 hg9 hat9)))
        rw [HPC.out, ← range_snoc] at ho9
        go_roundg (gk - 1)
        case measure => have := HG.out; omega
        case rel => exact ⟨k + 1, e, ⟨by omega, by have := HE.out; have := HP.out; omega, rfl, by have := HG.out; omega, ho9, HBL.out.trans hb9⟩⟩
      · have hbigI : ¬ (s.size : Int) < (e : Int) := by omega
        obtain rfl : f = e := by omega
        have hcat : ¬ 9223372036854775807 < 1 + (f - p) := by omega
        have hle : p ≤ f := by omega
        have hle2 : f ≤ s.size := by omega
        clear hp he hpc hf
        go_wp2_with (at_builtin; go_must ((refine Kd.R_append Kd.string (w0 := wr) w.heap.size rfl (.tmp 20) (.tmp 26) 24 9 (.string ⟨#[]⟩) 16 rfl Tryz.underlying24 infoStr rfl (by decide) (by decide) _ ((List.range k).map (pieceAt s)) ((⟨#[105]⟩ : ByteArray) ++ s.extract p f) [.string ((⟨#[105]⟩ : ByteArray) ++ s.extract p f)] (fun _ => True) (fun _ => False) rfl rfl rfl (fun _ hk => hk.elim) (fun _ _ => trivial) HOW.out (Below.refl _ _) HBL.out.size hlen ?_; intro v9 w9 ho9 hb9 hg9 hat9)))
        rw [HPC.out, ← range_snoc] at ho9
        go_roundg (gk - 1)
        case measure => have := HG.out; omega
        case rel => exact ⟨k + 1, f, ⟨by omega, by have := HE.out; have := HP.out; omega, rfl, by have := HG.out; omega, ho9, HBL.out.trans hb9⟩⟩
    · obtain rfl : k = piecesN s := by omega
      have hz : s.size ≤ p := by unfold piecesN at hp; omega
      have hzI : ¬ (p : Int) < (s.size : Int) := by omega
      clear hp hz
      go_wp2_with fail
      go_ret
      exact ⟨_, rfl, HOW.out, HBL.out⟩

end Go.Proofs.YtieaipclioppkaaGreat.Pc

/-! image.Whole and the reference's: records put together. -/
namespace Go.Proofs.YtieaipclioppkaaGreat.Wh
open Go Go.RowKit Go.Joins Go.Proofs.YtieaipclioppkaaGreatCore Go.Proofs.YtieaipclioppkaaGreat.PLeaf Go.Proofs.YtieaipclioppkaaGreat.Fr Go.Proofs.YtieaipclioppkaaGreat.Bld Go.Proofs.YtieaipclioppkaaGreat.Pk Go.Proofs.YtieaipclioppkaaGreat.Pc Go.Proofs.YtieaipclioppkaaGreatW.PrintWords Go.Proofs.YtieaipclioppkaaGreatW.PrintLast Go.Proofs.YtieaipclioppkaaGreatW.PrintMore

/-- Is it a record that goes on? -/
def isI (x : ByteArray) : Bool := Lib.hasPrefix x.data.toList [105]
def tailL (x : ByteArray) : List UInt8 := x.data.toList.drop 1
/-- How many records go on; their bytes. -/
def jj (l : List ByteArray) : Nat := (l.takeWhile isI).length
def txtL (l : List ByteArray) (k : Nat) : List UInt8 := (l.take k).flatMap tailL
theorem jj_le (l : List ByteArray) : jj l ≤ l.length := by
  unfold jj
  induction l with
  | nil => exact Nat.le_refl _
  | cons x l ih =>
    rw [List.takeWhile_cons]
    split
    · simp only [List.length_cons]; omega
    · simp
theorem tw_lt : ∀ (l : List ByteArray) (k : Nat) (x : ByteArray), k ≤ jj l → l[k]? = some x → isI x = true → k + 1 ≤ jj l := by
  intro l
  induction l with
  | nil => intro k x _ h; simp at h
  | cons y l ih =>
    intro k x hk h hi
    unfold jj at hk ⊢
    rw [List.takeWhile_cons] at hk ⊢
    cases k with
    | zero =>
      simp only [List.getElem?_cons_zero, Option.some.injEq] at h
      subst h
      rw [if_pos hi]
      simp
    | succ k =>
      by_cases hy : isI y = true
      · rw [if_pos hy] at hk ⊢
        simp only [List.length_cons] at hk ⊢
        have := ih k x (by unfold jj; omega) (by simpa using h) hi
        unfold jj at this
        omega
      · rw [if_neg hy] at hk
        simp at hk
theorem tw_stop : ∀ (l : List ByteArray) (k : Nat) (x : ByteArray), k ≤ jj l → l[k]? = some x → isI x = false → jj l = k := by
  intro l
  induction l with
  | nil => intro k x _ h; simp at h
  | cons y l ih =>
    intro k x hk h hi
    unfold jj at hk ⊢
    rw [List.takeWhile_cons] at hk ⊢
    cases k with
    | zero =>
      simp only [List.getElem?_cons_zero, Option.some.injEq] at h
      subst h
      rw [if_neg (by rw [hi]; decide)]
      rfl
    | succ k =>
      by_cases hy : isI y = true
      · rw [if_pos hy] at hk ⊢
        simp only [List.length_cons] at hk ⊢
        have := ih k x (by unfold jj; omega) (by simpa using h) hi
        unfold jj at this
        omega
      · rw [if_neg hy] at hk
        simp at hk
theorem txt_succ (l : List ByteArray) (k : Nat) (x : ByteArray) (h : l[k]? = some x) : txtL l (k + 1) = txtL l k ++ tailL x := by
  unfold txtL
  obtain ⟨hk, rfl⟩ := List.getElem?_eq_some_iff.1 h
  rw [List.take_succ_eq_append_getElem hk, List.flatMap_append]
  simp
/-- All the bytes of a list of texts. -/
def totL (l : List ByteArray) : Nat := (l.map ByteArray.size).sum
theorem txt_le (l : List ByteArray) : ∀ k, (txtL l k).length ≤ totL l := by
  intro k
  unfold txtL totL
  induction l generalizing k with
  | nil => simp
  | cons x l ih =>
    cases k with
    | zero => simp
    | succ k =>
      simp only [List.take_succ_cons, List.flatMap_cons, List.length_append, List.map_cons, List.sum_cons]
      have h1 := ih k
      have h2 : (tailL x).length ≤ x.size := by
        unfold tailL
        rw [List.length_drop]
        simp
      omega
theorem tot_mem {l : List ByteArray} {x : ByteArray} (h : x ∈ l) : x.size ≤ totL l := by
  unfold totL
  induction l with
  | nil => cases h
  | cons y l ih =>
    simp only [List.map_cons, List.sum_cons]
    rcases List.mem_cons.1 h with rfl | h
    · omega
    · have := ih h; omega
/-- A slice of texts that may be read. -/
def StrAt (w : World) (v : Value) (l : List ByteArray) : Prop := (v = .slice none 0 0 ∧ l = []) ∨ ∃ g o c, v = .slice (some ⟨g, o, none⟩) l.length c ∧ l.length ≤ c ∧ ∀ k x, l[k]? = some x → w.cell? ⟨g, o + k, none⟩ = some (.string x)
theorem StrAt.below {w w1 : World} {v : Value} {l : List ByteArray} (h : StrAt w v l) (hb : Below w.heap.size w w1) : StrAt w1 v l := by
  rcases h with h | ⟨g, o, c, h1, h2, h3⟩
  · exact .inl h
  · exact .inr ⟨g, o, c, h1, h2, fun k x hk => pw_cell_below hb (h3 k x hk)⟩
theorem StrAt.of_own {w : World} {base : Nat} {v : Value} {l : List ByteArray} (h : w.ownsRow base 9 1 v l.length (l.map Value.string)) : StrAt w v l := by
  rcases h.2 with ⟨rfl, h0⟩ | ⟨g, cap, cur, rfl, hb, hh, hc, hm, hlen, hx⟩
  · exact .inl ⟨rfl, List.length_eq_zero_iff.1 h0⟩
  · refine .inr ⟨g, 0, cap, rfl, hc, fun k x hk => ?_⟩
    have hlt := (List.getElem?_eq_some_iff.1 hk).1
    rw [Nat.zero_add, cell_of_row w g k cur _ _ hh, ← Array.getElem?_toList, ← List.getElem?_take_of_lt (l := cur.toList) (show k < l.length * 1 by omega), hx, List.getElem?_map, hk]
    rfl
theorem StrAt.of_R {w : World} {base : Nat} {ok : Nat → Prop} {v : Value} {l : List ByteArray} (h : Kd.R Kd.string 9 w base ok v l) : StrAt w v l := by
  have := Kd.own_of_R h
  exact StrAt.of_own this
structure WInv (l : List ByteArray) (n : Nat) (b B : Nat) (w : World) (gk : Nat) (v : Value) (wr : World) (k : Nat) : Prop where
  le : k ≤ jj l
  slot : v = .int .i64 k
  ghost : gk + k = n
  bld : Lib.IsBuilder 51 5 B b (Lib.byteCells (txtL l k)) wr
  below : Below w.heap.size w wr
def WRel (l : List ByteArray) (n : Nat) (b B : Nat) (w : World) (gk : Nat) (v : Value) (wr : World) : Prop := ∃ k, WInv l n b B w gk v wr k
def WPost (l : List ByteArray) (w : World) (e : Ending) (w' : World) : Prop := ∃ v, e = .returned (.tuple #[.string ⟨(txtL l (jj l)).toArray⟩, v]) ∧ StrAt w' v (l.drop (jj l)) ∧ Below w.heap.size w w'

def WPostR (l : List ByteArray) (w : World) (e : Ending) (w' : World) : Prop := ∃ v, e = .returned (.tuple #[.string ⟨(txtL l (jj l)).toArray⟩, v]) ∧ Kd.R Kd.string 9 w' w.heap.size (fun _ => True) v (l.drop (jj l)) ∧ Below w.heap.size w w'

set_option maxHeartbeats 8000000 in
set_option maxRecDepth 100000 in
theorem whole_any (l : List ByteArray) (v : Value) (w : World) (h : StrAt w v l) (hl : l.length ≤ 1000000) (ht : totL l ≤ 1000000000) : Calls Tryz.prog 11 #[v] w fun e w' => WPostR l w e w' := by
  obtain ⟨A, c, hv, hcl⟩ : ∃ A c, v = .slice A l.length c ∧ l.length ≤ c := by
    rcases h with ⟨rfl, rfl⟩ | ⟨g, o, c, rfl, hc, _⟩
    · exact ⟨none, 0, rfl, Nat.le_refl _⟩
    · exact ⟨_, c, rfl, hc⟩
  subst hv
  have hcells : ∀ k x, l[k]? = some x → ∃ g o, A = some ⟨g, o, none⟩ ∧ w.cell? ⟨g, o + k, none⟩ = some (.string x) := by
    intro k x hk
    rcases h with ⟨_, rfl⟩ | ⟨g, o, c', he, _, hx⟩
    · simp at hk
    · injection he with h1 _ _
      exact ⟨g, o, h1, hx k x hk⟩
  obtain ⟨n, hn⟩ : ∃ n, l.length = n := ⟨_, rfl⟩
  rw [hn] at hl hcl
  have HN := Lib.hid hn
  have HCL := Lib.hid hcells
  have HT := Lib.hid ht
  obtain ⟨w1, hw1⟩ : ∃ w1, w.alloc (.cells #[.pointer none, .slice none 0 0] 51) = w1 := ⟨_, rfl⟩
  obtain ⟨b, hb⟩ : ∃ b, w.heap.size = b := ⟨_, rfl⟩
  have hbu := Lib.fresh_isBuilder 51 5 w
  rw [hw1, hb] at hbu
  have hb1 : Below w.heap.size w w1 := by rw [← hw1]; exact (Below.refl _ _).alloc (Nat.le_refl _) _
  have HBU := Lib.hid hbu
  have HB1 := Lib.hid hb1
  have HBW := Lib.hid hb
  rw [hn]
  clear h hcells ht hbu hb1 hn
  go_enter Tryz.func11, Tryz.ntmps11
  go_wp2_with (first | (rw [hw1]) | (rw [hb]))
  clear hb hw1
  go_loopg [11] n (fun gk v wr => WRel l n b b w gk v wr)
  case atStart => exact ⟨0, ⟨Nat.zero_le _, rfl, rfl, HBU.out, HB1.out⟩⟩
  case round =>
    obtain ⟨k, hk, rfl, hg, hbld, hbel⟩ := hrel
    have HG := Lib.hid hg
    have HBD := Lib.hid hbld
    have HBL := Lib.hid hbel
    have HK := Lib.hid hk
    clear hg hbld hbel hk
    by_cases hlt : k < n
    · have hltI : (k : Int) < (n : Int) := by omega
      obtain ⟨x, hx⟩ : ∃ x, l[k]? = some x := ⟨_, List.getElem?_eq_getElem (by rw [HN.out]; exact hlt)⟩
      obtain ⟨g, o, rfl, hcell0⟩ := HCL.out k x hx
      have hcell := pw_cell_below HBL.out hcell0
      have HX := Lib.hid hx
      clear hx hcell0
      go_wp2_with fail
      refine (Tryz.strings_CutPrefix x ⟨#[105]⟩ wr).mono ?_
      rintro e w2 ⟨rfl, rfl⟩
      have hhp : Lib.hasPrefix x.data.toList (⟨#[105]⟩ : ByteArray).data.toList = isI x := rfl
      have htp : isI x = true → Lib.trimPrefix x.data.toList (⟨#[105]⟩ : ByteArray).data.toList = tailL x := fun h => by
        unfold Lib.trimPrefix
        rw [hhp, if_pos h]
        rfl
      rw [hhp]
      have hlx := HX.out
      by_cases hi : isI x = true
      · rw [htp hi, hi]
        obtain ⟨t, htt⟩ : ∃ t : ByteArray, ⟨(tailL x).toArray⟩ = t := ⟨_, rfl⟩
        have htl : t.data.toList = tailL x := by rw [← htt]
        have hts : t.size = (tailL x).length := by rw [← htl]; simp
        have htx := txt_succ l k x hlx
        have hbd := txt_le l (k + 1)
        rw [htx, List.length_append] at hbd
        have hk1 := tw_lt l k x HK.out hlx hi
        rw [htt]
        have HTL := Lib.hid htl
        have HTX := Lib.hid htx
        have hlen : (Lib.byteCells (txtL l k)).length + t.size ≤ 140737488355328 := by rw [Lib.byteCells_length, hts]; have := HT.out; omega
        have hbw : b ≤ w2.heap.size := by
          rcases HBD.out with ⟨_, v, h, _⟩ | ⟨_, v, h, _⟩
          · exact Nat.le_of_lt (YtieaipclioppkaaGreatCore.heap_lt h)
          · exact Nat.le_of_lt (YtieaipclioppkaaGreatCore.heap_lt h)
        clear hhp htp hlx hi htt htl hts htx hbd
        go_wp2_with fail
        refine (write_any b b _ t w2 HBD.out hlen hbw).mono ?_
        rintro e w5 ⟨rfl, hbu5, hb5, _⟩
        rw [cells_app, HTL.out, ← HTX.out] at hbu5
        have HBU5 := Lib.hid hbu5
        have HB5 := Lib.hid (HBL.out.trans (hb5.mono (by rw [HBW.out]; exact Nat.le_refl _)))
        clear hbu5 hb5 hcell
        go_wp2_with fail
        go_roundg (gk - 1)
        case measure => have := HG.out; omega
        case rel => exact ⟨k + 1, ⟨hk1, by go_num, by have := HG.out; omega, HBU5.out, HB5.out⟩⟩
      · have hif : isI x = false := by simpa using hi
        have hj := tw_stop l k x HK.out hlx hif
        obtain ⟨t, htt⟩ : ∃ t : ByteArray, ⟨(Lib.trimPrefix x.data.toList (⟨#[105]⟩ : ByteArray).data.toList).toArray⟩ = t := ⟨_, rfl⟩
        rw [htt, hif]
        have HJ := Lib.hid hj
        have hbw : b ≤ w2.heap.size := by
          rcases HBD.out with ⟨_, v, h, _⟩ | ⟨_, v, h, _⟩
          · exact Nat.le_of_lt (YtieaipclioppkaaGreatCore.heap_lt h)
          · exact Nat.le_of_lt (YtieaipclioppkaaGreatCore.heap_lt h)
        have hkc : k < c := by omega
        have hkn : k ≤ n := by omega
        have hck : ¬ c = k := by omega
        clear hhp htp hlx hi hif hj htt
        go_wp2_with fail
        refine wp_region_held_drew (S := fun W => Below w.heap.size w W) (by kernel_rfl) HBL.out.drew (fun hHeld => ?_)
        refine wpAnyH_take (i := 1) (v := ?mv1) rfl (by kernel_rfl) (by kernel_rfl) (by kernel_rfl) (fun _ _ _ h => h) (Or.inl ⟨by rfl, ?mh1⟩) (by assumption) ?mr1
        case mh1 => intro w hSw; clear hSw; go_simp; try with_reducible rfl
        (try simp only [Act.put]); (try simp only [List.getElem_toArray, List.getElem_cons_zero, List.getElem_cons_succ]); (try simp only [List.setIfInBounds_toArray]); (try simp only [List.set_cons_zero, List.set_cons_succ])
        refine wpAnyH_take (i := 2) (v := ?mv2) rfl (by kernel_rfl) (by kernel_rfl) (by kernel_rfl) (fun _ _ _ h => h) (Or.inl ⟨by rfl, ?mh2⟩) (by assumption) ?mr2
        case mh2 => intro w hSw; clear hSw; go_simp; try with_reducible rfl
        (try simp only [Act.put]); (try simp only [List.getElem_toArray, List.getElem_cons_zero, List.getElem_cons_succ]); (try simp only [List.setIfInBounds_toArray]); (try simp only [List.set_cons_zero, List.set_cons_succ])
        refine wpAnyH_take (i := 3) (v := ?mv3) rfl (by kernel_rfl) (by kernel_rfl) (by kernel_rfl) (fun _ _ _ h => h) (Or.inl ⟨by rfl, ?mh3⟩) (by assumption) ?mr3
        case mh3 => intro w hSw; clear hSw; go_simp; try with_reducible rfl
        (try simp only [Act.put]); (try simp only [List.getElem_toArray, List.getElem_cons_zero, List.getElem_cons_succ]); (try simp only [List.setIfInBounds_toArray]); (try simp only [List.set_cons_zero, List.set_cons_succ])
        refine wpAnyH_ready (rs := [0]) (by kernel_rfl) (by simp) ?_
        refine AllReadyH.cons rfl (fun K hK => ?_) AllReadyH.nil
        go_simp
        refine (Tryz.Builder_String_any b b _ w2.drew (builder_kept HBD.out (Below.refl _ _).drew) hbw).mono ?_
        rintro e w3 ⟨rfl, hb3⟩
        have hS : Below w.heap.size w w3 := hHeld.trans (hb3.mono (by rw [HBW.out]; exact Nat.le_refl _))
        have HB3 := Lib.hid hS
        clear hb3 hHeld
        refine hK.out _ _ hS (fun hHeld => ?_)
        clear hK K
        (try simp only [Act.put]); (try simp only [List.getElem_toArray, List.getElem_cons_zero, List.getElem_cons_succ]); (try simp only [List.setIfInBounds_toArray]); (try simp only [List.set_cons_zero, List.set_cons_succ])
        clear hS
        refine wpAnyH_ready (rs := [4]) (by kernel_rfl) (by simp) ?_
        refine AllReadyH.cons rfl (fun K hK => ?_) AllReadyH.nil
        go_simp
        obtain ⟨i0, hi0, hz0, hz1, hz2⟩ := info_parts infoStr
        have hcl : (l.drop k).length = n - k := by rw [List.length_drop, HN.out]
        have hnw : ∀ (j : Nat) (u : Value), ((l.drop k).map Value.string)[j]? = some u → w3.cell? ⟨g, o + k + j, none⟩ = some u := by
          intro j u hj
          rw [List.getElem?_map, List.getElem?_drop] at hj
          cases hlj : l[k + j]? with
          | none => rw [hlj] at hj; cases hj
          | some y =>
            rw [hlj] at hj
            cases hj
            obtain ⟨g', o', he, hc'⟩ := HCL.out (k + j) y hlj
            injection he with he
            injection he with e1 e2
            subst e1 e2
            rw [Nat.add_assoc]
            exact pw_cell_below HB3.out hc'
        have hclone := AnyE.slices_Clone Tryz.cloneS i0 _ 1 16 hi0 hz0 hz1 hz2 rfl (by decide) (Vl.sizeOf_info (by kernel_rfl)) g (o + k) (n - k) (c - k) ((l.drop k).map Value.string) w3 (by rw [List.length_map, hcl, Nat.mul_one]) (by unfold maxLen; omega) (by omega) hnw (fun u hu => by
          obtain ⟨y, _, rfl⟩ := List.mem_map.1 hu
          rfl)
        refine hclone.mono ?_
        clear hclone hnw
        rintro e w4 ⟨v4, rfl, hown, _, hb4⟩
        have hst : Kd.R Kd.string 9 w4 w.heap.size (fun _ => True) v4 (l.drop k) := Kd.R_lower (Kd.R_of_own (by rw [hcl]; exact hown) (fun _ _ => trivial)) HB3.out.size
        have hS : Below w.heap.size w w4 := HB3.out.trans (hb4.mono HB3.out.size)
        have HB4 := Lib.hid hS
        have HST := Lib.hid hst
        clear hb4 hHeld hown hst hcl hi0 hz0 hz1 hz2
        refine hK.out _ _ hS (fun hHeld => ?_)
        clear hK K
        (try simp only [Act.put]); (try simp only [List.getElem_toArray, List.getElem_cons_zero, List.getElem_cons_succ]); (try simp only [List.setIfInBounds_toArray]); (try simp only [List.set_cons_zero, List.set_cons_succ])
        clear hS
        refine wpAnyH_take (i := 5) (v := ?mv4) rfl (by kernel_rfl) (by kernel_rfl) (by kernel_rfl) (fun _ _ _ h => h) (Or.inl ⟨by rfl, ?mh4⟩) (by assumption) ?mr4
        case mh4 => intro w hSw; clear hSw; go_simp; try with_reducible rfl
        (try simp only [Act.put]); (try simp only [List.getElem_toArray, List.getElem_cons_zero, List.getElem_cons_succ]); (try simp only [List.setIfInBounds_toArray]); (try simp only [List.set_cons_zero, List.set_cons_succ])
        refine wpAnyH_take (i := 6) (v := ?mv5) rfl (by kernel_rfl) (by kernel_rfl) (by kernel_rfl) (fun _ _ _ h => h) (Or.inl ⟨by rfl, ?mh5⟩) (by assumption) ?mr5
        case mh5 => intro w hSw; clear hSw; go_simp; try with_reducible rfl
        (try simp only [Act.put]); (try simp only [List.getElem_toArray, List.getElem_cons_zero, List.getElem_cons_succ]); (try simp only [List.setIfInBounds_toArray]); (try simp only [List.set_cons_zero, List.set_cons_succ])
        refine wpAnyH_done (by kernel_rfl) ?_ _
        clear hHeld
        go_wp2_with fail
        go_ret2
        exact ⟨v4, by rw [HJ.out]; rfl, by rw [HJ.out]; exact HST.out, HB4.out⟩
    · have hkn : k ≤ n := by have h1 := HK.out; have h2 := jj_le l; have h3 := HN.out; omega
      obtain rfl : k = n := by omega
      have hj : jj l = k := by have h1 := HK.out; have h2 := jj_le l; have h3 := HN.out; omega
      have HJ := Lib.hid hj
      have hbw : b ≤ wr.heap.size := by
        rcases HBD.out with ⟨_, v, h, _⟩ | ⟨_, v, h, _⟩
        · exact Nat.le_of_lt (YtieaipclioppkaaGreatCore.heap_lt h)
        · exact Nat.le_of_lt (YtieaipclioppkaaGreatCore.heap_lt h)
      clear hj
      go_wp2_with fail
      refine (Tryz.Builder_String_any b b _ wr HBD.out hbw).mono ?_
      rintro e w3 ⟨rfl, hb3⟩
      have HB3 := Lib.hid (HBL.out.trans (hb3.mono (by rw [HBW.out]; exact Nat.le_refl _)))
      clear hb3
      go_wp2_with fail
      go_ret2
      exact ⟨.slice none 0 0, by rw [HJ.out]; rfl, by rw [HJ.out, List.drop_of_length_le (by rw [HN.out]; exact Nat.le_refl _)]; exact Kd.R_nil _ _ _ _ _, HB3.out⟩

theorem below_drewN' {w : World} (n : Nat) : Below w.heap.size w (w.drewN n) := ⟨rfl, rfl, rfl, Nat.le_refl _, fun _ _ => rfl⟩
structure VInv (l : List ByteArray) (n : Nat) (w0 : World) (gk : Nat) (t v : Value) (wr : World) (k : Nat) : Prop where
  le : k ≤ jj l
  slot : v = .int .i64 k
  text : t = .string ⟨(txtL l k).toArray⟩
  ghost : gk + k = n
  same : ∃ m, wr = w0.drewN m
def VRel (l : List ByteArray) (n : Nat) (w0 : World) (gk : Nat) (t v : Value) (wr : World) : Prop := ∃ k, VInv l n w0 gk t v wr k
theorem isI_one (x : ByteArray) : isI x = true ↔ ∃ h : 0 < x.size, x[0] = 105 := by
  unfold isI Lib.hasPrefix
  have h2 : x.data.toList.length = x.size := by simp
  cases hl : x.data.toList with
  | nil =>
    rw [hl] at h2
    simp at h2
    constructor
    · intro h; simp [List.isPrefixOf] at h
    · rintro ⟨h, _⟩; omega
  | cons a r =>
    rw [hl] at h2
    have h0 : 0 < x.size := by simp at h2; omega
    have hx : x[0] = a := by
      show x.data[0] = a
      rw [← Array.getElem_toList]
      simp [hl]
    constructor
    · intro h
      have : (105 : UInt8) = a := by simpa [List.isPrefixOf] using h
      exact ⟨h0, by rw [hx, this]⟩
    · rintro ⟨_, h⟩
      rw [hx] at h
      subst h
      simp [List.isPrefixOf]

set_option maxHeartbeats 8000000 in
set_option maxRecDepth 100000 in
theorem rwhole_any (l : List ByteArray) (v : Value) (w : World) (h : StrAt w v l) (hl : l.length ≤ 1000000) (ht : totL l ≤ 1000000000) : Calls Tryz.prog 12 #[v] w fun e w' => WPost l w e w' := by
  obtain ⟨A, c, hv, hcl⟩ : ∃ A c, v = .slice A l.length c ∧ l.length ≤ c := by
    rcases h with ⟨rfl, rfl⟩ | ⟨g, o, c, rfl, hc, _⟩
    · exact ⟨none, 0, rfl, Nat.le_refl _⟩
    · exact ⟨_, c, rfl, hc⟩
  subst hv
  have hcells : ∀ k x, l[k]? = some x → ∃ g o, A = some ⟨g, o, none⟩ ∧ w.cell? ⟨g, o + k, none⟩ = some (.string x) := by
    intro k x hk
    rcases h with ⟨_, rfl⟩ | ⟨g, o, c', he, _, hx⟩
    · simp at hk
    · injection he with h1 _ _
      exact ⟨g, o, h1, hx k x hk⟩
  obtain ⟨n, hn⟩ : ∃ n, l.length = n := ⟨_, rfl⟩
  rw [hn] at hl hcl
  have HN := Lib.hid hn
  have HCL := Lib.hid hcells
  have HT := Lib.hid ht
  have HH := Lib.hid h
  rw [hn]
  clear h hcells ht hn
  go_enter Tryz.func12, Tryz.ntmps12
  go_wp2_with fail
  go_loopg [4, 5] n (fun gk t v wr => VRel l n w gk t v wr)
  case atStart => exact ⟨0, ⟨Nat.zero_le _, rfl, rfl, rfl, 0, rfl⟩⟩
  case round =>
    obtain ⟨k, hk, rfl, rfl, hg, m, rfl⟩ := hrel
    have HG := Lib.hid hg
    have HK := Lib.hid hk
    clear hg hk
    by_cases hlt : k < n
    · have hltI : (k : Int) < (n : Int) := by omega
      obtain ⟨x, hx⟩ : ∃ x, l[k]? = some x := ⟨_, List.getElem?_eq_getElem (by rw [HN.out]; exact hlt)⟩
      obtain ⟨g, o, rfl, hcell⟩ := HCL.out k x hx
      have HX := Lib.hid hx
      clear hx
      obtain ⟨t, htt⟩ : ∃ t : ByteArray, ⟨(txtL l k).toArray⟩ = t := ⟨_, rfl⟩
      have hts : t.size = (txtL l k).length := by rw [← htt]; simp [ByteArray.size]
      have htb := txt_le l k
      have hxm := tot_mem (List.mem_of_getElem? HX.out)
      have htot := HT.out
      rw [← hts] at htb
      rw [htt]
      have HTT := Lib.hid htt
      clear hts htt
      have hcat : ¬ 9223372036854775807 < t.size + (x.size - 1) := by omega
      by_cases h0 : x.size = 0
      · have h0I : (((x.size : Nat) : Int) == 0) = true := by simp [h0]
        have hifx : isI x = false := by
          cases hi : isI x with
          | false => rfl
          | true => obtain ⟨h, _⟩ := (isI_one x).1 hi; omega
        clear hcat htb hxm htot h0
        have hif : isI x = false := hifx
        have hj := tw_stop l k x HK.out HX.out hif
        have HJ := Lib.hid hj
        have hkn : k ≤ n := by omega
        have hck : ¬ c = k := by omega
        clear hif hj
        go_wp2_with fail
        refine wp_region_held_drew (S := fun W => W = (w.drewN m).drew) (by kernel_rfl) rfl (fun hHeld => ?_)
        refine wpAnyH_take (i := 0) (v := ?mv6) rfl (by kernel_rfl) (by kernel_rfl) (by kernel_rfl) (fun _ _ _ h => h) (Or.inl ⟨by rfl, ?mh6⟩) (by assumption) ?mr6
        case mh6 => intro w hSw; clear hSw; go_simp; try with_reducible rfl
        (try simp only [Act.put]); (try simp only [List.getElem_toArray, List.getElem_cons_zero, List.getElem_cons_succ]); (try simp only [List.setIfInBounds_toArray]); (try simp only [List.set_cons_zero, List.set_cons_succ])
        refine wpAnyH_take (i := 1) (v := ?mv7) rfl (by kernel_rfl) (by kernel_rfl) (by kernel_rfl) (fun _ _ _ h => h) (Or.inl ⟨by rfl, ?mh7⟩) (by assumption) ?mr7
        case mh7 => intro w hSw; clear hSw; go_simp; try with_reducible rfl
        (try simp only [Act.put]); (try simp only [List.getElem_toArray, List.getElem_cons_zero, List.getElem_cons_succ]); (try simp only [List.setIfInBounds_toArray]); (try simp only [List.set_cons_zero, List.set_cons_succ])
        refine wpAnyH_take (i := 2) (v := ?mv8) rfl (by kernel_rfl) (by kernel_rfl) (by kernel_rfl) (fun _ _ _ h => h) (Or.inl ⟨by rfl, ?mh8⟩) (by assumption) ?mr8
        case mh8 => intro w hSw; clear hSw; go_simp; try with_reducible rfl
        (try simp only [Act.put]); (try simp only [List.getElem_toArray, List.getElem_cons_zero, List.getElem_cons_succ]); (try simp only [List.setIfInBounds_toArray]); (try simp only [List.set_cons_zero, List.set_cons_succ])
        refine wpAnyH_take (i := 3) (v := ?mv9) rfl (by kernel_rfl) (by kernel_rfl) (by kernel_rfl) (fun _ _ _ h => h) (Or.inl ⟨by rfl, ?mh9⟩) (by assumption) ?mr9
        case mh9 => intro w hSw; clear hSw; go_simp; try with_reducible rfl
        (try simp only [Act.put]); (try simp only [List.getElem_toArray, List.getElem_cons_zero, List.getElem_cons_succ]); (try simp only [List.setIfInBounds_toArray]); (try simp only [List.set_cons_zero, List.set_cons_succ])
        refine wpAnyH_take (i := 4) (v := ?mv10) rfl (by kernel_rfl) (by kernel_rfl) (by kernel_rfl) (fun _ _ _ h => h) (Or.inl ⟨by rfl, ?mh10⟩) (by assumption) ?mr10
        case mh10 => intro w hSw; clear hSw; go_simp; try with_reducible rfl
        (try simp only [Act.put]); (try simp only [List.getElem_toArray, List.getElem_cons_zero, List.getElem_cons_succ]); (try simp only [List.setIfInBounds_toArray]); (try simp only [List.set_cons_zero, List.set_cons_succ])
        refine wpAnyH_take (i := 5) (v := ?mv11) rfl (by kernel_rfl) (by kernel_rfl) (by kernel_rfl) (fun _ _ _ h => h) (Or.inl ⟨by rfl, ?mh11⟩) (by assumption) ?mr11
        case mh11 => intro w hSw; clear hSw; go_simp; try with_reducible rfl
        (try simp only [Act.put]); (try simp only [List.getElem_toArray, List.getElem_cons_zero, List.getElem_cons_succ]); (try simp only [List.setIfInBounds_toArray]); (try simp only [List.set_cons_zero, List.set_cons_succ])
        refine wpAnyH_done (by kernel_rfl) ?_ _
        clear hHeld
        go_wp2_with fail
        go_ret2
        refine ⟨.slice (some ⟨g, o + k, none⟩) (n - k) (c - k), by rw [HJ.out, HTT.out]; rfl, .inr ⟨g, o + k, c - k, by rw [HJ.out, List.length_drop, HN.out], by rw [HJ.out, List.length_drop, HN.out]; omega, fun i y hi => ?_⟩, (below_drewN' m).drew⟩
        rw [HJ.out, List.getElem?_drop] at hi
        obtain ⟨g', o', he, hc'⟩ := HCL.out (k + i) y hi
        injection he with he
        injection he with e1 e2
        subst e1 e2
        rw [Nat.add_assoc]
        exact hc'
      · have h0I : (((x.size : Nat) : Int) == 0) = false := by
          have : ¬ ((x.size : Nat) : Int) = 0 := by omega
          simpa using this
        have hp : 0 < x.size := by omega
        obtain ⟨y, hy⟩ : ∃ y : Int, (x[0].toNat : Int) = y := ⟨_, rfl⟩
        by_cases h1 : x[0] = 105
        · have hne : (y != 105) = false := by rw [← hy, h1]; rfl
          have hi : isI x = true := (isI_one x).2 ⟨hp, h1⟩
          have hk1 := tw_lt l k x HK.out HX.out hi
          have hnt : t ++ x.extract 1 x.size = ⟨(txtL l (k + 1)).toArray⟩ := by
            rw [txt_succ l k x HX.out, ← HTT.out]
            apply ByteArray.ext
            apply Array.toList_inj.1
            rw [ByteArray.data_append, Array.toList_append]
            simp only [ByteArray.data_extract, Array.toList_extract, List.toList_toArray]
            unfold tailL
            rw [List.extract_eq_take_drop]
            congr 1
            rw [List.take_of_length_le]
            simp
          have HNT := Lib.hid hnt
          clear h1 hi hnt htb hxm htot h0
          go_wp2_with fail
          go_roundg (gk - 1)
          case measure => have := HG.out; omega
          case rel => exact ⟨k + 1, ⟨hk1, by go_num, by rw [HNT.out], by have := HG.out; omega, m, rfl⟩⟩
        · have hne : (y != 105) = true := by
            rw [← hy, bne_iff_ne]
            intro h
            exact h1 (UInt8.toNat_inj.1 (by have h2 : (105 : UInt8).toNat = 105 := rfl; omega))
          have hifx : isI x = false := by
            cases hi : isI x with
            | false => rfl
            | true => obtain ⟨_, h⟩ := (isI_one x).1 hi; exact absurd h h1
          clear hcat htb hxm htot h0 h1
          have hif : isI x = false := hifx
          have hj := tw_stop l k x HK.out HX.out hif
          have HJ := Lib.hid hj
          have hkn : k ≤ n := by omega
          have hck : ¬ c = k := by omega
          clear hif hj
          go_wp2_with fail
          refine wp_region_held_drew (S := fun W => W = (w.drewN m).drew) (by kernel_rfl) rfl (fun hHeld => ?_)
          refine wpAnyH_take (i := 0) (v := ?mv12) rfl (by kernel_rfl) (by kernel_rfl) (by kernel_rfl) (fun _ _ _ h => h) (Or.inl ⟨by rfl, ?mh12⟩) (by assumption) ?mr12
          case mh12 => intro w hSw; clear hSw; go_simp; try with_reducible rfl
          (try simp only [Act.put]); (try simp only [List.getElem_toArray, List.getElem_cons_zero, List.getElem_cons_succ]); (try simp only [List.setIfInBounds_toArray]); (try simp only [List.set_cons_zero, List.set_cons_succ])
          refine wpAnyH_take (i := 1) (v := ?mv13) rfl (by kernel_rfl) (by kernel_rfl) (by kernel_rfl) (fun _ _ _ h => h) (Or.inl ⟨by rfl, ?mh13⟩) (by assumption) ?mr13
          case mh13 => intro w hSw; clear hSw; go_simp; try with_reducible rfl
          (try simp only [Act.put]); (try simp only [List.getElem_toArray, List.getElem_cons_zero, List.getElem_cons_succ]); (try simp only [List.setIfInBounds_toArray]); (try simp only [List.set_cons_zero, List.set_cons_succ])
          refine wpAnyH_take (i := 2) (v := ?mv14) rfl (by kernel_rfl) (by kernel_rfl) (by kernel_rfl) (fun _ _ _ h => h) (Or.inl ⟨by rfl, ?mh14⟩) (by assumption) ?mr14
          case mh14 => intro w hSw; clear hSw; go_simp; try with_reducible rfl
          (try simp only [Act.put]); (try simp only [List.getElem_toArray, List.getElem_cons_zero, List.getElem_cons_succ]); (try simp only [List.setIfInBounds_toArray]); (try simp only [List.set_cons_zero, List.set_cons_succ])
          refine wpAnyH_take (i := 3) (v := ?mv15) rfl (by kernel_rfl) (by kernel_rfl) (by kernel_rfl) (fun _ _ _ h => h) (Or.inl ⟨by rfl, ?mh15⟩) (by assumption) ?mr15
          case mh15 => intro w hSw; clear hSw; go_simp; try with_reducible rfl
          (try simp only [Act.put]); (try simp only [List.getElem_toArray, List.getElem_cons_zero, List.getElem_cons_succ]); (try simp only [List.setIfInBounds_toArray]); (try simp only [List.set_cons_zero, List.set_cons_succ])
          refine wpAnyH_take (i := 4) (v := ?mv16) rfl (by kernel_rfl) (by kernel_rfl) (by kernel_rfl) (fun _ _ _ h => h) (Or.inl ⟨by rfl, ?mh16⟩) (by assumption) ?mr16
          case mh16 => intro w hSw; clear hSw; go_simp; try with_reducible rfl
          (try simp only [Act.put]); (try simp only [List.getElem_toArray, List.getElem_cons_zero, List.getElem_cons_succ]); (try simp only [List.setIfInBounds_toArray]); (try simp only [List.set_cons_zero, List.set_cons_succ])
          refine wpAnyH_take (i := 5) (v := ?mv17) rfl (by kernel_rfl) (by kernel_rfl) (by kernel_rfl) (fun _ _ _ h => h) (Or.inl ⟨by rfl, ?mh17⟩) (by assumption) ?mr17
          case mh17 => intro w hSw; clear hSw; go_simp; try with_reducible rfl
          (try simp only [Act.put]); (try simp only [List.getElem_toArray, List.getElem_cons_zero, List.getElem_cons_succ]); (try simp only [List.setIfInBounds_toArray]); (try simp only [List.set_cons_zero, List.set_cons_succ])
          refine wpAnyH_done (by kernel_rfl) ?_ _
          clear hHeld
          go_wp2_with fail
          go_ret2
          refine ⟨.slice (some ⟨g, o + k, none⟩) (n - k) (c - k), by rw [HJ.out, HTT.out]; rfl, .inr ⟨g, o + k, c - k, by rw [HJ.out, List.length_drop, HN.out], by rw [HJ.out, List.length_drop, HN.out]; omega, fun i y hi => ?_⟩, (below_drewN' m).drew⟩
          rw [HJ.out, List.getElem?_drop] at hi
          obtain ⟨g', o', he, hc'⟩ := HCL.out (k + i) y hi
          injection he with he
          injection he with e1 e2
          subst e1 e2
          rw [Nat.add_assoc]
          exact hc'
    · have hkn : k ≤ n := by have h1 := HK.out; have h2 := jj_le l; have h3 := HN.out; omega
      obtain rfl : k = n := by omega
      have hj : jj l = k := by have h1 := HK.out; have h2 := jj_le l; have h3 := HN.out; omega
      have HJ := Lib.hid hj
      clear hj
      go_wp2_with fail
      go_ret2
      exact ⟨.slice none 0 0, by rw [HJ.out]; rfl, .inl ⟨rfl, by rw [HJ.out]; exact List.drop_of_length_le (by rw [HN.out]; exact Nat.le_refl _)⟩, below_drewN' m⟩

end Go.Proofs.YtieaipclioppkaaGreat.Wh

/-! ImagePieces: bytes are cut into the document's records, and records put together as it says; for texts that are no longer than 2^27 bytes together. -/
namespace Go.Proofs.YtieaipclioppkaaGreat.Pl
open Go Go.RowKit Go.Joins Go.Proofs.YtieaipclioppkaaGreatCore Go.Proofs.YtieaipclioppkaaGreat.PLeaf Go.Proofs.YtieaipclioppkaaGreat.Fr Go.Proofs.YtieaipclioppkaaGreat.Pc Go.Proofs.YtieaipclioppkaaGreat.Wh Go.Proofs.YtieaipclioppkaaGreatW.PrintWords Go.Proofs.YtieaipclioppkaaGreatW.PrintLast Go.Proofs.YtieaipclioppkaaGreatW.PrintMore

theorem C_take {α : Type} {d : Kd α} {w : World} {A : Option Addr} {n m : Nat} {l : List α} (h : d.C w A n l) (hm : m ≤ n) : d.C w A m (l.take m) := by
  obtain ⟨h1, h2, h3⟩ := h
  refine ⟨by rw [List.length_take, h1]; omega, by omega, fun h0 => ?_⟩
  obtain ⟨ad, e, hc⟩ := h3 (by omega)
  refine ⟨ad, e, fun j p hp => ?_⟩
  rw [List.getElem?_take] at hp
  split at hp
  · exact hc j p hp
  · cases hp
theorem piece_len (s : ByteArray) (k : Nat) : (pieceAt s k).size ≤ 4001 := by
  unfold pieceAt
  rw [ByteArray.size_append, ByteArray.size_extract]
  show 1 + _ ≤ _
  omega
theorem tot_append (a b : List ByteArray) : totL (a ++ b) = totL a + totL b := by unfold totL; rw [List.map_append, List.sum_append]
theorem tot_take (l : List ByteArray) (m : Nat) : totL (l.take m) ≤ totL l := by
  have := tot_append (l.take m) (l.drop m)
  rw [List.take_append_drop] at this
  omega
theorem tot_pieces (s : ByteArray) : totL (pieces s) ≤ piecesN s * 4001 := by
  unfold pieces
  generalize piecesN s = n
  induction n with
  | zero => simp [totL]
  | succ n ih =>
    rw [List.range_succ, List.map_append, tot_append]
    have h2 := piece_len s n
    have h3 : totL ([n].map (pieceAt s)) = (pieceAt s n).size := by simp [totL]
    rw [h3]
    omega
structure CInv (n : Nat) (w0 : World) (gk : Nat) (v : Value) (wr : World) (k : Nat) : Prop where
  le : k ≤ n
  slot : v = .int .i64 k
  ghost : gk + k = n
  same : ∃ m, wr = w0.drewN m
def CRel (n : Nat) (w0 : World) (gk : Nat) (v : Value) (wr : World) : Prop := ∃ k, CInv n w0 gk v wr k

set_option maxHeartbeats 8000000 in
set_option maxRecDepth 100000 in
theorem law (s : ByteArray) (A : Option Addr) (c : Nat) (l : List ByteArray) (w : World) (hs : s.size ≤ 140737488351232) (hC : Kd.string.C w A l.length l) (hcl : l.length ≤ c) (hl : l.length ≤ 9223372036854775807) (ht : totL l ≤ 100000000) :
    Calls Tryz.prog 4 #[.string s, .slice A l.length c] w fun e w' => e = .returned (.bool true) ∧ Below w.heap.size w w' := by
  obtain ⟨n, hn⟩ : ∃ n, l.length = n := ⟨_, rfl⟩
  rw [hn] at hC hcl hl ⊢
  obtain ⟨m, hm⟩ : ∃ m : Nat, min s.size 20000 = m := ⟨_, rfl⟩
  have hmI : min (s.size : Int) 20000 = (m : Int) := by omega
  have hmk : m ≤ s.size := by omega
  obtain ⟨s1, hs1⟩ : ∃ t, s.extract 0 m = t := ⟨_, rfl⟩
  have hsz1 : s1.size ≤ 20000 := by rw [← hs1, ByteArray.size_extract]; omega
  have HC := Lib.hid hC
  have HT := Lib.hid ht
  have HN := Lib.hid hn
  clear hC ht hn hm
  go_enter Tryz.func4, Tryz.ntmps4
  go_wp2_with fail
  clear hs1 hmI hmk
  refine (pieces_any s1 w (by omega)).mono ?_
  rintro e w1 ⟨va, rfl, hRa, hb⟩
  have HA1 := Lib.hid hRa
  have HB1 := Lib.hid hb
  clear hRa hb
  go_wp2_with fail
  refine (rpieces_any s1 w1 (by omega)).mono ?_
  rintro e w2 ⟨vb, rfl, hRb, hb⟩
  obtain ⟨M, hM⟩ : ∃ M, piecesN s1 = M := ⟨_, rfl⟩
  have hMb : M ≤ 6 := by unfold piecesN at hM; omega
  have hpl : (pieces s1).length = M := by rw [← hM]; unfold pieces; simp
  obtain ⟨Aa, ca, hva, _, hCa⟩ := Kd.R_reads HA1.out
  obtain ⟨Ab, cb, hvb, _, hCb⟩ := Kd.R_reads hRb
  subst hva hvb
  have hA1 := HA1.out
  rw [hpl] at hCa hCb hA1 hRb
  have HCa := Lib.hid (Kd.C_below hCa hb)
  have HCb := Lib.hid hCb
  have HA2 := Lib.hid (Kd.R_below hA1 hb)
  have HR2 := Lib.hid hRb
  have HOB : Hid (∀ j, (Value.slice Ab M cb).ownBlock = some j → j < w2.heap.size) := Lib.hid (fun j hj => ((Kd.R_bound hRb).1 j hj).2.2.1)
  have HOA : Hid (∀ j, (Value.slice Aa M ca).ownBlock = some j → j < w1.heap.size) := Lib.hid (fun j hj => ((Kd.R_bound hA1).1 j hj).2.2.1)
  have HB2 := Lib.hid (HB1.out.trans (hb.mono HB1.out.size))
  have HPL := Lib.hid hpl
  have HM := Lib.hid hM
  have HSZ := Lib.hid hb.size
  clear hRb hb hCa hCb hM hA1
  rw [hpl]
  clear hpl
  go_wp2_with fail
  refine (Wk.wakes_any w2).mono ?_
  rintro e w3 ⟨rfl, hb⟩
  have HA3 := Lib.hid (Kd.R_below HA2.out hb)
  have HR3 := Lib.hid (Kd.R_below HR2.out hb)
  have HCa3 := Lib.hid (Kd.C_below HCa.out hb)
  have HCb3 := Lib.hid (Kd.C_below HCb.out hb)
  have HB3 := Lib.hid (HB2.out.trans (hb.mono HB2.out.size))
  have HS3 := Lib.hid hb.size
  clear hb
  go_wp2_with fail
  go_loopg [33] M (fun gk v wr => CRel M w3 gk v wr)
  case atStart => exact ⟨0, ⟨Nat.zero_le _, rfl, rfl, 0, rfl⟩⟩
  case round =>
    obtain ⟨k, hk, rfl, hg, q, rfl⟩ := hrel
    have HG := Lib.hid hg
    clear hg
    by_cases hlt : k < M
    · have hltI : (k : Int) < (M : Int) := by omega
      obtain ⟨ad, rfl, ha⟩ := Kd.at_string HCa3.out (k : Int) (by omega) (by omega)
      obtain ⟨bd, rfl, hb⟩ := Kd.at_string HCb3.out (k : Int) (by omega) (by omega)
      obtain ⟨t, ht⟩ : ∃ t, rdOf ByteArray.empty (pieces s1) (k : Int) = t := ⟨_, rfl⟩
      rw [ht, Int.toNat_natCast] at ha hb
      clear ht
      go_wp2_with fail
      go_quiet (fail)
      go_wp2_with fail
      go_roundg (gk - 1)
      case measure => have := HG.out; omega
      case rel => exact ⟨k + 1, ⟨by omega, by go_num, by have := HG.out; omega, _, rfl⟩⟩
    · obtain rfl : k = M := by omega
      obtain ⟨w4, hw4⟩ : ∃ W, w3.drewN q = W := ⟨_, rfl⟩
      have hb34 : Below w3.heap.size w3 w4 := by rw [← hw4]; exact YtieaipclioppkaaGreatCore.below_drewN q
      have HA4 := Lib.hid (Kd.R_below HA3.out hb34)
      have HR4 := Lib.hid (Kd.R_below HR3.out hb34)
      have HB4 := Lib.hid (HB3.out.trans (hb34.mono HB3.out.size))
      have HS4 := Lib.hid hb34.size
      rw [hw4]
      clear hw4 hb34
      obtain ⟨n2, hn2⟩ : ∃ n2 : Nat, min n 20 = n2 := ⟨_, rfl⟩
      have hn2I : min (n : Int) 20 = (n2 : Int) := by omega
      have hn2n : n2 ≤ n := by omega
      have hn20 : n2 ≤ 20 := by omega
      have hn2c : n2 ≤ c := by omega
      have hc2 := C_take (Kd.C_below HC.out HB4.out) hn2n
      obtain ⟨l2, hl2⟩ : ∃ l2, l.take n2 = l2 := ⟨_, rfl⟩
      have hl2n : l2.length = n2 := by rw [← hl2, List.length_take, HN.out]; omega
      have htl2 : totL l2 ≤ 100000000 := by rw [← hl2]; exact Nat.le_trans (tot_take l n2) HT.out
      rw [hl2] at hc2
      have HL2 := Lib.hid hl2
      have HC2 := Lib.hid hc2
      obtain ⟨all, hall⟩ : ∃ x, pieces s1 ++ l2 = x := ⟨_, rfl⟩
      have hal : all.length = k + n2 := by rw [← hall, List.length_append, HPL.out, hl2n]
      have hat : totL all ≤ 200000000 := by
        have h1 := tot_pieces s1
        rw [HM.out] at h1
        rw [← hall, tot_append]
        have h3 : k * 4001 ≤ 6 * 4001 := Nat.mul_le_mul_right _ hMb
        omega
      have HALL := Lib.hid hall
      have HAL := Lib.hid hal
      have HAT := Lib.hid hat
      have hbytes : ((pieces s1).length + n2) * 16 ≤ 140737488355328 := by rw [HPL.out]; omega
      clear hn2 hc2 hl2 hl2n htl2 hall hal hat
      go_wp2_with (at_builtin; go_must ((refine Kd.R_append_row (P := Tryz.prog) Value.string ByteArray.empty (h1 := fun _ => rfl) (w0 := w4) (W := w4) w.heap.size rfl (.tmp 52) (.tmp 53) 24 9 (.string ⟨#[]⟩) 16 rfl Tryz.underlying24 infoStr rfl (by decide) _ (pieces s1) l2 A n2 c (fun _ => True) rfl rfl (fun _ _ => trivial) HA4.out HC2.out (Below.refl _ _) HB4.out.size hbytes ?_; intro v5 w5 ho5 hb5 hg5 hat5)))
      rw [HALL.out] at ho5
      have hB5 := HB4.out.trans hb5
      have hR5 := Kd.R_grown (Kd.R_bound HR4.out) hg5 (fun j hj e => by have := HOA.out j e.symm; have := hj.2.1; omega)
      have HR5 := Lib.hid (Kd.R_mono hR5 (ok' := fun _ => True) (fun _ _ => trivial))
      have HB5 := Lib.hid hB5
      have HO5 := Lib.hid (StrAt.of_R ho5)
      have hl2' := C_take (Kd.C_below HC.out hB5) hn2n
      have HSZ5 := Lib.hid hg5.size
      clear ho5 hb5 hg5 hat5 hB5 hR5
      refine (whole_any all v5 w5 HO5.out (by rw [HAL.out]; omega) (by have := HAT.out; omega)).mono ?_
      rintro e w6 ⟨v6, rfl, hR6, hb⟩
      obtain ⟨T, hT⟩ : ∃ T : ByteArray, ⟨(txtL all (jj all)).toArray⟩ = T := ⟨_, rfl⟩
      obtain ⟨rs, hrs⟩ : ∃ rs, all.drop (jj all) = rs := ⟨_, rfl⟩
      rw [hrs] at hR6
      rw [hT]
      have HRS := Lib.hid hrs
      have HT6 := Lib.hid hT
      have HX6 := Lib.hid hR6
      have HR6 := Lib.hid (Kd.R_below HR5.out hb)
      have HB6 := Lib.hid (HB5.out.trans (hb.mono HB5.out.size))
      have hc6 := C_take (Kd.C_below HC.out HB6.out) hn2n
      rw [HL2.out] at hc6
      have HC6 := Lib.hid hc6
      have HSZ6 := Lib.hid hb.size
      have HW1 : Hid (w.heap.size ≤ w1.heap.size) := Lib.hid HB1.out.size
      have HW25 : Hid (w2.heap.size ≤ w5.heap.size) := Lib.hid (by have h1 := HS3.out; have h2 := HS4.out; have h3 := HSZ5.out; omega)
      have HW16 : Hid (w1.heap.size ≤ w6.heap.size) := Lib.hid (by have h0 := HSZ.out; have h1 := HW25.out; have h3 := HSZ6.out; omega)
      clear hb hR6 hT hrs hl2' hc6
      go_wp2_with (at_builtin; go_must ((refine Kd.R_append_row (P := Tryz.prog) Value.string ByteArray.empty (h1 := fun _ => rfl) (w0 := w6) (W := w6) w1.heap.size rfl (.tmp 59) (.tmp 60) 24 9 (.string ⟨#[]⟩) 16 rfl Tryz.underlying24 infoStr rfl (by decide) _ (pieces s1) l2 A n2 c (fun _ => True) rfl rfl (fun _ _ => trivial) HR6.out HC6.out (Below.refl _ _) HW16.out hbytes ?_; intro v7 w7 ho7 hb7 hg7 hat7)))
      rw [HALL.out] at ho7
      have hX7 := Kd.R_grown (Kd.R_bound HX6.out) hg7 (fun j hj e => by have h1 := HOB.out j e.symm; have h2 := hj.2.1; have h3 := HW25.out; omega)
      have HX7 := Lib.hid (Kd.R_mono hX7 (ok' := fun _ => True) (fun _ _ => trivial))
      have HB7 := Lib.hid (HB6.out.trans (hb7.mono HW1.out))
      have HO7 := Lib.hid (StrAt.of_R ho7)
      clear ho7 hb7 hg7 hat7 hX7
      refine (rwhole_any all v7 w7 HO7.out (by rw [HAL.out]; omega) (by have := HAT.out; omega)).mono ?_
      rintro e w8 ⟨v8, rfl, hst, hb⟩
      rw [HT6.out]
      rw [HRS.out] at hst
      have hX8 := Kd.R_below HX7.out hb
      have HB8 := Lib.hid (HB7.out.trans (hb.mono HB7.out.size))
      obtain ⟨R, hR⟩ : ∃ R, rs.length = R := ⟨_, rfl⟩
      obtain ⟨A6, c6, rfl, _, hC6⟩ := Kd.R_reads hX8
      obtain ⟨A8, c8, rfl⟩ : ∃ A c, v8 = .slice A rs.length c := by
        rcases hst with ⟨rfl, h0⟩ | ⟨g, o, c, rfl, _⟩
        · exact ⟨none, 0, by rw [h0]; rfl⟩
        · exact ⟨_, _, rfl⟩
      have hc8 : ∀ j x, rs[j]? = some x → ∃ g o, A8 = some ⟨g, o, none⟩ ∧ w8.cell? ⟨g, o + j, none⟩ = some (.string x) := by
        intro j x hj
        rcases hst with ⟨_, h0⟩ | ⟨g, o, c, he, _, hx⟩
        · rw [h0] at hj; simp at hj
        · injection he with h1 _ _
          exact ⟨g, o, h1, hx j x hj⟩
      rw [hR] at hC6 ⊢
      have HC8 := Lib.hid hc8
      have HCX := Lib.hid hC6
      have HR8 := Lib.hid hR
      have hRb : R ≤ 1000000 := by
        have h1 := HRS.out
        have h2 := HAL.out
        rw [← hR, ← h1, List.length_drop, h2]
        omega
      clear hst hX8 hb hc8 hC6 hR hbytes
      go_wp2_with fail
      go_loopg [77] R (fun gk v wr => CRel R w8 gk v wr)
      case atStart => exact ⟨0, ⟨Nat.zero_le _, rfl, rfl, 0, rfl⟩⟩
      case round =>
        obtain ⟨i, hi, rfl, hg, p, rfl⟩ := hrel
        have HG2 := Lib.hid hg
        clear hg
        by_cases hlt2 : i < R
        · have hltI : (i : Int) < (R : Int) := by omega
          obtain ⟨x, hx⟩ : ∃ x, rs[i]? = some x := ⟨_, List.getElem?_eq_getElem (by rw [HR8.out]; exact hlt2)⟩
          obtain ⟨ad, rfl, ha⟩ := Kd.at_string HCX.out (i : Int) (by omega) (by omega)
          obtain ⟨g, o, rfl, hb⟩ := HC8.out i x hx
          have hrd : rdOf ByteArray.empty rs (i : Int) = x := by
            unfold rdOf
            rw [Int.toNat_natCast, List.getD_eq_getElem?_getD, hx]
            rfl
          rw [hrd, Int.toNat_natCast] at ha
          clear hx hrd
          go_wp2_with fail
          go_quiet (fail)
          go_wp2_with fail
          go_roundg (gk - 1)
          case measure => have := HG2.out; omega
          case rel => exact ⟨i + 1, ⟨by omega, by go_num, by have := HG2.out; omega, _, rfl⟩⟩
        · obtain rfl : i = R := by omega
          go_wp2_with fail
          go_ret
          exact ⟨rfl, HB8.out.trans ((YtieaipclioppkaaGreatCore.below_drewN p).mono HB8.out.size)⟩

end Go.Proofs.YtieaipclioppkaaGreat.Pl
