/- image.Pieces and the reference's: a text cut into records; ImageFits: how much a state may weigh, and that so many bytes, as records, and one great record fit. -/
import Derived.Test.YtieaipclioppkaaGreatN5
import Derived.Test.YtieaipclioppkaaGreatN7
set_option linter.unusedSimpArgs false
set_option linter.unusedVariables false

/-! image.Pieces and the reference's: a text cut into records. -/
namespace Go.Proofs.YtieaipclioppkaaGreat.Pc
open Go Go.RowKit Go.Joins Go.Proofs.YtieaipclioppkaaGreatCore Go.Proofs.YtieaipclioppkaaGreat.PLeaf Go.Proofs.YtieaipclioppkaaGreat.Fr Go.Proofs.YtieaipclioppkaaGreatW.PrintWords Go.Proofs.YtieaipclioppkaaGreatW.PrintLast Go.Proofs.YtieaipclioppkaaGreatW.PrintMore

theorem ba_loop (b : ByteArray) : ∀ (n i : Nat) (r : List UInt8), b.size - i = n → ByteArray.toList.loop b i r = r.reverse ++ b.data.toList.drop i := by
  intro n
  induction n with
  | zero =>
    intro i r h
    rw [ByteArray.toList.loop, if_neg (by omega), List.drop_of_length_le (by show b.data.size ≤ i; have : b.size = b.data.size := rfl; omega), List.append_nil]
  | succ n ih =>
    intro i r h
    have hi : i < b.data.size := by have : b.size = b.data.size := rfl; omega
    have hi2 : i < b.size := hi
    rw [ByteArray.toList.loop, if_pos hi2, ih _ _ (by omega), List.reverse_cons, List.append_assoc, List.drop_eq_getElem_cons (i := i) (by simpa using hi)]
    congr 1
    simp only [List.cons_append, List.nil_append]
    congr 1
    show b.data[i]! = _
    exact getElem!_pos b.data i hi
theorem ba_toList (b : ByteArray) : b.toList = b.data.toList := by
  unfold ByteArray.toList
  rw [ba_loop b _ 0 [] rfl]
  rfl

theorem ba_ne {t : ByteArray} (h : 0 < t.size) : t.toList.isEmpty = false ∧ t.toList ≠ [] := by
  rw [ba_toList]
  have h2 : t.data.toList.length = t.size := by simp
  cases hl : t.data.toList with
  | nil => rw [hl] at h2; simp at h2; omega
  | cons a l => exact ⟨rfl, by simp⟩
theorem ba_nil {t : ByteArray} (h : t.size = 0) : t.toList.isEmpty = true ∧ t.toList = [] := by
  rw [ba_toList]
  have h2 : t.data.toList.length = t.size := by simp
  have : t.data.toList = [] := List.length_eq_zero_iff.1 (by omega)
  rw [this]
  exact ⟨rfl, rfl⟩
/-- The k-th record of a text. -/
def pieceAt (s : ByteArray) (k : Nat) : ByteArray := (⟨#[105]⟩ : ByteArray) ++ s.extract (4000 * k) (4000 * k + min 4000 (s.size - 4000 * k))
def piecesN (s : ByteArray) : Nat := (s.size + 3999) / 4000
def pieces (s : ByteArray) : List ByteArray := (List.range (piecesN s)).map (pieceAt s)
theorem extract_extract' (s : ByteArray) (a b c d : Nat) (h : a + d ≤ b) : (s.extract a b).extract c d = s.extract (a + c) (a + d) := by
  rw [ByteArray.extract_extract]
  congr 1
  omega
theorem range_snoc (s : ByteArray) (k : Nat) : (List.range (k + 1)).map (pieceAt s) = (List.range k).map (pieceAt s) ++ [pieceAt s k] := by
  rw [List.range_succ, List.map_append]
  rfl
theorem infoStr : (Tryz.prog.info? 9).map (fun i => (i.zero, i.size, i.bytes)) = some (some (.string ⟨#[]⟩), 1, 16) := by kernel_rfl
structure PInv (s : ByteArray) (w : World) (gk : Nat) (v o : Value) (wr : World) (k : Nat) : Prop where
  le : k ≤ piecesN s
  slot : v = .string (s.extract (4000 * k) s.size)
  ghost : gk + k = piecesN s
  own : Kd.R Kd.string 9 wr w.heap.size (fun _ => True) o ((List.range k).map (pieceAt s))
  below : Below w.heap.size w wr
def PRel (s : ByteArray) (w : World) (gk : Nat) (v o : Value) (wr : World) : Prop := ∃ k, PInv s w gk v o wr k
def PcPost (s : ByteArray) (w : World) (e : Ending) (w' : World) : Prop := ∃ v, e = .returned v ∧ Kd.R Kd.string 9 w' w.heap.size (fun _ => True) v (pieces s) ∧ Below w.heap.size w w'

set_option maxHeartbeats 4000000 in
set_option maxRecDepth 100000 in
theorem pieces_any (s : ByteArray) (w : World) (hs : s.size ≤ 1000000000) : Calls Tryz.prog 8 #[.string s] w fun e w' => PcPost s w e w' := by
  go_enter Tryz.func8, Tryz.ntmps8
  go_wp2_with fail
  go_loopg [0, 3] (piecesN s) (fun gk v o wr => PRel s w gk v o wr)
  case atStart => exact ⟨0, ⟨Nat.zero_le _, by simp, rfl, Kd.R_nil _ _ _ _ _, Below.refl _ _⟩⟩
  case round =>
    obtain ⟨k, hk, rfl, hg, hown, hbel⟩ := hrel
    have HG := Lib.hid hg
    have HOW := Lib.hid hown
    have HBL := Lib.hid hbel
    clear hg hown hbel
    obtain ⟨t, ht⟩ : ∃ t, s.extract (4000 * k) s.size = t := ⟨_, rfl⟩
    have hts : t.size = s.size - 4000 * k := by rw [← ht, ByteArray.size_extract]; omega
    rw [ht]
    have HT := Lib.hid ht
    have HTS := Lib.hid hts
    have hM : t.size ≤ 1000000000 := by omega
    by_cases hlt : k < piecesN s
    · have hpos : 0 < t.size := by unfold piecesN at hlt; omega
      obtain ⟨hte, hte2⟩ := ba_ne hpos
      obtain ⟨n, hn⟩ : ∃ n, min 4000 t.size = n := ⟨_, rfl⟩
      have hmn : min (4000 : Int) (t.size : Int) = (n : Int) := by omega
      have hnt : n ≤ t.size := by omega
      have hpc : (⟨#[105]⟩ : ByteArray) ++ t.extract 0 n = pieceAt s k := by
        unfold pieceAt
        rw [← ht, extract_extract' _ _ _ _ _ (by omega), ← hts, hn, Nat.add_zero]
      have hnx : t.extract n t.size = s.extract (4000 * (k + 1)) s.size := by
        rw [← ht, extract_extract' _ _ _ _ _ (by rw [ht]; omega)]
        rw [ht]
        by_cases h4 : 4000 ≤ t.size
        · have : n = 4000 := by omega
          subst this
          congr 1 <;> omega
        · have e1 : n = t.size := by omega
          have h1 : (s.extract (4000 * k + n) (4000 * k + t.size)).size = 0 := by rw [ByteArray.size_extract]; omega
          have h2 : (s.extract (4000 * (k + 1)) s.size).size = 0 := by rw [ByteArray.size_extract]; omega
          rw [ByteArray.size_eq_zero_iff.1 h1, ByteArray.size_eq_zero_iff.1 h2]
      have HPC := Lib.hid hpc
      have HNX := Lib.hid hnx
      have hlen : (((List.range k).map (pieceAt s)).length + 1) * 16 ≤ 140737488355328 := by
        rw [List.length_map, List.length_range]
        unfold piecesN at hlt
        omega
      have hcat : ¬ 9223372036854775807 < 1 + n := by omega
      clear ht hts hn hpc hnx
      go_wp2_with fail
      refine wp_region_held_drew (S := fun _ => True) (by kernel_rfl) trivial (fun hHeld => ?_)
      refine wpAnyH_take (i := 0) (v := ?mv1) rfl (by kernel_rfl) (by kernel_rfl) (by kernel_rfl) (fun _ _ _ h => h) (Or.inl ⟨by rfl, ?mh1⟩) (by assumption) ?mr1
      case mh1 => intro w hSw; clear hSw; go_simp; try with_reducible rfl
      (try simp only [Act.put]); (try simp only [List.getElem_toArray, List.getElem_cons_zero, List.getElem_cons_succ]); (try simp only [List.setIfInBounds_toArray]); (try simp only [List.set_cons_zero, List.set_cons_succ])
      refine wpAnyH_take (i := 1) (v := ?mv2) rfl (by kernel_rfl) (by kernel_rfl) (by kernel_rfl) (fun _ _ _ h => h) (Or.inl ⟨by rfl, ?mh2⟩) (by assumption) ?mr2
      case mh2 => intro w hSw; clear hSw; go_simp; try with_reducible rfl
      (try simp only [Act.put]); (try simp only [List.getElem_toArray, List.getElem_cons_zero, List.getElem_cons_succ]); (try simp only [List.setIfInBounds_toArray]); (try simp only [List.set_cons_zero, List.set_cons_succ])
      refine wpAnyH_take (i := 2) (v := ?mv3) rfl (by kernel_rfl) (by kernel_rfl) (by kernel_rfl) (fun _ _ _ h => h) (Or.inl ⟨by rfl, ?mh3⟩) (by assumption) ?mr3
      case mh3 => intro w hSw; clear hSw; go_simp; try with_reducible rfl
      (try simp only [Act.put]); (try simp only [List.getElem_toArray, List.getElem_cons_zero, List.getElem_cons_succ]); (try simp only [List.setIfInBounds_toArray]); (try simp only [List.set_cons_zero, List.set_cons_succ])
      refine wpAnyH_take (i := 3) (v := ?mv4) rfl (by kernel_rfl) (by kernel_rfl) (by kernel_rfl) (fun _ _ _ h => h) (Or.inl ⟨by rfl, ?mh4⟩) (by assumption) ?mr4
      case mh4 => intro w hSw; clear hSw; go_simp; try with_reducible rfl
      (try simp only [Act.put]); (try simp only [List.getElem_toArray, List.getElem_cons_zero, List.getElem_cons_succ]); (try simp only [List.setIfInBounds_toArray]); (try simp only [List.set_cons_zero, List.set_cons_succ])
      refine wpAnyH_take (i := 4) (v := ?mv5) rfl (by kernel_rfl) (by kernel_rfl) (by kernel_rfl) (fun _ _ _ h => h) (Or.inl ⟨by rfl, ?mh5⟩) (by assumption) ?mr5
      case mh5 => intro w hSw; clear hSw; go_simp; try with_reducible rfl
      (try simp only [Act.put]); (try simp only [List.getElem_toArray, List.getElem_cons_zero, List.getElem_cons_succ]); (try simp only [List.setIfInBounds_toArray]); (try simp only [List.set_cons_zero, List.set_cons_succ])
      refine wpAnyH_take (i := 7) (v := ?mv6) rfl (by kernel_rfl) (by kernel_rfl) (by kernel_rfl) (fun _ _ _ h => h) (Or.inl ⟨by rfl, ?mh6⟩) (by assumption) ?mr6
      case mh6 => intro w hSw; clear hSw; go_simp; try with_reducible rfl
      (try simp only [Act.put]); (try simp only [List.getElem_toArray, List.getElem_cons_zero, List.getElem_cons_succ]); (try simp only [List.setIfInBounds_toArray]); (try simp only [List.set_cons_zero, List.set_cons_succ])
      refine wpAnyH_take (i := 8) (v := ?mv7) rfl (by kernel_rfl) (by kernel_rfl) (by kernel_rfl) (fun _ _ _ h => h) (Or.inl ⟨by rfl, ?mh7⟩) (by assumption) ?mr7
      case mh7 => intro w hSw; clear hSw; go_simp; try with_reducible rfl
      (try simp only [Act.put]); (try simp only [List.getElem_toArray, List.getElem_cons_zero, List.getElem_cons_succ]); (try simp only [List.setIfInBounds_toArray]); (try simp only [List.set_cons_zero, List.set_cons_succ])
      refine wpAnyH_take (i := 9) (v := ?mv8) rfl (by kernel_rfl) (by kernel_rfl) (by kernel_rfl) (fun _ _ _ h => h) (Or.inl ⟨by rfl, ?mh8⟩) (by assumption) ?mr8
      case mh8 => intro w hSw; clear hSw; go_simp; try with_reducible rfl
      (try simp only [Act.put]); (try simp only [List.getElem_toArray, List.getElem_cons_zero, List.getElem_cons_succ]); (try simp only [List.setIfInBounds_toArray]); (try simp only [List.set_cons_zero, List.set_cons_succ])
      refine wpAnyH_ready (rs := [5]) (by kernel_rfl) (by simp) ?_
      refine AllReadyH.cons rfl (fun K hK => ?_) AllReadyH.nil
      go_simp
      refine hK.out _ _ trivial (fun hHeld => ?_)
      clear hK K
      (try simp only [Act.put]); (try simp only [List.getElem_toArray, List.getElem_cons_zero, List.getElem_cons_succ]); (try simp only [List.setIfInBounds_toArray]); (try simp only [List.set_cons_zero, List.set_cons_succ])
      refine wpAnyH_ready (rs := [6]) (by kernel_rfl) (by simp) ?_
      refine AllReadyH.cons rfl (fun K hK => ?_) AllReadyH.nil
      refine Kd.R_append_step Kd.string (w0 := wr.drew) (W := wr.drew) w.heap.size rfl (.tmp 10) (.tmp 15) 24 9 (.string ⟨#[]⟩) 16 rfl Tryz.underlying24 infoStr rfl (by decide) (by decide) _ ((List.range k).map (pieceAt s)) ((⟨#[105]⟩ : ByteArray) ++ t.extract 0 n) [.string ((⟨#[105]⟩ : ByteArray) ++ t.extract 0 n)] (fun _ => True) (fun _ => False) rfl rfl rfl (fun _ hk => hk.elim) (fun _ _ => trivial) (Kd.R_below HOW.out (YtieaipclioppkaaGreatCore.below_drewN 1)) (Below.refl _ _) HBL.out.size hlen ?_
      intro v9 w9 ho9 hb9 hg9 hat9
      rw [HPC.out, ← range_snoc] at ho9
      have HO9 := Lib.hid ho9
      have HB9 := Lib.hid (HBL.out.trans (((YtieaipclioppkaaGreatCore.below_drewN 1).mono HBL.out.size).trans hb9))
      clear ho9 hb9 hg9 hat9 hcat
      refine hK.out _ _ trivial (fun hHeld => ?_)
      clear hK K
      (try simp only [Act.put]); (try simp only [List.getElem_toArray, List.getElem_cons_zero, List.getElem_cons_succ]); (try simp only [List.setIfInBounds_toArray]); (try simp only [List.set_cons_zero, List.set_cons_succ])
      refine wpAnyH_ready (rs := [10]) (by kernel_rfl) (by simp) ?_
      refine AllReadyH.cons rfl (fun K hK => ?_) AllReadyH.nil
      go_simp
      refine hK.out _ _ trivial (fun hHeld => ?_)
      clear hK K
      (try simp only [Act.put]); (try simp only [List.getElem_toArray, List.getElem_cons_zero, List.getElem_cons_succ]); (try simp only [List.setIfInBounds_toArray]); (try simp only [List.set_cons_zero, List.set_cons_succ])
      refine wpAnyH_ready (rs := [11]) (by kernel_rfl) (by simp) ?_
      refine AllReadyH.cons rfl (fun K hK => ?_) AllReadyH.nil
      go_simp
      refine hK.out _ _ trivial (fun hHeld => ?_)
      clear hK K
      (try simp only [Act.put]); (try simp only [List.getElem_toArray, List.getElem_cons_zero, List.getElem_cons_succ]); (try simp only [List.setIfInBounds_toArray]); (try simp only [List.set_cons_zero, List.set_cons_succ])
      refine wpAnyH_done (by kernel_rfl) ?_ _
      go_wp2_with fail
      go_roundg (gk - 1)
      case measure => have := HG.out; omega
      case rel => exact ⟨k + 1, ⟨by omega, by rw [HNX.out], by have := HG.out; omega, HO9.out, HB9.out⟩⟩
    · obtain rfl : k = piecesN s := by omega
      have hz : t.size = 0 := by unfold piecesN at hts; omega
      obtain ⟨hte, hte2⟩ := ba_nil hz
      clear ht hts hz
      go_wp2_with fail
      go_ret
      exact ⟨_, rfl, HOW.out, HBL.out⟩

structure QInv (s : ByteArray) (w : World) (gk : Nat) (v o : Value) (wr : World) (k p : Nat) : Prop where
  le : k ≤ piecesN s
  at_ : p = 4000 * k
  slot : v = .int .i64 (p : Int)
  ghost : gk + k = piecesN s
  own : Kd.R Kd.string 9 wr w.heap.size (fun _ => True) o ((List.range k).map (pieceAt s))
  below : Below w.heap.size w wr
def QRel (s : ByteArray) (w : World) (gk : Nat) (o v : Value) (wr : World) : Prop := ∃ k p, QInv s w gk v o wr k p

set_option maxHeartbeats 4000000 in
set_option maxRecDepth 100000 in
theorem rpieces_any (s : ByteArray) (w : World) (hs : s.size ≤ 1000000000) : Calls Tryz.prog 10 #[.string s] w fun e w' => PcPost s w e w' := by
  go_enter Tryz.func10, Tryz.ntmps10
  go_wp2_with fail
  go_loopg [3, 4] (piecesN s) (fun gk o v wr => QRel s w gk o v wr)
  case atStart => exact ⟨0, 0, ⟨Nat.zero_le _, rfl, rfl, rfl, Kd.R_nil _ _ _ _ _, Below.refl _ _⟩⟩
  case round =>
    obtain ⟨k, p, hk, hp, rfl, hg, hown, hbel⟩ := hrel
    have HG := Lib.hid hg
    have HOW := Lib.hid hown
    have HBL := Lib.hid hbel
    have HP := Lib.hid hp
    clear hg hown hbel
    by_cases hlt : k < piecesN s
    · have hps : p < s.size := by unfold piecesN at hlt; omega
      have hpsI : (p : Int) < (s.size : Int) := by omega
      have hlen : (((List.range k).map (pieceAt s)).length + 1) * 16 ≤ 140737488355328 := by
        rw [List.length_map, List.length_range]
        unfold piecesN at hlt
        omega
      obtain ⟨e, he⟩ : ∃ e : Nat, p + 4000 = e := ⟨_, rfl⟩
      have heI : (p : Int) + 4000 = (e : Int) := by omega
      obtain ⟨f, hf⟩ : ∃ f : Nat, min e s.size = f := ⟨_, rfl⟩
      have hpc : (⟨#[105]⟩ : ByteArray) ++ s.extract p f = pieceAt s k := by
        unfold pieceAt
        congr 2 <;> omega
      have HPC := Lib.hid hpc
      have HE : Hid (p + 4000 = e) := Lib.hid he
      by_cases hbig : s.size < e
      · have hbigI : (s.size : Int) < (e : Int) := by omega
        obtain rfl : f = s.size := by omega
        have hcat : ¬ 9223372036854775807 < 1 + (s.size - p) := by omega
        have hle : p ≤ s.size := by omega
        clear hp he hpc hf
        go_wp2_with (at_builtin; go_must ((refine Kd.R_append Kd.string (w0 := wr) w.heap.size rfl (.tmp 20) (.tmp 26) 24 9 (.string ⟨#[]⟩) 16 rfl Tryz.underlying24 infoStr rfl (by decide) (by decide) _ ((List.range k).map (pieceAt s)) ((⟨#[105]⟩ : ByteArray) ++ s.extract p s.size) [.string ((⟨#[105]⟩ : ByteArray) ++ s.extract p s.size)] (fun _ => True) (fun _ => False) rfl rfl rfl (fun _ hk => hk.elim) (fun _ _ => trivial) HOW.out (Below.refl _ _) HBL.out.size hlen ?_; intro v9 w9 ho9 hb9 hg9 hat9)))
        rw [HPC.out, ← range_snoc] at ho9
        go_roundg (gk - 1)
        case measure => have := HG.out; omega
        case rel => exact ⟨k + 1, e, ⟨by omega, by have := HE.out; have := HP.out; omega, rfl, by have := HG.out; omega, ho9, HBL.out.trans hb9⟩⟩
      · have hbigI : ¬ (s.size : Int) < (e : Int) := by omega
        obtain rfl : f = e := by omega
        have hcat : ¬ 9223372036854775807 < 1 + (f - p) := by omega
        have hle : p ≤ f := by omega
        have hle2 : f ≤ s.size := by omega
        clear hp he hpc hf
        go_wp2_with (at_builtin; go_must ((refine Kd.R_append Kd.string (w0 := wr) w.heap.size rfl (.tmp 20) (.tmp 26) 24 9 (.string ⟨#[]⟩) 16 rfl Tryz.underlying24 infoStr rfl (by decide) (by decide) _ ((List.range k).map (pieceAt s)) ((⟨#[105]⟩ : ByteArray) ++ s.extract p f) [.string ((⟨#[105]⟩ : ByteArray) ++ s.extract p f)] (fun _ => True) (fun _ => False) rfl rfl rfl (fun _ hk => hk.elim) (fun _ _ => trivial) HOW.out (Below.refl _ _) HBL.out.size hlen ?_; intro v9 w9 ho9 hb9 hg9 hat9)))
        rw [HPC.out, ← range_snoc] at ho9
        go_roundg (gk - 1)
        case measure => have := HG.out; omega
        case rel => exact ⟨k + 1, f, ⟨by omega, by have := HE.out; have := HP.out; omega, rfl, by have := HG.out; omega, ho9, HBL.out.trans hb9⟩⟩
    · obtain rfl : k = piecesN s := by omega
      have hz : s.size ≤ p := by unfold piecesN at hp; omega
      have hzI : ¬ (p : Int) < (s.size : Int) := by omega
      clear hp hz
      go_wp2_with fail
      go_ret
      exact ⟨_, rfl, HOW.out, HBL.out⟩

end Go.Proofs.YtieaipclioppkaaGreat.Pc

/-! ImageFits: how much a state may weigh, and that so many bytes, as records, and one great record fit. -/
namespace Go.Proofs.YtieaipclioppkaaGreat.Ft
open Go Go.RowKit Go.Joins Go.Proofs.YtieaipclioppkaaGreatCore Go.Proofs.YtieaipclioppkaaGreat.PLeaf Go.Proofs.YtieaipclioppkaaGreat.Fr Go.Proofs.YtieaipclioppkaaGreat.Pc Go.Proofs.YtieaipclioppkaaGreatW.PrintWords Go.Proofs.YtieaipclioppkaaGreatW.PrintLast Go.Proofs.YtieaipclioppkaaGreatW.PrintMore

/-- The room of a region, and how much a state may weigh in it. -/
def roomN (a : Int) : Nat := if a < 3 then 0 else if 4096 < a then 112584 else ((a - 1) / 2 * 55 - 1).toNat
def capN (a : Int) : Nat := (roomN a - 4109) * 4000 / 4007
theorem room_le (a : Int) : roomN a ≤ 112584 := by
  unfold roomN
  split
  · omega
  · split
    · omega
    · omega
theorem cap_le (a : Int) : capN a ≤ 108285 := by have := room_le a; unfold capN; omega
theorem rroom_f (a : Int) (h1 : -9223372036854775808 ≤ a) (h2 : a ≤ 9223372036854775807) : precinctref08_Capacity.f a = some ((roomN a : Nat) : Int) := by
  unfold precinctref08_Capacity.f roomN
  by_cases c1 : a < 3
  · rw [if_pos c1, if_pos c1]; rfl
  · rw [if_neg c1, if_neg c1]
    by_cases c2 : 4096 < a
    · rw [if_pos c2, if_pos c2]; rfl
    · rw [if_neg c2, if_neg c2]
      congr 1
      have e1 : wrap64 (a - 1) = a - 1 := by unfold wrap64; omega
      have e2 : Int.tdiv (a - 1) 2 = (a - 1) / 2 := Int.tdiv_eq_ediv_of_nonneg (by omega)
      rw [e1, e2]
      have e3 : wrap64 ((a - 1) / 2) = (a - 1) / 2 := by unfold wrap64; omega
      rw [e3]
      have e4 : wrap64 ((a - 1) / 2 * 55) = (a - 1) / 2 * 55 := by unfold wrap64; omega
      rw [e4]
      unfold wrap64
      omega
theorem room_f (a : Int) (h1 : -9223372036854775808 ≤ a) (h2 : a ≤ 9223372036854775807) : stream_Capacity.f a = some ((roomN a : Nat) : Int) := by
  unfold stream_Capacity.f stream_size.f
  simp only [Option.bind_some]
  congr 1
  unfold roomN
  by_cases c1 : a < 3
  · rw [if_pos c1]
    have e : ((mx 1 (mn a 4096)) - 1) / 2 = 0 := by unfold mx mn; (repeat' split) <;> omega
    rw [e]
    unfold wrap64 mx
    simp
  · rw [if_neg c1]
    by_cases c2 : 4096 < a
    · rw [if_pos c2]
      have e : ((mx 1 (mn a 4096)) - 1) / 2 = 2047 := by unfold mx mn; (repeat' split) <;> omega
      rw [e]
      unfold wrap64 mx
      simp
    · rw [if_neg c2]
      have e : ((mx 1 (mn a 4096)) - 1) / 2 = (a - 1) / 2 := by unfold mx mn; (repeat' split) <;> omega
      rw [e]
      have e4 : wrap64 ((a - 1) / 2 * 55) = (a - 1) / 2 * 55 := by unfold wrap64; omega
      rw [e4]
      have e5 : wrap64 ((a - 1) / 2 * 55 - 1) = (a - 1) / 2 * 55 - 1 := by unfold wrap64; omega
      rw [e5]
      unfold mx
      split <;> omega
theorem capI (x : Nat) (h : x ≤ 112584) : wrap64 (Int.tdiv (wrap64 ((x : Int) * 4000)) 4007) = ((x * 4000 / 4007 : Nat) : Int) := by
  have e3 : wrap64 ((x : Int) * 4000) = ((x * 4000 : Nat) : Int) := by unfold wrap64; omega
  rw [e3, Int.tdiv_eq_ediv_of_nonneg (by omega)]
  obtain ⟨y, hy⟩ : ∃ y, x * 4000 = y := ⟨_, rfl⟩
  have hyb : y ≤ 450336000 := by omega
  rw [hy]
  have e : ((y : Int) / 4007) = ((y / 4007 : Nat) : Int) := rfl
  rw [e]
  have hz : y / 4007 ≤ 450336000 := by omega
  unfold wrap64
  omega
theorem cap_f (a : Int) (h1 : -9223372036854775808 ≤ a) (h2 : a ≤ 9223372036854775807) : image_Cap.f a = some ((capN a : Nat) : Int) := by
  unfold image_Cap.f
  rw [room_f a h1 h2, Option.bind_some]
  have hr := room_le a
  congr 1
  unfold capN
  have e1 : wrap64 (((roomN a : Nat) : Int) - 4109) = ((roomN a : Nat) : Int) - 4109 := by unfold wrap64; omega
  rw [e1]
  have e2 : mx 0 (((roomN a : Nat) : Int) - 4109) = ((roomN a - 4109 : Nat) : Int) := by unfold mx; split <;> omega
  rw [e2]
  obtain ⟨x, hx⟩ : ∃ x, roomN a - 4109 = x := ⟨_, rfl⟩
  have hxb : x ≤ 112584 := by omega
  rw [hx]
  clear e1 e2 hx hr
  exact capI x hxb
theorem rcap_f (a : Int) (h1 : -9223372036854775808 ≤ a) (h2 : a ≤ 9223372036854775807) : precinctref20_Cap.f a = some ((capN a : Nat) : Int) := by
  unfold precinctref20_Cap.f
  rw [rroom_f a h1 h2, Option.bind_some]
  have hr := room_le a
  unfold capN
  have e1 : wrap64 (((roomN a : Nat) : Int) - 4109) = ((roomN a : Nat) : Int) - 4109 := by unfold wrap64; omega
  rw [e1]
  by_cases c : ((roomN a : Nat) : Int) - 4109 < 0
  · rw [if_pos c]
    congr 1
    omega
  · rw [if_neg c]
    congr 1
    obtain ⟨x, hx⟩ : ∃ x, roomN a - 4109 = x := ⟨_, rfl⟩
    have hxI : ((roomN a : Nat) : Int) - 4109 = (x : Int) := by omega
    have hxb : x ≤ 112584 := by omega
    rw [hx, hxI]
    clear e1 hx hr hxI c
    exact capI x hxb
/-- How long the records of so many bytes are. -/
def sumP (s : ByteArray) (k : Nat) : Nat := ((List.range k).map (fun j => (pieceAt s j).size + 6)).sum
theorem piece_size (s : ByteArray) (j : Nat) (_h : j < piecesN s) : (pieceAt s j).size = 1 + min 4000 (s.size - 4000 * j) := by
  unfold pieceAt
  rw [ByteArray.size_append, ByteArray.size_extract]
  show 1 + _ = _
  omega
theorem sum_le (s : ByteArray) : ∀ k, k ≤ piecesN s → sumP s k = 7 * k + min (4000 * k) s.size := by
  intro k
  induction k with
  | zero => intro _; simp [sumP]
  | succ k ih =>
    intro h
    have h1 := ih (by omega)
    have e : sumP s (k + 1) = sumP s k + ((pieceAt s k).size + 6) := by
      unfold sumP
      rw [List.range_succ, List.map_append, List.sum_append]
      simp
    rw [e, h1, piece_size s k (by omega)]
    unfold piecesN at h
    omega
theorem fits_all (a : Int) (s : ByteArray) (h : s.size ≤ capN a) (h0 : 0 < s.size) : sumP s (piecesN s) + 4096 + 6 ≤ roomN a := by
  rw [sum_le s _ (Nat.le_refl _)]
  unfold capN at h
  unfold piecesN
  omega

theorem wf_range {a : Int} (h : (Lit.int .i64 a).wf = true) : -9223372036854775808 ≤ a ∧ a ≤ 9223372036854775807 := by
  unfold Lit.wf at h
  simp only [Bool.and_eq_true, decide_eq_true_eq] at h
  exact h
theorem infoB : (Tryz.prog.info? 5).map (fun i => (i.zero, i.size, i.bytes)) = some (some (.int .u8 0), 1, 1) := by kernel_rfl
/-- n noughts. -/
def zs (n : Nat) : ByteArray := strOfNums (List.replicate n 0)
theorem zs_size (n : Nat) : (zs n).size = n := by unfold zs strOfNums; simp [ByteArray.size]
structure FInv (s : ByteArray) (w0 : World) (gk : Nat) (a v : Value) (wr : World) (k x : Nat) : Prop where
  le : k ≤ piecesN s
  slot : v = .int .i64 k
  ghost : gk + k = piecesN s
  all : x = sumP s k
  sum : a = .int .i64 (x : Int)
  same : w0 = wr
def FRel (s : ByteArray) (w0 : World) (gk : Nat) (a v : Value) (wr : World) : Prop := ∃ k x, FInv s w0 gk a v wr k x

set_option maxHeartbeats 8000000 in
set_option maxRecDepth 100000 in
theorem law (a b : Int) (w : World) (wa : (Lit.int .i64 a).wf = true) (wb : (Lit.int .i64 b).wf = true) :
    Calls Tryz.prog 3 #[.int .i64 a, .int .i64 b] w fun e w' => e = .returned (.bool true) ∧ Below w.heap.size w w' := by
  have h1 := (wf_range wa).1
  have h2 := (wf_range wa).2
  have h3 := (wf_range wb).1
  have h4 := (wf_range wb).2
  clear wa wb
  have hc := cap_f a h1 h2
  have hr := rcap_f a h1 h2
  have ho := rroom_f a h1 h2
  obtain ⟨c, hcc⟩ : ∃ c, capN a = c := ⟨_, rfl⟩
  rw [hcc] at hc hr
  have hcb : c ≤ 108285 := by rw [← hcc]; exact cap_le a
  have HC := Lib.hid hc
  have HR := Lib.hid hr
  have HO := Lib.hid ho
  have HCC := Lib.hid hcc
  clear hc hr ho hcc
  go_enter Tryz.func3, Tryz.ntmps3
  go_wp2_with fail
  refine (image_Cap.calls a _ w HC.out).mono ?_
  rintro e w1 ⟨rfl, hb⟩
  have HB1 := Lib.hid hb
  clear hb
  go_wp2_with fail
  refine (Wk.wakes_any w1).mono ?_
  rintro e w2 ⟨rfl, hb⟩
  have HB2 := Lib.hid (HB1.out.trans (hb.mono HB1.out.size))
  clear hb
  go_wp2_with fail
  refine (precinctref20_Cap.calls a _ w2 HR.out).mono ?_
  rintro e w3 ⟨rfl, hd⟩
  have HB3 := Lib.hid (HB2.out.trans ((Drawn0.below hd).mono HB2.out.size))
  clear hd
  obtain ⟨m, hm⟩ : ∃ m : Nat, max (0 : Int) b = (m : Int) := ⟨(max 0 b).toNat, by omega⟩
  obtain ⟨n, hn⟩ : ∃ n : Nat, max (0 : Int) ((c : Int) - (m : Int) % 5000) = (n : Int) := ⟨(max 0 ((c : Int) - (m : Int) % 5000)).toNat, by omega⟩
  have hnc : n ≤ c := by omega
  have hmk := print_make (P := Tryz.prog) 26 5 .u8 1 Tryz.underlying26 infoB (by decide) n (by omega)
  have hmk3 := hmk w3
  obtain ⟨q, hq⟩ : ∃ q, w3.heap.size = q := ⟨_, rfl⟩
  obtain ⟨w4, hw4⟩ : ∃ W, w3.alloc (.cells (madeCells #[.int .u8 0] n) 5) = W := ⟨_, rfl⟩
  have hb4 : Below w3.heap.size w3 w4 := by rw [← hw4]; exact (Below.refl _ _).alloc (Nat.le_refl _) _
  have hown := own_made w3 0 5 .u8 n (Nat.zero_le _) (by omega)
  rw [hq, hw4] at hown hmk3
  have hR : Kd.R (Kd.int .u8) 5 w4 0 (fun _ => True) (.slice (some ⟨q, 0, none⟩) n n) (List.replicate n 0) := Kd.R_of_own (by rw [List.length_replicate]; exact hown) (fun _ _ => trivial)
  obtain ⟨A, cc, hv, _, hC⟩ := Kd.R_reads hR
  injection hv with e1 e2 e3
  subst e1 e3
  rw [← e2] at hC
  have hcv := Kd.C_string (P := Tryz.prog) (src := 26) (dst := 9) (e := 5) (c := n) Tryz.underlying26 Tryz.underlying5 Tryz.underlying9 hC
  obtain ⟨s, hs⟩ : ∃ s, zs n = s := ⟨_, rfl⟩
  have hss : s.size = n := by rw [← hs, zs_size]
  change (convert 26 9 (.slice (some ⟨q, 0, none⟩) n n)).run Tryz.prog w4 = .ok (.string (zs n)) w4 at hcv
  rw [hs] at hcv
  have HB4 := Lib.hid (HB3.out.trans (hb4.mono HB3.out.size))
  have HSS := Lib.hid hss
  clear hmk hb4 hown hR hC hs hw4 hq hss e2
  go_wp2_with fail
  refine (pieces_any s w4 (by rw [HSS.out]; omega)).mono ?_
  rintro e w5 ⟨v5, rfl, hR5, hb⟩
  obtain ⟨A5, c5, rfl, _, hC5⟩ := Kd.R_reads hR5
  have hl5 : (pieces s).length = piecesN s := by unfold pieces; simp
  rw [hl5] at hC5 ⊢
  obtain ⟨M, hM⟩ : ∃ M, piecesN s = M := ⟨_, rfl⟩
  have hMb : M ≤ 1000 := by have := HSS.out; unfold piecesN at hM; omega
  rw [hM] at hC5 ⊢
  have HM := Lib.hid hM
  have HC5 := Lib.hid hC5
  have HB5 := Lib.hid (HB4.out.trans (hb.mono HB4.out.size))
  clear hR5 hb hC5 hl5 hM hmk3 hcv
  go_wp2_with fail
  go_loopg [6, 30] M (fun gk x v wr => FRel s w5 gk x v wr)
  case atStart => exact ⟨0, 0, ⟨Nat.zero_le _, rfl, by rw [HM.out]; rfl, rfl, rfl, rfl⟩⟩
  case round =>
    obtain ⟨k, x, hk, rfl, hg, hx, rfl, rfl⟩ := hrel
    rw [HM.out] at hk hg
    have HG := Lib.hid hg
    have HX := Lib.hid hx
    have hsl := sum_le s k (by rw [HM.out]; exact hk)
    rw [← hx] at hsl
    have hxb : x ≤ 1000000 := by have := HSS.out; omega
    clear hg hx hsl
    by_cases hlt : k < M
    · have hltI : (k : Int) < (M : Int) := by omega
      obtain ⟨ad, cells, rfl, _, hK, hcell⟩ := Kd.C_get HC5.out ⟨#[]⟩ (k : Int) (by omega) (by omega)
      have hpk : (pieces s).getD (k : Int).toNat ⟨#[]⟩ = pieceAt s k := by
        rw [Int.toNat_natCast, List.getD_eq_getElem?_getD]
        unfold pieces
        rw [List.getElem?_map, List.getElem?_range (by rw [HM.out]; exact hlt)]
        rfl
      rw [hpk] at hK
      have hK' : cells = [.string (pieceAt s k)] := hK
      subst hK'
      have hcl := hcell 0 _ rfl
      obtain ⟨p, hp⟩ : ∃ p, pieceAt s k = p := ⟨_, rfl⟩
      have hpz := piece_size s k (by rw [HM.out]; exact hlt)
      rw [hp] at hcl hpz
      have hpb : p.size ≤ 4001 := by omega
      have hsum : sumP s (k + 1) = x + (p.size + 6) := by
        rw [HX.out]
        unfold sumP
        rw [List.range_succ, List.map_append, List.sum_append]
        simp [hp]
      have HSM := Lib.hid hsum
      have hadd : (k : Int).toNat * Kd.string.sz + 0 = k := by
        show (k : Int).toNat * 1 + 0 = k
        omega
      rw [hadd] at hcl
      clear hcell hK hpk hp hpz hsum hadd
      go_wp2_with fail
      go_roundg (gk - 1)
      case measure => have := HG.out; omega
      case rel => exact ⟨k + 1, x + (p.size + 6), ⟨by rw [HM.out]; omega, by go_num, by rw [HM.out]; have := HG.out; omega, HSM.out.symm, by go_num, rfl⟩⟩
    · obtain rfl : k = M := by omega
      have hfit : n = 0 ∨ x + 4096 + 6 ≤ roomN a := by
        rcases Nat.eq_zero_or_pos n with h0 | h0
        · exact .inl h0
        · right
          have h2 := fits_all a s (by rw [HSS.out, HCC.out]; exact hnc) (by rw [HSS.out]; exact h0)
          rw [HM.out, ← HX.out] at h2
          exact h2
      by_cases hn0 : n = 0
      · subst hn0
        clear hfit
        go_wp2_with fail
        go_ret
        exact ⟨rfl, HB5.out⟩
      · have hfit2 : x + 4096 + 6 ≤ roomN a := hfit.resolve_left hn0
        have hroom := room_le a
        obtain ⟨r, hr⟩ : ∃ r, roomN a = r := ⟨_, rfl⟩
        rw [hr] at hfit2 hroom
        have hfI : (x : Int) + 4096 + 6 ≤ (r : Int) := by omega
        have hcap := HO.out
        rw [hr] at hcap
        have HCP := Lib.hid hcap
        have hn0I : ¬ (n : Int) = 0 := by omega
        clear hfit hr hcap
        go_wp2_with fail
        refine (precinctref08_Capacity.calls a _ w5 HCP.out).mono ?_
        rintro e w6 ⟨rfl, hd⟩
        have HB6 := Lib.hid (HB5.out.trans ((Drawn0.below hd).mono HB5.out.size))
        clear hd
        go_wp2_with fail
        go_ret
        exact ⟨rfl, HB6.out⟩

end Go.Proofs.YtieaipclioppkaaGreat.Ft
