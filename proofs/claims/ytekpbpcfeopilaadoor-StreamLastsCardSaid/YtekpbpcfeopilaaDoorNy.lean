/- Streams whose power may fail: what an Append, a Reset, an Open leave. Plain; no program in sight. -/
import Derived.Test.YtekpbpcfeopilaaDoorK6
namespace Go.Proofs.YtekpbpcfeopilaaDoor.Ny
open Go Go.Proofs.YtekpbpcfeopilaaDoor.Dm Go.Proofs.YtekpbpcfeopilaaDoor.Da Go.Proofs.YtekpbpcfeopilaaDoor.Df Go.Proofs.YtekpbpcfeopilaaDoor.Dg Go.Proofs.YtekpbpcfeopilaaDoor.Dh Go.Proofs.YtekpbpcfeopilaaDoor.Di Go.Proofs.YtekpbpcfeopilaaDoor.Dj Go.Proofs.YtekpbpcfeopilaaDoor.Dk Go.Proofs.YtekpbpcfeopilaaDoor.Dl Go.Proofs.YtekpbpcfeopilaaDoor.Dn Go.Proofs.YtekpbpcfeopilaaDoor.Ds Go.Proofs.YtekpbpcfeopilaaDoor.Dt Go.Proofs.YtekpbpcfeopilaaDoor.Areas Go.Proofs.YtekpbpcfeopilaaDoor.Lw Go.Proofs.YtekpbpcfeopilaaDoor.Fp Go.Proofs.YtekpbpcfeopilaaDoor.Tp Go.Proofs.YtekpbpcfeopilaaDoor.Sp Go.Proofs.YtekpbpcfeopilaaDoor.Sm Go.Proofs.YtekpbpcfeopilaaDoor.Fz Go.Proofs.YtekpbpcfeopilaaDoor.Hd Go.Proofs.YtekpbpcfeopilaaDoor.St Go.Proofs.YtekpbpcfeopilaaDoor.Ap Go.Proofs.YtekpbpcfeopilaaDoor.Rs Go.Proofs.YtekpbpcfeopilaaDoor.Cm

/-- A stream, its region, and its records; the power may fail. -/
structure Sound (m : MDisk) (k : Nat) (L : List ByteArray) (s : MSt) (l : List ByteArray) : Prop where
  live : Live m k L []
  rg : s.rg = k
  h : s.h = sizeH L.length
  holds : Holds L s.h s.g s.half s.data
  data : s.data.data.toList = dataOf sumN l
  fine : ∀ b ∈ l, okB b
  sound : s.broken = false
  fits : s.data.size < 55 * s.h
theorem to_good {m : MDisk} {k : Nat} {L : List ByteArray} {s : MSt} {l : List ByteArray} (G : Sound m k L s l) (hc : m.tleft = 0) : Cm.Good m k L s l := ⟨G.live, hc, G.rg, G.h, G.holds, G.data, G.fine, G.sound, G.fits⟩
/-- What lies in a region, as far as it matters to what is opened. -/
structure Lie (L : List ByteArray) (l : List ByteArray) (G : Int) : Prop where
  recs : recOf sumN L (sizeH L.length) = l
  fits : (dataOf sumN l).length < 55 * sizeH L.length
  gen : genOf L (sizeH L.length) ≤ G
theorem Lie.mono {L l : List ByteArray} {G G' : Int} (h : Lie L l G) (hg : G ≤ G') : Lie L l G' := ⟨h.recs, h.fits, Int.le_trans h.gen hg⟩
theorem Sound.lie {m : MDisk} {k : Nat} {L : List ByteArray} {s : MSt} {l : List ByteArray} (S : Sound m k L s l) : Lie L l s.g := by
  have hr : recOf sumN L (sizeH L.length) = l := by
    rw [← S.h, S.holds.recOf, S.data]
    have := recs_frames hs (l := l) S.fine (getL_nil (sm := sumN))
    rwa [List.append_nil] at this
  refine ⟨hr, ?_, ?_⟩
  · have := S.fits
    rw [← S.data, ← S.h]
    simpa using this
  · rw [← S.h, S.holds.genOf]
    exact Int.le_refl _

theorem res_any_out {m : MDisk} {k : Nat} {L : List ByteArray} {s : MSt} {l : List ByteArray} (hL : Live m k L []) (hrg : s.rg = k) (hh : s.h = sizeH L.length) (hlen : 1 + 2 * s.h ≤ L.length) (hh2 : s.h ≤ 65535) (hg : genOf L s.h = s.g) (hhf : halfOf L = s.half) (hb : s.broken = false) (hf : ∀ b ∈ l, okB b)
    (hd : (dataOf sumN l).length < 55 * s.h) (hg2 : s.g < 281474976710655) :
    ((resR m s l).1 = 0 ∧ (resR m s l).2.1.g = s.g + 1 ∧ (resR m s l).2.1.b = s.b ∧ (resR m s l).2.1.h = s.h ∧ ∃ L', L'.length = L.length ∧ Sound (resR m s l).2.2 k L' (resR m s l).2.1 l) ∨
    ((resR m s l).1 = 11 ∧ ∃ L', Dead (resR m s l).2.2 k L' ∧ L'.length = L.length ∧ genOf L' s.h ≤ (s.g : Int) + 1 ∧ (recOf sumN L' s.h = recOf sumN L s.h ∨ recOf sumN L' s.h = l)) := by
  have hE := resE_fine hf
  have hds : (mkB (dataOf sumN l)).size < 55 * s.h := by rw [size_mkB]; exact hd
  have ho := reset_out sumN hL hlen hg hg2 hhf hds hh2
  have hrec : recs sumN (mkB (dataOf sumN l)).data.toList = l := by
    rw [data_mkB]
    have := recs_frames hs (l := l) hf (getL_nil (sm := sumN))
    rwa [List.append_nil] at this
  rcases ho with ⟨e0, L', hl', hlen', hhold⟩ | ⟨e11, L', hd', hlen', hgen', hrec'⟩
  · left
    have hr : resR m s l = (0, { s with g := s.g + 1, half := 1 - s.half, data := mkB (dataOf sumN l) }, (resetW k s.h s.g s.half m (mkB (dataOf sumN l))).2) := by
      unfold resR
      rw [if_neg (by rw [hb]; decide), if_neg (by rw [hE]; decide), if_neg (by omega), hrg, if_pos e0]
    rw [hr]
    exact ⟨rfl, rfl, rfl, rfl, L', hlen', ⟨hl', hrg, by show s.h = _; rw [hlen', hh], hhold, data_mkB _, hf, hb, hds⟩⟩
  · right
    have hr : resR m s l = (11, { s with broken := true }, (resetW k s.h s.g s.half m (mkB (dataOf sumN l))).2) := by
      unfold resR
      rw [if_neg (by rw [hb]; decide), if_neg (by rw [hE]; decide), if_neg (by omega), hrg, if_neg (by rw [e11]; decide), e11]
    rw [hr]
    rw [hrec] at hrec'
    exact ⟨rfl, L', hd', hlen', hgen', hrec'⟩

theorem app_any_out {m : MDisk} {k : Nat} {L : List ByteArray} {s : MSt} {l : List ByteArray} (G : Sound m k L s l) (hh2 : s.h ≤ 65535) (body : ByteArray) :
    (appR m s body = ((putS body).2, s, m) ∧ (putS body).2 ≠ 0) ∨
    (appR m s body = (12, s, m) ∧ (putS body).2 = 0) ∨
    ((appR m s body).1 = 0 ∧ okB body ∧ (appR m s body).2.1.g = s.g ∧ (appR m s body).2.1.b = s.b ∧ (appR m s body).2.1.h = s.h ∧ ∃ L', L'.length = L.length ∧ Sound (appR m s body).2.2 k L' (appR m s body).2.1 (l ++ [body])) ∨
    ((appR m s body).1 = 11 ∧ okB body ∧ ∃ L', Dead (appR m s body).2.2 k L' ∧ L'.length = L.length ∧ genOf L' s.h ≤ (s.g : Int) ∧ (dataOf sumN (l ++ [body])).length < 55 * s.h ∧ (recOf sumN L' s.h = l ∨ recOf sumN L' s.h = l ++ [body])) := by
  by_cases h2 : (putS body).2 = 0
  · obtain ⟨hok, hp⟩ := put_fine h2
    have hfs : ((putS body).1.size : Int) = 6 + (body.size : Int) := by rw [hp, frame_size]; omega
    by_cases h3 : (s.h : Int) * 55 - 1 - (s.data.size : Int) < 6 + (body.size : Int)
    · refine .inr (.inl ⟨?_, h2⟩)
      unfold appR
      rw [if_neg (by rw [G.sound]; decide), if_neg (fun h => h h2), if_pos (by rw [hfs]; exact h3)]
    · right; right
      have hsz : (s.data ++ (putS body).1).size = s.data.size + (6 + body.size) := by rw [ByteArray.size_append]; omega
      have hpre : s.data.data.toList <+: (s.data ++ (putS body).1).data.toList := by
        rw [ByteArray.data_append, Array.toList_append]
        exact List.prefix_append _ _
      have hfit : (s.data ++ (putS body).1).size < 55 * s.h := by omega
      have hdat : (s.data ++ (putS body).1).data.toList = dataOf sumN (l ++ [body]) := by
        rw [ByteArray.data_append, Array.toList_append, G.data, dataOf_snoc, hp, data_mkB]
      have hfl : (dataOf sumN (l ++ [body])).length = (s.data ++ (putS body).1).size := by rw [← hdat]; simp
      have hdl : (dataOf sumN l).length = s.data.size := by rw [← G.data]; simp
      have hfine : ∀ b ∈ l ++ [body], okB b := by
        intro b hb
        rcases List.mem_append.1 hb with hb | hb
        · exact G.fine b hb
        · rw [List.mem_singleton.1 hb]; exact hok
      have ho := append_out sumN G.live G.holds hpre hfit hh2
      rcases ho with ⟨e0, L', hl', hlen', hhold⟩ | ⟨e11, L', hd', hlen', hgen', n, hn1, hn2, hrec'⟩
      · left
        have hr : appR m s body = (0, { s with data := s.data ++ (putS body).1 }, (appendW k s.h s.g s.half m s.data (s.data ++ (putS body).1)).2) := by
          unfold appR
          rw [if_neg (by rw [G.sound]; decide), if_neg (fun h => h h2), if_neg (by rw [hfs]; exact h3), G.rg, if_pos e0]
        rw [hr]
        exact ⟨rfl, hok, rfl, rfl, rfl, L', hlen', ⟨hl', G.rg, by show s.h = _; rw [hlen', G.h], hhold, hdat, hfine, G.sound, hfit⟩⟩
      · right
        have hr : appR m s body = (11, { s with broken := true }, (appendW k s.h s.g s.half m s.data (s.data ++ (putS body).1)).2) := by
          unfold appR
          rw [if_neg (by rw [G.sound]; decide), if_neg (fun h => h h2), if_neg (by rw [hfs]; exact h3), G.rg, if_neg (by rw [e11]; decide), e11]
        rw [hr]
        refine ⟨rfl, hok, L', hd', hlen', hgen', by rw [hfl]; exact hfit, ?_⟩
        rw [hrec', hdat]
        exact recs_cut hs G.fine hok (by rw [hdl]; exact hn1) (by rw [hfl]; exact hn2)
  · refine .inl ⟨?_, h2⟩
    unfold appR
    rw [if_neg (by rw [G.sound]; decide), if_pos h2]

theorem app_lie {m : MDisk} {k : Nat} {L L' : List ByteArray} {s : MSt} {l : List ByteArray} {body : ByteArray} (G : Sound m k L s l) (hl : L'.length = L.length) (hg : genOf L' s.h ≤ (s.g : Int)) (hd : (dataOf sumN (l ++ [body])).length < 55 * s.h) (hr : recOf sumN L' s.h = l ∨ recOf sumN L' s.h = l ++ [body]) :
    ∃ lst, Lie L' lst s.g ∧ (lst = l ∨ lst = l ++ [body]) := by
  have eh : s.h = sizeH L'.length := by rw [hl]; exact G.h
  have hf := G.lie.fits
  rw [← G.h] at hf
  rw [eh] at hg hd hr hf
  rcases hr with h | h
  · exact ⟨l, ⟨h, hf, hg⟩, .inl rfl⟩
  · exact ⟨_, ⟨h, hd, hg⟩, .inr rfl⟩
theorem appR_b (m : MDisk) (s : MSt) (y : ByteArray) : (appR m s y).2.1.b = s.b := by
  unfold appR
  (repeat' split) <;> rfl
theorem putS_err (y : ByteArray) : (putS y).2 = 0 ∨ (putS y).2 = 2 ∨ (putS y).2 = 5 := by
  unfold putS
  split
  · exact .inr (.inl rfl)
  · split
    · exact .inr (.inr rfl)
    · exact .inl rfl

/-- Opening, with a trap or without. -/
theorem open_out {m : MDisk} {k : Nat} {L : List ByteArray} {l : List ByteArray} {G : Int} (b : Nat) (hL : Live m k L []) (h0 : 0 < sizeH L.length) (H : Lie L l G) (hG : G < 281474976710655) :
    ((resR m (Op.preS b k L) l).1 = 0 ∧ (resR m (Op.preS b k L) l).2.1.b = b ∧ ((resR m (Op.preS b k L) l).2.1.g : Int) = genOf L (sizeH L.length) + 1 ∧ (resR m (Op.preS b k L) l).2.1.h = sizeH L.length ∧
      ∃ L', L'.length = L.length ∧ Sound (resR m (Op.preS b k L) l).2.2 k L' (resR m (Op.preS b k L) l).2.1 l) ∨
    ((resR m (Op.preS b k L) l).1 = 11 ∧ ∃ L', Dead (resR m (Op.preS b k L) l).2.2 k L' ∧ L'.length = L.length ∧ Lie L' l (G + 1)) := by
  have hgn := genOf_nn L (sizeH L.length)
  have hgl := H.gen
  have eh : sizeH L.length = (max 1 (min L.length 4096) - 1) / 2 := rfl
  have hf : ∀ b ∈ l, okB b := by rw [← H.recs]; exact recOf_fine _ _
  have := res_any_out (s := Op.preS b k L) (l := l) hL rfl rfl (by show 1 + 2 * sizeH L.length ≤ _; omega) (by show sizeH L.length ≤ _; omega) (Int.toNat_of_nonneg hgn).symm rfl rfl hf H.fits (by show (genOf L (sizeH L.length)).toNat < _; omega)
  rcases this with ⟨h1, h2, h3, h4, h5⟩ | ⟨h1, L', h2, h3, h4, h5⟩
  · refine .inl ⟨h1, h3, ?_, h4, h5⟩
    rw [h2]
    show (((genOf L (sizeH L.length)).toNat + 1 : Nat) : Int) = _
    omega
  · have e : (Op.preS b k L).h = sizeH L.length := rfl
    have eg : (Op.preS b k L).g = (genOf L (sizeH L.length)).toNat := rfl
    rw [e] at h4 h5
    rw [eg] at h4
    refine .inr ⟨h1, L', h2, h3, ?_, ?_, ?_⟩
    · rw [h3]
      rcases h5 with h5 | h5
      · rw [h5, H.recs]
      · exact h5
    · rw [h3]; exact H.fits
    · rw [h3]; omega

theorem on_dead {m : MDisk} {k : Nat} {L : List ByteArray} (h : Dead m k L) : Live (onM m) k L [] ∧ (onM m).tleft = 0 := ⟨⟨rfl, h.reg⟩, rfl⟩
theorem on_live {m : MDisk} {k : Nat} {L : List ByteArray} (h : Live m k L []) : Live (onM m) k L [] ∧ (onM m).tleft = 0 := ⟨⟨rfl, h.reg⟩, rfl⟩
theorem cut_live {m : MDisk} {k : Nat} {L : List ByteArray} (h : Live m k L []) (n left : Int) (keep : List Int) : Live (cutM m n left keep) k L [] := by
  unfold cutM
  split
  · exact ⟨h.on, h.reg⟩
  · exact ⟨h.on, h.reg⟩
theorem crash_dead {m : MDisk} {k : Nat} {L : List ByteArray} (h : Dead m k L) (keep : List Int) : Live (crashM keep m) k L [] ∧ (crashM keep m).tleft = 0 := by
  unfold crashM
  rw [if_pos h.off]
  exact on_dead h

/-- A region whose sectors are laid. -/
theorem laid_live (q : Nat) (hq : q ≤ 4096) (x : ByteArray) : Live (layM (newM [(q : Int)]) 0 x) 0 (layL q x) [] ∧ (layM (newM [(q : Int)]) 0 x).tleft = 0 ∧ (layL q x).length = q := by
  have hl : (layL q x).length = q := by unfold layL; simp
  have hc : clampN (q : Int) = q := by unfold clampN; omega
  have e : layM (newM [(q : Int)]) 0 x = setM (newM [(q : Int)]) 0 ⟨layL q x, []⟩ := by
    have hr : (newM [(q : Int)]).regs = [newR q] := rfl
    have hlen : (newR (q : Int)).lasts.length = q := by unfold newR; simp [hc]
    unfold layM
    rw [if_pos (by rw [hr]; simp), hr]
    show setM (newM [(q : Int)]) 0 ⟨layL (newR (q : Int)).lasts.length x, []⟩ = _
    rw [hlen]
  rw [e]
  exact ⟨⟨rfl, rfl⟩, rfl, hl⟩

/-- Opening what lies anyhow, without a trap: it is opened, or there is no room. -/
theorem open_calm_any {m : MDisk} {k : Nat} {L : List ByteArray} (b : Nat) :
    ((resR m (Op.preS b k L) (recOf sumN L (sizeH L.length))).1 = 12) ∨
    (((dataOf sumN (recOf sumN L (sizeH L.length))).length < 55 * sizeH L.length) ∧ genOf L (sizeH L.length) < 281474976710655) := by
  have hgn := genOf_nn L (sizeH L.length)
  by_cases hx : (sizeH L.length : Int) * 55 - 1 < ((dataOf sumN (recOf sumN L (sizeH L.length))).length : Int) ∨ 281474976710655 ≤ (genOf L (sizeH L.length)).toNat
  · left
    have hE := resE_fine (recOf_fine L (sizeH L.length))
    have e : (Op.preS b k L).h = sizeH L.length := rfl
    have eg : (Op.preS b k L).g = (genOf L (sizeH L.length)).toNat := rfl
    unfold resR
    rw [if_neg (by show ¬ false = true; decide), if_neg (by rw [hE]; decide), e, eg, if_pos hx]
  · right
    omega

end Go.Proofs.YtekpbpcfeopilaaDoor.Ny
