/- Numbers as bytes: what the printed Put of the program and the reference's Put compute, for every number of at most eight bytes. -/
import Derived.Test.YtekpbpcfeopilaaDoorCore
import Derived.Test.YtekpbpcfeopilaaDoorPLeafx
namespace Go.Proofs.YtekpbpcfeopilaaDoor.Puts
open Go Go.RowKit Go.Proofs.YtekpbpcfeopilaaDoorCore Go.Proofs.YtekpbpcfeopilaaDoor.PLeaf Go.Proofs.YtekpbpcfeopilaaDoorW.PrintWords Go.Proofs.YtekpbpcfeopilaaDoorW.PrintLast Go.Proofs.YtekpbpcfeopilaaDoorW.PrintMore

/-- The low bytes of a number, the highest first. -/
def beL : Nat → Nat → List UInt8
  | 0, _ => []
  | k + 1, n => beL k (n / 256) ++ [UInt8.ofNat (n % 256)]
theorem beL_length (k n : Nat) : (beL k n).length = k := by induction k generalizing n with | zero => rfl | succ k ih => simp [beL, ih]
def be (k n : Nat) : ByteArray := ⟨(beL k n).toArray⟩
theorem be_size (k n : Nat) : (be k n).size = k := by simp [be, ByteArray.size, beL_length]

theorem beL_cons (k n : Nat) : beL (k + 1) n = UInt8.ofNat (n / 256 ^ k % 256) :: beL k n := by
  induction k generalizing n with
  | zero => simp [beL]
  | succ k ih =>
    rw [beL, ih]
    simp only [List.cons_append, beL]
    congr 2
    rw [Nat.div_div_eq_div_mul, Nat.pow_succ, Nat.mul_comm]

/-- The same, as numbers. -/
def beN : Nat → Nat → List Int
  | 0, _ => []
  | k + 1, n => ((n / 256 ^ k % 256 : Nat) : Int) :: beN k n
theorem beN_bytes (k n : Nat) : (beN k n).map (fun x => UInt8.ofNat x.toNat) = beL k n := by
  induction k with
  | zero => rfl
  | succ k ih => simp only [beN, List.map_cons, Int.toNat_natCast, ih, beL_cons]
theorem beN_length (k n : Nat) : (beN k n).length = k := by induction k with | zero => rfl | succ k ih => simp [beN, ih]
theorem str_beN (k n : Nat) : strOfNums (beN k n) = be k n := by unfold strOfNums be; rw [beN_bytes]

theorem pow_256 (m : Nat) : (2 : Int) ^ (8 * m) = ((256 ^ m : Nat) : Int) := by
  rw [Int.natCast_pow, Int.pow_mul]
  rfl
theorem pow_byte (n m : Nat) : (n : Int) / 2 ^ (8 * m) % 256 = ((n / 256 ^ m % 256 : Nat) : Int) := by
  rw [pow_256, ← Int.natCast_ediv]
  rfl

theorem byte_at (n m : Nat) (hm : m < 8) : (shr .u64 (n : Int) (wrap64 (8 * (m : Int)))) % 256 = ((n / 256 ^ m % 256 : Nat) : Int) := by
  have e : wrap64 (8 * (m : Int)) = 8 * (m : Int) := by unfold wrap64; omega
  rw [e]
  unfold shr
  have hmin : min (8 * (m : Int)).toNat (IntKind.bits .u64) = 8 * m := by simp [IntKind.bits]; omega
  rw [hmin]
  exact pow_byte n m

theorem put_loop (n : Nat) : ∀ (m k : Nat) (acc : List Int), m ≤ 8 → acc.length + m ≤ 8 → m < k → words_Put.l0 k (n : Int) acc ((m : Int) - 1) = some (strOfNums (acc ++ beN m n)) := by
  intro m
  induction m with
  | zero =>
    intro k acc _ _ hk
    obtain ⟨k, rfl⟩ : ∃ j, k = j + 1 := ⟨k - 1, by omega⟩
    simp only [words_Put.l0]
    rw [if_neg (by omega)]
    simp [beN]
  | succ m ih =>
    intro k acc hm hl hk
    obtain ⟨k, rfl⟩ : ∃ j, k = j + 1 := ⟨k - 1, by omega⟩
    simp only [words_Put.l0]
    have e0 : (((m + 1 : Nat) : Int) - 1) = (m : Int) := by omega
    rw [e0, if_pos (by omega), if_pos (by unfold wrap64; omega), if_pos (by omega), byte_at n m (by omega)]
    have e1 : wrap64 ((m : Int) - 1) = (m : Int) - 1 := by unfold wrap64; omega
    rw [e1, ih k _ (by omega) (by simp; omega) (by omega)]
    simp [beN]

theorem put_f (n x : Int) (h0 : 0 ≤ n) (h8 : n ≤ 8) (hx : 0 ≤ x) : words_Put.f 10 n x = some (be n.toNat x.toNat) := by
  obtain ⟨n, rfl⟩ := Int.eq_ofNat_of_zero_le h0
  obtain ⟨x, rfl⟩ := Int.eq_ofNat_of_zero_le hx
  unfold words_Put.f
  have e : (mx 0 (mn (n : Int) 8)) - 1 = (n : Int) - 1 := by unfold mx mn; (repeat' split) <;> omega
  rw [e, put_loop x n 10 [] (by omega) (by simp; omega) (by omega)]
  simp [str_beN]

theorem put_at (n x : Int) (w : World) (hn : 0 ≤ n) (hn8 : n ≤ 8) (hx : 0 ≤ x) (_hx2 : x < 18446744073709551616) :
    Calls Tryd.prog 42 #[.int .i64 n, .int .u64 x] w fun e w' => e = .returned (.string (be n.toNat x.toNat)) ∧ Below w.heap.size w w' :=
  words_Put.calls 10 n x _ w (put_f n x hn hn8 hx)

/-- The reference's Put. -/
theorem ref_byte (x : Nat) : (Int.tmod (x : Int) 256) % 256 = ((x % 256 : Nat) : Int) := by
  rw [Int.tmod_eq_emod_of_nonneg (by omega)]; omega
theorem ref_next (x : Nat) (hx : x < 18446744073709551616) : IntKind.u64.wrap (Int.tdiv (x : Int) 256) = ((x / 256 : Nat) : Int) := by
  rw [Int.tdiv_eq_ediv_of_nonneg (by omega), IntKind.wrap_u64]; omega
theorem str_one (x : Nat) : strOfNums [((x % 256 : Nat) : Int)] = ⟨#[UInt8.ofNat (x % 256)]⟩ := by simp only [strOfNums, List.map_cons, List.map_nil, Int.toNat_natCast]
theorem append_str (a b : List UInt8) : (⟨a.toArray⟩ : ByteArray) ++ ⟨b.toArray⟩ = ⟨(a ++ b).toArray⟩ := by
  apply ByteArray.ext; simp [ByteArray.data_append]

theorem ref_loop : ∀ (m j k : Nat) (n x : Nat) (acc : List UInt8), j + m = n → n ≤ 8 → x < 18446744073709551616 → acc.length = j → m < k →
    precinctref01_Put.l0 k (n : Int) (x : Int) ⟨acc.toArray⟩ (j : Int) = some ⟨(beL m x ++ acc).toArray⟩ := by
  intro m
  induction m with
  | zero =>
    intro j k n x acc hj hn hx hl hk
    obtain ⟨k, rfl⟩ : ∃ j, k = j + 1 := ⟨k - 1, by omega⟩
    simp only [precinctref01_Put.l0]
    rw [if_neg (by omega)]
    simp [beL]
  | succ m ih =>
    intro j k n x acc hj hn hx hl hk
    obtain ⟨k, rfl⟩ : ∃ j, k = j + 1 := ⟨k - 1, by omega⟩
    simp only [precinctref01_Put.l0]
    rw [if_pos (by omega), if_pos (by omega), ref_byte, ref_next x hx]
    simp only [Option.bind_some, str_one]
    have e1 : wrap64 ((j : Int) + 1) = ((j + 1 : Nat) : Int) := by unfold wrap64; omega
    rw [if_pos (by simp [ByteArray.size, hl]; omega), e1]
    have e2 : (⟨#[UInt8.ofNat (x % 256)]⟩ : ByteArray) ++ ⟨acc.toArray⟩ = ⟨(UInt8.ofNat (x % 256) :: acc).toArray⟩ := append_str [_] acc
    rw [e2]
    rw [ih (j + 1) k n (x / 256) _ (by omega) hn (by omega) (by simp; omega) (by omega)]
    simp [beL]

theorem ref_put_f (n x : Int) (h0 : 0 ≤ n) (h8 : n ≤ 8) (hx : 0 ≤ x) (hx2 : x < 18446744073709551616) : precinctref01_Put.f 10 n x = some (be n.toNat x.toNat) := by
  obtain ⟨n, rfl⟩ := Int.eq_ofNat_of_zero_le h0
  obtain ⟨x, rfl⟩ := Int.eq_ofNat_of_zero_le hx
  unfold precinctref01_Put.f
  have := ref_loop n 0 10 n x [] (by omega) (by omega) (by omega) (by simp) (by omega)
  simpa [be] using this

end Go.Proofs.YtekpbpcfeopilaaDoor.Puts
