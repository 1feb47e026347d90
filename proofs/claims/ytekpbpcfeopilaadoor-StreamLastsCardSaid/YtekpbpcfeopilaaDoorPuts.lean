/- Numbers as bytes: what the printed Put of the program and the reference's Put compute, for every number of at most eight bytes. -/
import Derived.Test.YtekpbpcfeopilaaDoorCore
import Derived.Test.YtekpbpcfeopilaaDoorPLeafx
namespace Go.Proofs.YtekpbpcfeopilaaDoor.Puts
open Go Go.RowKit Go.Proofs.YtekpbpcfeopilaaDoorCore Go.Proofs.YtekpbpcfeopilaaDoor.PLeaf Go.Proofs.YtekpbpcfeopilaaDoorW.PrintWords Go.Proofs.YtekpbpcfeopilaaDoorW.PrintLast Go.Proofs.YtekpbpcfeopilaaDoorW.PrintMore

/-- The low bytes of a number, the highest first. -/
def beL : Nat → Nat → List UInt8
  | 0, _ => []
  | k + 1, n => beL k (n / 256) ++ [UInt8.ofNat (n % 256)]
theorem beL_length (k n : Nat) : (beL k n).length = k := by induction k generalizing n with | zero => rfl | succ k ih => simp [beL, ih]
def be (k n : Nat) : ByteArray := ⟨(beL k n).toArray⟩
theorem be_size (k n : Nat) : (be k n).size = k := by simp [be, ByteArray.size, beL_length]

theorem beL_cons (k n : Nat) : beL (k + 1) n = UInt8.ofNat (n / 256 ^ k % 256) :: beL k n := by
  induction k generalizing n with
  | zero => simp [beL]
  | succ k ih =>
    rw [beL, ih]
    simp only [List.cons_append, beL]
    congr 2
    rw [Nat.div_div_eq_div_mul, Nat.pow_succ, Nat.mul_comm]

/-- The same, as numbers. -/
def beN : Nat → Nat → List Int
  | 0, _ => []
  | k + 1, n => ((n / 256 ^ k % 256 : Nat) : Int) :: beN k n
theorem beN_bytes (k n : Nat) : (beN k n).map (fun x => UInt8.ofNat x.toNat) = beL k n := by
  induction k with
  | zero => rfl
  | succ k ih => simp only [beN, List.map_cons, Int.toNat_natCast, ih, beL_cons]
theorem str_beN (k n : Nat) : strOfNums (beN k n) = be k n := by unfold strOfNums be; rw [beN_bytes]

theorem pow_256 (m : Nat) : (2 : Int) ^ (8 * m) = ((256 ^ m : Nat) : Int) := by
  rw [Int.natCast_pow, Int.pow_mul]
  rfl
theorem pow_byte (n m : Nat) : (n : Int) / 2 ^ (8 * m) % 256 = ((n / 256 ^ m % 256 : Nat) : Int) := by
  rw [pow_256, ← Int.natCast_ediv]
  rfl

theorem byte_at (n m : Nat) (hm : m < 8) : (shr .u64 (n : Int) (wrap64 (8 * (m : Int)))) % 256 = ((n / 256 ^ m % 256 : Nat) : Int) := by
  have e : wrap64 (8 * (m : Int)) = 8 * (m : Int) := by unfold wrap64; omega
  rw [e]
  unfold shr
  have hmin : min (8 * (m : Int)).toNat (IntKind.bits .u64) = 8 * m := by simp [IntKind.bits]; omega
  rw [hmin]
  exact pow_byte n m

theorem put_loop (n : Nat) : ∀ (m k : Nat) (acc : List Int), m ≤ 8 → acc.length + m ≤ 8 → m < k → words_Put.l0 k (n : Int) acc ((m : Int) - 1) = some (strOfNums (acc ++ beN m n)) := by
  intro m
  induction m with
  | zero =>
    intro k acc _ _ hk
    obtain ⟨k, rfl⟩ : ∃ j, k = j + 1 := ⟨k - 1, by omega⟩
    simp only [words_Put.l0]
    rw [if_neg (by omega)]
    simp [beN]
  | succ m ih =>
    intro k acc hm hl hk
    obtain ⟨k, rfl⟩ : ∃ j, k = j + 1 := ⟨k - 1, by omega⟩
    simp only [words_Put.l0]
    have e0 : (((m + 1 : Nat) : Int) - 1) = (m : Int) := by omega
    rw [e0, if_pos (by omega), if_pos (by unfold wrap64; omega), if_pos (by omega), byte_at n m (by omega)]
    have e1 : wrap64 ((m : Int) - 1) = (m : Int) - 1 := by unfold wrap64; omega
    rw [e1, ih k _ (by omega) (by simp; omega) (by omega)]
    simp [beN]

theorem put_f (n x : Int) (h0 : 0 ≤ n) (h8 : n ≤ 8) (hx : 0 ≤ x) : words_Put.f 10 n x = some (be n.toNat x.toNat) := by
  obtain ⟨n, rfl⟩ := Int.eq_ofNat_of_zero_le h0
  obtain ⟨x, rfl⟩ := Int.eq_ofNat_of_zero_le hx
  unfold words_Put.f
  have e : (mx 0 (mn (n : Int) 8)) - 1 = (n : Int) - 1 := by unfold mx mn; (repeat' split) <;> omega
  rw [e, put_loop x n 10 [] (by omega) (by simp; omega) (by omega)]
  simp [str_beN]

theorem put_at (n x : Int) (w : World) (hn : 0 ≤ n) (hn8 : n ≤ 8) (hx : 0 ≤ x) (_hx2 : x < 18446744073709551616) :
    Calls Tryd.prog 42 #[.int .i64 n, .int .u64 x] w fun e w' => e = .returned (.string (be n.toNat x.toNat)) ∧ Below w.heap.size w w' :=
  words_Put.calls 10 n x _ w (put_f n x hn hn8 hx)

end Go.Proofs.YtekpbpcfeopilaaDoor.Puts
