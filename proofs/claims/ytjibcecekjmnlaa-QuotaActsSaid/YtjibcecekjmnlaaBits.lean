/- The last bits of an int: what is left of it by a power of two. -/
import Derived.WalkKit
import Derived.Laws.Bits128
namespace Go.Kpt

theorem i64_mask (i : Nat) (hi : i ≤ 62) (n : Int) : bits .and .i64 n ((2 ^ i - 1 : Nat) : Int) = n % ((2 ^ i : Nat) : Int) := by
  have hle : 2 ^ i ≤ 2 ^ 62 := Nat.pow_le_pow_right (by omega) hi
  have hpos : 0 < 2 ^ i := Nat.two_pow_pos i
  have h127 : (BitVec.ofInt 64 ((2 ^ i - 1 : Nat) : Int)).toNat = 2 ^ i - 1 := by
    rw [BitVec.ofInt_natCast, BitVec.toNat_ofNat]; exact Nat.mod_eq_of_lt (by omega)
  have key : (BitVec.ofInt 64 n &&& BitVec.ofInt 64 ((2 ^ i - 1 : Nat) : Int)).toNat = (n % ((2 ^ 64 : Nat) : Int)).toNat % 2 ^ i := by
    rw [BitVec.toNat_and, BitVec.toNat_ofInt, h127, Nat.and_two_pow_sub_one_eq_mod]
  show IntKind.i64.wrap ((BitVec.ofInt 64 n &&& BitVec.ofInt 64 ((2 ^ i - 1 : Nat) : Int)).toNat : Nat) = _
  rw [key, IntKind.wrap_i64]
  have hdvd : ((2 ^ i : Nat) : Int) ∣ ((2 ^ 64 : Nat) : Int) := by
    refine ⟨((2 ^ (64 - i) : Nat) : Int), ?_⟩
    rw [← Int.natCast_mul, ← Nat.pow_add]; congr 2; omega
  have h1 : (((n % ((2 ^ 64 : Nat) : Int)).toNat % 2 ^ i : Nat) : Int) = n % ((2 ^ i : Nat) : Int) := by
    rw [Int.natCast_emod, Int.toNat_of_nonneg (Int.emod_nonneg _ (by decide)), Int.emod_emod_of_dvd _ hdvd]
  rw [h1]
  have h2 : 0 ≤ n % ((2 ^ i : Nat) : Int) := Int.emod_nonneg _ (by omega)
  have h3 : n % ((2 ^ i : Nat) : Int) < ((2 ^ i : Nat) : Int) := Int.emod_lt_of_pos _ (by omega)
  omega

theorem i64_and1 (n : Int) : bits .and .i64 n 1 = n % 2 := i64_mask 1 (by omega) n
theorem i64_and3 (n : Int) : bits .and .i64 n 3 = n % 4 := i64_mask 2 (by omega) n
theorem i64_and7 (n : Int) : bits .and .i64 n 7 = n % 8 := i64_mask 3 (by omega) n
theorem i64_and15 (n : Int) : bits .and .i64 n 15 = n % 16 := i64_mask 4 (by omega) n
theorem i64_and31 (n : Int) : bits .and .i64 n 31 = n % 32 := i64_mask 5 (by omega) n
theorem i64_and63 (n : Int) : bits .and .i64 n 63 = n % 64 := i64_mask 6 (by omega) n
theorem i64_and255 (n : Int) : bits .and .i64 n 255 = n % 256 := i64_mask 8 (by omega) n
theorem i64_and1023 (n : Int) : bits .and .i64 n 1023 = n % 1024 := i64_mask 10 (by omega) n
theorem i64_and4095 (n : Int) : bits .and .i64 n 4095 = n % 4096 := i64_mask 12 (by omega) n
theorem i64_and65535 (n : Int) : bits .and .i64 n 65535 = n % 65536 := i64_mask 16 (by omega) n
end Go.Kpt
