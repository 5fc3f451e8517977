/- The mask of a whole number's low bits, whatever the number. -/
import Derived.Test.YtclkgflficlmiaaDoorBase
namespace Go.Proofs.YtclkgflficlmiaaDoor
open Go Go.RowKit
theorem i64_mask (x : Int) (k : Nat) (hk : k ≤ 62) : bits .and .i64 x ((2 ^ k - 1 : Nat) : Int) = x % 2 ^ k := by
  have hpos : 0 < 2 ^ k := Nat.two_pow_pos k
  have hle : 2 ^ k ≤ 2 ^ 62 := Nat.pow_le_pow_right (by decide) hk
  have hb : (IntKind.i64).bits = 64 := rfl
  have h1 : (BitVec.ofInt 64 x).toNat = (x % 18446744073709551616).toNat := by rw [BitVec.toNat_ofInt]; rfl
  have h2 : (BitVec.ofInt 64 ((2 ^ k - 1 : Nat) : Int)).toNat = 2 ^ k - 1 := by
    rw [BitVec.ofInt_natCast, BitVec.toNat_ofNat]
    exact Nat.mod_eq_of_lt (by omega)
  show IntKind.i64.wrap ((BitVec.ofInt 64 x &&& BitVec.ofInt 64 ((2 ^ k - 1 : Nat) : Int)).toNat : Int) = _
  rw [BitVec.toNat_and, h1, h2, Nat.and_two_pow_sub_one_eq_mod]
  have hdvd : (2 : Int) ^ k ∣ 18446744073709551616 := by
    refine ⟨2 ^ (64 - k), ?_⟩
    rw [← Int.pow_add, show k + (64 - k) = 64 by omega]
    rfl
  have h3 : (((x % 18446744073709551616).toNat % 2 ^ k : Nat) : Int) = x % 2 ^ k := by
    rw [Int.natCast_emod, Int.toNat_of_nonneg (Int.emod_nonneg _ (by decide)), Int.natCast_pow]
    exact Int.emod_emod_of_dvd _ hdvd
  rw [h3]
  have hpz : (0 : Int) < 2 ^ k := Int.pow_pos (by decide)
  have h4 := Int.emod_nonneg x (Int.ne_of_gt hpz)
  have h5 := Int.emod_lt_of_pos x hpz
  have h6 : (2 : Int) ^ k ≤ 4611686018427387904 := by
    have : (2 : Int) ^ k = ((2 ^ k : Nat) : Int) := by rw [Int.natCast_pow]; rfl
    rw [this]
    have : (2 ^ 62 : Nat) = 4611686018427387904 := rfl
    omega
  rw [IntKind.wrap_i64]
  omega
theorem i64_mask3 (x : Int) : bits .and .i64 x 3 = x % 4 := i64_mask x 2 (by decide)
theorem i64_mask7 (x : Int) : bits .and .i64 x 7 = x % 8 := i64_mask x 3 (by decide)
theorem i64_mask1 (x : Int) : bits .and .i64 x 1 = x % 2 := i64_mask x 1 (by decide)
theorem i64_mask63 (x : Int) : bits .and .i64 x 63 = x % 64 := i64_mask x 6 (by decide)
theorem i64_mask255 (x : Int) : bits .and .i64 x 255 = x % 256 := i64_mask x 8 (by decide)
theorem i64_mask511 (x : Int) : bits .and .i64 x 511 = x % 512 := i64_mask x 9 (by decide)
theorem i64_mask65535 (x : Int) : bits .and .i64 x 65535 = x % 65536 := i64_mask x 16 (by decide)
theorem i64_mask20 (x : Int) : bits .and .i64 x 1048575 = x % 1048576 := i64_mask x 20 (by decide)
end Go.Proofs.YtclkgflficlmiaaDoor
