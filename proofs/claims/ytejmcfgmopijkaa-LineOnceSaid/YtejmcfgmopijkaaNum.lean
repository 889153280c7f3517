/- Plain facts on numbers: a mask of an int is a remainder. -/
import Derived.WalkKit
import Derived.Laws.BitsLemmas
namespace Go.Proofs.Ytejmcfgmopijkaa

theorem and_mask (a : Int) (i : Nat) (hi : i ≤ 62) : bits .and .i64 a (2 ^ i - 1) = a % 2 ^ i := by
  have hpos : 0 < 2 ^ i := Nat.two_pow_pos i
  have hlt : 2 ^ i ≤ 2 ^ 62 := Nat.pow_le_pow_right (by decide) hi
  have hc : ((2 : Int) ^ i - 1) = ((2 ^ i - 1 : Nat) : Int) := by
    rw [Int.natCast_sub hpos]; simp
  rw [hc]
  show IntKind.i64.wrap ((BitVec.ofInt 64 a &&& BitVec.ofInt 64 ((2 ^ i - 1 : Nat) : Int)).toNat : Int) = _
  rw [BitVec.toNat_and, BitVec.ofInt_natCast, BitVec.toNat_ofNat, Nat.mod_eq_of_lt (a := 2 ^ i - 1) (by omega), Nat.and_two_pow_sub_one_eq_mod, BitVec.toNat_ofInt]
  have h64 : ((a % ((2 ^ 64 : Nat) : Int)).toNat : Int) = a % ((2 ^ 64 : Nat) : Int) := Int.toNat_of_nonneg (Int.emod_nonneg _ (by decide))
  have hd : ((2 ^ i : Nat) : Int) ∣ ((2 ^ 64 : Nat) : Int) := Int.natCast_dvd_natCast.2 (Nat.pow_dvd_pow 2 (by omega))
  have hm : (((a % ((2 ^ 64 : Nat) : Int)).toNat % 2 ^ i : Nat) : Int) = a % 2 ^ i := by
    rw [Int.natCast_emod, h64, Int.emod_emod_of_dvd _ hd]
    simp
  rw [hm, IntKind.wrap_i64]
  have hp : (0 : Int) < 2 ^ i := by exact_mod_cast hpos
  have hq : (2 : Int) ^ i ≤ 2 ^ 62 := by exact_mod_cast hlt
  have h0 := Int.emod_nonneg a (show (2 : Int) ^ i ≠ 0 by omega)
  have h1 := Int.emod_lt_of_pos a hp
  omega

theorem and3 (a : Int) : bits .and .i64 a 3 = a % 4 := and_mask a 2 (by omega)
theorem and7 (a : Int) : bits .and .i64 a 7 = a % 8 := and_mask a 3 (by omega)
theorem and15 (a : Int) : bits .and .i64 a 15 = a % 16 := and_mask a 4 (by omega)
theorem and255 (a : Int) : bits .and .i64 a 255 = a % 256 := and_mask a 8 (by omega)
theorem and65535 (a : Int) : bits .and .i64 a 65535 = a % 65536 := and_mask a 16 (by omega)
theorem and40 (a : Int) : bits .and .i64 a 1099511627775 = a % 1099511627776 := and_mask a 40 (by omega)
end Go.Proofs.Ytejmcfgmopijkaa
