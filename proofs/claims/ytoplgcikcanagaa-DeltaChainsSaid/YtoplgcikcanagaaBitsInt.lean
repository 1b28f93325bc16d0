/-
  '|' of two ints that are not negative.
-/
import Derived.Test.YtoplgcikcanagaaBitsOps
namespace Go.Proofs.Ytoplgcikcanagaa.bm
open Go Go.RowKit

theorem ofInt_i64 (a : Nat) (ha : a < 9223372036854775808) : (BitVec.ofInt 64 (a : Int)).toNat = a := by
  rw [BitVec.ofInt_natCast, BitVec.toNat_ofNat]
  exact Nat.mod_eq_of_lt (by omega)
theorem i64_or_nat (a b : Nat) (ha : a < 9223372036854775808) (hb : b < 9223372036854775808) : bits .or .i64 (a : Int) (b : Int) = ((a ||| b : Nat) : Int) := by
  have hx : a ||| b < 2 ^ 63 := Nat.or_lt_two_pow (by omega) (by omega)
  show IntKind.i64.wrap ((BitVec.ofInt 64 (a : Int) ||| BitVec.ofInt 64 (b : Int)).toNat : Int) = _
  rw [BitVec.toNat_or, ofInt_i64 a ha, ofInt_i64 b hb, IntKind.wrap_i64]
  omega
/-- 'n<<k | v'. -/
theorem i64_put (n v k : Nat) (hk : k ≤ 62) (hv : v < 2 ^ k) (hn : n * 2 ^ k < 9223372036854775808) : bits .or .i64 ((n : Int) * ((2 ^ k : Nat) : Int)) (v : Int) = ((n * 2 ^ k + v : Nat) : Int) := by
  have h1 := pow_le k 62 hk
  have e62 : 2 ^ 62 = 4611686018427387904 := by decide
  rw [e62] at h1
  rw [← Int.natCast_mul, i64_or_nat _ _ hn (by omega), Nat.or_comm, or_add v n k hv, Nat.mul_comm n, Nat.add_comm]
end Go.Proofs.Ytoplgcikcanagaa.bm
