/-
  What Go's operations on bits come to, as plain arithmetic.
-/
import Derived.Test.YtolkoidbkaidkaaLib
import Derived.Test.YtolkoidbkaidkaaBitsMath
namespace Go.Proofs.Ytolkoidbkaidkaa.bm
open Go

theorem pow_le (a b : Nat) (h : a ≤ b) : 2 ^ a ≤ 2 ^ b := Nat.pow_le_pow_right (by omega) h
theorem or_add (v m k : Nat) (hv : v < 2 ^ k) : v ||| m * 2 ^ k = v + 2 ^ k * m := by
  rw [Nat.or_comm, Nat.mul_comm m, ← Nat.two_pow_add_eq_or_of_lt hv, Nat.add_comm]
theorem cast_pow_sub (q : Nat) : ((2 : Int) ^ q - 1) = ((2 ^ q - 1 : Nat) : Int) := by
  have := Nat.two_pow_pos q
  rw [Int.natCast_sub (by omega), Int.natCast_pow]
  rfl
theorem cast_pow (q : Nat) : ((2 : Int) ^ q) = ((2 ^ q : Nat) : Int) := by
  rw [Int.natCast_pow]; rfl
theorem p32 : 2 ^ 32 = 4294967296 := by decide
theorem p64 : 2 ^ 64 = 18446744073709551616 := by decide
/-- 'x & (1<<q - 1)' on a uint32. -/
theorem u32_mask (x q : Nat) (hx : x < 4294967296) (hq : q ≤ 32) : bits .and .u32 (x : Int) (((2 : Int) ^ q - 1) % 4294967296) = ((x % 2 ^ q : Nat) : Int) := by
  have h1 := pow_le q 32 hq
  rw [p32] at h1
  have h2 := Nat.two_pow_pos q
  rw [cast_pow_sub, show ((2 ^ q - 1 : Nat) : Int) % 4294967296 = ((2 ^ q - 1 : Nat) : Int) from by omega,
    u32_and_nat x (2 ^ q - 1) hx (by omega), Nat.and_two_pow_sub_one_eq_mod]
theorem mul_lt {v m k q : Nat} (hm : m < 2 ^ q) (hkq : k + q ≤ 32) : m * 2 ^ k < 4294967296 := by
  have h1 := pow_le (k + q) 32 hkq
  rw [p32, Nat.pow_add] at h1
  have h2 : m * 2 ^ k < 2 ^ q * 2 ^ k := Nat.mul_lt_mul_of_pos_right hm (Nat.two_pow_pos k)
  rw [Nat.mul_comm (2 ^ q)] at h2
  omega
theorem u32_put (v m k q : Nat) (hv : v < 2 ^ k) (hm : m < 2 ^ q) (hkq : k + q ≤ 32) : bits .or .u32 (v : Int) ((m : Int) * 2 ^ k % 4294967296) = ((v + 2 ^ k * m : Nat) : Int) := by
  have h3 := mul_lt (v := v) hm hkq
  have hv2 : v < 4294967296 := by
    have := pow_le k 32 (by omega)
    rw [p32] at this
    omega
  rw [cast_pow, ← Int.natCast_mul, show ((m * 2 ^ k : Nat) : Int) % 4294967296 = ((m * 2 ^ k : Nat) : Int) from by omega,
    u32_or_nat v (m * 2 ^ k) hv2 h3, or_add v m k hv]
/-- A round of Take. -/
theorem take_step (bs : List UInt8) (a k q vn bn : Nat) (hlt : (a + k) / 8 < bs.length) (hq : (a + k) % 8 + q ≤ 8) (hkq : k + q ≤ 32)
    (hv : num bs / 2 ^ a % 2 ^ k = vn) (hb : (bs.getD ((a + k) / 8) 0).toNat = bn) :
    bits .or .u32 (vn : Int) (bits .and .u32 ((bn : Int) / 2 ^ ((a + k) % 8)) (((2 : Int) ^ q - 1) % 4294967296) * 2 ^ k % 4294967296) = ((num bs / 2 ^ a % 2 ^ (k + q) : Nat) : Int) := by
  have hbn : bn < 256 := by rw [← hb]; exact UInt8.toNat_lt _
  have hbd : bn / 2 ^ ((a + k) % 8) < 4294967296 := Nat.lt_of_le_of_lt (Nat.div_le_self _ _) (by omega)
  have hc := chunk bs (a + k) q hlt hq
  rw [hb] at hc
  rw [more, hv, hc, cast_pow ((a + k) % 8), ← Int.natCast_ediv, u32_mask _ q hbd (by omega),
    u32_put vn _ k q (by rw [← hv]; exact Nat.mod_lt _ (Nat.two_pow_pos _)) (Nat.mod_lt _ (Nat.two_pow_pos _)) hkq]
/-- 'x & (1<<m - 1)' on a uint64. -/
theorem u64_mask (x m : Nat) (hx : x < 18446744073709551616) (hm : m ≤ 32) : bits .and .u64 (x : Int) (IntKind.u64.wrap (IntKind.u64.wrap ((2 : Int) ^ m) - 1)) = ((x % 2 ^ m : Nat) : Int) := by
  have h1 := pow_le m 32 hm
  rw [p32] at h1
  have h2 := Nat.two_pow_pos m
  have e : IntKind.u64.wrap (IntKind.u64.wrap ((2 : Int) ^ m) - 1) = ((2 ^ m - 1 : Nat) : Int) := by
    rw [IntKind.wrap_u64, IntKind.wrap_u64, cast_pow]
    omega
  rw [e, u64_and_nat x (2 ^ m - 1) hx (by omega), Nat.and_two_pow_sub_one_eq_mod]
theorem word_lt (M L : Nat) (hM : M < 2 ^ L) : M / 2 ^ (8 * (L / 8)) < 2 ^ (L % 8) := by
  rw [Nat.div_lt_iff_lt_mul (Nat.two_pow_pos _), ← Nat.pow_add]
  rwa [show L % 8 + 8 * (L / 8) = L from by omega]
theorem put_div (M L y : Nat) : (M + 2 ^ L * y) / 2 ^ (8 * (L / 8)) = M / 2 ^ (8 * (L / 8)) + 2 ^ (L % 8) * y := by
  have e : 2 ^ L = 2 ^ (8 * (L / 8)) * 2 ^ (L % 8) := by rw [← Nat.pow_add, Nat.div_add_mod]
  rw [e, Nat.mul_assoc, Nat.add_mul_div_left _ _ (Nat.two_pow_pos _)]
theorem put_lt (M L x n : Nat) (hM : M < 2 ^ L) : M + 2 ^ L * (x % 2 ^ n) < 2 ^ (L + n) := by
  have h := Nat.mod_lt x (Nat.two_pow_pos n)
  rw [Nat.pow_add]
  calc M + 2 ^ L * (x % 2 ^ n) < 2 ^ L + 2 ^ L * (x % 2 ^ n) := by omega
    _ = 2 ^ L * (x % 2 ^ n + 1) := by rw [Nat.mul_add, Nat.mul_one, Nat.add_comm]
    _ ≤ 2 ^ L * 2 ^ n := Nat.mul_le_mul_left _ h
/-- The word behind 'w.word |= uint64(v) & (1<<n - 1) << w.n'. -/
theorem put_word (M L x m : Nat) (hM : M < 2 ^ L) (hx : x < 4294967296) (hm : m ≤ 32) :
    bits .or .u64 ((M / 2 ^ (8 * (L / 8)) : Nat) : Int) (IntKind.u64.wrap (bits .and .u64 (x : Int) (IntKind.u64.wrap (IntKind.u64.wrap ((2 : Int) ^ m) - 1)) * 2 ^ (L % 8))) =
      (((M + 2 ^ L * (x % 2 ^ m)) / 2 ^ (8 * (L / 8)) : Nat) : Int) := by
  have hw := word_lt M L hM
  have hy : x % 2 ^ m < 2 ^ m := Nat.mod_lt _ (Nat.two_pow_pos m)
  have hym : x % 2 ^ m < 4294967296 := Nat.lt_of_le_of_lt (Nat.mod_le _ _) hx
  have h8 := pow_le (L % 8) 8 (by omega)
  have hp : x % 2 ^ m * 2 ^ (L % 8) ≤ 4294967296 * 256 := Nat.mul_le_mul (by omega) h8
  rw [u64_mask x m (by omega) hm, put_div, cast_pow, ← Int.natCast_mul, IntKind.wrap_u64,
    show ((x % 2 ^ m * 2 ^ (L % 8) : Nat) : Int) % 18446744073709551616 = ((x % 2 ^ m * 2 ^ (L % 8) : Nat) : Int) from by omega,
    u64_or_nat _ _ (by omega) (by omega), or_add _ _ _ hw]
/-- 'x & (2^k - 1)' on an int. -/
theorem i64_mask (x : Int) (k : Nat) (hk : k ≤ 62) : bits .and .i64 x ((2 ^ k - 1 : Nat) : Int) = x % 2 ^ k := by
  have h1 := pow_le k 62 hk
  have h2 := Nat.two_pow_pos k
  have e62 : 2 ^ 62 = 4611686018427387904 := by decide
  rw [e62] at h1
  have hx : (BitVec.ofInt 64 x).toNat = (x % 18446744073709551616).toNat := by
    rw [BitVec.toNat_ofInt]; rfl
  have hm : (BitVec.ofInt 64 ((2 ^ k - 1 : Nat) : Int)).toNat = 2 ^ k - 1 := by
    rw [BitVec.ofInt_natCast, BitVec.toNat_ofNat]; exact Nat.mod_eq_of_lt (by omega)
  show IntKind.i64.wrap ((BitVec.ofInt 64 x &&& BitVec.ofInt 64 ((2 ^ k - 1 : Nat) : Int)).toNat : Int) = _
  rw [BitVec.toNat_and, hx, hm, Nat.and_two_pow_sub_one_eq_mod]
  have h3 : (x % 18446744073709551616).toNat % 2 ^ k < 2 ^ k := Nat.mod_lt _ h2
  have h4 : (0 : Int) ≤ x % 18446744073709551616 := Int.emod_nonneg _ (by decide)
  have h5 : (((x % 18446744073709551616).toNat % 2 ^ k : Nat) : Int) = x % 2 ^ k := by
    rw [Int.natCast_emod, Int.toNat_of_nonneg h4, Int.natCast_pow]
    have hd : ((2 ^ k : Nat) : Int) ∣ 18446744073709551616 := by
      refine ⟨((2 ^ (64 - k) : Nat) : Int), ?_⟩
      rw [← Int.natCast_mul, ← Nat.pow_add, show k + (64 - k) = 64 from by omega]
      decide
    rw [Int.natCast_pow] at hd
    exact Int.emod_emod_of_dvd x hd
  rw [h5, IntKind.wrap_i64]
  have h6 : (0 : Int) ≤ x % 2 ^ k := Int.emod_nonneg _ (by rw [cast_pow]; omega)
  have h7 : x % 2 ^ k < 2 ^ k := Int.emod_lt_of_pos _ (by rw [cast_pow]; omega)
  rw [cast_pow] at h7
  rw [cast_pow] at h6 ⊢
  omega
theorem and31 (x : Int) : bits .and .i64 x 31 = x % 32 := i64_mask x 5 (by decide)
theorem and7 (x : Int) : bits .and .i64 x 7 = x % 8 := i64_mask x 3 (by decide)
/-- 't<<1 | v>>i&1'. -/
theorem turn_step (v k : Nat) (hv : v < 4294967296) (hk : k < 32) : bits .or .u32 ((turned v k : Int) * 2 % 4294967296) (bits .and .u32 ((v : Int) / 2 ^ k) 1) = (turned v (k + 1) : Int) := by
  have h1 := turned_lt v k
  have h2 := pow_le k 31 (by omega)
  have e31 : 2 ^ 31 = 2147483648 := by decide
  rw [e31] at h2
  have h3 : v / 2 ^ k < 4294967296 := Nat.lt_of_le_of_lt (Nat.div_le_self _ _) hv
  have e1 : bits .and .u32 ((v : Int) / 2 ^ k) 1 = ((v / 2 ^ k % 2 : Nat) : Int) := by
    have h := u32_and_nat (v / 2 ^ k) 1 h3 (by decide)
    rw [Nat.and_one_is_mod] at h
    rw [cast_pow, ← Int.natCast_ediv]
    exact h
  have h4 : v / 2 ^ k % 2 < 2 ^ 1 := by omega
  rw [e1, show (turned v k : Int) * 2 % 4294967296 = ((turned v k * 2 : Nat) : Int) from by omega, u32_or_nat _ _ (by omega) (by omega), turned]
  have h5 := or_add (v / 2 ^ k % 2) (turned v k) 1 h4
  rw [Nat.or_comm, show turned v k * 2 = turned v k * 2 ^ 1 from rfl, h5]
  omega
end Go.Proofs.Ytolkoidbkaidkaa.bm
