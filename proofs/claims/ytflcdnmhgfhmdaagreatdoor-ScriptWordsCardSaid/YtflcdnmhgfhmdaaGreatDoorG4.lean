/-
  Texts of this proof, one behind the other: BitsMath, BitsOps, BitsInt, RIdx.
-/
import Derived.Test.YtflcdnmhgfhmdaaGreatDoorG1
import Derived.Test.YtflcdnmhgfhmdaaGreatDoorG2
import Derived.Test.YtflcdnmhgfhmdaaGreatDoorG3
set_option linter.unusedVariables false
set_option linter.unusedSimpArgs false
/-
  The plain arithmetic of bits of bytes, the lowest first.
-/
namespace Go.Proofs.YtflcdnmhgfhmdaaGreatDoor.bm

/-- Bytes as one number, the first byte the lowest. -/
def num : List UInt8 → Nat
  | [] => 0
  | b :: r => b.toNat + 256 * num r

theorem num_lt : ∀ bs : List UInt8, num bs < 2 ^ (8 * bs.length)
  | [] => by simp [num]
  | b :: r => by
    have h := num_lt r
    have hb : b.toNat < 256 := b.toNat_lt
    have e : 2 ^ (8 * (b :: r).length) = 256 * 2 ^ (8 * r.length) := by
      rw [List.length_cons, Nat.mul_add, Nat.pow_add, Nat.mul_comm]
    rw [e]
    simp only [num]
    omega
theorem num_append : ∀ a b : List UInt8, num (a ++ b) = num a + 2 ^ (8 * a.length) * num b
  | [], b => by simp [num]
  | x :: a, b => by
    have e : 2 ^ (8 * (x :: a).length) = 256 * 2 ^ (8 * a.length) := by
      rw [List.length_cons, Nat.mul_add, Nat.pow_add, Nat.mul_comm]
    rw [List.cons_append, num, num, num_append a b, e, Nat.mul_assoc, Nat.mul_add, Nat.add_assoc]
theorem num_drop (bs : List UInt8) (i : Nat) (h : i ≤ bs.length) : num bs / 2 ^ (8 * i) = num (bs.drop i) := by
  have e := num_append (bs.take i) (bs.drop i)
  rw [List.take_append_drop] at e
  have hl := num_lt (bs.take i)
  rw [List.length_take, Nat.min_eq_left h] at e hl
  rw [e, Nat.add_mul_div_left _ _ (Nat.two_pow_pos _), Nat.div_eq_of_lt hl, Nat.zero_add]
theorem mod_div (x a b : Nat) (h : 0 < a) : x % (a * b) = x % a + a * (x / a % b) := Nat.mod_mul
/-- Some bits within one byte. -/
theorem chunk (bs : List UInt8) (a k : Nat) (h : a / 8 < bs.length) (hk : a % 8 + k ≤ 8) :
    num bs / 2 ^ a % 2 ^ k = (bs.getD (a / 8) 0).toNat / 2 ^ (a % 8) % 2 ^ k := by
  have e : num bs / 2 ^ a = num (bs.drop (a / 8)) / 2 ^ (a % 8) := by
    rw [← num_drop bs (a / 8) (by omega), Nat.div_div_eq_div_mul, ← Nat.pow_add, Nat.div_add_mod]
  have hd : bs.drop (a / 8) = bs[a / 8] :: bs.drop (a / 8 + 1) := List.drop_eq_getElem_cons h
  have hg : bs.getD (a / 8) 0 = bs[a / 8] := by simp [List.getD, h]
  rw [e, hd, hg, num]
  generalize num (bs.drop (a / 8 + 1)) = r
  generalize (bs[a / 8]).toNat = b
  have e256 : 256 * r = 2 ^ (a % 8) * (2 ^ k * (2 ^ (8 - a % 8 - k) * r)) := by
    rw [← Nat.mul_assoc, ← Nat.mul_assoc, ← Nat.pow_add, ← Nat.pow_add, show a % 8 + k + (8 - a % 8 - k) = 8 from by omega]
  rw [e256, Nat.add_mul_div_left _ _ (Nat.two_pow_pos _), Nat.add_mul_mod_self_left]
/-- What was taken so far, and some bits more. -/
theorem more (x a i k : Nat) : x / 2 ^ a % 2 ^ (i + k) = x / 2 ^ a % 2 ^ i + 2 ^ i * (x / 2 ^ (a + i) % 2 ^ k) := by
  rw [Nat.pow_add 2 i k, Nat.mod_mul, Nat.div_div_eq_div_mul, ← Nat.pow_add]

/-- The k lowest bytes of a number. -/
def dig : Nat → Nat → List UInt8
  | 0, _ => []
  | k + 1, m => UInt8.ofNat m :: dig k (m / 256)
theorem dig_length : ∀ k m : Nat, (dig k m).length = k
  | 0, _ => rfl
  | k + 1, m => by simp [dig, dig_length k]
theorem two8 (k : Nat) : 2 ^ (8 * (k + 1)) = 256 * 2 ^ (8 * k) := by
  rw [Nat.mul_add, Nat.pow_add, Nat.mul_comm]
theorem num_dig : ∀ k m : Nat, num (dig k m) = m % 2 ^ (8 * k)
  | 0, m => by simp [dig, num, Nat.mod_one]
  | k + 1, m => by
    rw [dig, num, num_dig k, two8, Nat.mod_mul]
    simp [UInt8.toNat_ofNat']
theorem num_dig_lt (k m : Nat) (h : m < 2 ^ (8 * k)) : num (dig k m) = m := by rw [num_dig, Nat.mod_eq_of_lt h]
theorem dig_add : ∀ k m x : Nat, dig k (m + 2 ^ (8 * k) * x) = dig k m
  | 0, m, x => rfl
  | k + 1, m, x => by
    rw [dig, dig, two8, Nat.mul_assoc]
    have h1 : UInt8.ofNat (m + 256 * (2 ^ (8 * k) * x)) = UInt8.ofNat m := UInt8.toNat_inj.1 (by simp [UInt8.toNat_ofNat'])
    have h2 : (m + 256 * (2 ^ (8 * k) * x)) / 256 = m / 256 + 2 ^ (8 * k) * x := by omega
    rw [h1, h2, dig_add k]
theorem dig_mod (k m : Nat) : dig k (m % 2 ^ (8 * k)) = dig k m := by
  have h := dig_add k (m % 2 ^ (8 * k)) (m / 2 ^ (8 * k))
  rw [Nat.mod_add_div] at h
  exact h.symm
theorem dig_append : ∀ k j m : Nat, dig (k + j) m = dig k m ++ dig j (m / 2 ^ (8 * k))
  | 0, j, m => by simp [dig]
  | k + 1, j, m => by
    rw [Nat.add_right_comm, dig, dig, dig_append k j, List.cons_append, Nat.div_div_eq_div_mul, two8]
theorem dig_snoc (k m : Nat) : dig (k + 1) m = dig k m ++ [UInt8.ofNat (m / 2 ^ (8 * k))] := by
  rw [dig_append k 1 m]
  simp [dig]
theorem dig_num : ∀ bs : List UInt8, dig bs.length (num bs) = bs
  | [] => rfl
  | b :: r => by
    have hb : b.toNat < 256 := b.toNat_lt
    rw [List.length_cons, dig, num]
    have h1 : UInt8.ofNat (b.toNat + 256 * num r) = b := UInt8.toNat_inj.1 (by rw [UInt8.toNat_ofNat']; omega)
    have h2 : (b.toNat + 256 * num r) / 256 = num r := by omega
    rw [h1, h2, dig_num r]
theorem num_inj {a b : List UInt8} (hl : a.length = b.length) (h : num a = num b) : a = b := by
  rw [← dig_num a, ← dig_num b, hl, h]
/-- The first k of a code's n bits, the highest first. -/
def revTo (v n : Nat) : Nat → Nat
  | 0 => 0
  | k + 1 => revTo v n k + 2 ^ k * (v / 2 ^ (n - 1 - k) % 2)
theorem revTo_lt (v n : Nat) : ∀ k, revTo v n k < 2 ^ k
  | 0 => by simp [revTo]
  | k + 1 => by
    have h := revTo_lt v n k
    rw [revTo, Nat.pow_succ]
    have : v / 2 ^ (n - 1 - k) % 2 < 2 := Nat.mod_lt _ (by omega)
    have h2 : 2 ^ k * (v / 2 ^ (n - 1 - k) % 2) ≤ 2 ^ k * 1 := Nat.mul_le_mul_left _ (by omega)
    omega
theorem code_more (M L v n k : Nat) : M + 2 ^ L * revTo v n k + 2 ^ (L + k) * (v / 2 ^ (n - 1 - k) % 2) = M + 2 ^ L * revTo v n (k + 1) := by
  rw [revTo, Nat.mul_add, Nat.pow_add, Nat.mul_assoc, Nat.add_assoc]
theorem raw_dig (q M : Nat) (bs : List UInt8) (hM : M < 2 ^ (8 * q)) : dig (q + bs.length) (M + 2 ^ (8 * q) * num bs) = dig q M ++ bs := by
  rw [dig_append, dig_add, Nat.add_mul_div_left _ _ (Nat.two_pow_pos _), Nat.div_eq_of_lt hM, Nat.zero_add, dig_num]
theorem raw_lt (q M : Nat) (bs : List UInt8) (hM : M < 2 ^ (8 * q)) : M + 2 ^ (8 * q) * num bs < 2 ^ (8 * q + 8 * bs.length) := by
  have h := num_lt bs
  rw [Nat.pow_add]
  calc M + 2 ^ (8 * q) * num bs < 2 ^ (8 * q) + 2 ^ (8 * q) * num bs := by omega
    _ = 2 ^ (8 * q) * (num bs + 1) := by rw [Nat.mul_add, Nat.mul_one, Nat.add_comm]
    _ ≤ 2 ^ (8 * q) * 2 ^ (8 * bs.length) := Nat.mul_le_mul_left _ h
theorem lt_up {M L L' : Nat} (h : M < 2 ^ L) (hl : L ≤ L') : M < 2 ^ L' := Nat.lt_of_lt_of_le h (Nat.pow_le_pow_right (by omega) hl)
/-- The lowest k bits of a number turned round. -/
def turned (v : Nat) : Nat → Nat
  | 0 => 0
  | k + 1 => 2 * turned v k + v / 2 ^ k % 2
theorem turned_lt (v : Nat) : ∀ k, turned v k < 2 ^ k
  | 0 => by simp [turned]
  | k + 1 => by
    have h := turned_lt v k
    rw [turned, Nat.pow_succ]
    omega
theorem revTo_shift (v n : Nat) : ∀ k, revTo v (n + 1) (k + 1) = v / 2 ^ n % 2 + 2 * revTo v n k
  | 0 => by simp [revTo]
  | k + 1 => by
    rw [revTo, revTo_shift v n k, revTo, show n + 1 - 1 - (k + 1) = n - 1 - k from by omega, Nat.pow_succ, Nat.mul_add, Nat.mul_comm (2 ^ k) 2, Nat.mul_assoc, Nat.add_assoc]
theorem turned_eq (v : Nat) : ∀ n, turned v n = revTo v n n
  | 0 => rfl
  | n + 1 => by rw [turned, turned_eq v n, revTo_shift, Nat.add_comm]

end Go.Proofs.YtflcdnmhgfhmdaaGreatDoor.bm
/-
  What Go's operations on bits come to, as plain arithmetic.
-/
namespace Go.Proofs.YtflcdnmhgfhmdaaGreatDoor.bm
open Go

theorem pow_le (a b : Nat) (h : a ≤ b) : 2 ^ a ≤ 2 ^ b := Nat.pow_le_pow_right (by omega) h
theorem or_add (v m k : Nat) (hv : v < 2 ^ k) : v ||| m * 2 ^ k = v + 2 ^ k * m := by
  rw [Nat.or_comm, Nat.mul_comm m, ← Nat.two_pow_add_eq_or_of_lt hv, Nat.add_comm]
theorem cast_pow_sub (q : Nat) : ((2 : Int) ^ q - 1) = ((2 ^ q - 1 : Nat) : Int) := by
  have := Nat.two_pow_pos q
  rw [Int.natCast_sub (by omega), Int.natCast_pow]
  rfl
theorem cast_pow (q : Nat) : ((2 : Int) ^ q) = ((2 ^ q : Nat) : Int) := by
  rw [Int.natCast_pow]; rfl
theorem p32 : 2 ^ 32 = 4294967296 := by decide
theorem p64 : 2 ^ 64 = 18446744073709551616 := by decide
/-- 'x & (1<<q - 1)' on a uint32. -/
theorem u32_mask (x q : Nat) (hx : x < 4294967296) (hq : q ≤ 32) : bits .and .u32 (x : Int) (((2 : Int) ^ q - 1) % 4294967296) = ((x % 2 ^ q : Nat) : Int) := by
  have h1 := pow_le q 32 hq
  rw [p32] at h1
  have h2 := Nat.two_pow_pos q
  rw [cast_pow_sub, show ((2 ^ q - 1 : Nat) : Int) % 4294967296 = ((2 ^ q - 1 : Nat) : Int) from by omega,
    u32_and_nat x (2 ^ q - 1) hx (by omega), Nat.and_two_pow_sub_one_eq_mod]
theorem mul_lt {v m k q : Nat} (hm : m < 2 ^ q) (hkq : k + q ≤ 32) : m * 2 ^ k < 4294967296 := by
  have h1 := pow_le (k + q) 32 hkq
  rw [p32, Nat.pow_add] at h1
  have h2 : m * 2 ^ k < 2 ^ q * 2 ^ k := Nat.mul_lt_mul_of_pos_right hm (Nat.two_pow_pos k)
  rw [Nat.mul_comm (2 ^ q)] at h2
  omega
theorem u32_put (v m k q : Nat) (hv : v < 2 ^ k) (hm : m < 2 ^ q) (hkq : k + q ≤ 32) : bits .or .u32 (v : Int) ((m : Int) * 2 ^ k % 4294967296) = ((v + 2 ^ k * m : Nat) : Int) := by
  have h3 := mul_lt (v := v) hm hkq
  have hv2 : v < 4294967296 := by
    have := pow_le k 32 (by omega)
    rw [p32] at this
    omega
  rw [cast_pow, ← Int.natCast_mul, show ((m * 2 ^ k : Nat) : Int) % 4294967296 = ((m * 2 ^ k : Nat) : Int) from by omega,
    u32_or_nat v (m * 2 ^ k) hv2 h3, or_add v m k hv]
/-- A round of Take. -/
theorem take_step (bs : List UInt8) (a k q vn bn : Nat) (hlt : (a + k) / 8 < bs.length) (hq : (a + k) % 8 + q ≤ 8) (hkq : k + q ≤ 32)
    (hv : num bs / 2 ^ a % 2 ^ k = vn) (hb : (bs.getD ((a + k) / 8) 0).toNat = bn) :
    bits .or .u32 (vn : Int) (bits .and .u32 ((bn : Int) / 2 ^ ((a + k) % 8)) (((2 : Int) ^ q - 1) % 4294967296) * 2 ^ k % 4294967296) = ((num bs / 2 ^ a % 2 ^ (k + q) : Nat) : Int) := by
  have hbn : bn < 256 := by rw [← hb]; exact UInt8.toNat_lt _
  have hbd : bn / 2 ^ ((a + k) % 8) < 4294967296 := Nat.lt_of_le_of_lt (Nat.div_le_self _ _) (by omega)
  have hc := chunk bs (a + k) q hlt hq
  rw [hb] at hc
  rw [more, hv, hc, cast_pow ((a + k) % 8), ← Int.natCast_ediv, u32_mask _ q hbd (by omega),
    u32_put vn _ k q (by rw [← hv]; exact Nat.mod_lt _ (Nat.two_pow_pos _)) (Nat.mod_lt _ (Nat.two_pow_pos _)) hkq]
/-- 'x & (1<<m - 1)' on a uint64. -/
theorem u64_mask (x m : Nat) (hx : x < 18446744073709551616) (hm : m ≤ 32) : bits .and .u64 (x : Int) (IntKind.u64.wrap (IntKind.u64.wrap ((2 : Int) ^ m) - 1)) = ((x % 2 ^ m : Nat) : Int) := by
  have h1 := pow_le m 32 hm
  rw [p32] at h1
  have h2 := Nat.two_pow_pos m
  have e : IntKind.u64.wrap (IntKind.u64.wrap ((2 : Int) ^ m) - 1) = ((2 ^ m - 1 : Nat) : Int) := by
    rw [IntKind.wrap_u64, IntKind.wrap_u64, cast_pow]
    omega
  rw [e, u64_and_nat x (2 ^ m - 1) hx (by omega), Nat.and_two_pow_sub_one_eq_mod]
theorem word_lt (M L : Nat) (hM : M < 2 ^ L) : M / 2 ^ (8 * (L / 8)) < 2 ^ (L % 8) := by
  rw [Nat.div_lt_iff_lt_mul (Nat.two_pow_pos _), ← Nat.pow_add]
  rwa [show L % 8 + 8 * (L / 8) = L from by omega]
theorem put_div (M L y : Nat) : (M + 2 ^ L * y) / 2 ^ (8 * (L / 8)) = M / 2 ^ (8 * (L / 8)) + 2 ^ (L % 8) * y := by
  have e : 2 ^ L = 2 ^ (8 * (L / 8)) * 2 ^ (L % 8) := by rw [← Nat.pow_add, Nat.div_add_mod]
  rw [e, Nat.mul_assoc, Nat.add_mul_div_left _ _ (Nat.two_pow_pos _)]
theorem put_lt (M L x n : Nat) (hM : M < 2 ^ L) : M + 2 ^ L * (x % 2 ^ n) < 2 ^ (L + n) := by
  have h := Nat.mod_lt x (Nat.two_pow_pos n)
  rw [Nat.pow_add]
  calc M + 2 ^ L * (x % 2 ^ n) < 2 ^ L + 2 ^ L * (x % 2 ^ n) := by omega
    _ = 2 ^ L * (x % 2 ^ n + 1) := by rw [Nat.mul_add, Nat.mul_one, Nat.add_comm]
    _ ≤ 2 ^ L * 2 ^ n := Nat.mul_le_mul_left _ h
/-- The word behind 'w.word |= uint64(v) & (1<<n - 1) << w.n'. -/
theorem put_word (M L x m : Nat) (hM : M < 2 ^ L) (hx : x < 4294967296) (hm : m ≤ 32) :
    bits .or .u64 ((M / 2 ^ (8 * (L / 8)) : Nat) : Int) (IntKind.u64.wrap (bits .and .u64 (x : Int) (IntKind.u64.wrap (IntKind.u64.wrap ((2 : Int) ^ m) - 1)) * 2 ^ (L % 8))) =
      (((M + 2 ^ L * (x % 2 ^ m)) / 2 ^ (8 * (L / 8)) : Nat) : Int) := by
  have hw := word_lt M L hM
  have hy : x % 2 ^ m < 2 ^ m := Nat.mod_lt _ (Nat.two_pow_pos m)
  have hym : x % 2 ^ m < 4294967296 := Nat.lt_of_le_of_lt (Nat.mod_le _ _) hx
  have h8 := pow_le (L % 8) 8 (by omega)
  have hp : x % 2 ^ m * 2 ^ (L % 8) ≤ 4294967296 * 256 := Nat.mul_le_mul (by omega) h8
  rw [u64_mask x m (by omega) hm, put_div, cast_pow, ← Int.natCast_mul, IntKind.wrap_u64,
    show ((x % 2 ^ m * 2 ^ (L % 8) : Nat) : Int) % 18446744073709551616 = ((x % 2 ^ m * 2 ^ (L % 8) : Nat) : Int) from by omega,
    u64_or_nat _ _ (by omega) (by omega), or_add _ _ _ hw]
/-- 'x & (2^k - 1)' on an int. -/
theorem i64_mask (x : Int) (k : Nat) (hk : k ≤ 62) : bits .and .i64 x ((2 ^ k - 1 : Nat) : Int) = x % 2 ^ k := by
  have h1 := pow_le k 62 hk
  have h2 := Nat.two_pow_pos k
  have e62 : 2 ^ 62 = 4611686018427387904 := by decide
  rw [e62] at h1
  have hx : (BitVec.ofInt 64 x).toNat = (x % 18446744073709551616).toNat := by
    rw [BitVec.toNat_ofInt]; rfl
  have hm : (BitVec.ofInt 64 ((2 ^ k - 1 : Nat) : Int)).toNat = 2 ^ k - 1 := by
    rw [BitVec.ofInt_natCast, BitVec.toNat_ofNat]; exact Nat.mod_eq_of_lt (by omega)
  show IntKind.i64.wrap ((BitVec.ofInt 64 x &&& BitVec.ofInt 64 ((2 ^ k - 1 : Nat) : Int)).toNat : Int) = _
  rw [BitVec.toNat_and, hx, hm, Nat.and_two_pow_sub_one_eq_mod]
  have h3 : (x % 18446744073709551616).toNat % 2 ^ k < 2 ^ k := Nat.mod_lt _ h2
  have h4 : (0 : Int) ≤ x % 18446744073709551616 := Int.emod_nonneg _ (by decide)
  have h5 : (((x % 18446744073709551616).toNat % 2 ^ k : Nat) : Int) = x % 2 ^ k := by
    rw [Int.natCast_emod, Int.toNat_of_nonneg h4, Int.natCast_pow]
    have hd : ((2 ^ k : Nat) : Int) ∣ 18446744073709551616 := by
      refine ⟨((2 ^ (64 - k) : Nat) : Int), ?_⟩
      rw [← Int.natCast_mul, ← Nat.pow_add, show k + (64 - k) = 64 from by omega]
      decide
    rw [Int.natCast_pow] at hd
    exact Int.emod_emod_of_dvd x hd
  rw [h5, IntKind.wrap_i64]
  have h6 : (0 : Int) ≤ x % 2 ^ k := Int.emod_nonneg _ (by rw [cast_pow]; omega)
  have h7 : x % 2 ^ k < 2 ^ k := Int.emod_lt_of_pos _ (by rw [cast_pow]; omega)
  rw [cast_pow] at h7
  rw [cast_pow] at h6 ⊢
  omega
theorem and31 (x : Int) : bits .and .i64 x 31 = x % 32 := i64_mask x 5 (by decide)
theorem and7 (x : Int) : bits .and .i64 x 7 = x % 8 := i64_mask x 3 (by decide)
/-- 't<<1 | v>>i&1'. -/
theorem turn_step (v k : Nat) (hv : v < 4294967296) (hk : k < 32) : bits .or .u32 ((turned v k : Int) * 2 % 4294967296) (bits .and .u32 ((v : Int) / 2 ^ k) 1) = (turned v (k + 1) : Int) := by
  have h1 := turned_lt v k
  have h2 := pow_le k 31 (by omega)
  have e31 : 2 ^ 31 = 2147483648 := by decide
  rw [e31] at h2
  have h3 : v / 2 ^ k < 4294967296 := Nat.lt_of_le_of_lt (Nat.div_le_self _ _) hv
  have e1 : bits .and .u32 ((v : Int) / 2 ^ k) 1 = ((v / 2 ^ k % 2 : Nat) : Int) := by
    have h := u32_and_nat (v / 2 ^ k) 1 h3 (by decide)
    rw [Nat.and_one_is_mod] at h
    rw [cast_pow, ← Int.natCast_ediv]
    exact h
  have h4 : v / 2 ^ k % 2 < 2 ^ 1 := by omega
  rw [e1, show (turned v k : Int) * 2 % 4294967296 = ((turned v k * 2 : Nat) : Int) from by omega, u32_or_nat _ _ (by omega) (by omega), turned]
  have h5 := or_add (v / 2 ^ k % 2) (turned v k) 1 h4
  rw [Nat.or_comm, show turned v k * 2 = turned v k * 2 ^ 1 from rfl, h5]
  omega
end Go.Proofs.YtflcdnmhgfhmdaaGreatDoor.bm
/-
  '|' of two ints that are not negative.
-/
namespace Go.Proofs.YtflcdnmhgfhmdaaGreatDoor.bm
open Go Go.RowKit

theorem ofInt_i64 (a : Nat) (ha : a < 9223372036854775808) : (BitVec.ofInt 64 (a : Int)).toNat = a := by
  rw [BitVec.ofInt_natCast, BitVec.toNat_ofNat]
  exact Nat.mod_eq_of_lt (by omega)
theorem i64_or_nat (a b : Nat) (ha : a < 9223372036854775808) (hb : b < 9223372036854775808) : bits .or .i64 (a : Int) (b : Int) = ((a ||| b : Nat) : Int) := by
  have hx : a ||| b < 2 ^ 63 := Nat.or_lt_two_pow (by omega) (by omega)
  show IntKind.i64.wrap ((BitVec.ofInt 64 (a : Int) ||| BitVec.ofInt 64 (b : Int)).toNat : Int) = _
  rw [BitVec.toNat_or, ofInt_i64 a ha, ofInt_i64 b hb, IntKind.wrap_i64]
  omega
/-- 'n<<k | v'. -/
theorem i64_put (n v k : Nat) (hk : k ≤ 62) (hv : v < 2 ^ k) (hn : n * 2 ^ k < 9223372036854775808) : bits .or .i64 ((n : Int) * ((2 ^ k : Nat) : Int)) (v : Int) = ((n * 2 ^ k + v : Nat) : Int) := by
  have h1 := pow_le k 62 hk
  have e62 : 2 ^ 62 = 4611686018427387904 := by decide
  rw [e62] at h1
  rw [← Int.natCast_mul, i64_or_nat _ _ hn (by omega), Nat.or_comm, or_add v n k hv, Nat.mul_comm n, Nat.add_comm]
end Go.Proofs.YtflcdnmhgfhmdaaGreatDoor.bm
/-
  Letters of a string by their places; bits of 32-bit words.
-/
namespace Go.Proofs.YtflcdnmhgfhmdaaGreatDoor.crc
open Go Go.RowKit Go.Proofs.YtflcdnmhgfhmdaaGreatDoor.lib Go.Proofs.YtflcdnmhgfhmdaaGreatDoor.bm

theorem ofInt_u32 (a : Nat) (ha : a < 4294967296) : (BitVec.ofInt 32 (a : Int)).toNat = a := by
  rw [BitVec.ofInt_natCast, BitVec.toNat_ofNat]
  exact Nat.mod_eq_of_lt (by omega)
theorem u32_xor (a b : Nat) (ha : a < 4294967296) (hb : b < 4294967296) : bits .xor .u32 (a : Int) (b : Int) = ((a ^^^ b : Nat) : Int) := by
  have hx := xor_lt ha hb
  show IntKind.u32.wrap ((BitVec.ofInt 32 (a : Int) ^^^ BitVec.ofInt 32 (b : Int)).toNat : Int) = _
  rw [BitVec.toNat_xor, ofInt_u32 a ha, ofInt_u32 b hb]
  unfold IntKind.wrap
  simp only [IntKind.signed, IntKind.bits, Bool.false_and, Bool.false_eq_true, if_false, show (2 : Int) ^ 32 = 4294967296 from rfl]
  omega
theorem u32_low (a : Nat) (ha : a < 4294967296) : bits .and .u32 (a : Int) 1 = ((a % 2 : Nat) : Int) := by
  show IntKind.u32.wrap ((BitVec.ofInt 32 (a : Int) &&& BitVec.ofInt 32 ((1 : Nat) : Int)).toNat : Int) = _
  rw [BitVec.toNat_and, ofInt_u32 a ha, ofInt_u32 1 (by decide), Nat.and_one_is_mod]
  unfold IntKind.wrap
  simp only [IntKind.signed, IntKind.bits, Bool.false_and, Bool.false_eq_true, if_false, show (2 : Int) ^ 32 = 4294967296 from rfl]
  omega
theorem index_str (bs : List UInt8) {i : Nat} (hi : i < bs.length) (w : World) : (Instr.index 9 (.string (str bs)) (.int .i64 (i : Nat))).run Tryz.prog w = .ok (.int .u8 ((bs[i].toNat : Nat) : Int)) w := by
  have hs : (str bs).size = bs.length := by simp [str, ByteArray.size]
  have e := run_index_string (P := Tryz.prog) w 9 (str bs) .i64 i Tryz.underlying9
  rw [dif_pos ⟨by omega, by rw [hs]; omega⟩] at e
  simp only [Int.toNat_natCast] at e
  have h2 : (str bs)[i]'(by rw [hs]; exact hi) = bs[i] := by
    show bs.toArray[i]'(by simpa using hi) = bs[i]
    simp
  rw [h2] at e
  exact e
theorem u32_not (c : Nat) (hc : c < 4294967296) : bits .xor .u32 IntKind.u32.max (c : Int) = ((4294967295 - c : Nat) : Int) := by
  show IntKind.u32.wrap ((BitVec.ofInt 32 4294967295 ^^^ BitVec.ofInt 32 (c : Int)).toNat : Int) = _
  rw [show BitVec.ofInt 32 4294967295 = BitVec.allOnes 32 by decide, BitVec.allOnes_xor, BitVec.toNat_not, ofInt_u32 c hc]
  unfold IntKind.wrap
  simp only [IntKind.signed, IntKind.bits, Bool.false_and, Bool.false_eq_true, if_false, show (2 : Int) ^ 32 = 4294967296 from rfl]
  omega
end Go.Proofs.YtflcdnmhgfhmdaaGreatDoor.crc
