/-
  The plain arithmetic of bits of bytes, the lowest first.
-/
namespace Go.Proofs.Ytolkoidbkaidkaa.bm

/-- Bytes as one number, the first byte the lowest. -/
def num : List UInt8 → Nat
  | [] => 0
  | b :: r => b.toNat + 256 * num r

theorem num_lt : ∀ bs : List UInt8, num bs < 2 ^ (8 * bs.length)
  | [] => by simp [num]
  | b :: r => by
    have h := num_lt r
    have hb : b.toNat < 256 := b.toNat_lt
    have e : 2 ^ (8 * (b :: r).length) = 256 * 2 ^ (8 * r.length) := by
      rw [List.length_cons, Nat.mul_add, Nat.pow_add, Nat.mul_comm]
    rw [e]
    simp only [num]
    omega
theorem num_append : ∀ a b : List UInt8, num (a ++ b) = num a + 2 ^ (8 * a.length) * num b
  | [], b => by simp [num]
  | x :: a, b => by
    have e : 2 ^ (8 * (x :: a).length) = 256 * 2 ^ (8 * a.length) := by
      rw [List.length_cons, Nat.mul_add, Nat.pow_add, Nat.mul_comm]
    rw [List.cons_append, num, num, num_append a b, e, Nat.mul_assoc, Nat.mul_add, Nat.add_assoc]
theorem num_drop (bs : List UInt8) (i : Nat) (h : i ≤ bs.length) : num bs / 2 ^ (8 * i) = num (bs.drop i) := by
  have e := num_append (bs.take i) (bs.drop i)
  rw [List.take_append_drop] at e
  have hl := num_lt (bs.take i)
  rw [List.length_take, Nat.min_eq_left h] at e hl
  rw [e, Nat.add_mul_div_left _ _ (Nat.two_pow_pos _), Nat.div_eq_of_lt hl, Nat.zero_add]
theorem mod_div (x a b : Nat) (h : 0 < a) : x % (a * b) = x % a + a * (x / a % b) := Nat.mod_mul
/-- Some bits within one byte. -/
theorem chunk (bs : List UInt8) (a k : Nat) (h : a / 8 < bs.length) (hk : a % 8 + k ≤ 8) :
    num bs / 2 ^ a % 2 ^ k = (bs.getD (a / 8) 0).toNat / 2 ^ (a % 8) % 2 ^ k := by
  have e : num bs / 2 ^ a = num (bs.drop (a / 8)) / 2 ^ (a % 8) := by
    rw [← num_drop bs (a / 8) (by omega), Nat.div_div_eq_div_mul, ← Nat.pow_add, Nat.div_add_mod]
  have hd : bs.drop (a / 8) = bs[a / 8] :: bs.drop (a / 8 + 1) := List.drop_eq_getElem_cons h
  have hg : bs.getD (a / 8) 0 = bs[a / 8] := by simp [List.getD, h]
  rw [e, hd, hg, num]
  generalize num (bs.drop (a / 8 + 1)) = r
  generalize (bs[a / 8]).toNat = b
  have e256 : 256 * r = 2 ^ (a % 8) * (2 ^ k * (2 ^ (8 - a % 8 - k) * r)) := by
    rw [← Nat.mul_assoc, ← Nat.mul_assoc, ← Nat.pow_add, ← Nat.pow_add, show a % 8 + k + (8 - a % 8 - k) = 8 from by omega]
  rw [e256, Nat.add_mul_div_left _ _ (Nat.two_pow_pos _), Nat.add_mul_mod_self_left]
/-- What was taken so far, and some bits more. -/
theorem more (x a i k : Nat) : x / 2 ^ a % 2 ^ (i + k) = x / 2 ^ a % 2 ^ i + 2 ^ i * (x / 2 ^ (a + i) % 2 ^ k) := by
  rw [Nat.pow_add 2 i k, Nat.mod_mul, Nat.div_div_eq_div_mul, ← Nat.pow_add]

/-- The k lowest bytes of a number. -/
def dig : Nat → Nat → List UInt8
  | 0, _ => []
  | k + 1, m => UInt8.ofNat m :: dig k (m / 256)
theorem dig_length : ∀ k m : Nat, (dig k m).length = k
  | 0, _ => rfl
  | k + 1, m => by simp [dig, dig_length k]
theorem two8 (k : Nat) : 2 ^ (8 * (k + 1)) = 256 * 2 ^ (8 * k) := by
  rw [Nat.mul_add, Nat.pow_add, Nat.mul_comm]
theorem num_dig : ∀ k m : Nat, num (dig k m) = m % 2 ^ (8 * k)
  | 0, m => by simp [dig, num, Nat.mod_one]
  | k + 1, m => by
    rw [dig, num, num_dig k, two8, Nat.mod_mul]
    simp [UInt8.toNat_ofNat']
theorem num_dig_lt (k m : Nat) (h : m < 2 ^ (8 * k)) : num (dig k m) = m := by rw [num_dig, Nat.mod_eq_of_lt h]
theorem dig_add : ∀ k m x : Nat, dig k (m + 2 ^ (8 * k) * x) = dig k m
  | 0, m, x => rfl
  | k + 1, m, x => by
    rw [dig, dig, two8, Nat.mul_assoc]
    have h1 : UInt8.ofNat (m + 256 * (2 ^ (8 * k) * x)) = UInt8.ofNat m := UInt8.toNat_inj.1 (by simp [UInt8.toNat_ofNat'])
    have h2 : (m + 256 * (2 ^ (8 * k) * x)) / 256 = m / 256 + 2 ^ (8 * k) * x := by omega
    rw [h1, h2, dig_add k]
theorem dig_mod (k m : Nat) : dig k (m % 2 ^ (8 * k)) = dig k m := by
  have h := dig_add k (m % 2 ^ (8 * k)) (m / 2 ^ (8 * k))
  rw [Nat.mod_add_div] at h
  exact h.symm
theorem dig_append : ∀ k j m : Nat, dig (k + j) m = dig k m ++ dig j (m / 2 ^ (8 * k))
  | 0, j, m => by simp [dig]
  | k + 1, j, m => by
    rw [Nat.add_right_comm, dig, dig, dig_append k j, List.cons_append, Nat.div_div_eq_div_mul, two8]
theorem dig_snoc (k m : Nat) : dig (k + 1) m = dig k m ++ [UInt8.ofNat (m / 2 ^ (8 * k))] := by
  rw [dig_append k 1 m]
  simp [dig]
theorem dig_num : ∀ bs : List UInt8, dig bs.length (num bs) = bs
  | [] => rfl
  | b :: r => by
    have hb : b.toNat < 256 := b.toNat_lt
    rw [List.length_cons, dig, num]
    have h1 : UInt8.ofNat (b.toNat + 256 * num r) = b := UInt8.toNat_inj.1 (by rw [UInt8.toNat_ofNat']; omega)
    have h2 : (b.toNat + 256 * num r) / 256 = num r := by omega
    rw [h1, h2, dig_num r]
theorem num_inj {a b : List UInt8} (hl : a.length = b.length) (h : num a = num b) : a = b := by
  rw [← dig_num a, ← dig_num b, hl, h]
/-- The first k of a code's n bits, the highest first. -/
def revTo (v n : Nat) : Nat → Nat
  | 0 => 0
  | k + 1 => revTo v n k + 2 ^ k * (v / 2 ^ (n - 1 - k) % 2)
theorem revTo_lt (v n : Nat) : ∀ k, revTo v n k < 2 ^ k
  | 0 => by simp [revTo]
  | k + 1 => by
    have h := revTo_lt v n k
    rw [revTo, Nat.pow_succ]
    have : v / 2 ^ (n - 1 - k) % 2 < 2 := Nat.mod_lt _ (by omega)
    have h2 : 2 ^ k * (v / 2 ^ (n - 1 - k) % 2) ≤ 2 ^ k * 1 := Nat.mul_le_mul_left _ (by omega)
    omega
theorem code_more (M L v n k : Nat) : M + 2 ^ L * revTo v n k + 2 ^ (L + k) * (v / 2 ^ (n - 1 - k) % 2) = M + 2 ^ L * revTo v n (k + 1) := by
  rw [revTo, Nat.mul_add, Nat.pow_add, Nat.mul_assoc, Nat.add_assoc]
theorem raw_dig (q M : Nat) (bs : List UInt8) (hM : M < 2 ^ (8 * q)) : dig (q + bs.length) (M + 2 ^ (8 * q) * num bs) = dig q M ++ bs := by
  rw [dig_append, dig_add, Nat.add_mul_div_left _ _ (Nat.two_pow_pos _), Nat.div_eq_of_lt hM, Nat.zero_add, dig_num]
theorem raw_lt (q M : Nat) (bs : List UInt8) (hM : M < 2 ^ (8 * q)) : M + 2 ^ (8 * q) * num bs < 2 ^ (8 * q + 8 * bs.length) := by
  have h := num_lt bs
  rw [Nat.pow_add]
  calc M + 2 ^ (8 * q) * num bs < 2 ^ (8 * q) + 2 ^ (8 * q) * num bs := by omega
    _ = 2 ^ (8 * q) * (num bs + 1) := by rw [Nat.mul_add, Nat.mul_one, Nat.add_comm]
    _ ≤ 2 ^ (8 * q) * 2 ^ (8 * bs.length) := Nat.mul_le_mul_left _ h
theorem lt_up {M L L' : Nat} (h : M < 2 ^ L) (hl : L ≤ L') : M < 2 ^ L' := Nat.lt_of_lt_of_le h (Nat.pow_le_pow_right (by omega) hl)
/-- The lowest k bits of a number turned round. -/
def turned (v : Nat) : Nat → Nat
  | 0 => 0
  | k + 1 => 2 * turned v k + v / 2 ^ k % 2
theorem turned_lt (v : Nat) : ∀ k, turned v k < 2 ^ k
  | 0 => by simp [turned]
  | k + 1 => by
    have h := turned_lt v k
    rw [turned, Nat.pow_succ]
    omega
theorem revTo_shift (v n : Nat) : ∀ k, revTo v (n + 1) (k + 1) = v / 2 ^ n % 2 + 2 * revTo v n k
  | 0 => by simp [revTo]
  | k + 1 => by
    rw [revTo, revTo_shift v n k, revTo, show n + 1 - 1 - (k + 1) = n - 1 - k from by omega, Nat.pow_succ, Nat.mul_add, Nat.mul_comm (2 ^ k) 2, Nat.mul_assoc, Nat.add_assoc]
theorem turned_eq (v : Nat) : ∀ n, turned v n = revTo v n n
  | 0 => rfl
  | n + 1 => by rw [turned, turned_eq v n, revTo_shift, Nat.add_comm]

end Go.Proofs.Ytolkoidbkaidkaa.bm
