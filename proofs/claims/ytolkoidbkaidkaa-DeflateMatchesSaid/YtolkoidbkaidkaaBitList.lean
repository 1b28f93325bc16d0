/-
  Bits as lists: a number's bits, the lowest first or the highest first; bytes as bits.
-/
import Derived.Test.YtolkoidbkaidkaaBitsMath
namespace Go.Proofs.Ytolkoidbkaidkaa.bl
open Go Go.Proofs.Ytolkoidbkaidkaa.bm

def b2n (b : Bool) : Nat := if b then 1 else 0
def bval : List Bool → Nat
  | [] => 0
  | b :: t => b2n b + 2 * bval t
theorem b2n_lt (b : Bool) : b2n b < 2 := by cases b <;> decide
theorem bval_append : ∀ a b : List Bool, bval (a ++ b) = bval a + 2 ^ a.length * bval b
  | [], b => by simp [bval]
  | x :: a, b => by
    rw [List.cons_append, bval, bval, bval_append a b, List.length_cons, Nat.pow_succ]
    generalize 2 ^ a.length = p
    rw [Nat.mul_comm p 2, Nat.mul_assoc]
    generalize p * bval b = q
    omega
theorem bval_lt : ∀ l : List Bool, bval l < 2 ^ l.length
  | [] => by simp [bval]
  | x :: l => by
    have := bval_lt l
    have := b2n_lt x
    rw [bval, List.length_cons, Nat.pow_succ]
    omega
theorem b2n_inj {a b : Bool} (h : b2n a = b2n b) : a = b := by cases a <;> cases b <;> simp_all [b2n]
theorem bval_inj : ∀ {a b : List Bool}, a.length = b.length → bval a = bval b → a = b
  | [], [], _, _ => rfl
  | [], _ :: _, h, _ => by simp at h
  | _ :: _, [], h, _ => by simp at h
  | x :: a, y :: b, h, hv => by
    rw [bval, bval] at hv
    have hx := b2n_lt x
    have hy := b2n_lt y
    rw [b2n_inj (show b2n x = b2n y by omega), bval_inj (by simpa using h) (show bval a = bval b by omega)]
/-- The lowest n bits of a number, the lowest first. -/
def lsb : Nat → Nat → List Bool
  | 0, _ => []
  | n + 1, x => (x % 2 == 1) :: lsb n (x / 2)
theorem lsb_length : ∀ n x : Nat, (lsb n x).length = n
  | 0, _ => rfl
  | n + 1, x => by rw [lsb, List.length_cons, lsb_length]
theorem b2n_mod (x : Nat) : b2n (x % 2 == 1) = x % 2 := by
  rcases Nat.mod_two_eq_zero_or_one x with h | h <;> rw [h] <;> rfl
theorem bval_lsb : ∀ n x : Nat, bval (lsb n x) = x % 2 ^ n
  | 0, x => by simp [lsb, bval, Nat.mod_one]
  | n + 1, x => by
    rw [lsb, bval, bval_lsb n, b2n_mod, Nat.pow_succ, Nat.mul_comm (2 ^ n), Nat.mod_mul]
theorem lsb_bval (l : List Bool) : lsb l.length (bval l) = l :=
  bval_inj (lsb_length _ _) (by rw [bval_lsb, Nat.mod_eq_of_lt (bval_lt l)])
theorem lsb_mod (n x : Nat) : lsb n (x % 2 ^ n) = lsb n x :=
  bval_inj (by rw [lsb_length, lsb_length]) (by rw [bval_lsb, bval_lsb, Nat.mod_mod])
theorem bval_zeros : ∀ n : Nat, bval (List.replicate n false) = 0
  | 0 => rfl
  | n + 1 => by rw [List.replicate_succ, bval, bval_zeros n]; rfl
/-- The lowest n bits of a number, the highest first. -/
def msb (n x : Nat) : List Bool := (lsb n x).reverse
theorem msb_length (n x : Nat) : (msb n x).length = n := by rw [msb, List.length_reverse, lsb_length]
theorem lsb_get : ∀ (n x i : Nat) (h : i < (lsb n x).length), (lsb n x)[i] = (x / 2 ^ i % 2 == 1)
  | 0, x, i, h => by simp [lsb] at h
  | n + 1, x, 0, _ => by simp [lsb]
  | n + 1, x, i + 1, h => by
    simp only [lsb, List.getElem_cons_succ]
    rw [lsb_get n (x / 2) i, Nat.div_div_eq_div_mul, Nat.pow_succ, Nat.mul_comm 2]
theorem msb_revTo (x n : Nat) : ∀ k, k ≤ n → bval ((msb n x).take k) = revTo x n k
  | 0, _ => by simp [bval, revTo]
  | k + 1, h => by
    have hl : k < (msb n x).length := by rw [msb_length]; omega
    rw [List.take_succ_eq_append_getElem hl, bval_append, msb_revTo x n k (by omega), List.length_take, msb_length, Nat.min_eq_left (by omega), revTo]
    congr 2
    have e : (msb n x)[k] = (x / 2 ^ (n - 1 - k) % 2 == 1) := by
      simp only [msb, List.getElem_reverse, lsb_length]
      rw [lsb_get]
    rw [e, bval, bval, Nat.mul_zero, Nat.add_zero, b2n_mod]
theorem bval_msb (n x : Nat) : bval (msb n x) = revTo x n n := by
  have := msb_revTo x n n (Nat.le_refl _)
  rwa [List.take_of_length_le (by rw [msb_length]; exact Nat.le_refl _)] at this
/-- Bytes as bits. -/
def bytesBits (bs : List UInt8) : List Bool := bs.flatMap fun c => lsb 8 c.toNat
theorem bytesBits_cons (c : UInt8) (bs : List UInt8) : bytesBits (c :: bs) = lsb 8 c.toNat ++ bytesBits bs := rfl
theorem bytesBits_append (a b : List UInt8) : bytesBits (a ++ b) = bytesBits a ++ bytesBits b := by unfold bytesBits; rw [List.flatMap_append]
theorem bytesBits_length : ∀ bs : List UInt8, (bytesBits bs).length = 8 * bs.length
  | [] => rfl
  | c :: bs => by rw [bytesBits_cons, List.length_append, lsb_length, bytesBits_length bs, List.length_cons]; omega
theorem bval_bytes : ∀ bs : List UInt8, bval (bytesBits bs) = num bs
  | [] => rfl
  | c :: bs => by
    have := UInt8.toNat_lt c
    rw [bytesBits_cons, bval_append, lsb_length, bval_bytes bs, bval_lsb, num, Nat.mod_eq_of_lt (by omega)]
def pad (n : Nat) : Nat := (8 - n % 8) % 8
/-- Filled up with noughts to whole bytes. -/
def padTo8 (l : List Bool) : List Bool := l ++ List.replicate (pad l.length) false
theorem padTo8_length (l : List Bool) : (padTo8 l).length = (l.length + 7) / 8 * 8 := by
  unfold padTo8 pad
  rw [List.length_append, List.length_replicate]
  omega
theorem bval_pad (l : List Bool) : bval (padTo8 l) = bval l := by unfold padTo8; rw [bval_append, bval_zeros]; omega
/-- Bits as bytes. -/
def bytesOf (l : List Bool) : List UInt8 := dig ((l.length + 7) / 8) (bval l)
theorem bytesOf_length (l : List Bool) : (bytesOf l).length = (l.length + 7) / 8 := dig_length _ _
theorem bits_bytesOf (l : List Bool) : bytesBits (bytesOf l) = padTo8 l := by
  refine bval_inj ?_ ?_
  · rw [bytesBits_length, bytesOf_length, padTo8_length]
    omega
  · have h1 := bval_lt l
    have h2 : 2 ^ l.length ≤ 2 ^ (8 * ((l.length + 7) / 8)) := Nat.pow_le_pow_right (by decide) (by omega)
    rw [bval_bytes, bval_pad, bytesOf, num_dig, Nat.mod_eq_of_lt (by omega)]
theorem padTo8_of (l : List Bool) (h : l.length % 8 = 0) : padTo8 l = l := by
  unfold padTo8 pad
  rw [h]
  simp
theorem bytesBits_inj {a b : List UInt8} (h : bytesBits a = bytesBits b) : a = b := by
  have hl : a.length = b.length := by
    have := congrArg List.length h
    rw [bytesBits_length, bytesBits_length] at this
    omega
  exact num_inj hl (by rw [← bval_bytes, ← bval_bytes, h])
theorem bytesOf_bits (bs : List UInt8) : bytesOf (bytesBits bs) = bs := by
  apply bytesBits_inj
  rw [bits_bytesOf, padTo8_of _ (by rw [bytesBits_length]; omega)]
end Go.Proofs.Ytolkoidbkaidkaa.bl
