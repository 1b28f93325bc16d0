/-
  Texts of this proof, one behind the other: BitsMath, BitList, HuffLaw, HuffN, BitMore, InflLaw, Lib, BitsOps, Append, Ops, Tail, LenDist, MatLaw, Ops2, Args, Args2, Bytes, RdMore, Mat, MatE.
-/
import Derived.Test.YtolkoidbkaidkaaGreatRows
import Derived.WalkKit
import Derived.ProofKit
import Derived.OpenShut
import Derived.BigQuiet
import Derived.Lib.Hide
import Derived.ShutString
import Derived.Maps.AppendAt
import Derived.Deep.RegionLaw
import Derived.StillTailTactics
import Derived.Deep.DeepCutAuto
import Derived.Deep.LoopGhost
import Derived.Deep.CutBlock
import Derived.WalkMore
import Derived.SizedLaws
import Derived.Deep.CondSized
import Derived.JoinedCond
import Derived.ChangeOld
import Derived.Maps.OwnOps
import Derived.Maps.OwnSet
set_option linter.unusedVariables false
set_option linter.unusedSimpArgs false
/-
  The plain arithmetic of bits of bytes, the lowest first.
-/
namespace Go.Proofs.YtolkoidbkaidkaaGreat.bm

/-- Bytes as one number, the first byte the lowest. -/
def num : List UInt8 → Nat
  | [] => 0
  | b :: r => b.toNat + 256 * num r

theorem num_lt : ∀ bs : List UInt8, num bs < 2 ^ (8 * bs.length)
  | [] => by simp [num]
  | b :: r => by
    have h := num_lt r
    have hb : b.toNat < 256 := b.toNat_lt
    have e : 2 ^ (8 * (b :: r).length) = 256 * 2 ^ (8 * r.length) := by
      rw [List.length_cons, Nat.mul_add, Nat.pow_add, Nat.mul_comm]
    rw [e]
    simp only [num]
    omega
theorem num_append : ∀ a b : List UInt8, num (a ++ b) = num a + 2 ^ (8 * a.length) * num b
  | [], b => by simp [num]
  | x :: a, b => by
    have e : 2 ^ (8 * (x :: a).length) = 256 * 2 ^ (8 * a.length) := by
      rw [List.length_cons, Nat.mul_add, Nat.pow_add, Nat.mul_comm]
    rw [List.cons_append, num, num, num_append a b, e, Nat.mul_assoc, Nat.mul_add, Nat.add_assoc]
theorem num_drop (bs : List UInt8) (i : Nat) (h : i ≤ bs.length) : num bs / 2 ^ (8 * i) = num (bs.drop i) := by
  have e := num_append (bs.take i) (bs.drop i)
  rw [List.take_append_drop] at e
  have hl := num_lt (bs.take i)
  rw [List.length_take, Nat.min_eq_left h] at e hl
  rw [e, Nat.add_mul_div_left _ _ (Nat.two_pow_pos _), Nat.div_eq_of_lt hl, Nat.zero_add]
theorem mod_div (x a b : Nat) (h : 0 < a) : x % (a * b) = x % a + a * (x / a % b) := Nat.mod_mul
/-- Some bits within one byte. -/
theorem chunk (bs : List UInt8) (a k : Nat) (h : a / 8 < bs.length) (hk : a % 8 + k ≤ 8) :
    num bs / 2 ^ a % 2 ^ k = (bs.getD (a / 8) 0).toNat / 2 ^ (a % 8) % 2 ^ k := by
  have e : num bs / 2 ^ a = num (bs.drop (a / 8)) / 2 ^ (a % 8) := by
    rw [← num_drop bs (a / 8) (by omega), Nat.div_div_eq_div_mul, ← Nat.pow_add, Nat.div_add_mod]
  have hd : bs.drop (a / 8) = bs[a / 8] :: bs.drop (a / 8 + 1) := List.drop_eq_getElem_cons h
  have hg : bs.getD (a / 8) 0 = bs[a / 8] := by simp [List.getD, h]
  rw [e, hd, hg, num]
  generalize num (bs.drop (a / 8 + 1)) = r
  generalize (bs[a / 8]).toNat = b
  have e256 : 256 * r = 2 ^ (a % 8) * (2 ^ k * (2 ^ (8 - a % 8 - k) * r)) := by
    rw [← Nat.mul_assoc, ← Nat.mul_assoc, ← Nat.pow_add, ← Nat.pow_add, show a % 8 + k + (8 - a % 8 - k) = 8 from by omega]
  rw [e256, Nat.add_mul_div_left _ _ (Nat.two_pow_pos _), Nat.add_mul_mod_self_left]
/-- What was taken so far, and some bits more. -/
theorem more (x a i k : Nat) : x / 2 ^ a % 2 ^ (i + k) = x / 2 ^ a % 2 ^ i + 2 ^ i * (x / 2 ^ (a + i) % 2 ^ k) := by
  rw [Nat.pow_add 2 i k, Nat.mod_mul, Nat.div_div_eq_div_mul, ← Nat.pow_add]

/-- The k lowest bytes of a number. -/
def dig : Nat → Nat → List UInt8
  | 0, _ => []
  | k + 1, m => UInt8.ofNat m :: dig k (m / 256)
theorem dig_length : ∀ k m : Nat, (dig k m).length = k
  | 0, _ => rfl
  | k + 1, m => by simp [dig, dig_length k]
theorem two8 (k : Nat) : 2 ^ (8 * (k + 1)) = 256 * 2 ^ (8 * k) := by
  rw [Nat.mul_add, Nat.pow_add, Nat.mul_comm]
theorem num_dig : ∀ k m : Nat, num (dig k m) = m % 2 ^ (8 * k)
  | 0, m => by simp [dig, num, Nat.mod_one]
  | k + 1, m => by
    rw [dig, num, num_dig k, two8, Nat.mod_mul]
    simp [UInt8.toNat_ofNat']
theorem num_dig_lt (k m : Nat) (h : m < 2 ^ (8 * k)) : num (dig k m) = m := by rw [num_dig, Nat.mod_eq_of_lt h]
theorem dig_add : ∀ k m x : Nat, dig k (m + 2 ^ (8 * k) * x) = dig k m
  | 0, m, x => rfl
  | k + 1, m, x => by
    rw [dig, dig, two8, Nat.mul_assoc]
    have h1 : UInt8.ofNat (m + 256 * (2 ^ (8 * k) * x)) = UInt8.ofNat m := UInt8.toNat_inj.1 (by simp [UInt8.toNat_ofNat'])
    have h2 : (m + 256 * (2 ^ (8 * k) * x)) / 256 = m / 256 + 2 ^ (8 * k) * x := by omega
    rw [h1, h2, dig_add k]
theorem dig_mod (k m : Nat) : dig k (m % 2 ^ (8 * k)) = dig k m := by
  have h := dig_add k (m % 2 ^ (8 * k)) (m / 2 ^ (8 * k))
  rw [Nat.mod_add_div] at h
  exact h.symm
theorem dig_append : ∀ k j m : Nat, dig (k + j) m = dig k m ++ dig j (m / 2 ^ (8 * k))
  | 0, j, m => by simp [dig]
  | k + 1, j, m => by
    rw [Nat.add_right_comm, dig, dig, dig_append k j, List.cons_append, Nat.div_div_eq_div_mul, two8]
theorem dig_snoc (k m : Nat) : dig (k + 1) m = dig k m ++ [UInt8.ofNat (m / 2 ^ (8 * k))] := by
  rw [dig_append k 1 m]
  simp [dig]
theorem dig_num : ∀ bs : List UInt8, dig bs.length (num bs) = bs
  | [] => rfl
  | b :: r => by
    have hb : b.toNat < 256 := b.toNat_lt
    rw [List.length_cons, dig, num]
    have h1 : UInt8.ofNat (b.toNat + 256 * num r) = b := UInt8.toNat_inj.1 (by rw [UInt8.toNat_ofNat']; omega)
    have h2 : (b.toNat + 256 * num r) / 256 = num r := by omega
    rw [h1, h2, dig_num r]
theorem num_inj {a b : List UInt8} (hl : a.length = b.length) (h : num a = num b) : a = b := by
  rw [← dig_num a, ← dig_num b, hl, h]
/-- The first k of a code's n bits, the highest first. -/
def revTo (v n : Nat) : Nat → Nat
  | 0 => 0
  | k + 1 => revTo v n k + 2 ^ k * (v / 2 ^ (n - 1 - k) % 2)
theorem revTo_lt (v n : Nat) : ∀ k, revTo v n k < 2 ^ k
  | 0 => by simp [revTo]
  | k + 1 => by
    have h := revTo_lt v n k
    rw [revTo, Nat.pow_succ]
    have : v / 2 ^ (n - 1 - k) % 2 < 2 := Nat.mod_lt _ (by omega)
    have h2 : 2 ^ k * (v / 2 ^ (n - 1 - k) % 2) ≤ 2 ^ k * 1 := Nat.mul_le_mul_left _ (by omega)
    omega
theorem code_more (M L v n k : Nat) : M + 2 ^ L * revTo v n k + 2 ^ (L + k) * (v / 2 ^ (n - 1 - k) % 2) = M + 2 ^ L * revTo v n (k + 1) := by
  rw [revTo, Nat.mul_add, Nat.pow_add, Nat.mul_assoc, Nat.add_assoc]
theorem raw_dig (q M : Nat) (bs : List UInt8) (hM : M < 2 ^ (8 * q)) : dig (q + bs.length) (M + 2 ^ (8 * q) * num bs) = dig q M ++ bs := by
  rw [dig_append, dig_add, Nat.add_mul_div_left _ _ (Nat.two_pow_pos _), Nat.div_eq_of_lt hM, Nat.zero_add, dig_num]
theorem raw_lt (q M : Nat) (bs : List UInt8) (hM : M < 2 ^ (8 * q)) : M + 2 ^ (8 * q) * num bs < 2 ^ (8 * q + 8 * bs.length) := by
  have h := num_lt bs
  rw [Nat.pow_add]
  calc M + 2 ^ (8 * q) * num bs < 2 ^ (8 * q) + 2 ^ (8 * q) * num bs := by omega
    _ = 2 ^ (8 * q) * (num bs + 1) := by rw [Nat.mul_add, Nat.mul_one, Nat.add_comm]
    _ ≤ 2 ^ (8 * q) * 2 ^ (8 * bs.length) := Nat.mul_le_mul_left _ h
theorem lt_up {M L L' : Nat} (h : M < 2 ^ L) (hl : L ≤ L') : M < 2 ^ L' := Nat.lt_of_lt_of_le h (Nat.pow_le_pow_right (by omega) hl)
/-- The lowest k bits of a number turned round. -/
def turned (v : Nat) : Nat → Nat
  | 0 => 0
  | k + 1 => 2 * turned v k + v / 2 ^ k % 2
theorem turned_lt (v : Nat) : ∀ k, turned v k < 2 ^ k
  | 0 => by simp [turned]
  | k + 1 => by
    have h := turned_lt v k
    rw [turned, Nat.pow_succ]
    omega
theorem revTo_shift (v n : Nat) : ∀ k, revTo v (n + 1) (k + 1) = v / 2 ^ n % 2 + 2 * revTo v n k
  | 0 => by simp [revTo]
  | k + 1 => by
    rw [revTo, revTo_shift v n k, revTo, show n + 1 - 1 - (k + 1) = n - 1 - k from by omega, Nat.pow_succ, Nat.mul_add, Nat.mul_comm (2 ^ k) 2, Nat.mul_assoc, Nat.add_assoc]
theorem turned_eq (v : Nat) : ∀ n, turned v n = revTo v n n
  | 0 => rfl
  | n + 1 => by rw [turned, turned_eq v n, revTo_shift, Nat.add_comm]

end Go.Proofs.YtolkoidbkaidkaaGreat.bm
/-
  Bits as lists: a number's bits, the lowest first or the highest first; bytes as bits.
-/
namespace Go.Proofs.YtolkoidbkaidkaaGreat.bl
open Go Go.Proofs.YtolkoidbkaidkaaGreat.bm

def b2n (b : Bool) : Nat := if b then 1 else 0
def bval : List Bool → Nat
  | [] => 0
  | b :: t => b2n b + 2 * bval t
theorem b2n_lt (b : Bool) : b2n b < 2 := by cases b <;> decide
theorem bval_append : ∀ a b : List Bool, bval (a ++ b) = bval a + 2 ^ a.length * bval b
  | [], b => by simp [bval]
  | x :: a, b => by
    rw [List.cons_append, bval, bval, bval_append a b, List.length_cons, Nat.pow_succ]
    generalize 2 ^ a.length = p
    rw [Nat.mul_comm p 2, Nat.mul_assoc]
    generalize p * bval b = q
    omega
theorem bval_lt : ∀ l : List Bool, bval l < 2 ^ l.length
  | [] => by simp [bval]
  | x :: l => by
    have := bval_lt l
    have := b2n_lt x
    rw [bval, List.length_cons, Nat.pow_succ]
    omega
theorem b2n_inj {a b : Bool} (h : b2n a = b2n b) : a = b := by cases a <;> cases b <;> simp_all [b2n]
theorem bval_inj : ∀ {a b : List Bool}, a.length = b.length → bval a = bval b → a = b
  | [], [], _, _ => rfl
  | [], _ :: _, h, _ => by simp at h
  | _ :: _, [], h, _ => by simp at h
  | x :: a, y :: b, h, hv => by
    rw [bval, bval] at hv
    have hx := b2n_lt x
    have hy := b2n_lt y
    rw [b2n_inj (show b2n x = b2n y by omega), bval_inj (by simpa using h) (show bval a = bval b by omega)]
/-- The lowest n bits of a number, the lowest first. -/
def lsb : Nat → Nat → List Bool
  | 0, _ => []
  | n + 1, x => (x % 2 == 1) :: lsb n (x / 2)
theorem lsb_length : ∀ n x : Nat, (lsb n x).length = n
  | 0, _ => rfl
  | n + 1, x => by rw [lsb, List.length_cons, lsb_length]
theorem b2n_mod (x : Nat) : b2n (x % 2 == 1) = x % 2 := by
  rcases Nat.mod_two_eq_zero_or_one x with h | h <;> rw [h] <;> rfl
theorem bval_lsb : ∀ n x : Nat, bval (lsb n x) = x % 2 ^ n
  | 0, x => by simp [lsb, bval, Nat.mod_one]
  | n + 1, x => by
    rw [lsb, bval, bval_lsb n, b2n_mod, Nat.pow_succ, Nat.mul_comm (2 ^ n), Nat.mod_mul]
theorem lsb_bval (l : List Bool) : lsb l.length (bval l) = l :=
  bval_inj (lsb_length _ _) (by rw [bval_lsb, Nat.mod_eq_of_lt (bval_lt l)])
theorem lsb_mod (n x : Nat) : lsb n (x % 2 ^ n) = lsb n x :=
  bval_inj (by rw [lsb_length, lsb_length]) (by rw [bval_lsb, bval_lsb, Nat.mod_mod])
theorem bval_zeros : ∀ n : Nat, bval (List.replicate n false) = 0
  | 0 => rfl
  | n + 1 => by rw [List.replicate_succ, bval, bval_zeros n]; rfl
/-- The lowest n bits of a number, the highest first. -/
def msb (n x : Nat) : List Bool := (lsb n x).reverse
theorem msb_length (n x : Nat) : (msb n x).length = n := by rw [msb, List.length_reverse, lsb_length]
theorem lsb_get : ∀ (n x i : Nat) (h : i < (lsb n x).length), (lsb n x)[i] = (x / 2 ^ i % 2 == 1)
  | 0, x, i, h => by simp [lsb] at h
  | n + 1, x, 0, _ => by simp [lsb]
  | n + 1, x, i + 1, h => by
    simp only [lsb, List.getElem_cons_succ]
    rw [lsb_get n (x / 2) i, Nat.div_div_eq_div_mul, Nat.pow_succ, Nat.mul_comm 2]
theorem msb_revTo (x n : Nat) : ∀ k, k ≤ n → bval ((msb n x).take k) = revTo x n k
  | 0, _ => by simp [bval, revTo]
  | k + 1, h => by
    have hl : k < (msb n x).length := by rw [msb_length]; omega
    rw [List.take_succ_eq_append_getElem hl, bval_append, msb_revTo x n k (by omega), List.length_take, msb_length, Nat.min_eq_left (by omega), revTo]
    congr 2
    have e : (msb n x)[k] = (x / 2 ^ (n - 1 - k) % 2 == 1) := by
      simp only [msb, List.getElem_reverse, lsb_length]
      rw [lsb_get]
    rw [e, bval, bval, Nat.mul_zero, Nat.add_zero, b2n_mod]
theorem bval_msb (n x : Nat) : bval (msb n x) = revTo x n n := by
  have := msb_revTo x n n (Nat.le_refl _)
  rwa [List.take_of_length_le (by rw [msb_length]; exact Nat.le_refl _)] at this
/-- Bytes as bits. -/
def bytesBits (bs : List UInt8) : List Bool := bs.flatMap fun c => lsb 8 c.toNat
theorem bytesBits_cons (c : UInt8) (bs : List UInt8) : bytesBits (c :: bs) = lsb 8 c.toNat ++ bytesBits bs := rfl
theorem bytesBits_append (a b : List UInt8) : bytesBits (a ++ b) = bytesBits a ++ bytesBits b := by unfold bytesBits; rw [List.flatMap_append]
theorem bytesBits_length : ∀ bs : List UInt8, (bytesBits bs).length = 8 * bs.length
  | [] => rfl
  | c :: bs => by rw [bytesBits_cons, List.length_append, lsb_length, bytesBits_length bs, List.length_cons]; omega
theorem bval_bytes : ∀ bs : List UInt8, bval (bytesBits bs) = num bs
  | [] => rfl
  | c :: bs => by
    have := UInt8.toNat_lt c
    rw [bytesBits_cons, bval_append, lsb_length, bval_bytes bs, bval_lsb, num, Nat.mod_eq_of_lt (by omega)]
def pad (n : Nat) : Nat := (8 - n % 8) % 8
/-- Filled up with noughts to whole bytes. -/
def padTo8 (l : List Bool) : List Bool := l ++ List.replicate (pad l.length) false
theorem padTo8_length (l : List Bool) : (padTo8 l).length = (l.length + 7) / 8 * 8 := by
  unfold padTo8 pad
  rw [List.length_append, List.length_replicate]
  omega
theorem bval_pad (l : List Bool) : bval (padTo8 l) = bval l := by unfold padTo8; rw [bval_append, bval_zeros]; omega
/-- Bits as bytes. -/
def bytesOf (l : List Bool) : List UInt8 := dig ((l.length + 7) / 8) (bval l)
theorem bytesOf_length (l : List Bool) : (bytesOf l).length = (l.length + 7) / 8 := dig_length _ _
theorem bits_bytesOf (l : List Bool) : bytesBits (bytesOf l) = padTo8 l := by
  refine bval_inj ?_ ?_
  · rw [bytesBits_length, bytesOf_length, padTo8_length]
    omega
  · have h1 := bval_lt l
    have h2 : 2 ^ l.length ≤ 2 ^ (8 * ((l.length + 7) / 8)) := Nat.pow_le_pow_right (by decide) (by omega)
    rw [bval_bytes, bval_pad, bytesOf, num_dig, Nat.mod_eq_of_lt (by omega)]
theorem padTo8_of (l : List Bool) (h : l.length % 8 = 0) : padTo8 l = l := by
  unfold padTo8 pad
  rw [h]
  simp
theorem bytesBits_inj {a b : List UInt8} (h : bytesBits a = bytesBits b) : a = b := by
  have hl : a.length = b.length := by
    have := congrArg List.length h
    rw [bytesBits_length, bytesBits_length] at this
    omega
  exact num_inj hl (by rw [← bval_bytes, ← bval_bytes, h])
theorem bytesOf_bits (bs : List UInt8) : bytesOf (bytesBits bs) = bs := by
  apply bytesBits_inj
  rw [bits_bytesOf, padTo8_of _ (by rw [bytesBits_length]; omega)]
end Go.Proofs.YtolkoidbkaidkaaGreat.bl
/-
  Huffman codes: the plain law: codes in order, reading, and that what is written is read.
-/
namespace Go.Proofs.YtolkoidbkaidkaaGreat.huf
open Go Go.Proofs.YtolkoidbkaidkaaGreat.bm Go.Proofs.YtolkoidbkaidkaaGreat.bl

/-- The length of the i-th symbol's code. -/
def lenAt (ls : List Nat) (i : Nat) : Nat := ls[i]?.getD 0
/-- The first code of a length. -/
def nxt (ls : List Nat) : Nat → Nat
  | 0 => 0
  | l + 1 => 2 * (nxt ls l + if l = 0 then 0 else ls.count l)
def code (ls : List Nat) (i : Nat) : Nat := nxt ls (lenAt ls i) + (ls.take i).count (lenAt ls i)
/-- What the lengths below l take of 2^15. -/
def share (ls : List Nat) : Nat → Nat
  | 0 => 0
  | l + 1 => share ls l + if l = 0 then 0 else ls.count l * 2 ^ (15 - l)
def weight : List Nat → Nat
  | [] => 0
  | l :: t => (if l = 0 then 0 else 2 ^ (15 - l)) + weight t
theorem nxt_share (ls : List Nat) : ∀ l, l ≤ 15 → nxt ls l * 2 ^ (15 - l) = share ls l
  | 0, _ => by simp [nxt, share]
  | l + 1, h => by
    have ih := nxt_share ls l (by omega)
    have e : 2 ^ (15 - l) = 2 * 2 ^ (15 - (l + 1)) := by rw [show 15 - l = 15 - (l + 1) + 1 from by omega, Nat.pow_succ, Nat.mul_comm]
    rw [nxt, share, ← ih, e]
    generalize 2 ^ (15 - (l + 1)) = p
    split <;> simp only [Nat.mul_add, Nat.add_mul, Nat.add_zero, Nat.mul_assoc, Nat.mul_left_comm]
theorem share_cons (x : Nat) (t : List Nat) : ∀ m, share (x :: t) m = share t m + if 0 < x ∧ x < m then 2 ^ (15 - x) else 0
  | 0 => by simp [share]
  | m + 1 => by
    rw [share, share, share_cons x t m, List.count_cons]
    by_cases h0 : m = 0
    · subst h0
      simp only [if_true]
      rw [if_neg (by omega), if_neg (by omega)]
    · rw [if_neg h0, if_neg h0]
      by_cases hx : x = m
      · subst hx
        simp only [beq_self_eq_true, if_true]
        rw [if_neg (by omega), if_pos (by omega), Nat.add_mul, Nat.one_mul]
        omega
      · have hb : (x == m) = false := by simpa using hx
        rw [hb]
        simp only [Bool.false_eq_true, if_false, Nat.add_zero]
        by_cases hc : 0 < x ∧ x < m
        · rw [if_pos hc, if_pos (by omega)]
          omega
        · rw [if_neg hc, if_neg (by omega)]
          omega
theorem share_nil : ∀ m, share [] m = 0
  | 0 => rfl
  | m + 1 => by rw [share, share_nil m]; simp
theorem share_weight : ∀ ls : List Nat, (∀ l ∈ ls, l ≤ 15) → share ls 16 = weight ls
  | [], _ => share_nil 16
  | x :: t, h => by
    have hx := h x (by simp)
    rw [share_cons, weight, share_weight t fun l hl => h l (by simp [hl])]
    by_cases h0 : x = 0
    · rw [if_neg (by omega), if_pos h0]; omega
    · rw [if_pos (by omega), if_neg h0]; omega
theorem share_mono (ls : List Nat) : ∀ (k l : Nat), share ls l ≤ share ls (l + k)
  | 0, _ => Nat.le_refl _
  | k + 1, l => by
    have := share_mono ls k l
    rw [← Nat.add_assoc, share]
    omega
theorem share_le (ls : List Nat) {l m : Nat} (h : l ≤ m) : share ls l ≤ share ls m := by
  obtain ⟨k, rfl⟩ : ∃ k, m = l + k := ⟨m - l, by omega⟩
  exact share_mono ls k l
theorem lenAt_lt {ls : List Nat} {i : Nat} (h : 0 < lenAt ls i) : i < ls.length := by
  unfold lenAt at h
  rcases Nat.lt_or_ge i ls.length with k | k
  · exact k
  · rw [List.getElem?_eq_none k] at h
    simp at h
theorem lenAt_mem {ls : List Nat} {i : Nat} (h : i < ls.length) : lenAt ls i ∈ ls := by
  unfold lenAt
  rw [List.getElem?_eq_getElem h]
  exact List.getElem_mem h
theorem count_take_succ (ls : List Nat) (i x : Nat) (h : i < ls.length) : (ls.take (i + 1)).count x = (ls.take i).count x + if lenAt ls i = x then 1 else 0 := by
  rw [List.take_succ_eq_append_getElem h, List.count_append, List.count_singleton]
  unfold lenAt
  rw [List.getElem?_eq_getElem h]
  simp only [Option.getD_some, beq_iff_eq]
theorem count_take_le (ls : List Nat) (i x : Nat) : (ls.take i).count x ≤ ls.count x := (List.take_sublist i ls).count_le x
theorem count_take_mono (ls : List Nat) (x : Nat) {i j : Nat} (h : i ≤ j) : (ls.take i).count x ≤ (ls.take j).count x := by
  have : ls.take i = (ls.take j).take i := by rw [List.take_take, Nat.min_eq_left h]
  rw [this]
  exact (List.take_sublist i (ls.take j)).count_le x
/-- Where the i-th symbol's share begins; it ends at lo + 2^(15 - length). -/
def lo (ls : List Nat) (i : Nat) : Nat := code ls i * 2 ^ (15 - lenAt ls i)
theorem lo_eq (ls : List Nat) (i : Nat) (h : lenAt ls i ≤ 15) : lo ls i = share ls (lenAt ls i) + (ls.take i).count (lenAt ls i) * 2 ^ (15 - lenAt ls i) := by
  rw [lo, code, Nat.add_mul, nxt_share ls _ h]
theorem hi_le (ls : List Nat) (i : Nat) (h0 : 0 < lenAt ls i) (h : lenAt ls i ≤ 15) : lo ls i + 2 ^ (15 - lenAt ls i) ≤ share ls (lenAt ls i + 1) := by
  have hi := lenAt_lt h0
  have h1 := count_take_succ ls i (lenAt ls i) hi
  rw [if_pos rfl] at h1
  have h2 := count_take_le ls (i + 1) (lenAt ls i)
  rw [lo_eq ls i h, share, if_neg (by omega)]
  have h3 : ((ls.take i).count (lenAt ls i) + 1) * 2 ^ (15 - lenAt ls i) ≤ ls.count (lenAt ls i) * 2 ^ (15 - lenAt ls i) := Nat.mul_le_mul_right _ (by omega)
  rw [Nat.add_mul, Nat.one_mul] at h3
  omega
theorem lo_short (ls : List Nat) {i j : Nat} (h0 : 0 < lenAt ls i) (h : lenAt ls i < lenAt ls j) (hj : lenAt ls j ≤ 15) : lo ls i + 2 ^ (15 - lenAt ls i) ≤ lo ls j := by
  have h1 := hi_le ls i h0 (by omega)
  have h2 := share_le ls (show lenAt ls i + 1 ≤ lenAt ls j from h)
  have h3 := lo_eq ls j hj
  omega
theorem code_inj (ls : List Nat) {i j : Nat} (h0 : 0 < lenAt ls i) (h : lenAt ls i = lenAt ls j) (hc : code ls i = code ls j) : i = j := by
  have key : ∀ {i j : Nat}, 0 < lenAt ls i → lenAt ls i = lenAt ls j → code ls i = code ls j → ¬ i < j := fun {i j} h0 h hc hij => by
    have h1 := count_take_succ ls i (lenAt ls i) (lenAt_lt h0)
    rw [if_pos rfl] at h1
    have h2 := count_take_mono ls (lenAt ls i) (show i + 1 ≤ j from hij)
    unfold code at hc
    rw [← h] at hc
    omega
  rcases Nat.lt_trichotomy i j with k | k | k
  · exact absurd k (key h0 h hc)
  · exact k
  · exact absurd k (key (by omega) h.symm hc.symm)
theorem code_lt (ls : List Nat) (i : Nat) (hle : ∀ l ∈ ls, l ≤ 15) (hw : weight ls ≤ 32768) (h0 : 0 < lenAt ls i) : code ls i < 2 ^ lenAt ls i := by
  have h15 := hle _ (lenAt_mem (lenAt_lt h0))
  have h1 := hi_le ls i h0 h15
  have h2 := share_le ls (show lenAt ls i + 1 ≤ 16 by omega)
  rw [share_weight ls hle] at h2
  unfold lo at h1
  have e : 2 ^ 15 = 2 ^ lenAt ls i * 2 ^ (15 - lenAt ls i) := by rw [← Nat.pow_add]; congr 1; omega
  have h3 : (code ls i + 1) * 2 ^ (15 - lenAt ls i) ≤ 2 ^ lenAt ls i * 2 ^ (15 - lenAt ls i) := by
    rw [← e, Nat.add_mul, Nat.one_mul]
    exact Nat.le_trans (Nat.le_trans h1 h2) hw
  have := Nat.le_of_mul_le_mul_right h3 (Nat.two_pow_pos _)
  omega
/-- The symbol whose code has n bits and is v. -/
def hsym (ls : List Nat) (n v : Nat) : Option Nat := (List.range ls.length).find? fun i => decide (0 < n) && (lenAt ls i == n && code ls i == v)
/-- Does a longer code begin so? -/
def hmore (ls : List Nat) (n v : Nat) : Bool := (List.range ls.length).any fun i => decide (n < lenAt ls i) && code ls i / 2 ^ (lenAt ls i - n) == v
/-- Reading: the symbol, how many bits, what is wrong (0: nothing, 3: no such code, 4: the bits end). -/
def hread (ls : List Nat) : Nat → Nat → Nat → List Bool → Nat × Nat × Nat
  | 0, n, v, _ => match hsym ls n v with
    | some s => (s, n, 0)
    | none => (0, n, 3)
  | f + 1, n, v, bits => match hsym ls n v with
    | some s => (s, n, 0)
    | none => if hmore ls n v then (match bits with
      | [] => (0, n, 4)
      | b :: t => hread ls f (n + 1) (2 * v + b2n b) t) else (0, n, 3)
theorem hread_hit {ls : List Nat} {f n v s : Nat} {bits : List Bool} (h : hsym ls n v = some s) : hread ls f n v bits = (s, n, 0) := by cases f <;> simp [hread, h]
theorem hread_step {ls : List Nat} {f n v : Nat} {b : Bool} {t : List Bool} (h : hsym ls n v = none) (hm : hmore ls n v = true) : hread ls (f + 1) n v (b :: t) = hread ls f (n + 1) (2 * v + b2n b) t := by simp [hread, h, hm]
theorem hread_torn {ls : List Nat} {f n v : Nat} (h : hsym ls n v = none) (hm : hmore ls n v = true) : hread ls (f + 1) n v [] = (0, n, 4) := by simp [hread, h, hm]
theorem hread_form {ls : List Nat} {f n v : Nat} {bits : List Bool} (h : hsym ls n v = none) (hm : hmore ls n v = false) : hread ls f n v bits = (0, n, 3) := by cases f <;> simp [hread, h, hm]
theorem hread_end {ls : List Nat} {n v : Nat} {bits : List Bool} (h : hsym ls n v = none) : hread ls 0 n v bits = (0, n, 3) := by simp [hread, h]
theorem hsym_at (ls : List Nat) (s : Nat) (h0 : 0 < lenAt ls s) : hsym ls (lenAt ls s) (code ls s) = some s := by
  unfold hsym
  cases hf : (List.range ls.length).find? fun i => decide (0 < lenAt ls s) && (lenAt ls i == lenAt ls s && code ls i == code ls s) with
  | none =>
    have := List.find?_eq_none.1 hf s (List.mem_range.2 (lenAt_lt h0))
    simp [h0] at this
  | some i =>
    have h1 := List.find?_some hf
    simp only [Bool.and_eq_true, decide_eq_true_eq, beq_iff_eq] at h1
    rw [code_inj ls (by omega) h1.2.1 h1.2.2]
theorem hsym_short (ls : List Nat) (s n : Nat) (h0 : 0 < lenAt ls s) (h15 : lenAt ls s ≤ 15) (hn : n < lenAt ls s) : hsym ls n (code ls s / 2 ^ (lenAt ls s - n)) = none := by
  unfold hsym
  refine List.find?_eq_none.2 fun i _ => ?_
  simp only [Bool.and_eq_true, decide_eq_true_eq, beq_iff_eq, not_and]
  intro hn0 hi hc
  have h1 := lo_short ls (i := i) (j := s) (by omega) (by omega) h15
  unfold lo at h1
  rw [hi, hc] at h1
  have e : 2 ^ (15 - n) = 2 ^ (lenAt ls s - n) * 2 ^ (15 - lenAt ls s) := by rw [← Nat.pow_add]; congr 1; omega
  rw [e] at h1
  have h2 : (code ls s / 2 ^ (lenAt ls s - n) + 1) * 2 ^ (lenAt ls s - n) * 2 ^ (15 - lenAt ls s) ≤ code ls s * 2 ^ (15 - lenAt ls s) := by
    rw [Nat.add_mul, Nat.one_mul, Nat.add_mul, Nat.mul_assoc]
    exact h1
  have h3 := Nat.le_of_mul_le_mul_right h2 (Nat.two_pow_pos _)
  have h4 := Nat.lt_div_mul_add (a := code ls s) (Nat.two_pow_pos (lenAt ls s - n))
  rw [Nat.add_mul, Nat.one_mul] at h3
  omega
theorem hmore_short (ls : List Nat) (s n : Nat) (hn : n < lenAt ls s) : hmore ls n (code ls s / 2 ^ (lenAt ls s - n)) = true := by
  unfold hmore
  refine List.any_eq_true.2 ⟨s, List.mem_range.2 (lenAt_lt (by omega)), ?_⟩
  simp [hn]
theorem hread_code (ls : List Nat) (s : Nat) (hle : ∀ l ∈ ls, l ≤ 15) (h0 : 0 < lenAt ls s) (rest : List Bool) : ∀ (k f n : Nat), n + k = lenAt ls s → lenAt ls s ≤ n + f →
    hread ls f n (code ls s / 2 ^ (lenAt ls s - n)) ((msb (lenAt ls s) (code ls s)).drop n ++ rest) = (s, lenAt ls s, 0)
  | 0, f, n, h1, h2 => by
    obtain rfl : n = lenAt ls s := by omega
    rw [Nat.sub_self, Nat.pow_zero, Nat.div_one]
    exact hread_hit (hsym_at ls s h0)
  | k + 1, f, n, h1, h2 => by
    have h15 := hle _ (lenAt_mem (lenAt_lt h0))
    obtain ⟨f, rfl⟩ : ∃ g, f = g + 1 := ⟨f - 1, by omega⟩
    have hl : n < (msb (lenAt ls s) (code ls s)).length := by rw [msb_length]; omega
    have hb : (msb (lenAt ls s) (code ls s))[n] = (code ls s / 2 ^ (lenAt ls s - 1 - n) % 2 == 1) := by
      simp only [msb, List.getElem_reverse, lsb_length]
      rw [lsb_get]
    rw [List.drop_eq_getElem_cons hl, List.cons_append, hread_step (hsym_short ls s n h0 h15 (by omega)) (hmore_short ls s n (by omega))]
    have hv : 2 * (code ls s / 2 ^ (lenAt ls s - n)) + b2n (msb (lenAt ls s) (code ls s))[n] = code ls s / 2 ^ (lenAt ls s - (n + 1)) := by
      rw [hb, b2n_mod, show lenAt ls s - n = lenAt ls s - (n + 1) + 1 from by omega, show lenAt ls s - 1 - n = lenAt ls s - (n + 1) from by omega, Nat.pow_succ, ← Nat.div_div_eq_div_mul]
      omega
    rw [hv]
    exact hread_code ls s hle h0 rest k f (n + 1) (by omega) (by omega)
def read (ls : List Nat) (bits : List Bool) : Nat × Nat × Nat := hread ls 15 0 0 bits
/-- What is written is read. -/
theorem read_code (ls : List Nat) (s : Nat) (hle : ∀ l ∈ ls, l ≤ 15) (hw : weight ls ≤ 32768) (h0 : 0 < lenAt ls s) (rest : List Bool) : read ls (msb (lenAt ls s) (code ls s) ++ rest) = (s, lenAt ls s, 0) := by
  have h15 := hle _ (lenAt_mem (lenAt_lt h0))
  have := hread_code ls s hle h0 rest (lenAt ls s) 15 0 (by omega) (by omega)
  rw [Nat.sub_zero, Nat.div_eq_of_lt (code_lt ls s hle hw h0), List.drop_zero] at this
  exact this
end Go.Proofs.YtolkoidbkaidkaaGreat.huf
/-
  A code's table, plain: of each length the first code, and the symbols in order. What it tells is what the lengths tell (hsym, hmore).
-/
namespace Go.Proofs.YtolkoidbkaidkaaGreat.huf
open Go

/-- The symbols of a length, in order, of the first i. -/
def syms (ls : List Nat) (l i : Nat) : List Nat := (List.range i).filter fun j => lenAt ls j == l
theorem syms_zero (ls : List Nat) (l : Nat) : syms ls l 0 = [] := rfl
theorem syms_succ (ls : List Nat) (l i : Nat) : syms ls l (i + 1) = syms ls l i ++ if lenAt ls i = l then [i] else [] := by
  unfold syms
  rw [List.range_succ, List.filter_append]
  by_cases h : lenAt ls i = l
  · simp [h]
  · simp [h]
theorem syms_length (ls : List Nat) (l : Nat) : ∀ i, i ≤ ls.length → (syms ls l i).length = (ls.take i).count l
  | 0, _ => by simp [syms_zero]
  | i + 1, h => by
    rw [syms_succ, List.length_append, syms_length ls l i (by omega), count_take_succ ls i l (by omega)]
    split <;> simp
theorem syms_get (ls : List Nat) (l : Nat) : ∀ (i : Nat), i ≤ ls.length → ∀ (t s : Nat), (syms ls l i)[t]? = some s → lenAt ls s = l ∧ (ls.take s).count l = t ∧ s < i
  | 0, _, t, s, h => by simp [syms_zero] at h
  | i + 1, hi, t, s, h => by
    rw [syms_succ, List.getElem?_append] at h
    split at h
    · have := syms_get ls l i (by omega) t s h
      exact ⟨this.1, this.2.1, by omega⟩
    · rename_i hlt
      split at h
      · rename_i hl
        have ht : t - (syms ls l i).length = 0 := by
          have := (List.getElem?_eq_some_iff.1 h).1
          simp at this
          omega
        rw [ht] at h
        simp at h
        subst h
        have := syms_length ls l i (by omega)
        exact ⟨hl, by omega, by omega⟩
      · simp at h
theorem syms_code {ls : List Nat} {l t s : Nat} (h : (syms ls l ls.length)[t]? = some s) : lenAt ls s = l ∧ code ls s = nxt ls l + t ∧ s < ls.length := by
  obtain ⟨h1, h2, h3⟩ := syms_get ls l ls.length (Nat.le_refl _) t s h
  exact ⟨h1, by unfold code; rw [h1, h2], h3⟩
theorem syms_has {ls : List Nat} {s : Nat} (hs : s < ls.length) : (syms ls (lenAt ls s) ls.length)[(ls.take s).count (lenAt ls s)]? = some s := by
  have hin : s ∈ syms ls (lenAt ls s) ls.length := by simp [syms, hs]
  obtain ⟨t, ht, e⟩ := List.getElem_of_mem hin
  have h2 := (syms_get ls _ ls.length (Nat.le_refl _) t s (by rw [List.getElem?_eq_getElem ht, e])).2.1
  rw [h2, List.getElem?_eq_getElem ht, e]
/-- The symbol whose code is v, of n bits. -/
theorem hsym_some {ls : List Nat} {n v s : Nat} (hn : 0 < n) (hv : nxt ls n ≤ v) (h : (syms ls n ls.length)[v - nxt ls n]? = some s) : hsym ls n v = some s := by
  obtain ⟨h1, h2, h3⟩ := syms_code h
  have hc : code ls s = v := by omega
  have := hsym_at ls s (by omega)
  rw [h1, hc] at this
  exact this
theorem hsym_none {ls : List Nat} {n v : Nat} (h : n = 0 ∨ v < nxt ls n ∨ (syms ls n ls.length).length ≤ v - nxt ls n) : hsym ls n v = none := by
  unfold hsym
  rw [List.find?_eq_none]
  intro s hs hp
  simp only [List.mem_range] at hs
  simp only [Bool.and_eq_true, decide_eq_true_eq, beq_iff_eq] at hp
  obtain ⟨h0, h1, h2⟩ := hp
  have hg := syms_has hs
  rw [h1] at hg
  have hlt := (List.getElem?_eq_some_iff.1 hg).1
  have hc : code ls s = nxt ls n + (ls.take s).count n := by unfold code; rw [h1]
  omega
/-- Does a code of l bits begin with v, of n bits? -/
def meets (ls : List Nat) (n v l : Nat) : Bool := decide (0 < (syms ls l ls.length).length) && (decide (nxt ls l < (v + 1) * 2 ^ (l - n)) && decide (v * 2 ^ (l - n) < nxt ls l + (syms ls l ls.length).length))
theorem meets_true {ls : List Nat} {n v l : Nat} (hl : n < l) (h : meets ls n v l = true) : hmore ls n v = true := by
  simp only [meets, Bool.and_eq_true, decide_eq_true_eq] at h
  obtain ⟨h0, h1, h2⟩ := h
  have hp : 0 < 2 ^ (l - n) := Nat.two_pow_pos _
  obtain ⟨t, ht, htl⟩ : ∃ t, t < (syms ls l ls.length).length ∧ (nxt ls l + t) / 2 ^ (l - n) = v := by
    by_cases hc : v * 2 ^ (l - n) ≤ nxt ls l
    · exact ⟨0, h0, by rw [Nat.add_zero]; exact Nat.div_eq_of_lt_le hc h1⟩
    · refine ⟨v * 2 ^ (l - n) - nxt ls l, by omega, ?_⟩
      rw [show nxt ls l + (v * 2 ^ (l - n) - nxt ls l) = v * 2 ^ (l - n) by omega]
      exact Nat.mul_div_cancel _ hp
  obtain ⟨s, hs⟩ : ∃ s, (syms ls l ls.length)[t]? = some s := ⟨_, List.getElem?_eq_getElem ht⟩
  obtain ⟨k1, k2, k3⟩ := syms_code hs
  unfold hmore
  rw [List.any_eq_true]
  refine ⟨s, List.mem_range.2 k3, ?_⟩
  simp only [Bool.and_eq_true, decide_eq_true_eq, beq_iff_eq]
  rw [k1, k2]
  exact ⟨hl, htl⟩
theorem meets_false {ls : List Nat} {n v : Nat} {m : Nat} (hm : ∀ s, s < ls.length → lenAt ls s ≤ m) (h : ∀ l, n < l → l ≤ m → meets ls n v l = false) : hmore ls n v = false := by
  unfold hmore
  rw [List.any_eq_false]
  intro s hs hp
  simp only [List.mem_range] at hs
  simp only [Bool.and_eq_true, decide_eq_true_eq, beq_iff_eq] at hp
  obtain ⟨h1, h2⟩ := hp
  have hx := h (lenAt ls s) h1 (hm s hs)
  have hg := syms_has hs
  have hlt := (List.getElem?_eq_some_iff.1 hg).1
  have hc : code ls s = nxt ls (lenAt ls s) + (ls.take s).count (lenAt ls s) := rfl
  have hp : 0 < 2 ^ (lenAt ls s - n) := Nat.two_pow_pos _
  have hlo : v * 2 ^ (lenAt ls s - n) ≤ code ls s := by rw [← h2]; exact Nat.div_mul_le_self _ _
  have hhi : code ls s < (v + 1) * 2 ^ (lenAt ls s - n) := (Nat.div_lt_iff_lt_mul hp).1 (by rw [h2]; exact Nat.lt_succ_self v)
  have : meets ls n v (lenAt ls s) = true := by
    simp only [meets, Bool.and_eq_true, decide_eq_true_eq]
    exact ⟨by omega, by omega, by omega⟩
  rw [this] at hx
  cases hx
end Go.Proofs.YtolkoidbkaidkaaGreat.huf
/-
  Bits as lists, further: what is dropped and taken.
-/
namespace Go.Proofs.YtolkoidbkaidkaaGreat.bl
open Go Go.Proofs.YtolkoidbkaidkaaGreat.bm

theorem bval_split (l : List Bool) (k : Nat) (h : k ≤ l.length) : bval l = bval (l.take k) + 2 ^ k * bval (l.drop k) := by
  have h1 := bval_append (l.take k) (l.drop k)
  rw [List.take_append_drop, List.length_take, Nat.min_eq_left h] at h1
  exact h1
theorem bval_take_lt (l : List Bool) (k : Nat) : bval (l.take k) < 2 ^ k := by
  have h1 := bval_lt (l.take k)
  have h2 : 2 ^ (l.take k).length ≤ 2 ^ k := Nat.pow_le_pow_right (by decide) (by rw [List.length_take]; omega)
  omega
theorem bval_drop (l : List Bool) (k : Nat) (h : k ≤ l.length) : bval l / 2 ^ k = bval (l.drop k) := by
  rw [bval_split l k h, Nat.add_mul_div_left _ _ (Nat.two_pow_pos k), Nat.div_eq_of_lt (bval_take_lt l k), Nat.zero_add]
theorem bval_take (l : List Bool) (k : Nat) (h : k ≤ l.length) : bval l % 2 ^ k = bval (l.take k) := by
  rw [bval_split l k h, Nat.add_mul_mod_self_left, Nat.mod_eq_of_lt (bval_take_lt l k)]
/-- n bits from a place on, as a number. -/
theorem num_bits (bs : List UInt8) (a n : Nat) (h : a + n ≤ 8 * bs.length) : num bs / 2 ^ a % 2 ^ n = bval (((bytesBits bs).drop a).take n) := by
  rw [← bval_bytes, bval_drop _ _ (by rw [bytesBits_length]; omega), bval_take _ _ (by rw [List.length_drop, bytesBits_length]; omega)]
/-- Whole bytes from a place on. -/
theorem bytes_drop (bs : List UInt8) (q n : Nat) : bytesBits ((bs.drop q).take n) = ((bytesBits bs).drop (8 * q)).take (8 * n) := by
  have hd : ∀ (q : Nat) (bs : List UInt8), bytesBits (bs.drop q) = (bytesBits bs).drop (8 * q) := fun q => by
    induction q with
    | zero => intro bs; rfl
    | succ q ih =>
      intro bs
      cases bs with
      | nil => simp [bytesBits]
      | cons c t =>
        have e : (lsb 8 c.toNat ++ bytesBits t).drop 8 = bytesBits t := List.drop_left' (lsb_length 8 c.toNat)
        rw [List.drop_succ_cons, ih, bytesBits_cons, show 8 * (q + 1) = 8 + 8 * q from by omega, ← List.drop_drop, e]
  have ht : ∀ (n : Nat) (bs : List UInt8), bytesBits (bs.take n) = (bytesBits bs).take (8 * n) := fun n => by
    induction n with
    | zero => intro bs; simp [bytesBits]
    | succ n ih =>
      intro bs
      cases bs with
      | nil => simp [bytesBits]
      | cons c t =>
        rw [List.take_succ_cons, bytesBits_cons, bytesBits_cons, ih, show 8 * (n + 1) = (lsb 8 c.toNat).length + 8 * n from by rw [lsb_length]; omega, List.take_length_add_append]
  rw [ht, hd]
end Go.Proofs.YtolkoidbkaidkaaGreat.bl
/-
  inflate by mirrors: what a row of blocks makes, from bits that lie from a place on (plain; no program).
  Errors as the document has them: 3 form, 4 torn, 5 big.
-/
namespace Go.Proofs.YtolkoidbkaidkaaGreat.inf
open Go Go.Proofs.YtolkoidbkaidkaaGreat.bm Go.Proofs.YtolkoidbkaidkaaGreat.bl Go.Proofs.YtolkoidbkaidkaaGreat.huf

def itake (bs : List UInt8) (a n : Nat) : Except Nat (Nat × Nat) :=
  if a + n ≤ 8 * bs.length then .ok (bval (((bytesBits bs).drop a).take n), a + n) else .error 4
def iput (most : Nat) (out : List UInt8) (c : UInt8) : Except Nat (List UInt8) :=
  if most ≤ out.length then .error 5 else .ok (out ++ [c])
def isym (bs : List UInt8) (ls : List Nat) (a : Nat) : Except Nat (Nat × Nat) :=
  if (hread ls 15 0 0 ((bytesBits bs).drop a)).2.2 = 0 then .ok ((hread ls 15 0 0 ((bytesBits bs).drop a)).1, a + (hread ls 15 0 0 ((bytesBits bs).drop a)).2.1)
  else .error (hread ls 15 0 0 ((bytesBits bs).drop a)).2.2
def byteAt (bs : List UInt8) (i : Nat) : Nat := (bs[i]?.getD 0).toNat
/-- So many bytes as they are. -/
def ibytes (bs : List UInt8) (most : Nat) : Nat → List UInt8 → Nat → Except Nat (List UInt8 × Nat)
  | 0, out, q => .ok (out, 8 * q)
  | n + 1, out, q => if q < bs.length then
      match iput most out (bs[q]?.getD 0) with
      | .error e => .error e
      | .ok o => ibytes bs most n o (q + 1)
    else .error 4
def istored (bs : List UInt8) (most : Nat) (out : List UInt8) (a : Nat) : Except Nat (List UInt8 × Nat) :=
  if (a + 7) / 8 + 4 ≤ bs.length then
    if byteAt bs ((a + 7) / 8) + byteAt bs ((a + 7) / 8 + 2) = 255 ∧ byteAt bs ((a + 7) / 8 + 1) + byteAt bs ((a + 7) / 8 + 3) = 255 then
      ibytes bs most (byteAt bs ((a + 7) / 8) + 256 * byteAt bs ((a + 7) / 8 + 1)) out ((a + 7) / 8 + 4)
    else .error 3
  else .error 4
def ilength (bs : List UInt8) (s a : Nat) : Except Nat (Nat × Nat) :=
  if s < 265 then .ok (s - 254, a) else if s = 285 then .ok (258, a) else
    match itake bs a ((s - 261) / 4) with
    | .error e => .error e
    | .ok (v, a1) => .ok (3 + (4 + (s - 265) % 4) * 2 ^ ((s - 261) / 4) + v, a1)
def idist (bs : List UInt8) (s a : Nat) : Except Nat (Nat × Nat) :=
  if s < 4 then .ok (s + 1, a) else
    match itake bs a ((s - 2) / 2) with
    | .error e => .error e
    | .ok (v, a1) => .ok (1 + (2 + s % 2) * 2 ^ ((s - 2) / 2) + v, a1)
def icopy (most back : Nat) : Nat → List UInt8 → Except Nat (List UInt8)
  | 0, out => .ok out
  | n + 1, out => match iput most out (out[out.length - back]?.getD 0) with
    | .error e => .error e
    | .ok o => icopy most back n o
def imatch (bs : List UInt8) (most : Nat) (dl : List Nat) (s : Nat) (out : List UInt8) (a : Nat) : Except Nat (List UInt8 × Nat) :=
  match ilength bs s a with
  | .error e => .error e
  | .ok (n, a1) => match isym bs dl a1 with
    | .error e => .error e
    | .ok (d, a2) => if 30 ≤ d then .error 3 else match idist bs d a2 with
      | .error e => .error e
      | .ok (back, a3) => if out.length < back then .error 3 else match icopy most back n out with
        | .error e => .error e
        | .ok o => .ok (o, a3)
def isyms (bs : List UInt8) (most : Nat) (ll dl : List Nat) : Nat → List UInt8 → Nat → Except Nat (List UInt8 × Nat)
  | 0, _, _ => .error 0
  | f + 1, out, a => match isym bs ll a with
    | .error e => .error e
    | .ok (s, a1) => if s < 256 then
        match iput most out (UInt8.ofNat s) with
        | .error e => .error e
        | .ok o => isyms bs most ll dl f o a1
      else if s = 256 then .ok (out, a1) else if 286 ≤ s then .error 3 else
        match imatch bs most dl s out a1 with
        | .error e => .error e
        | .ok (o, a2) => isyms bs most ll dl f o a2
/-- Enough rounds for all that is there. -/
def fuel (bs : List UInt8) : Nat := 8 * bs.length + 1
def ifix (i : Nat) : Nat := if i < 144 then 8 else if i < 256 then 9 else if i < 280 then 7 else 8
def fixed (n : Nat) : List Nat := (List.range n).map ifix
def ifixed (bs : List UInt8) (most : Nat) (out : List UInt8) (a : Nat) : Except Nat (List UInt8 × Nat) := isyms bs most (fixed 288) (List.replicate 32 5) (fuel bs) out a
/-- How many lengths are not nought. -/
def some_ (ls : List Nat) : Nat := (ls.filter fun l => decide (0 < l)).length
def ones (ls : List Nat) : Bool := ls.all fun l => decide (l ≤ 1)
def iwhole (ls : List Nat) (few : Bool) : Bool := decide (weight ls ≤ 32768) && (decide (weight ls = 32768) || (few && (decide (some_ ls < 2) && ones ls)))
def places : List Nat := [16, 17, 18, 0, 8, 7, 9, 6, 10, 5, 11, 4, 12, 3, 13, 2, 14, 1, 15]
def ifirst (bs : List UInt8) : List Nat → List Nat → Nat → Except Nat (List Nat × Nat)
  | [], fs, a => .ok (fs, a)
  | i :: t, fs, a => match itake bs a 3 with
    | .error e => .error e
    | .ok (v, a1) => ifirst bs t (fs.set i v) a1
def least (s : Nat) : Nat := if s = 18 then 11 else 3
def wide (s : Nat) : Nat := if s = 17 then 3 else if s = 18 then 7 else 2
def ilens (bs : List UInt8) (ls : List Nat) (n : Nat) : Nat → List Nat → Nat → Except Nat (List Nat × Nat)
  | 0, _, _ => .error 0
  | f + 1, out, a => if n ≤ out.length then .ok (out, a) else match isym bs ls a with
    | .error e => .error e
    | .ok (s, a1) => if s < 16 then ilens bs ls n f (out ++ [s]) a1 else
      match itake bs a1 (wide s) with
      | .error e => .error e
      | .ok (v, a2) => if (s = 16 ∧ out = []) ∨ n - out.length < least s + v then .error 3 else
        ilens bs ls n f (out ++ List.replicate (least s + v) (if s = 16 then out.getLast?.getD 0 else 0)) a2
/-- A dynamic block behind its first code's lengths .. -/
def idyn3 (bs : List UInt8) (most : Nat) (out : List UInt8) (lit dist : Nat) (fs : List Nat) (a : Nat) : Except Nat (List UInt8 × Nat) :=
  match ilens bs fs (lit + 257 + dist + 1) (lit + 257 + dist + 1 + 1) [] a with
  | .error e => .error e
  | .ok (ls, a5) => if lenAt ls 256 = 0 then .error 3 else if iwhole (ls.take (lit + 257)) false = false then .error 3 else if iwhole (ls.drop (lit + 257)) true = false then .error 3 else
    isyms bs most (ls.take (lit + 257)) (ls.drop (lit + 257)) (fuel bs) out a5
/-- .. behind its three numbers .. -/
def idyn2 (bs : List UInt8) (most : Nat) (out : List UInt8) (lit dist n a : Nat) : Except Nat (List UInt8 × Nat) :=
  match ifirst bs (places.take (n + 4)) (List.replicate 19 0) a with
  | .error e => .error e
  | .ok (fs, a4) => if iwhole fs false = false then .error 3 else idyn3 bs most out lit dist fs a4
/-- .. whole. -/
def idyn (bs : List UInt8) (most : Nat) (out : List UInt8) (a : Nat) : Except Nat (List UInt8 × Nat) :=
  match itake bs a 5 with
  | .error e => .error e
  | .ok (lit, a1) => if 29 < lit then .error 3 else match itake bs a1 5 with
    | .error e => .error e
    | .ok (dist, a2) => if 29 < dist then .error 3 else match itake bs a2 4 with
      | .error e => .error e
      | .ok (n, a3) => idyn2 bs most out lit dist n a3
def iblock (bs : List UInt8) (most h : Nat) (out : List UInt8) (a : Nat) : Except Nat (List UInt8 × Nat) :=
  if h = 0 then istored bs most out a else if h = 1 then ifixed bs most out a else idyn bs most out a
def irawF (bs : List UInt8) (most : Nat) : Nat → List UInt8 → Nat → Except Nat (List UInt8 × Nat)
  | 0, _, _ => .error 0
  | f + 1, out, a => match itake bs a 1 with
    | .error e => .error e
    | .ok (last, a1) => match itake bs a1 2 with
      | .error e => .error e
      | .ok (h, a2) => if h = 3 then .error 3 else match iblock bs most h out a2 with
        | .error e => .error e
        | .ok (o, a3) => if last = 0 then irawF bs most f o a3 else .ok (o, a3)
def iraw (bs : List UInt8) (most : Nat) : Except Nat (List UInt8 × Nat) :=
  match irawF bs most (fuel bs) [] 0 with
  | .error e => .error e
  | .ok (o, a) => .ok (o, (a + 7) / 8)
end Go.Proofs.YtolkoidbkaidkaaGreat.inf
/-
  Lemmas on worlds, frames and slices that all proofs of this seat share; they speak of no program.
-/
namespace Go.Proofs.YtolkoidbkaidkaaGreat.lib
open Go Go.RowKit

/-- Only blocks of S may have turned; new blocks may have come. -/
structure Fr (S : List Nat) (w w' : World) : Prop where
  os : w'.os = w.os
  tape : w'.tape = w.tape
  output : w'.output = w.output
  size : w.heap.size ≤ w'.heap.size
  block : ∀ k, k < w.heap.size → k ∉ S → w'.heap[k]? = w.heap[k]?

theorem Fr.refl (S : List Nat) (w : World) : Fr S w w := ⟨rfl, rfl, rfl, Nat.le_refl _, fun _ _ _ => rfl⟩
theorem Fr.drewN (S : List Nat) (w : World) (n : Nat) : Fr S w (w.drewN n) := ⟨rfl, rfl, rfl, Nat.le_refl _, fun _ _ _ => rfl⟩
theorem Fr.drew1 (S : List Nat) (w : World) : Fr S w w.drew := ⟨rfl, rfl, rfl, Nat.le_refl _, fun _ _ _ => rfl⟩
/-- Two steps; the second may also write what is new behind the first. -/
theorem Fr.step {S T : List Nat} {a b c : World} (h : Fr S a b) (k : Fr T b c) (hT : ∀ x ∈ T, x ∈ S ∨ a.heap.size ≤ x) : Fr S a c :=
  ⟨k.os.trans h.os, k.tape.trans h.tape, k.output.trans h.output, Nat.le_trans h.size k.size, fun i hi hn => by
    rw [k.block i (Nat.lt_of_lt_of_le hi h.size) (fun hx => by rcases hT i hx with h1 | h1; exact hn h1; omega), h.block i hi hn]⟩
theorem Fr.trans {S : List Nat} {a b c : World} (h : Fr S a b) (k : Fr S b c) : Fr S a c := h.step k fun _ hx => .inl hx
theorem Fr.mono {S T : List Nat} {w w' : World} (h : Fr S w w') (hT : ∀ x ∈ S, x ∈ T ∨ w.heap.size ≤ x) : Fr T w w' :=
  (Fr.refl T w).step h hT
theorem Fr.alloc {S : List Nat} {a w : World} (h : Fr S a w) (o : Obj) : Fr S a (w.alloc o) :=
  h.step (T := []) ⟨rfl, rfl, rfl, by simp, fun k hk _ => Below.heap_alloc _ _ _ (by omega)⟩ (by simp)
theorem Fr.drew {S : List Nat} {a w : World} (h : Fr S a w) : Fr S a w.drew := h.step (Fr.drew1 [] w) (by simp)
theorem Fr.drewsN {S : List Nat} {a w : World} (h : Fr S a w) (n : Nat) : Fr S a (w.drewN n) := h.step (Fr.drewN [] w n) (by simp)
theorem Fr.setCell {S : List Nat} {a w : World} (h : Fr S a w) {p : Addr} (hp : p.block ∈ S ∨ a.heap.size ≤ p.block) (u : Value) : Fr S a (w.setCell p u) :=
  h.step (T := [p.block]) ⟨rfl, rfl, rfl, by simp [World.setCell], fun k hk hn => Below.heap_setCell _ _ _ _ (by simpa using hn)⟩ (by simpa using hp)
theorem Fr.grown {S : List Nat} {a w w' : World} {row : Option Nat} (h : Fr S a w) (hg : w.grownBy w' row) (hr : ∀ k, row = some k → k ∈ S ∨ a.heap.size ≤ k) : Fr S a w' :=
  h.step (T := row.toList) ⟨hg.os, hg.tape, hg.output, hg.size, fun k hk hn => hg.block k hk (fun e => hn (by simp [← e]))⟩ (fun x hx => hr x (by simpa using hx))
theorem Fr.below {S : List Nat} {w w' : World} {B : Nat} (h : Fr S w w') (hS : ∀ x ∈ S, B ≤ x) (hB : B ≤ w.heap.size) : Below B w w' :=
  ⟨h.os, h.tape, h.output, h.size, fun k hk => h.block k (by omega) (fun hx => by have := hS k hx; omega)⟩
theorem Fr.of_below {w w' : World} (h : Below w.heap.size w w') (S : List Nat) : Fr S w w' :=
  ⟨h.os, h.tape, h.output, h.size, fun k hk _ => h.block k hk⟩
theorem below_of_fr {w w' : World} (h : Fr [] w w') : Below w.heap.size w w' := h.below (by simp) (Nat.le_refl _)
theorem Fr.blk {S : List Nat} {w w' : World} (h : Fr S w w') {k : Nat} {o : Obj} (hk : w.heap[k]? = some o) (hn : k ∉ S) : w'.heap[k]? = some o := by
  rw [h.block k (lt_of_block hk) hn, hk]
theorem Fr.cell {S : List Nat} {w w' : World} (h : Fr S w w') {a : Addr} {v : Value} (hc : w.cell? a = some v) (hn : a.block ∉ S) : w'.cell? a = some v := by
  rw [World.cell?_of_block (w := w) (h.block a.block (World.block_lt_of_cell? w a hc) hn), hc]
theorem below_blk {B : Nat} {w w' : World} (h : Below B w w') {k : Nat} {o : Obj} (hk : w.heap[k]? = some o) (hB : k < B) : w'.heap[k]? = some o := by
  rw [h.block k hB, hk]

/-! ### A block that is known whole -/
theorem cell_of {w : World} {b : Nat} {c : Array Value} {t : TypeId} {f : Nat × Nat} (h : w.heap[b]? = some (.cells c t f)) (o : Nat) : w.cell? ⟨b, o, none⟩ = c[o]? := by
  simp [World.cell?, h]
theorem frozen_of {w : World} {b : Nat} {c : Array Value} {t : TypeId} (h : w.heap[b]? = some (.cells c t (0, 0))) (o : Nat) : w.frozen? ⟨b, o, none⟩ = false := by
  simp [World.frozen?, h]
theorem setCell_of {w : World} {b o : Nat} {c : Array Value} {t : TypeId} {f : Nat × Nat} (h : w.heap[b]? = some (.cells c t f)) (v : Value) :
    (w.setCell ⟨b, o, none⟩ v).heap[b]? = some (.cells (c.setIfInBounds o v) t f) := by
  have hlt := lt_of_block h
  have h' : w.heap[b] = .cells c t f := by simpa [Array.getElem?_eq_getElem hlt] using h
  show (w.heap.modify b _)[b]? = _
  rw [Array.getElem?_eq_getElem (by simpa using hlt), Array.getElem_modify_self, h']
  rfl
theorem setCell_other {w : World} {b b' o : Nat} (hne : b' ≠ b) (v : Value) : (w.setCell ⟨b, o, none⟩ v).heap[b']? = w.heap[b']? :=
  Below.heap_setCell w ⟨b, o, none⟩ v b' hne
theorem alloc_at (w : World) (o : Obj) : (w.alloc o).heap[w.heap.size]? = some o := heap_alloc_new w o
theorem alloc_old {w : World} {b : Nat} {x : Obj} (o : Obj) (h : w.heap[b]? = some x) : (w.alloc o).heap[b]? = some x := by
  rw [Below.heap_alloc w o b (lt_of_block h), h]

theorem grown_blk {w w' : World} {row : Option Nat} (h : w.grownBy w' row) {k : Nat} {o : Obj} (hk : w.heap[k]? = some o) (hn : row ≠ some k) : w'.heap[k]? = some o := by
  rw [h.block k (lt_of_block hk) (fun e => hn e.symm), hk]

/-! ### Slices that are read -/
def blk : Option Addr → List Nat
  | some a => [a.block]
  | none => []
/-- The address leads to these cells (nothing is asked where there are none). -/
def Cs (w : World) (ao : Option Addr) (vs : List Value) : Prop :=
  vs = [] ∨ ∃ g o, ao = some ⟨g, o, none⟩ ∧ ∀ j v, vs[j]? = some v → w.cell? ⟨g, o + j, none⟩ = some v
theorem Cs.nil (w : World) (ao : Option Addr) : Cs w ao [] := .inl rfl
theorem Cs.at {w : World} {ao : Option Addr} {vs : List Value} (h : Cs w ao vs) (hne : 0 < vs.length) : ∃ g o, ao = some ⟨g, o, none⟩ ∧ ∀ j v, vs[j]? = some v → w.cell? ⟨g, o + j, none⟩ = some v := by
  rcases h with rfl | h
  · simp at hne
  · exact h
theorem Cs.keep {w w' : World} {ao : Option Addr} {vs : List Value} (h : Cs w ao vs) (hk : ∀ a, ao = some a → w'.heap[a.block]? = w.heap[a.block]?) : Cs w' ao vs := by
  rcases h with h | ⟨g, o, rfl, h⟩
  · exact .inl h
  · refine .inr ⟨g, o, rfl, fun j v hv => ?_⟩
    rw [World.cell?_of_block (w := w) (a := ⟨g, o + j, none⟩) (hk ⟨g, o, none⟩ rfl), h j v hv]
theorem Cs.lt {w : World} {ao : Option Addr} {vs : List Value} (h : Cs w ao vs) (hne : vs ≠ []) : ∀ a, ao = some a → a.block < w.heap.size := by
  rcases h with h | ⟨g, o, rfl, h⟩
  · exact absurd h hne
  · intro a ha
    obtain rfl := Option.some.inj ha
    cases vs with
    | nil => exact absurd rfl hne
    | cons v vs => exact World.block_lt_of_cell? w _ (h 0 v rfl)
theorem Cs.fr {S : List Nat} {w w' : World} {ao : Option Addr} {vs : List Value} (h : Cs w ao vs) (hf : Fr S w w') (hn : ∀ x ∈ blk ao, x ∉ S) : Cs w' ao vs := by
  by_cases hne : vs = []
  · exact .inl hne
  · exact h.keep fun a ha => hf.block a.block (h.lt hne a ha) (hn _ (by simp [ha, blk]))
theorem Cs.below {B : Nat} {w w' : World} {ao : Option Addr} {vs : List Value} (h : Cs w ao vs) (hf : Below B w w') (hn : ∀ x ∈ blk ao, x < B) : Cs w' ao vs := by
  refine h.keep fun a ha => hf.block a.block (hn _ (by simp [ha, blk]))
theorem Cs.belowAll {w w' : World} {ao : Option Addr} {vs : List Value} (h : Cs w ao vs) (hf : Below w.heap.size w w') : Cs w' ao vs := by
  by_cases hne : vs = []
  · exact .inl hne
  · exact h.keep fun a ha => hf.block a.block (h.lt hne a ha)

/-! ### What the call owns (the kit's 'ownsRow') as cells to be read -/
theorem cs_of_owns {w : World} {base : Nat} {e : TypeId} {n : Nat} {xs : List Value} {ao : Option Addr} {len cap : Nat} (h : w.ownsRow base e 1 (.slice ao len cap) n xs) : Cs w ao xs := by
  rcases h.2 with ⟨h1, h2⟩ | ⟨g, cap', cur, h1, hb, hg, hn, hm, hs, ht⟩
  · left
    have := h.1
    rw [h2] at this
    exact List.eq_nil_of_length_eq_zero (by simpa using this)
  · simp only [Value.slice.injEq] at h1
    obtain ⟨rfl, rfl, rfl⟩ := h1
    refine .inr ⟨g, 0, rfl, fun j v hv => ?_⟩
    rw [cell_of hg, Nat.zero_add]
    rw [← ht, List.getElem?_take] at hv
    split at hv
    · simpa using hv
    · cases hv
theorem owns_shape {w : World} {base : Nat} {e : TypeId} {size : Nat} {v : Value} {n : Nat} {xs : List Value} (h : w.ownsRow base e size v n xs) :
    ∃ ao cap, v = .slice ao n cap ∧ n ≤ cap ∧ cap ≤ maxLen := by
  rcases h.2 with ⟨rfl, rfl⟩ | ⟨g, cap, cur, rfl, hb, hg, hn, hm, hs, ht⟩
  · exact ⟨none, 0, rfl, Nat.le_refl _, Nat.zero_le _⟩
  · exact ⟨_, cap, rfl, hn, hm⟩
theorem owns_form {w : World} {base : Nat} {e : TypeId} {size : Nat} {v : Value} {n : Nat} {xs : List Value} (h : w.ownsRow base e size v n xs) :
    ∃ ao cap, v = .slice ao n cap ∧ n ≤ cap ∧ cap ≤ maxLen ∧ (ao = none → cap = 0) := by
  rcases h.2 with ⟨rfl, rfl⟩ | ⟨g, cap, cur, rfl, hb, hg, hn, hm, hs, ht⟩
  · exact ⟨none, 0, rfl, Nat.le_refl _, Nat.zero_le _, fun _ => rfl⟩
  · exact ⟨_, cap, rfl, hn, hm, fun h => by cases h⟩
theorem ownsRow_rebase {w : World} {base base' : Nat} {e : TypeId} {size : Nat} {v : Value} {n : Nat} {xs : List Value} (h : w.ownsRow base e size v n xs) (hb : ∀ k, v.ownBlock = some k → base' ≤ k) : w.ownsRow base' e size v n xs := by
  obtain ⟨h1, h2⟩ := h
  refine ⟨h1, ?_⟩
  rcases h2 with h2 | ⟨g, cap, cur, rfl, _, r⟩
  · exact .inl h2
  · exact .inr ⟨g, cap, cur, rfl, hb g rfl, r⟩
theorem ownsRow_fr {S : List Nat} {w w' : World} {base : Nat} {e : TypeId} {size : Nat} {v : Value} {n : Nat} {xs : List Value} (h : w.ownsRow base e size v n xs) (hf : Fr S w w') (hn : ∀ k, v.ownBlock = some k → k ∉ S) : w'.ownsRow base e size v n xs := by
  obtain ⟨h1, h2⟩ := h
  refine ⟨h1, ?_⟩
  rcases h2 with h2 | ⟨g, cap, cur, rfl, hb, hg, r⟩
  · exact .inl h2
  · exact .inr ⟨g, cap, cur, rfl, hb, hf.blk hg (hn g rfl), r⟩

/-! ### Bytes -/
def bv (b : UInt8) : Value := .int .u8 b.toNat
theorem ret_eq {u v : Value} (h : u = v) : Ending.returned u = Ending.returned v := by rw [h]
theorem int_eq {k : IntKind} {a b : Int} (h : a = b) : Value.int k a = Value.int k b := by rw [h]
theorem bool_eq {a b : Bool} (h : a = b) : Value.bool a = Value.bool b := by rw [h]

theorem own_blk (ao : Option Addr) (n cap : Nat) : (Value.slice ao n cap).ownBlock.toList = blk ao := by
  cases ao <;> rfl
theorem blk_own {ao : Option Addr} {n cap : Nat} {x : Nat} (h : x ∈ blk ao) : (Value.slice ao n cap).ownBlock = some x := by
  cases ao with
  | none => simp [blk] at h
  | some a => simp [blk] at h; simp [Value.ownBlock, h]
theorem owns_lt {w : World} {base : Nat} {e : TypeId} {size : Nat} {v : Value} {n : Nat} {xs : List Value} (h : w.ownsRow base e size v n xs) {k : Nat} (hk : v.ownBlock = some k) : k < w.heap.size := (h.lt k hk).2

/-! ### Slices that a call made and that nobody else holds; they may be cut at their end -/
def Fresh (w : World) (B : Nat) (e : TypeId) (ao : Option Addr) (xs : List Value) : Prop :=
  xs = [] ∨ ∃ g cur, ao = some ⟨g, 0, none⟩ ∧ B ≤ g ∧ w.heap[g]? = some (.cells cur e (0, 0)) ∧ cur.toList.take xs.length = xs
theorem Fresh.cs {w : World} {B : Nat} {e : TypeId} {ao : Option Addr} {xs : List Value} (h : Fresh w B e ao xs) : Cs w ao xs := by
  rcases h with h | ⟨g, cur, rfl, hB, hg, ht⟩
  · exact .inl h
  · refine .inr ⟨g, 0, rfl, fun j v hv => ?_⟩
    rw [Nat.zero_add, cell_of hg]
    rw [← ht, List.getElem?_take] at hv
    split at hv
    · simpa using hv
    · cases hv
theorem Fresh.mono {w : World} {B B' : Nat} {e : TypeId} {ao : Option Addr} {xs : List Value} (h : Fresh w B e ao xs) (hB : B' ≤ B) : Fresh w B' e ao xs := by
  rcases h with h | ⟨g, cur, rfl, hg, r⟩
  · exact .inl h
  · exact .inr ⟨g, cur, rfl, Nat.le_trans hB hg, r⟩
theorem Fresh.fr {S : List Nat} {w w' : World} {B : Nat} {e : TypeId} {ao : Option Addr} {xs : List Value} (h : Fresh w B e ao xs) (hf : Fr S w w') (hn : ∀ a, ao = some a → a.block ∉ S) : Fresh w' B e ao xs := by
  rcases h with h | ⟨g, cur, rfl, hB, hg, ht⟩
  · exact .inl h
  · exact .inr ⟨g, cur, rfl, hB, hf.blk hg (hn _ rfl), ht⟩
theorem fresh_of_owns {w : World} {base B : Nat} {e : TypeId} {n len cap : Nat} {xs : List Value} {ao : Option Addr} (h : w.ownsRow base e 1 (.slice ao len cap) n xs) (hB : ∀ k, (Value.slice ao len cap).ownBlock = some k → B ≤ k) : Fresh w B e ao xs := by
  obtain ⟨h1, h2⟩ := h
  rcases h2 with ⟨h2, rfl⟩ | ⟨g, cap', cur, h2, hb, hg, hn, hm, hs, ht⟩
  · exact .inl (List.eq_nil_of_length_eq_zero (by simpa using h1))
  · simp only [Value.slice.injEq] at h2
    obtain ⟨rfl, rfl, rfl⟩ := h2
    exact .inr ⟨g, cur, rfl, hB g rfl, hg, by rw [h1]; exact ht⟩
theorem fresh_of_cells {w : World} {e : TypeId} {n cap : Nat} {xs : List Value} {ao : Option Addr} {B : Nat} (h : w.ownsRow 0 e 1 (.slice ao n cap) n xs) (hB : ∀ x ∈ blk ao, B ≤ x) : Fresh w B e ao xs :=
  fresh_of_owns h fun k hk => hB k (by rw [← own_blk ao n cap, hk]; simp)
/-- The address of s[lo:]. -/
def cutAt (ao : Option Addr) (cap lo : Nat) : Option Addr := if cap = lo then ao else ao.map (·.add lo)
theorem cutAt_none {ao : Option Addr} {cap lo : Nat} (h : cutAt ao cap lo = none) : ao = none := by
  unfold cutAt at h
  split at h
  · exact h
  · simpa using h
theorem cutAt_blk (ao : Option Addr) (cap lo : Nat) : blk (cutAt ao cap lo) = blk ao := by
  unfold cutAt
  split
  · rfl
  · cases ao with
    | none => rfl
    | some a => simp only [Option.map_some, blk, Addr.add]; split <;> rfl
theorem Cs.cut {w : World} {ao : Option Addr} {vs : List Value} (h : Cs w ao vs) (cap lo hi : Nat) (hl : lo ≤ hi) (hh : hi ≤ vs.length) (hc : vs.length ≤ cap) : Cs w (cutAt ao cap lo) ((vs.drop lo).take (hi - lo)) := by
  by_cases he : cap = lo
  · left
    have : hi - lo = 0 := by omega
    rw [this]
    rfl
  · rcases h with rfl | ⟨g, o, rfl, h⟩
    · left; simp
    · right
      refine ⟨g, o + lo, ?_, fun j v hv => ?_⟩
      · unfold cutAt
        rw [if_neg he]
        simp only [Option.map_some, Addr.add]
        split <;> simp_all
      · rw [List.getElem?_take] at hv
        split at hv
        · rw [Nat.add_assoc]
          exact h _ _ (by simpa using hv)
        · cases hv
end Go.Proofs.YtolkoidbkaidkaaGreat.lib
/-
  What Go's operations on bits come to, as plain arithmetic.
-/
namespace Go.Proofs.YtolkoidbkaidkaaGreat.bm
open Go

theorem pow_le (a b : Nat) (h : a ≤ b) : 2 ^ a ≤ 2 ^ b := Nat.pow_le_pow_right (by omega) h
theorem or_add (v m k : Nat) (hv : v < 2 ^ k) : v ||| m * 2 ^ k = v + 2 ^ k * m := by
  rw [Nat.or_comm, Nat.mul_comm m, ← Nat.two_pow_add_eq_or_of_lt hv, Nat.add_comm]
theorem cast_pow_sub (q : Nat) : ((2 : Int) ^ q - 1) = ((2 ^ q - 1 : Nat) : Int) := by
  have := Nat.two_pow_pos q
  rw [Int.natCast_sub (by omega), Int.natCast_pow]
  rfl
theorem cast_pow (q : Nat) : ((2 : Int) ^ q) = ((2 ^ q : Nat) : Int) := by
  rw [Int.natCast_pow]; rfl
theorem p32 : 2 ^ 32 = 4294967296 := by decide
theorem p64 : 2 ^ 64 = 18446744073709551616 := by decide
/-- 'x & (1<<q - 1)' on a uint32. -/
theorem u32_mask (x q : Nat) (hx : x < 4294967296) (hq : q ≤ 32) : bits .and .u32 (x : Int) (((2 : Int) ^ q - 1) % 4294967296) = ((x % 2 ^ q : Nat) : Int) := by
  have h1 := pow_le q 32 hq
  rw [p32] at h1
  have h2 := Nat.two_pow_pos q
  rw [cast_pow_sub, show ((2 ^ q - 1 : Nat) : Int) % 4294967296 = ((2 ^ q - 1 : Nat) : Int) from by omega,
    u32_and_nat x (2 ^ q - 1) hx (by omega), Nat.and_two_pow_sub_one_eq_mod]
theorem mul_lt {v m k q : Nat} (hm : m < 2 ^ q) (hkq : k + q ≤ 32) : m * 2 ^ k < 4294967296 := by
  have h1 := pow_le (k + q) 32 hkq
  rw [p32, Nat.pow_add] at h1
  have h2 : m * 2 ^ k < 2 ^ q * 2 ^ k := Nat.mul_lt_mul_of_pos_right hm (Nat.two_pow_pos k)
  rw [Nat.mul_comm (2 ^ q)] at h2
  omega
theorem u32_put (v m k q : Nat) (hv : v < 2 ^ k) (hm : m < 2 ^ q) (hkq : k + q ≤ 32) : bits .or .u32 (v : Int) ((m : Int) * 2 ^ k % 4294967296) = ((v + 2 ^ k * m : Nat) : Int) := by
  have h3 := mul_lt (v := v) hm hkq
  have hv2 : v < 4294967296 := by
    have := pow_le k 32 (by omega)
    rw [p32] at this
    omega
  rw [cast_pow, ← Int.natCast_mul, show ((m * 2 ^ k : Nat) : Int) % 4294967296 = ((m * 2 ^ k : Nat) : Int) from by omega,
    u32_or_nat v (m * 2 ^ k) hv2 h3, or_add v m k hv]
/-- A round of Take. -/
theorem take_step (bs : List UInt8) (a k q vn bn : Nat) (hlt : (a + k) / 8 < bs.length) (hq : (a + k) % 8 + q ≤ 8) (hkq : k + q ≤ 32)
    (hv : num bs / 2 ^ a % 2 ^ k = vn) (hb : (bs.getD ((a + k) / 8) 0).toNat = bn) :
    bits .or .u32 (vn : Int) (bits .and .u32 ((bn : Int) / 2 ^ ((a + k) % 8)) (((2 : Int) ^ q - 1) % 4294967296) * 2 ^ k % 4294967296) = ((num bs / 2 ^ a % 2 ^ (k + q) : Nat) : Int) := by
  have hbn : bn < 256 := by rw [← hb]; exact UInt8.toNat_lt _
  have hbd : bn / 2 ^ ((a + k) % 8) < 4294967296 := Nat.lt_of_le_of_lt (Nat.div_le_self _ _) (by omega)
  have hc := chunk bs (a + k) q hlt hq
  rw [hb] at hc
  rw [more, hv, hc, cast_pow ((a + k) % 8), ← Int.natCast_ediv, u32_mask _ q hbd (by omega),
    u32_put vn _ k q (by rw [← hv]; exact Nat.mod_lt _ (Nat.two_pow_pos _)) (Nat.mod_lt _ (Nat.two_pow_pos _)) hkq]
/-- 'x & (1<<m - 1)' on a uint64. -/
theorem u64_mask (x m : Nat) (hx : x < 18446744073709551616) (hm : m ≤ 32) : bits .and .u64 (x : Int) (IntKind.u64.wrap (IntKind.u64.wrap ((2 : Int) ^ m) - 1)) = ((x % 2 ^ m : Nat) : Int) := by
  have h1 := pow_le m 32 hm
  rw [p32] at h1
  have h2 := Nat.two_pow_pos m
  have e : IntKind.u64.wrap (IntKind.u64.wrap ((2 : Int) ^ m) - 1) = ((2 ^ m - 1 : Nat) : Int) := by
    rw [IntKind.wrap_u64, IntKind.wrap_u64, cast_pow]
    omega
  rw [e, u64_and_nat x (2 ^ m - 1) hx (by omega), Nat.and_two_pow_sub_one_eq_mod]
theorem word_lt (M L : Nat) (hM : M < 2 ^ L) : M / 2 ^ (8 * (L / 8)) < 2 ^ (L % 8) := by
  rw [Nat.div_lt_iff_lt_mul (Nat.two_pow_pos _), ← Nat.pow_add]
  rwa [show L % 8 + 8 * (L / 8) = L from by omega]
theorem put_div (M L y : Nat) : (M + 2 ^ L * y) / 2 ^ (8 * (L / 8)) = M / 2 ^ (8 * (L / 8)) + 2 ^ (L % 8) * y := by
  have e : 2 ^ L = 2 ^ (8 * (L / 8)) * 2 ^ (L % 8) := by rw [← Nat.pow_add, Nat.div_add_mod]
  rw [e, Nat.mul_assoc, Nat.add_mul_div_left _ _ (Nat.two_pow_pos _)]
theorem put_lt (M L x n : Nat) (hM : M < 2 ^ L) : M + 2 ^ L * (x % 2 ^ n) < 2 ^ (L + n) := by
  have h := Nat.mod_lt x (Nat.two_pow_pos n)
  rw [Nat.pow_add]
  calc M + 2 ^ L * (x % 2 ^ n) < 2 ^ L + 2 ^ L * (x % 2 ^ n) := by omega
    _ = 2 ^ L * (x % 2 ^ n + 1) := by rw [Nat.mul_add, Nat.mul_one, Nat.add_comm]
    _ ≤ 2 ^ L * 2 ^ n := Nat.mul_le_mul_left _ h
/-- The word behind 'w.word |= uint64(v) & (1<<n - 1) << w.n'. -/
theorem put_word (M L x m : Nat) (hM : M < 2 ^ L) (hx : x < 4294967296) (hm : m ≤ 32) :
    bits .or .u64 ((M / 2 ^ (8 * (L / 8)) : Nat) : Int) (IntKind.u64.wrap (bits .and .u64 (x : Int) (IntKind.u64.wrap (IntKind.u64.wrap ((2 : Int) ^ m) - 1)) * 2 ^ (L % 8))) =
      (((M + 2 ^ L * (x % 2 ^ m)) / 2 ^ (8 * (L / 8)) : Nat) : Int) := by
  have hw := word_lt M L hM
  have hy : x % 2 ^ m < 2 ^ m := Nat.mod_lt _ (Nat.two_pow_pos m)
  have hym : x % 2 ^ m < 4294967296 := Nat.lt_of_le_of_lt (Nat.mod_le _ _) hx
  have h8 := pow_le (L % 8) 8 (by omega)
  have hp : x % 2 ^ m * 2 ^ (L % 8) ≤ 4294967296 * 256 := Nat.mul_le_mul (by omega) h8
  rw [u64_mask x m (by omega) hm, put_div, cast_pow, ← Int.natCast_mul, IntKind.wrap_u64,
    show ((x % 2 ^ m * 2 ^ (L % 8) : Nat) : Int) % 18446744073709551616 = ((x % 2 ^ m * 2 ^ (L % 8) : Nat) : Int) from by omega,
    u64_or_nat _ _ (by omega) (by omega), or_add _ _ _ hw]
/-- 'x & (2^k - 1)' on an int. -/
theorem i64_mask (x : Int) (k : Nat) (hk : k ≤ 62) : bits .and .i64 x ((2 ^ k - 1 : Nat) : Int) = x % 2 ^ k := by
  have h1 := pow_le k 62 hk
  have h2 := Nat.two_pow_pos k
  have e62 : 2 ^ 62 = 4611686018427387904 := by decide
  rw [e62] at h1
  have hx : (BitVec.ofInt 64 x).toNat = (x % 18446744073709551616).toNat := by
    rw [BitVec.toNat_ofInt]; rfl
  have hm : (BitVec.ofInt 64 ((2 ^ k - 1 : Nat) : Int)).toNat = 2 ^ k - 1 := by
    rw [BitVec.ofInt_natCast, BitVec.toNat_ofNat]; exact Nat.mod_eq_of_lt (by omega)
  show IntKind.i64.wrap ((BitVec.ofInt 64 x &&& BitVec.ofInt 64 ((2 ^ k - 1 : Nat) : Int)).toNat : Int) = _
  rw [BitVec.toNat_and, hx, hm, Nat.and_two_pow_sub_one_eq_mod]
  have h3 : (x % 18446744073709551616).toNat % 2 ^ k < 2 ^ k := Nat.mod_lt _ h2
  have h4 : (0 : Int) ≤ x % 18446744073709551616 := Int.emod_nonneg _ (by decide)
  have h5 : (((x % 18446744073709551616).toNat % 2 ^ k : Nat) : Int) = x % 2 ^ k := by
    rw [Int.natCast_emod, Int.toNat_of_nonneg h4, Int.natCast_pow]
    have hd : ((2 ^ k : Nat) : Int) ∣ 18446744073709551616 := by
      refine ⟨((2 ^ (64 - k) : Nat) : Int), ?_⟩
      rw [← Int.natCast_mul, ← Nat.pow_add, show k + (64 - k) = 64 from by omega]
      decide
    rw [Int.natCast_pow] at hd
    exact Int.emod_emod_of_dvd x hd
  rw [h5, IntKind.wrap_i64]
  have h6 : (0 : Int) ≤ x % 2 ^ k := Int.emod_nonneg _ (by rw [cast_pow]; omega)
  have h7 : x % 2 ^ k < 2 ^ k := Int.emod_lt_of_pos _ (by rw [cast_pow]; omega)
  rw [cast_pow] at h7
  rw [cast_pow] at h6 ⊢
  omega
theorem and31 (x : Int) : bits .and .i64 x 31 = x % 32 := i64_mask x 5 (by decide)
theorem and7 (x : Int) : bits .and .i64 x 7 = x % 8 := i64_mask x 3 (by decide)
/-- 't<<1 | v>>i&1'. -/
theorem turn_step (v k : Nat) (hv : v < 4294967296) (hk : k < 32) : bits .or .u32 ((turned v k : Int) * 2 % 4294967296) (bits .and .u32 ((v : Int) / 2 ^ k) 1) = (turned v (k + 1) : Int) := by
  have h1 := turned_lt v k
  have h2 := pow_le k 31 (by omega)
  have e31 : 2 ^ 31 = 2147483648 := by decide
  rw [e31] at h2
  have h3 : v / 2 ^ k < 4294967296 := Nat.lt_of_le_of_lt (Nat.div_le_self _ _) hv
  have e1 : bits .and .u32 ((v : Int) / 2 ^ k) 1 = ((v / 2 ^ k % 2 : Nat) : Int) := by
    have h := u32_and_nat (v / 2 ^ k) 1 h3 (by decide)
    rw [Nat.and_one_is_mod] at h
    rw [cast_pow, ← Int.natCast_ediv]
    exact h
  have h4 : v / 2 ^ k % 2 < 2 ^ 1 := by omega
  rw [e1, show (turned v k : Int) * 2 % 4294967296 = ((turned v k * 2 : Nat) : Int) from by omega, u32_or_nat _ _ (by omega) (by omega), turned]
  have h5 := or_add (v / 2 ^ k % 2) (turned v k) 1 h4
  rw [Nat.or_comm, show turned v k * 2 = turned v k * 2 ^ 1 from rfl, h5]
  omega
end Go.Proofs.YtolkoidbkaidkaaGreat.bm
/-
  append as one law: onto a slice that is owned (nil or not), of cells that are read (none or some).
-/
namespace Go.Proofs.YtolkoidbkaidkaaGreat.lib
open Go Go.RowKit

/-- What the program's tables say of a slice type and its element type. -/
structure SliceTy (P : Program) (t e : TypeId) (z : Value) (size bytes : Nat) : Prop where
  under : P.underlying t = some (.slice e)
  info : ∃ i, P.info? e = some i ∧ i.zero = some z ∧ i.size = size ∧ i.bytes = bytes
  cells : z.cells.size = size
  pos : 0 < size
theorem SliceTy.of {P : Program} {t e : TypeId} {z : Value} {size bytes : Nat} (h : P.underlying t = some (.slice e))
    (hi : (P.info? e).map (fun i => (i.zero, i.size, i.bytes)) = some (some z, size, bytes)) (hz : z.cells.size = size) (hp : 0 < size) : SliceTy P t e z size bytes := by
  obtain ⟨i, h1, h2, h3, h4⟩ := info_parts hi
  exact ⟨h, ⟨i, h1, h2, h3, h4⟩, hz, hp⟩

/-- What an append leaves: the slice (ao, len, cap) owns the cells xs; blocks of S alone may have turned. -/
structure Appended (w w' : World) (e : TypeId) (size : Nat) (S : List Nat) (ao : Option Addr) (len cap : Nat) (xs : List Value) : Prop where
  own : w'.ownsRow 0 e size (.slice ao len cap) len xs
  fr : Fr S w w'
  at_ : ∀ x ∈ blk ao, x ∈ S ∨ x = w.heap.size
  le : len ≤ cap
  max : cap ≤ maxLen
  nil : ao = none → cap = 0
theorem Appended.lt {w w' : World} {e : TypeId} {size : Nat} {S : List Nat} {ao : Option Addr} {len cap : Nat} {xs : List Value} (h : Appended w w' e size S ao len cap xs) : ∀ x ∈ blk ao, x < w'.heap.size :=
  fun _ hx => owns_lt h.own (blk_own hx)

section
variable {P : Program} {w : World} {t e : TypeId} {z : Value} {size bytes : Nat}
theorem addr_add (g o j : Nat) : (⟨g, o, none⟩ : Addr).add j = ⟨g, o + j, none⟩ := by unfold Addr.add; split <;> simp_all

theorem run_append (T : SliceTy P t e z size bytes) (ty : TypeId) (v : Value) (n : Nat) (xs : List Value) (S : List Nat) (hS : v.ownBlock.toList = S) (hown : w.ownsRow 0 e size v n xs)
    (ao : Option Addr) (m c : Nat) (news : List Value) (hmc : m ≤ c) (hnone : ao = none → c = 0) (hc : Cs w ao news) (hl : news.length = m * size) (h1 : ∀ u ∈ news, u.oneCell' = true)
    (hb : (n + m) * bytes ≤ 140737488355328) (h63 : n + m ≤ maxLen) :
    ∃ ao' cap' w', (Builtin.append_ #[t, t] ty #[v, .slice ao m c]).run P w = .ok (.slice ao' (n + m) cap') w' ∧ Appended w w' e size S ao' (n + m) cap' (xs ++ news) := by
  obtain ⟨hu, ⟨i, hi, hz, hs, hby⟩, hcz, hp⟩ := T
  subst hS
  have key : ∀ v' w', w'.ownsRow 0 e size v' (n + m) (xs ++ news) → w.grownBy w' v.ownBlock → (v'.ownBlock = v.ownBlock ∨ v'.ownBlock = some w.heap.size) → ∃ ao' cap', v' = .slice ao' (n + m) cap' ∧ Appended w w' e size v.ownBlock.toList ao' (n + m) cap' (xs ++ news) := by
    intro v' w' h2 h3 h4
    obtain ⟨ao', cap', rfl, h5, h6⟩ := owns_shape h2
    refine ⟨ao', cap', rfl, h2, (Fr.refl _ w).grown h3 (fun k hk => .inl (by simp [hk])), ?_, h5, h6, ?_⟩
    · intro x hx
      have hx' := blk_own (n := n + m) (cap := cap') hx
      rcases h4 with h | h
      · left; rw [← h, hx']; simp
      · right; rw [h] at hx'; exact (Option.some.inj hx').symm
    · rintro rfl
      rcases h2.2 with ⟨h, _⟩ | ⟨g, cap, cur, h, _⟩
      · simp only [Value.slice.injEq] at h; exact h.2.2
      · simp at h
  cases ao with
  | none =>
    have hc0 := hnone rfl
    obtain rfl : m = 0 := by omega
    subst hc0
    have hn : news = [] := List.eq_nil_of_length_eq_zero (by simpa using hl)
    subst hn
    have hr := run_append_owned_none (P := P) (w := w) 0 t ty e i size hu hi v n xs hown
    obtain ⟨ao', cap', rfl, hA⟩ := key v w (by simpa using hown) ⟨rfl, rfl, rfl, Nat.le_refl _, fun _ _ _ => rfl⟩ (.inl rfl)
    exact ⟨ao', cap', w, hr, hA⟩
  | some a =>
    have hcells : ∀ j u, news[j]? = some u → w.cell? (a.add j) = some u := by
      intro j u hj
      rcases hc with rfl | ⟨g, o, ha, hc⟩
      · simp at hj
      · obtain rfl := Option.some.inj ha
        rw [addr_add]
        exact hc j u hj
    obtain ⟨v', w', hr, h2, h3, h4, h5⟩ := run_append_own_at (P := P) w 0 t ty e i z size bytes hu hi hz hs hby hcz hp v n xs hown a m c news hl hcells h1 h63 hb (Nat.zero_le _)
    obtain ⟨ao', cap', rfl, hA⟩ := key v' w' h2 h3 h5
    exact ⟨ao', cap', w', hr, hA⟩

theorem wp_append (T : SliceTy P t e z size bytes) {o : Oper} {a : Act} {K : Act → World → Prop} {Q : Exit → Act → World → Prop} (s x : Operand)
    (ho : o.op = .call { callee := .builtin .append, args := #[s, x], argTypes := #[t, t] })
    (v : Value) (n : Nat) (xs : List Value) (S : List Nat) (hs : a.eval s = v) (hS : v.ownBlock.toList = S) (hown : w.ownsRow 0 e size v n xs)
    (ao : Option Addr) (m c : Nat) (news : List Value) (hx : a.eval x = .slice ao m c) (hmc : m ≤ c) (hnone : ao = none → c = 0) (hc : Cs w ao news) (hl : news.length = m * size) (h1 : ∀ u ∈ news, u.oneCell' = true)
    (hb : (n + m) * bytes ≤ 140737488355328) (h63 : n + m ≤ maxLen)
    (h : ∀ ao' cap' w', Appended w w' e size S ao' (n + m) cap' (xs ++ news) → K (a.put o.dst (.slice ao' (n + m) cap')) w') : o.wp P a w K Q := by
  obtain ⟨ao', cap', w', hr, h2⟩ := run_append (P := P) T o.type v n xs S hS hown ao m c news hmc hnone hc hl h1 hb h63
  unfold Oper.wp execOp
  simp only [ho, resolve, invoke, builtin, Sem.run_bind, Sem.run_pure, Result.andThen_ok, List.map_toArray, List.map_cons, List.map_nil, hs, hx, hr]
  exact h ao' cap' w' h2
/-- At a plain region's list. -/
theorem wpList_append (T : SliceTy P t e z size bytes) {ops : Array Oper} {rest : List Oper} {o : Oper} {a : Act} {Q : Exit → Act → World → Prop} (hgd : o.guard = none) (s x : Operand)
    (ho : o.op = .call { callee := .builtin .append, args := #[s, x], argTypes := #[t, t] })
    (v : Value) (n : Nat) (xs : List Value) (S : List Nat) (hs : a.eval s = v) (hS : v.ownBlock.toList = S) (hown : w.ownsRow 0 e size v n xs)
    (ao : Option Addr) (m c : Nat) (news : List Value) (hx : a.eval x = .slice ao m c) (hmc : m ≤ c) (hnone : ao = none → c = 0) (hc : Cs w ao news) (hl : news.length = m * size) (h1 : ∀ u ∈ news, u.oneCell' = true)
    (hb : (n + m) * bytes ≤ 140737488355328) (h63 : n + m ≤ maxLen)
    (h : ∀ ao' cap' w', Appended w w' e size S ao' (n + m) cap' (xs ++ news) → wpList P ops Q rest (a.put o.dst (.slice ao' (n + m) cap')) w') : wpList P ops Q (o :: rest) a w :=
  wpList_plain hgd fun _ hK => wp_append T s x ho v n xs S hs hS hown ao m c news hx hmc hnone hc hl h1 hb h63 fun ao' cap' w' h2 => hK _ _ (h ao' cap' w' h2)
/-- At a step of a region that draws its order. -/
theorem step_append (T : SliceTy P t e z size bytes) {ops : Array Oper} {o : Oper} {a : Act} {K : Act → World → Prop} {Q : Exit → Act → World → Prop} {E : Prop} (hgd : o.guard = none) (s x : Operand)
    (ho : o.op = .call { callee := .builtin .append, args := #[s, x], argTypes := #[t, t] })
    (v : Value) (n : Nat) (xs : List Value) (S : List Nat) (hs : a.eval s = v) (hS : v.ownBlock.toList = S) (hown : w.ownsRow 0 e size v n xs)
    (ao : Option Addr) (m c : Nat) (news : List Value) (hx : a.eval x = .slice ao m c) (hmc : m ≤ c) (hnone : ao = none → c = 0) (hc : Cs w ao news) (hl : news.length = m * size) (h1 : ∀ u ∈ news, u.oneCell' = true)
    (hb : (n + m) * bytes ≤ 140737488355328) (h63 : n + m ≤ maxLen)
    (h : ∀ ao' cap' w', Appended w w' e size S ao' (n + m) cap' (xs ++ news) → K (a.put o.dst (.slice ao' (n + m) cap')) w') :
    if Region.wanted o (yielded ops a.tmps) = true then Oper.wp P o a w K Q else E := by
  have hw : Region.wanted o (yielded ops a.tmps) = true := by simp [Region.wanted, hgd]
  rw [if_pos hw]
  exact wp_append T s x ho v n xs S hs hS hown ao m c news hx hmc hnone hc hl h1 hb h63 h
end
theorem cs_one (w : World) (B : Nat) (v : Value) (t : TypeId) (h : w.heap[B]? = some (.cells #[v] t (0, 0))) : Cs w (some ⟨B, 0, none⟩) [v] :=
  .inr ⟨B, 0, rfl, fun j u hj => by
    match j, hj with
    | 0, hj => rw [cell_of h]; simpa using hj⟩
end Go.Proofs.YtolkoidbkaidkaaGreat.lib
/-
  Some operations as laws for a walk: min and max of ints without parting; the conversion of bytes to a string.
-/
namespace Go.Proofs.YtolkoidbkaidkaaGreat.lib
open Go Go.RowKit

section
variable {P : Program} {w : World} {ops : Array Oper} {rest : List Oper} {o : Oper} {a : Act} {Q : Exit → Act → World → Prop}
/-- An operation whose value is known. -/
theorem wpList_value (v : Value) (hgd : o.guard = none) (hr : (execOp a.eval o).run P w = .ok (.value v) w) (h : wpList P ops Q rest (a.put o.dst v) w) : wpList P ops Q (o :: rest) a w :=
  wpList_plain hgd fun K hK => by
    unfold Oper.wp
    rw [hr]
    exact hK _ _ h
theorem wpList_min2 (m : Int) (hgd : o.guard = none) (x y : Operand) (ts : Array TypeId) (ho : o.op = .call { callee := .builtin .min, args := #[x, y], argTypes := ts }) (i j : Int)
    (hx : a.eval x = .int .i64 i) (hy : a.eval y = .int .i64 j) (hm : m = if j < i then j else i) (h : wpList P ops Q rest (a.put o.dst (.int .i64 m)) w) : wpList P ops Q (o :: rest) a w := by
  subst hm
  refine wpList_value _ hgd ?_ h
  simp [execOp, ho, resolve, invoke, builtin, hx, hy, Builtin.min_, Builtin.min2]
theorem wpList_min3 (m : Int) (hgd : o.guard = none) (x y z : Operand) (ts : Array TypeId) (ho : o.op = .call { callee := .builtin .min, args := #[x, y, z], argTypes := ts }) (i j k : Int)
    (hx : a.eval x = .int .i64 i) (hy : a.eval y = .int .i64 j) (hz : a.eval z = .int .i64 k) (hm : m = min (min i j) k) (h : wpList P ops Q rest (a.put o.dst (.int .i64 m)) w) : wpList P ops Q (o :: rest) a w := by
  subst hm
  refine wpList_value _ hgd ?_ h
  have e : min (min i j) k = (if k < if j < i then j else i then k else if j < i then j else i) := by
    by_cases h1 : j < i <;> simp only [h1, if_true, if_false] <;> split <;> omega
  rw [e]
  simp [execOp, ho, resolve, invoke, builtin, hx, hy, hz, Builtin.min_, Builtin.min2]
theorem wpList_max2 (m : Int) (hgd : o.guard = none) (x y : Operand) (ts : Array TypeId) (ho : o.op = .call { callee := .builtin .max, args := #[x, y], argTypes := ts }) (i j : Int)
    (hx : a.eval x = .int .i64 i) (hy : a.eval y = .int .i64 j) (hm : m = if j > i then j else i) (h : wpList P ops Q rest (a.put o.dst (.int .i64 m)) w) : wpList P ops Q (o :: rest) a w := by
  subst hm
  refine wpList_value _ hgd ?_ h
  simp [execOp, ho, resolve, invoke, builtin, hx, hy, Builtin.max_, Builtin.max2]
end
section
variable {P : Program} {w : World} {ops : Array Oper} {rest : List Oper} {o : Oper} {a : Act} {Q : Exit → Act → World → Prop} {t e : TypeId} {z : Value} {bytes : Nat}
/-- s[l:h], of elements of one cell each; m = h - l. -/
theorem wpList_slice_lh (T : SliceTy P t e z 1 bytes) (l m : Nat) (hgd : o.guard = none) (x lo hi : Operand) (ho : o.op = .slice t x (some lo) (some hi) none) (ao : Option Addr) (len cap : Nat) (il ih : Int)
    (hx : a.eval x = .slice ao len cap) (hlo : a.eval lo = .int .i64 il) (hhi : a.eval hi = .int .i64 ih) (hl : il = l) (hh : ih = l + m) (hc : l + m ≤ cap)
    (h : wpList P ops Q rest (a.put o.dst (.slice (cutAt ao cap l) m (cap - l))) w) : wpList P ops Q (o :: rest) a w := by
  obtain ⟨hu, ⟨i, hi', _, hs, _⟩, _, _⟩ := T
  subst hl
  obtain rfl : ih = ((l + m : Nat) : Int) := by omega
  refine wpList_value _ hgd ?_ h
  have c1 : (0 : Int) ≤ (l : Int) + m ∧ (l : Int) + m ≤ (cap : Int) := by omega
  have e2 : ((l : Int) + m).toNat = l + m := by omega
  have e1 : l + m - l = m := by omega
  simp [execOp, ho, Instr.sliceAt, run_underlying hu, hx, hlo, hhi, Instr.slice, Instr.sliceBounds, Instr.sliceBound, asIntOf, c1, e2, sizeOf, typeInfo, hi', hs, cutAt, e1, Result.andThen]
end
/-- Bytes as a string. -/
def str (bs : List UInt8) : ByteArray := ⟨bs.toArray⟩
theorem str_toList (bs : List UInt8) : (str bs).toList = bs := by rw [ByteArray.toList_eq]; rfl
theorem str_inj {a b : List UInt8} (h : str a = str b) : a = b := by
  have := congrArg (fun s : ByteArray => s.data.toList) h
  simpa [str] using this
theorem str_beq (a b : List UInt8) : (str a == str b) = (a == b) := by
  have h : (str a == str b) = (a.toArray == b.toArray) := rfl
  rw [h, Bool.eq_iff_iff, beq_iff_eq, beq_iff_eq]
  exact ⟨fun h => by simpa using h, fun h => by rw [h]⟩
theorem run_conv {P : Program} (w : World) {src dst e : TypeId} (hs : P.underlying src = some (.slice e)) (he : P.underlying e = some (.int .u8)) (hd : P.underlying dst = some .string)
    {ao : Option Addr} {n : Nat} {bs : List UInt8} (hn : bs.length = n) (hcs : Cs w ao (bs.map bv)) :
    ∀ cap, (convert src dst (.slice ao n cap)).run P w = .ok (.string (str bs)) w := by
  intro cap
  have hnil : ∀ (ao : Option Addr), bs = [] → (convert src dst (.slice ao n cap)).run P w = .ok (.string (str bs)) w := by
    intro ao hb
    subst hb
    obtain rfl : n = 0 := by simpa using hn.symm
    rw [run_convert_bytes_string w src dst e ao 0 cap hs he hd]
    cases ao with
    | none => rfl
    | some a => rfl
  rcases hcs with h | ⟨g, o, rfl, h⟩
  · exact hnil ao (by simpa using h)
  · have hr := run_convert_bytes_arg (P := P) w src e hs he g o n cap (bs.map fun b => (b.toNat : Int)) (by simpa using hn) (fun i hi => by
      have h2 := h i (bv (bs.getD i 0)) (by simp [List.getD, show i < bs.length by omega])
      rw [h2]
      have hi' : i < bs.length := by omega
      simp [bv, List.getD, hi']) dst hd
    rw [hr]
    congr 2
    unfold strOfNums str
    congr 1
    rw [List.map_map]
    have : ((fun n : Int => UInt8.ofNat n.toNat) ∘ fun b : UInt8 => (b.toNat : Int)) = id := by
      funext b
      simp
    rw [this, List.map_id]
end Go.Proofs.YtolkoidbkaidkaaGreat.lib
/-
  A region that draws its order, whose first n operations only read and whose last ones follow in one order: walked once, the first part by the kit's quiet walk.
-/
namespace Go.Proofs.YtolkoidbkaidkaaGreat.lib
open Go

theorem still_of_quiet {P : Program} {ops : Array Oper} {w : World} {L : Act → Prop} : ∀ (l : List Oper) (a : Act), wpQuiet P ops (fun w' => w' = w) L l a → wpStill P ops w L l a
  | [], _, h => h
  | o :: rest, a, h => by
    unfold wpQuiet at h
    unfold wpStill
    by_cases hw : Region.wanted o (yielded ops a.tmps) = true
    · rw [if_pos hw] at h ⊢
      obtain ⟨v, h1, h2⟩ := h
      have h3 := h1 w rfl
      have h4 := still_of_quiet rest _ h2
      unfold Oper.quietAt at h3
      unfold Oper.still
      generalize (execOp a.eval o).run P w = r at *
      cases r with
      | ok n w' =>
        cases n <;> simp only [Oper.quietUpon] at h3 <;> simp only [Oper.stillUpon]
        case value u => exact ⟨h3.1, h3.2 ▸ h4⟩
        case skip => exact ⟨h3.1, h3.2 ▸ h4⟩
        case enter f args => exact ⟨h3.1, v, h3.2, h4⟩
      | halt x w' => simp only [Oper.quietUpon] at h3
    · rw [if_neg hw] at h ⊢
      exact still_of_quiet rest _ h
theorem region_tail {P : Program} {id : Nat} {Q : Exit → Act → World → Prop} {a : Act} {w : World} {l : List Oper} (n : Nat) (hm : P.follows .mixedOrders = true) (hB : Region.lexTailB .any l.toArray n = true)
    (h : wpQuiet P l.toArray (fun w' => w' = w.drew) (fun a' => wpList P l.toArray Q (l.drop n) a' w.drew) (l.take n) a) : (Code.region id l.toArray true).wp P Q a w :=
  wp_region_still_tail n hm hB (still_of_quiet _ _ h)
end Go.Proofs.YtolkoidbkaidkaaGreat.lib
/-
  deflate.length, distance.
-/
namespace Go.Proofs.YtolkoidbkaidkaaGreat.defl
open Go Go.RowKit Go.Proofs.YtolkoidbkaidkaaGreat.lib Go.Proofs.YtolkoidbkaidkaaGreat.bm

/-- A length's symbol, what comes behind it, how many bits. -/
def lcode (n : Nat) : Nat × Nat × Nat := if n < 11 then (n + 254, 0, 0) else if n = 258 then (285, 0, 0) else (257 + 4 * (Nat.log2 (n - 3) - 2) + (n - 3) / 2 ^ (Nat.log2 (n - 3) - 2), (n - 3) % 2 ^ (Nat.log2 (n - 3) - 2), Nat.log2 (n - 3) - 2)
/-- A distance's. -/
def dcode (n : Nat) : Nat × Nat × Nat := if n < 5 then (n - 1, 0, 0) else (2 * (Nat.log2 (n - 1) - 1) + (n - 1) / 2 ^ (Nat.log2 (n - 1) - 1), (n - 1) % 2 ^ (Nat.log2 (n - 1) - 1), Nat.log2 (n - 1) - 1)
theorem log2_of {m w c : Nat} (h1 : 2 ^ (w + c) ≤ m) (h2 : m < 2 ^ (w + c + 1)) : Nat.log2 m - c = w := by
  have h0 : m ≠ 0 := by have := Nat.two_pow_pos (w + c); omega
  have k1 := (Nat.le_log2 h0).2 h1
  have k2 := (Nat.log2_lt h0).2 h2
  omega
theorem lcode_of {n w : Nat} (h11 : 11 ≤ n) (h258 : n ≠ 258) (h1 : 4 * 2 ^ w ≤ n - 3) (h2 : n - 3 < 8 * 2 ^ w) : lcode n = (257 + 4 * w + (n - 3) / 2 ^ w, (n - 3) % 2 ^ w, w) := by
  have e : Nat.log2 (n - 3) - 2 = w := log2_of (by rw [Nat.pow_add]; omega) (by rw [Nat.pow_add, Nat.pow_add]; omega)
  unfold lcode
  rw [if_neg (by omega), if_neg h258, e]
theorem dcode_of {n w : Nat} (h5 : 5 ≤ n) (h1 : 2 * 2 ^ w ≤ n - 1) (h2 : n - 1 < 4 * 2 ^ w) : dcode n = (2 * w + (n - 1) / 2 ^ w, (n - 1) % 2 ^ w, w) := by
  have e : Nat.log2 (n - 1) - 1 = w := log2_of (by rw [Nat.pow_add]; omega) (by rw [Nat.pow_add, Nat.pow_add]; omega)
  unfold dcode
  rw [if_neg (by omega), e]
def Triple (c : Nat × Nat × Nat) : Ending := .returned (.tuple #[.int .i64 (c.1 : Nat), .int .u32 (c.2.1 : Nat), .int .i64 (c.2.2 : Nat)])
set_option maxRecDepth 100000 in
theorem length_any (n : Nat) (w : World) (h3 : 3 ≤ n) (h258 : n ≤ 258) :
    Calls Tryz.prog 34 #[.int .i64 (n : Nat)] w fun e w' => e = Triple (lcode n) ∧ Fr [] w w' := by
  by_cases h11 : n < 11
  · go_enter Tryz.func34, Tryz.ntmps34
    go_wp2
    go_ret3
    refine ⟨?_, .refl _ w⟩
    unfold Triple lcode
    rw [if_pos h11]
    rfl
  · by_cases h8 : n = 258
    · subst h8
      go_enter Tryz.func34, Tryz.ntmps34
      go_wp2
      go_ret3
      exact ⟨rfl, .refl _ w⟩
    · have q1 : ((n : Int) == 258) = false := by simp only [beq_eq_false_iff_ne]; omega
      obtain ⟨m, hm⟩ : ∃ m, m = n - 3 := ⟨_, rfl⟩
      have e0 : (n : Int) - 3 = (m : Int) := by omega
      have hm8 : 8 ≤ m := by omega
      have hm2 : m ≤ 254 := by omega
      have HM := Lib.hid hm
      clear hm
      go_enter Tryz.func34, Tryz.ntmps34
      go_upto_block 1 with fail
      go_wp2
      go_loopg [4] 6 (fun k s4 wr => ∃ v : Nat, s4 = .int .i64 (v : Nat) ∧ 1 ≤ v ∧ v + k = 7 ∧ 4 * 2 ^ v ≤ m ∧ w = wr)
      case atStart => exact ⟨1, rfl, Nat.le_refl _, rfl, by omega, rfl⟩
      case round =>
        obtain ⟨v, rfl, hv1, hvk, hv4, rfl⟩ := hrel
        obtain ⟨z, hz⟩ : ∃ z, z = 2 ^ v := ⟨_, rfl⟩
        have e2 : (2 : Int) ^ v = (z : Int) := by rw [hz]; exact cast_pow v
        rw [← hz] at hv4
        have hz64 : z ≤ 64 := by omega
        have HZ := Lib.hid hz
        clear hz
        by_cases hlt : m < 8 * z
        · have q2 : decide (8 * (z : Int) ≤ (m : Int)) = false := by simp; omega
          obtain ⟨q, hq⟩ : ∃ q, q = m / z := ⟨_, rfl⟩
          obtain ⟨r, hr⟩ : ∃ r, r = m % z := ⟨_, rfl⟩
          have hzp : 0 < z := by omega
          have e3 : (m : Int) / (z : Int) = (q : Int) := by rw [hq]; exact (Int.natCast_ediv m z).symm
          have e4 : bits .and .u32 (m : Int) ((z : Int) - 1) = (r : Int) := by
            rw [show (z : Int) - 1 = ((z - 1 : Nat) : Int) from by omega, u32_and_nat m (z - 1) (by omega) (by omega), HZ.out, Nat.and_two_pow_sub_one_eq_mod, ← HZ.out, hr]
          have hq7 : q < 8 := by rw [hq]; exact (Nat.div_lt_iff_lt_mul hzp).2 hlt
          have hv7 : v ≤ 7 := by omega
          have HR := Lib.hid (And.intro hq (And.intro hr (And.intro hlt hv4)))
          clear hq hr hlt hv4
          go_upto_region 8 with fail
          go_quiet (fail)
          clear e3 e4
          go_wp2
          go_ret3
          obtain ⟨hq, hr, hlt, hv4⟩ := HR.out
          have hm := HM.out
          have hz := HZ.out
          refine ⟨?_, Fr.drewN [] w _⟩
          unfold Triple
          rw [lcode_of (w := v) (by omega) h8 (by omega) (by omega), ← hm, ← hz, ← hq, ← hr]
          rw [show (261 + 4 * (v : Int) + (q : Int) - 4) = ((257 + 4 * v + q : Nat) : Int) from by omega]
          rfl
        · have hv5 : v ≤ 5 := by
            rcases Nat.lt_or_ge v 6 with h | h
            · omega
            · have : 2 ^ 6 ≤ 2 ^ v := Nat.pow_le_pow_right (by decide) h
              have := HZ.out
              omega
          go_wp2
          go_roundg (gk - 1)
          case measure => omega
          case rel => exact ⟨v + 1, by go_num, by omega, by omega, by have := HZ.out; rw [Nat.pow_succ]; omega, rfl⟩
set_option maxRecDepth 100000 in
theorem distance_any (n : Nat) (w : World) (h1 : 1 ≤ n) (h2 : n ≤ 32768) :
    Calls Tryz.prog 35 #[.int .i64 (n : Nat)] w fun e w' => e = Triple (dcode n) ∧ Fr [] w w' := by
  by_cases h5 : n < 5
  · obtain ⟨m, hm⟩ : ∃ m, m = n - 1 := ⟨_, rfl⟩
    have e0 : (n : Int) - 1 = (m : Int) := by omega
    have HM := Lib.hid hm
    clear hm
    go_enter Tryz.func35, Tryz.ntmps35
    go_wp2
    go_ret3
    refine ⟨?_, .refl _ w⟩
    unfold Triple dcode
    rw [if_pos h5, ← HM.out]
    rfl
  · obtain ⟨m, hm⟩ : ∃ m, m = n - 1 := ⟨_, rfl⟩
    have e0 : (n : Int) - 1 = (m : Int) := by omega
    have hm8 : 4 ≤ m := by omega
    have hm2 : m ≤ 32767 := by omega
    have HM := Lib.hid hm
    clear hm
    go_enter Tryz.func35, Tryz.ntmps35
    go_upto_block 0 with fail
    go_wp2
    go_loopg [4] 14 (fun k s4 wr => ∃ v : Nat, s4 = .int .i64 (v : Nat) ∧ 1 ≤ v ∧ v + k = 15 ∧ 2 * 2 ^ v ≤ m ∧ w = wr)
    case atStart => exact ⟨1, rfl, Nat.le_refl _, rfl, by omega, rfl⟩
    case round =>
      obtain ⟨v, rfl, hv1, hvk, hv4, rfl⟩ := hrel
      obtain ⟨z, hz⟩ : ∃ z, z = 2 ^ v := ⟨_, rfl⟩
      have e2 : (2 : Int) ^ v = (z : Int) := by rw [hz]; exact cast_pow v
      rw [← hz] at hv4
      have hz64 : z ≤ 16384 := by omega
      have HZ := Lib.hid hz
      clear hz
      by_cases hlt : m < 4 * z
      · have q2 : decide (4 * (z : Int) ≤ (m : Int)) = false := by simp; omega
        obtain ⟨q, hq⟩ : ∃ q, q = m / z := ⟨_, rfl⟩
        obtain ⟨r, hr⟩ : ∃ r, r = m % z := ⟨_, rfl⟩
        have hzp : 0 < z := by omega
        have e3 : (m : Int) / (z : Int) = (q : Int) := by rw [hq]; exact (Int.natCast_ediv m z).symm
        have e4 : bits .and .u32 (m : Int) ((z : Int) - 1) = (r : Int) := by
          rw [show (z : Int) - 1 = ((z - 1 : Nat) : Int) from by omega, u32_and_nat m (z - 1) (by omega) (by omega), HZ.out, Nat.and_two_pow_sub_one_eq_mod, ← HZ.out, hr]
        have hq7 : q < 4 := by rw [hq]; exact (Nat.div_lt_iff_lt_mul hzp).2 hlt
        have hv7 : v ≤ 15 := by omega
        have HR := Lib.hid (And.intro hq (And.intro hr (And.intro hlt hv4)))
        clear hq hr hlt hv4
        go_upto_region 6 with fail
        go_quiet (fail)
        clear e3 e4
        go_wp2
        go_ret3
        obtain ⟨hq, hr, hlt, hv4⟩ := HR.out
        have hm := HM.out
        have hz := HZ.out
        refine ⟨?_, Fr.drewN [] w _⟩
        unfold Triple
        rw [dcode_of (w := v) (by omega) (by omega) (by omega), ← hm, ← hz, ← hq, ← hr]
        rw [show (2 + 2 * (v : Int) + (q : Int) - 2) = ((2 * v + q : Nat) : Int) from by omega]
        rfl
      · have hv5 : v ≤ 13 := by
          rcases Nat.lt_or_ge v 14 with h | h
          · omega
          · have : 2 ^ 14 ≤ 2 ^ v := Nat.pow_le_pow_right (by decide) h
            have := HZ.out
            omega
        go_wp2
        go_roundg (gk - 1)
        case measure => omega
        case rel => exact ⟨v + 1, by go_num, by omega, by omega, by have := HZ.out; rw [Nat.pow_succ]; omega, rfl⟩
end Go.Proofs.YtolkoidbkaidkaaGreat.defl
/-
  deflate.Matches: the plain law: pieces that stood there before, found along the places that begin with the same three bytes.
-/
namespace Go.Proofs.YtolkoidbkaidkaaGreat.mat
open Go Go.RowKit Go.Proofs.YtolkoidbkaidkaaGreat.lib

/-- The three bytes from a place on, as a number. -/
def three (b : List UInt8) (i : Nat) : Nat := (b[i]?.getD 0).toNat + 256 * (b[i + 1]?.getD 0).toNat + 65536 * (b[i + 2]?.getD 0).toNat
theorem three_lt (b : List UInt8) (i : Nat) : three b i < 4294967296 := by
  unfold three
  have h0 := UInt8.toNat_lt (b[i]?.getD 0)
  have h1 := UInt8.toNat_lt (b[i + 1]?.getD 0)
  have h2 := UInt8.toNat_lt (b[i + 2]?.getD 0)
  omega
/-- The last place ahead of i with these three bytes. -/
def last (b : List UInt8) : Nat → Nat → Option Nat
  | 0, _ => none
  | i + 1, k => if i + 3 ≤ b.length ∧ three b i = k then some i else last b i k
theorem last_lt (b : List UInt8) : ∀ (i k p : Nat), last b i k = some p → p < i ∧ p + 3 ≤ b.length ∧ three b p = k
  | 0, _, _, h => by cases h
  | i + 1, k, p, h => by
    unfold last at h
    split at h
    · rename_i hc
      obtain rfl := Option.some.inj h
      exact ⟨by omega, hc.1, hc.2⟩
    · have := last_lt b i k p h
      exact ⟨by omega, this.2⟩
theorem last_far (b : List UInt8) (k : Nat) : ∀ (j i : Nat), b.length ≤ i + 2 → last b (i + j) k = last b i k
  | 0, _, _ => rfl
  | j + 1, i, h => by
    rw [← Nat.add_assoc, last, if_neg (by omega), last_far b k j i h]
/-- How many bytes from two places on are alike; n: that many are known to be; f: how many more it may be. -/
def alikeF (b : List UInt8) (i j : Nat) : Nat → Nat → Nat
  | 0, n => n
  | f + 1, n => if j + n < b.length ∧ b[i + n]? = b[j + n]? then alikeF b i j f (n + 1) else n
def alike (b : List UInt8) (i j : Nat) : Nat := alikeF b i j 258 0
theorem alikeF_spec (b : List UInt8) (i j : Nat) : ∀ (f n : Nat), j + n ≤ b.length → (∀ k, k < n → b[i + k]? = b[j + k]?) →
    n ≤ alikeF b i j f n ∧ alikeF b i j f n ≤ n + f ∧ j + alikeF b i j f n ≤ b.length ∧ ∀ k, k < alikeF b i j f n → b[i + k]? = b[j + k]?
  | 0, n, h1, h2 => ⟨Nat.le_refl _, Nat.le_refl _, h1, h2⟩
  | f + 1, n, h1, h2 => by
    unfold alikeF
    split
    · rename_i hc
      obtain ⟨a, b', c, d⟩ := alikeF_spec b i j f (n + 1) (by omega) (fun k hk => by
        by_cases e : k = n
        · rw [e]; exact hc.2
        · exact h2 k (by omega))
      exact ⟨by omega, by omega, c, d⟩
    · exact ⟨Nat.le_refl _, by omega, h1, h2⟩
theorem alike_spec (b : List UInt8) (i j : Nat) (h : j ≤ b.length) : alike b i j ≤ 258 ∧ j + alike b i j ≤ b.length ∧ ∀ k, k < alike b i j → b[i + k]? = b[j + k]? := by
  obtain ⟨_, h1, h2, h3⟩ := alikeF_spec b i j 258 0 (by omega) (fun k hk => by omega)
  exact ⟨by unfold alike; omega, h2, h3⟩
theorem alikeF_add (b : List UInt8) (i j : Nat) : ∀ (m f n : Nat), (∀ k, n ≤ k → k < n + m → j + k < b.length ∧ b[i + k]? = b[j + k]?) → alikeF b i j (f + m) n = alikeF b i j f (n + m)
  | 0, _, _, _ => rfl
  | m + 1, f, n, h => by
    rw [show f + (m + 1) = f + m + 1 from by omega, alikeF, if_pos (h n (Nat.le_refl _) (by omega)), alikeF_add b i j m f (n + 1) (fun k h1 h2 => h k (by omega) (by omega)), show n + 1 + m = n + (m + 1) from by omega]
/-- The longest piece, along the places that begin alike: how long, and where; n: how many places may still be tried. -/
def chase (b : List UInt8) (r i : Nat) : Nat → Option Nat → Nat → Nat → Nat × Nat
  | 0, _, best, at_ => (best, at_)
  | _ + 1, none, best, at_ => (best, at_)
  | n + 1, some p, best, at_ => if i - p ≤ r then (if best < alike b p i then chase b r i n (last b p (three b p)) (alike b p i) p else chase b r i n (last b p (three b p)) best at_) else (best, at_)
theorem chase_spec (b : List UInt8) (r i : Nat) : ∀ (n : Nat) (p : Option Nat) (best at_ : Nat), (∀ q, p = some q → q < i) → (best = 0 ∨ (best = alike b at_ i ∧ at_ < i ∧ i - at_ ≤ r)) →
    best ≤ (chase b r i n p best at_).1 ∧ ((chase b r i n p best at_).1 = 0 ∨ ((chase b r i n p best at_).1 = alike b (chase b r i n p best at_).2 i ∧ (chase b r i n p best at_).2 < i ∧ i - (chase b r i n p best at_).2 ≤ r))
  | 0, _, _, _, _, h => ⟨Nat.le_refl _, h⟩
  | _ + 1, none, _, _, _, h => ⟨Nat.le_refl _, h⟩
  | n + 1, some p, best, at_, hp, h => by
    have hpi := hp p rfl
    have hl : ∀ q, last b p (three b p) = some q → q < i := fun q hq => by have := (last_lt b _ _ _ hq).1; omega
    unfold chase
    split
    · split
      · obtain ⟨h1, h2⟩ := chase_spec b r i n (last b p (three b p)) (alike b p i) p hl (.inr ⟨rfl, hpi, by assumption⟩)
        exact ⟨by omega, h2⟩
      · exact chase_spec b r i n _ best at_ hl h
    · exact ⟨Nat.le_refl _, h⟩
def best (b : List UInt8) (r i : Nat) : Nat × Nat := chase b r i 48 (last b i (three b i)) 0 0
theorem best_spec (b : List UInt8) (r i : Nat) (h : 0 < (best b r i).1) : (best b r i).1 = alike b (best b r i).2 i ∧ (best b r i).2 < i ∧ i - (best b r i).2 ≤ r := by
  have h1 := (chase_spec b r i 48 (last b i (three b i)) 0 0 (fun q hq => (last_lt b _ _ _ hq).1) (.inl rfl)).2
  unfold best at *
  rcases h1 with h1 | h1
  · omega
  · exact h1
/-- A match: where, how long, how far back. -/
abbrev Mt := Nat × Nat × Nat
def step (b : List UInt8) (r i : Nat) : Nat := if 3 ≤ (best b r i).1 then (best b r i).1 else 1
def mloop (b : List UInt8) (r : Nat) : Nat → Nat → List Mt
  | 0, _ => []
  | f + 1, i => if i + 3 ≤ b.length then (if 3 ≤ (best b r i).1 then (i, (best b r i).1, i - (best b r i).2) :: mloop b r f (i + step b r i) else mloop b r f (i + step b r i)) else []
def matches_ (b : List UInt8) (reach : Int) : List Mt := if 0 < reach then mloop b (min reach 32768).toNat b.length 0 else []
/-- What a row of matches keeps to. -/
def Chain (b : List UInt8) (r : Nat) : Nat → List Mt → Prop
  | _, [] => True
  | e, (a, n, d) :: t => e ≤ a ∧ 3 ≤ n ∧ n ≤ 258 ∧ 1 ≤ d ∧ d ≤ r ∧ d ≤ a ∧ a + n ≤ b.length ∧ (∀ k, k < n → b[a + k]? = b[a + k - d]?) ∧ Chain b r (a + n) t
theorem Chain.mono {b : List UInt8} {r e e' : Nat} {l : List Mt} (h : Chain b r e l) (he : e' ≤ e) : Chain b r e' l := by
  cases l with
  | nil => trivial
  | cons x t => obtain ⟨a, n, d⟩ := x; exact ⟨Nat.le_trans he h.1, h.2⟩
theorem mloop_chain (b : List UInt8) (r : Nat) : ∀ (f i : Nat), Chain b r i (mloop b r f i)
  | 0, _ => trivial
  | f + 1, i => by
    unfold mloop
    split
    · rename_i hi
      have ih := mloop_chain b r f (i + step b r i)
      split
      · rename_i h3
        obtain ⟨h1, h2, h4⟩ := best_spec b r i (by omega)
        obtain ⟨k1, k2, k3⟩ := alike_spec b (best b r i).2 i (by omega)
        rw [← h1] at k1 k2 k3
        have hs : step b r i = (best b r i).1 := if_pos h3
        rw [hs] at ih
        refine ⟨Nat.le_refl _, h3, k1, by omega, h4, by omega, k2, fun k hk => ?_, by rw [hs]; exact ih⟩
        have := k3 k hk
        rw [show i + k - (i - (best b r i).2) = (best b r i).2 + k from by omega, this]
      · exact ih.mono (by omega)
    · trivial
theorem matches_chain (b : List UInt8) (reach : Int) : Chain b (min reach 32768).toNat 0 (matches_ b reach) := by
  unfold matches_
  split
  · exact mloop_chain _ _ _ _
  · trivial
theorem Chain.len {b : List UInt8} {r : Nat} : ∀ {l : List Mt} {e : Nat}, Chain b r e l → e ≤ b.length → l.length ≤ b.length - e
  | [], _, _, _ => Nat.zero_le _
  | (a, n, d) :: t, e, h, _ => by
    obtain ⟨h1, h2, h3, h4, h5, h6, h7, h8, h9⟩ := h
    have := h9.len h7
    rw [List.length_cons]
    omega
theorem Chain.at {b : List UInt8} {r : Nat} : ∀ {l : List Mt} {e : Nat}, Chain b r e l → ∀ {i : Nat} {x : Mt}, l[i]? = some x →
    3 ≤ x.2.1 ∧ x.2.1 ≤ 258 ∧ 1 ≤ x.2.2 ∧ x.2.2 ≤ r ∧ x.2.2 ≤ x.1 ∧ x.1 + x.2.1 ≤ b.length ∧ (∀ k, k < x.2.1 → b[x.1 + k]? = b[x.1 + k - x.2.2]?) ∧ (if i = 0 then e ≤ x.1 else ∃ y, l[i - 1]? = some y ∧ y.1 + y.2.1 ≤ x.1)
  | [], _, _, i, x, h => by simp at h
  | (a, n, d) :: t, e, hc, 0, x, h => by
    simp only [List.getElem?_cons_zero, Option.some.injEq] at h
    subst h
    obtain ⟨h1, h2, h3, h4, h5, h6, h7, h8, _⟩ := hc
    exact ⟨h2, h3, h4, h5, h6, h7, h8, h1⟩
  | (a, n, d) :: t, e, hc, i + 1, x, h => by
    rw [List.getElem?_cons_succ] at h
    obtain ⟨h1, h2, h3, h4, h5, h6, h7, h8⟩ := hc.2.2.2.2.2.2.2.2.at h
    refine ⟨h1, h2, h3, h4, h5, h6, h7, ?_⟩
    rw [if_neg (by omega), Nat.add_sub_cancel]
    split at h8
    · rename_i h0
      subst h0
      exact ⟨(a, n, d), rfl, h8⟩
    · rename_i h0
      obtain ⟨y, hy, hy2⟩ := h8
      refine ⟨y, ?_, hy2⟩
      obtain ⟨j, rfl⟩ : ∃ j, i = j + 1 := ⟨i - 1, by omega⟩
      simpa using hy
end Go.Proofs.YtolkoidbkaidkaaGreat.mat
/-
  s[:h] and s[l:] of a slice whose elements take any number of cells, as laws for a walk.
-/
namespace Go.Proofs.YtolkoidbkaidkaaGreat.lib
open Go Go.RowKit

def cutAtN (ao : Option Addr) (cap lo size : Nat) : Option Addr := if cap = lo then ao else ao.map (·.add (lo * size))
theorem cutAtN_none {ao : Option Addr} {cap lo size : Nat} (h : cutAtN ao cap lo size = none) : ao = none := by
  unfold cutAtN at h
  split at h
  · exact h
  · simpa using h
theorem cutAtN_blk (ao : Option Addr) (cap lo size : Nat) : blk (cutAtN ao cap lo size) = blk ao := by
  unfold cutAtN
  split
  · rfl
  · cases ao with
    | none => rfl
    | some a => simp only [Option.map_some, blk, Addr.add]; split <;> rfl
theorem cutAtN_one (ao : Option Addr) (cap lo : Nat) : cutAtN ao cap lo 1 = cutAt ao cap lo := by unfold cutAtN cutAt; rw [Nat.mul_one]
section
variable {P : Program} {w : World} {ops : Array Oper} {rest : List Oper} {o : Oper} {a : Act} {Q : Exit → Act → World → Prop} {t e : TypeId} {z : Value} {size bytes : Nat}
theorem wpList_slice_to (T : SliceTy P t e z size bytes) (m : Nat) (hgd : o.guard = none) (x hi : Operand) (ho : o.op = .slice t x none (some hi) none) (ao : Option Addr) (len cap : Nat) (ih : Int)
    (hx : a.eval x = .slice ao len cap) (hhi : a.eval hi = .int .i64 ih) (hh : ih = m) (hc : m ≤ cap)
    (h : wpList P ops Q rest (a.put o.dst (.slice ao m cap)) w) : wpList P ops Q (o :: rest) a w := by
  obtain ⟨hu, ⟨i, hi', _, hs, _⟩, _, _⟩ := T
  subst hh
  refine wpList_value _ hgd ?_ h
  have c1 : (0 : Int) ≤ (m : Int) ∧ (m : Int) ≤ (cap : Int) := by omega
  have ad0 : ∀ x : Addr, x.add 0 = x := fun x => rfl
  cases ao <;> simp [execOp, ho, Instr.sliceAt, run_underlying hu, hx, hhi, Instr.slice, Instr.sliceBounds, Instr.sliceBound, asIntOf, c1, hc, sizeOf, typeInfo, hi', hs, Result.andThen, ad0]
theorem wpList_slice_from (T : SliceTy P t e z size bytes) (l : Nat) (hgd : o.guard = none) (x lo : Operand) (ho : o.op = .slice t x (some lo) none none) (ao : Option Addr) (len cap : Nat) (il : Int)
    (hx : a.eval x = .slice ao len cap) (hlo : a.eval lo = .int .i64 il) (hl : il = l) (hc : l ≤ len) (hlc : len ≤ cap)
    (h : wpList P ops Q rest (a.put o.dst (.slice (cutAtN ao cap l size) (len - l) (cap - l))) w) : wpList P ops Q (o :: rest) a w := by
  obtain ⟨hu, ⟨i, hi', _, hs, _⟩, _, _⟩ := T
  subst hl
  refine wpList_value _ hgd ?_ h
  have c1 : (0 : Int) ≤ (l : Int) ∧ (l : Int) ≤ (len : Int) := by omega
  have c2 : (len : Int) ≤ (cap : Int) := by omega
  simp [execOp, ho, Instr.sliceAt, run_underlying hu, hx, hlo, Instr.slice, Instr.sliceBounds, Instr.sliceBound, asIntOf, c1, c2, hc, hlc, sizeOf, typeInfo, hi', hs, cutAtN, Result.andThen]
end
end Go.Proofs.YtolkoidbkaidkaaGreat.lib
/-
  How a law's arguments, as they came in, are opened for a walk; that they read behind the call as before.
-/
namespace Go.Proofs.YtolkoidbkaidkaaGreat.lib
open Go Go.RowKit Go.ChangeShapes Go.WideShapes

theorem wf_u8 {n : Int} (h : (Lit.int .u8 n).wf = true) : 0 ≤ n ∧ n ≤ 255 := by
  simpa [Lit.wf, IntKind.min, IntKind.max, IntKind.signed, IntKind.bits] using h
theorem wf_u32 {n : Int} (h : (Lit.int .u32 n).wf = true) : 0 ≤ n ∧ n ≤ 4294967295 := by
  simpa [Lit.wf, IntKind.min, IntKind.max, IntKind.signed, IntKind.bits] using h
theorem wf_i64 {n : Int} (h : (Lit.int .i64 n).wf = true) : -9223372036854775808 ≤ n ∧ n ≤ 9223372036854775807 := by
  simpa [Lit.wf, IntKind.min, IntKind.max, IntKind.signed, IntKind.bits] using h
/-- What a walk is told of a slice of integers that came in. -/
structure IntsArg (k : IntKind) (w : World) (a : Option Addr) (len cap : Nat) (xs : List Int) : Prop where
  le : len ≤ cap
  max : cap ≤ maxLen
  nil : a = none → cap = 0
  length : xs.length = len
  cs : Cs w a (xs.map (Value.int k))
  wf : ∀ x ∈ xs, (Lit.int k x).wf = true
  lt : ∀ x ∈ blk a, cap ≠ 0 → x < w.heap.size

theorem add_at {x : Addr} (h : x.spot = none) (j : Nat) : x.add j = ⟨x.block, x.off + j, none⟩ := by
  obtain ⟨b, o, s⟩ := x
  simp only at h
  subst h
  unfold Addr.add
  split <;> simp_all

section
variable {H : Type} {enc : TypeId × Value → H} {P : Program} {w : World}
theorem ints_arg {t e : TypeId} {k : IntKind} {a : Option Addr} {len cap : Nat} {d : DataW H} {p : List MemPlace} (ht : P.underlying t = some (.slice e)) (he : P.underlying e = some (.int k)) (hc : P.cellsOf e = 1)
    (h : DataW.Trod enc P w 0 (fun _ => true) true t (.slice a len cap) d p) :
    ∃ xs sp : List Int, IntsArg k w a len cap xs ∧ sp.length = cap - len ∧ (d = .nil ∧ cap = 0 ∨ d = .slice (lits k xs) (lits k sp)) := by
  obtain ⟨fuel, hf⟩ := h
  rcases open_ints ht he hc hf with ⟨hcs, hx⟩ | ⟨x, l, c, zs, hcs, _, hl, hm, hz, hx, hcell, hwz⟩
  · simp [Value.cells] at hcs
    obtain ⟨rfl, rfl, rfl⟩ := hcs
    simp at hx
    exact ⟨[], [], ⟨Nat.le_refl _, Nat.zero_le _, fun _ => rfl, rfl, .inl rfl, by simp, by simp [blk]⟩, rfl, .inl ⟨hx.1, rfl⟩⟩
  · simp [Value.cells] at hcs
    obtain ⟨rfl, rfl, rfl⟩ := hcs
    simp only [if_true] at hz
    simp at hx
    have hcl : ∀ i v, (zs.map (Value.int k))[i]? = some v → w.cell? (x.add i) = some v := by
      intro i v hv
      have hi : i < zs.length := by have := (List.getElem?_eq_some_iff.1 hv).1; simpa using this
      rw [hcell i hi]
      simp [hi] at hv
      simp [List.getD, hi, hv]
    have spot : 0 < zs.length → x.spot = none := by
      intro h0
      have h1 := hcell 0 h0
      have h2 : x.add 0 = x := by simp [Addr.add]
      rw [h2] at h1
      cases hs : x.spot with
      | none => rfl
      | some s =>
        simp only [World.cell?, hs, Option.isSome_some, if_true] at h1
        split at h1 <;> cases h1
    have hcsx : Cs w (some x) (zs.map (Value.int k)) := by
      by_cases h0 : zs = []
      · left; simp [h0]
      · right
        have hp : 0 < zs.length := List.length_pos_iff.2 h0
        have hs := spot hp
        refine ⟨x.block, x.off, by rw [← hs], fun j v hv => ?_⟩
        have h3 := hcl j v hv
        have h4 : x.add j = ⟨x.block, x.off + j, none⟩ := by exact add_at hs j
        rwa [h4] at h3
    refine ⟨zs.take len, zs.drop len, ⟨hl, hm, (fun h => by cases h), (by simp; omega), ?_, fun y hy => hwz y (List.mem_of_mem_take hy), ?_⟩, (by simp; omega), .inr hx.1⟩
    · rcases hcsx with h0 | ⟨g, o, ha, h0⟩
      · left
        have : zs = [] := by simpa using h0
        simp [this]
      · refine .inr ⟨g, o, ha, fun j v hv => h0 j v ?_⟩
        rw [List.map_take, List.getElem?_take] at hv
        split at hv
        · exact hv
        · cases hv
    · intro y hy hne
      simp [blk] at hy
      subst hy
      have h0 : 0 < zs.length := by omega
      exact World.block_lt_of_cell? w _ (by have := hcell 0 h0; simpa [Addr.add] using this)
/-- Each argument reads behind the call as before, where below the heap's old size nothing has turned. -/
theorem trodAll_below (hl : laidOutB P = true) {W W' : World} (hb : Below W.heap.size W W') : ∀ {ts : List TypeId} {vs : List Value} {ds : List (DataW H)} {ps : List MemPlace},
    (ts.all fun t => P.readableRec t && decide (t < P.types.size)) = true → (∀ x ∈ ps, x.block < W.heap.size) → DataW.TrodAll enc P W 0 (fun _ => true) true ts vs ds ps → DataW.TrodAll enc P W' 0 (fun b => decide (b < W.heap.size)) true ts vs ds ps
  | [], [], [], _, _, _, h => h
  | t :: ts, v :: vs, d :: ds, ps, hr, hlt, h => by
    simp only [List.all_cons, Bool.and_eq_true, decide_eq_true_eq] at hr
    obtain ⟨v', vs', d', ds', p, q, hv, hd, rfl, h1, h2⟩ := trodAll_cons h
    obtain ⟨rfl, rfl⟩ := List.cons.inj hv
    obtain ⟨rfl, rfl⟩ := List.cons.inj hd
    exact trodAll_cons_mk (Below.trod hl hr.1.1 hr.1.2 h1 hb (fun x hx => hlt x (by simp [hx]))) (trodAll_below hl hb hr.2 (fun x hx => hlt x (by simp [hx])) h2)
  | [], _ :: _, _, _, _, _, h => by simp [DataW.TrodAll] at h
  | [], [], _ :: _, _, _, _, h => by simp [DataW.TrodAll] at h
  | _ :: _, [], _, _, _, _, h => by simp [DataW.TrodAll] at h
  | _ :: _, _ :: _, [], _, _, _, h => by simp [DataW.TrodAll] at h
/-- A law's call that returns true and turns nothing that was there meets the law's specification. -/
theorem law_of_calls {s : ChangeSpec} {f : FuncId} {fn : Func} {W : World} {args : Array Value} {ds gs : List (DataW H)} {before : List MemPlace} {tb : TypeId}
    (hl : laidOutB P = true) (hread : (fn.params.toList.all fun t => P.readableRec t && decide (t < P.types.size)) = true) (hvars : s.vars = []) (hres : fn.resultTypes = #[tb]) (htb : P.underlying tb = some .bool)
    (hW : DataW.Whole enc P fn.params.toList s.vars false W args.toList ds gs before) (hfn : ∀ gs, s.vars = [] → gs = [] → s.fn H (ds ++ gs) = { results := [.lit (.bool true)], args := ds })
    (hc : Calls P f args W fun e W' => e = .returned (.bool true) ∧ Below W.heap.size W W') :
    Calls P f args W fun e W' => ∃ v, e = .returned v ∧ s.post enc P fn false true false false W args v W' := by
  have hW' := hW
  obtain ⟨p, q, hA, hV, rfl, hfz, hnd⟩ := hW
  have hV' := hV
  rw [hvars] at hV'
  obtain ⟨rfl, rfl⟩ := trodVars_none hV'
  have hlt : ∀ x ∈ p, x.block < W.heap.size := fun x hx => by simpa using hW'.lt x (by simpa using hx)
  refine hc.mono fun e W' ⟨he, hb⟩ => ⟨_, he, _, _, _, [], p, [], hW', ?_, ?_, ?_, hb.frame _, fun h => by cases h⟩
  · rw [hfn [] hvars rfl, hres]
    exact trodAll_mk1 (shut_bool htb _)
  · rw [hfn [] hvars rfl]
    exact trodAll_below hl hb hread hlt hA
  · rw [hvars, hfn [] hvars rfl]
    rfl
end
end Go.Proofs.YtolkoidbkaidkaaGreat.lib
/-
  Slices of structs among a law's arguments, opened for a walk: each element's cells, and what they read as.
-/
namespace Go.Proofs.YtolkoidbkaidkaaGreat.lib
open Go Go.RowKit Go.ChangeShapes Go.WideShapes

section
variable {H : Type} {enc : TypeId × Value → H} {P : Program} {w : World}
def Light (P : Program) (t : TypeId) (d : DataW H) : Prop := (DataW.weights P t d).all (· ≤ reachBytes) = true
theorem light_all {e : TypeId} : ∀ {ds : List (DataW H)}, (DataW.weightsAll P e ds).all (· ≤ reachBytes) = true → ∀ d ∈ ds, Light P e d
  | [], _, d, hd => by cases hd
  | x :: r, h, d, hd => by
    rw [DataW.weightsAll, List.all_append, Bool.and_eq_true] at h
    rcases List.mem_cons.1 hd with rfl | hd
    · exact h.1
    · exact light_all h.2 d hd
theorem light_each {ts : List TypeId} {ds : List (DataW H)} (h : (DataW.weightsEach P ts ds).all (· ≤ reachBytes) = true) {j : Nat} {t : TypeId} {d : DataW H} (ht : ts[j]? = some t) (hd : ds[j]? = some d) : Light P t d :=
  List.all_eq_true.2 fun n hn => List.all_eq_true.1 h n (DataW.weights_mem_each ht hd n hn)
theorem light_slice {t e : TypeId} {elems spare : List (DataW H)} (ht : P.underlying t = some (.slice e)) (h : Light P t (.slice elems spare)) :
    (elems.length + spare.length) * P.bytesOf e ≤ reachBytes ∧ (∀ d ∈ elems, Light P e d) ∧ ∀ d ∈ spare, Light P e d := by
  unfold Light at h
  rw [DataW.weights, ht] at h
  simp only [List.all_cons, List.all_append, Bool.and_eq_true, decide_eq_true_eq] at h
  exact ⟨h.1, light_all h.2.1, light_all h.2.2⟩
theorem light_struct {t : TypeId} {fs : Array Field} {parts : List (DataW H)} (ht : P.underlying t = some (.struct fs)) (h : Light P t (.agg parts)) {j : Nat} {u : TypeId} {d : DataW H} (hu : (fs.toList.map (·.type))[j]? = some u) (hd : parts[j]? = some d) : Light P u d := by
  unfold Light at h
  rw [DataW.weights, ht] at h
  exact light_each h hu hd
theorem light_string {t : TypeId} {bytes : List UInt8} (h : Light (H := H) P t (.lit (.string bytes))) : bytes.length ≤ 140737488351232 := by
  unfold Light at h
  rw [DataW.weights] at h
  simp only [List.all_cons, List.all_nil, Bool.and_true, decide_eq_true_eq] at h
  have e : reachBytes = 140737488351232 := by decide
  omega

/-! ### The bulk of what came in ('uptoBulk', in the given rows) -/
theorem bulk_one (d : DataW H) : 1 ≤ Rows.uptoBulk d := by
  cases d with
  | lit l => cases l <;> simp [Rows.uptoBulk]
  | nil => simp [Rows.uptoBulk]
  | ptr d => simp [Rows.uptoBulk]
  | slice elems spare => simp [Rows.uptoBulk]
  | agg parts => simp [Rows.uptoBulk]
  | iface t d => simp [Rows.uptoBulk]
  | map entries => simp [Rows.uptoBulk]
  | held h => simp [Rows.uptoBulk]
theorem bulk_part {d : DataW H} {l : List (DataW H)} (h : d ∈ l) : Rows.uptoBulk d ≤ Rows.uptoBulkAll l := by
  induction l with
  | nil => cases h
  | cons x r ih =>
    simp only [Rows.uptoBulkAll]
    cases List.mem_cons.1 h with
    | inl e => subst e; omega
    | inr e => have := ih e; omega
theorem bulk_length (l : List (DataW H)) : l.length ≤ Rows.uptoBulkAll l := by
  induction l with
  | nil => simp [Rows.uptoBulkAll]
  | cons x r ih => have := bulk_one x; simp only [Rows.uptoBulkAll, List.length_cons]; omega
theorem bulk_elem {d : DataW H} {elems spare : List (DataW H)} (h : d ∈ elems) : Rows.uptoBulk d ≤ Rows.uptoBulk (.slice elems spare) := by
  have := bulk_part h
  simp only [Rows.uptoBulk]
  omega
theorem bulk_agg {d : DataW H} {parts : List (DataW H)} (h : d ∈ parts) : Rows.uptoBulk d ≤ Rows.uptoBulk (.agg parts) := by
  have := bulk_part h
  simp only [Rows.uptoBulk]
  omega
theorem bulk_slice (elems spare : List (DataW H)) : elems.length ≤ Rows.uptoBulk (.slice elems spare) := by
  have := bulk_length elems
  simp only [Rows.uptoBulk]
  omega

/-- A slice that came in, whatever its elements: each element's cells, what they read as, and that it is light. -/
theorem slice_arg {t e : TypeId} {a : Option Addr} {len cap s : Nat} {d : DataW H} {p : List MemPlace} (ht : P.underlying t = some (.slice e)) (hs : P.cellsOf e = s) (h0 : 0 < s)
    (h : DataW.Trod enc P w 0 (fun _ => true) true t (.slice a len cap) d p) (hL : Light P t d) :
    len ≤ cap ∧ cap ≤ maxLen ∧ (a = none → cap = 0) ∧ len * P.bytesOf e ≤ 140737488351232 ∧ len ≤ Rows.uptoBulk d ∧ (len = 0 ∨ ∃ g o, a = some ⟨g, o, none⟩ ∧ ∀ i, i < len → ∃ (cs : List Value) (y : DataW H × List MemPlace) (n : Nat),
      cs.length = s ∧ (∀ j v, cs[j]? = some v → w.cell? ⟨g, o + i * s + j, none⟩ = some v) ∧ DataW.trod enc P w 0 (fun _ => true) true n e cs = some y ∧ Light P e y.1 ∧ Rows.uptoBulk y.1 ≤ Rows.uptoBulk d) := by
  have er : reachBytes = 140737488351232 := by decide
  obtain ⟨fuel, hf⟩ := h
  rcases DataW.trod_slice ht hf with ⟨hcs, hx⟩ | ⟨x, l, c, elems, rest, n, _, hcs, hx, _, hl, hm, hlen, hel, _⟩
  · simp [Value.cells] at hcs
    obtain ⟨rfl, rfl, rfl⟩ := hcs
    exact ⟨Nat.le_refl _, Nat.zero_le _, fun _ => rfl, by simp, Nat.zero_le _, .inl rfl⟩
  · simp [Value.cells] at hcs
    obtain ⟨rfl, rfl, rfl⟩ := hcs
    simp only [Prod.mk.injEq] at hx
    obtain ⟨rfl, _⟩ := hx
    obtain ⟨hw, hle, _⟩ := light_slice ht hL
    simp only [List.length_map] at hw
    refine ⟨hl, hm, (fun h => by cases h), ?_, by have := bulk_slice (elems.map (·.1)) (rest.map (·.1)); simp at this; omega, ?_⟩
    · have h1 : len * P.bytesOf e ≤ (elems.length + rest.length) * P.bytesOf e := Nat.mul_le_mul_right _ (by omega)
      omega
    · by_cases hz : len = 0
      · exact .inl hz
      · right
        have get : ∀ i, i < len → ∃ (cs : List Value) (y : DataW H × List MemPlace), cs.length = s ∧ (∀ j v, cs[j]? = some v → w.cell? ((x.add (i * s)).add j) = some v) ∧ DataW.trod enc P w 0 (fun _ => true) true n e cs = some y ∧ Light P e y.1 ∧ Rows.uptoBulk y.1 ≤ Rows.uptoBulk (.slice (elems.map (·.1)) (rest.map (·.1))) := by
          intro i hi
          have h1 := hel i hi
          rw [hs] at h1
          have hie : i < elems.length := by omega
          rw [List.getElem?_eq_getElem hie] at h1
          obtain ⟨cs, hc1, hc2⟩ := Option.bind_eq_some_iff.1 h1
          obtain ⟨_, hc3, hc4⟩ := World.cells?_some hc1
          exact ⟨cs, elems[i], hc3, fun j v hv => by rw [hc4 j (by have := (List.getElem?_eq_some_iff.1 hv).1; omega), hv], hc2, hle _ (List.mem_map.2 ⟨_, List.getElem_mem hie, rfl⟩), bulk_elem (List.mem_map.2 ⟨_, List.getElem_mem hie, rfl⟩)⟩
        have spot : x.spot = none := by
          obtain ⟨cs, y, h1, h2, _⟩ := get 0 (by omega)
          have h3 : 0 < cs.length := by omega
          have h4 := h2 0 cs[0] (by simp [h3])
          simp only [Nat.zero_mul] at h4
          have h5 : (x.add 0).add 0 = x := by simp [Addr.add]
          rw [h5] at h4
          cases hs : x.spot with
          | none => rfl
          | some s =>
            simp only [World.cell?, hs, Option.isSome_some, if_true] at h4
            split at h4 <;> cases h4
        refine ⟨x.block, x.off, by rw [← spot], fun i hi => ?_⟩
        obtain ⟨cs, y, h1, h2, h3, h4⟩ := get i hi
        refine ⟨cs, y, n, h1, fun j v hv => ?_, h3, h4⟩
        have h5 := h2 j v hv
        rw [add_at spot, add_at rfl] at h5
        exact h5

/-- What a walk is told of a slice of bytes that came in. -/
structure BytesArg (w : World) (a : Option Addr) (len cap : Nat) (bs : List UInt8) : Prop where
  le : len ≤ cap
  max : cap ≤ maxLen
  nil : a = none → cap = 0
  length : bs.length = len
  cs : Cs w a (bs.map bv)
  lim : len ≤ 140737488351232
  lt : ∀ x ∈ blk a, bs ≠ [] → x < w.heap.size
theorem bytes_arg {t e : TypeId} {a : Option Addr} {len cap : Nat} {d : DataW H} {p : List MemPlace} (ht : P.underlying t = some (.slice e)) (he : P.underlying e = some (.int .u8)) (hc : P.cellsOf e = 1) (hby : P.bytesOf e = 1)
    (h : DataW.Trod enc P w 0 (fun _ => true) true t (.slice a len cap) d p) (hL : Light P t d) : ∃ bs, BytesArg w a len cap bs ∧ len ≤ Rows.uptoBulk d := by
  obtain ⟨xs, _, A, _⟩ := ints_arg ht he hc h
  obtain ⟨_, _, _, hlim, hbk, _⟩ := slice_arg ht hc (by decide) h hL
  have key : Cs w a ((xs.map fun x => UInt8.ofNat x.toNat).map bv) := by
    have e : (xs.map fun x => UInt8.ofNat x.toNat).map bv = xs.map (Value.int .u8) := by
      rw [List.map_map]
      apply List.map_congr_left
      intro x hx
      have := wf_u8 (A.wf x hx)
      simp only [Function.comp, bv, UInt8.toNat_ofNat']
      exact int_eq (by omega)
    rw [e]
    exact A.cs
  refine ⟨xs.map fun x => UInt8.ofNat x.toNat, ⟨A.le, A.max, A.nil, by simp [A.length], key, by rw [hby] at hlim; omega, fun x hx hne => ?_⟩, hbk⟩
  cases a with
  | none => simp [blk] at hx
  | some a =>
    simp [blk] at hx
    subst hx
    exact key.lt (by simpa using hne) a rfl
/-- The same of a cell that holds such a slice. -/
theorem bytes_cell {t e : TypeId} {n : Nat} {cs : List Value} {y : DataW H × List MemPlace} (ht : P.underlying t = some (.slice e)) (he : P.underlying e = some (.int .u8)) (hc : P.cellsOf e = 1) (hby : P.bytesOf e = 1)
    (h : DataW.trod enc P w 0 (fun _ => true) true n t cs = some y) (hL : Light P t y.1) : ∃ a len cap bs, cs = [.slice a len cap] ∧ BytesArg w a len cap bs ∧ len ≤ Rows.uptoBulk y.1 := by
  have hform : ∃ a l c, cs = [.slice a l c] := by
    rcases DataW.trod_slice ht h with ⟨hcs, _⟩ | ⟨a', len', cap', _, _, _, _, hcs, _⟩
    · exact ⟨_, _, _, hcs⟩
    · exact ⟨_, _, _, hcs⟩
  obtain ⟨a, l, c, rfl⟩ := hform
  obtain ⟨bs, hb⟩ := bytes_arg (enc := enc) (a := a) (len := l) (cap := c) (d := y.1) (p := y.2) ht he hc hby ⟨n, h⟩ hL
  exact ⟨a, l, c, bs, rfl, hb⟩
end
end Go.Proofs.YtolkoidbkaidkaaGreat.lib
/-
  A slice of bytes that is read: one word for its address, capacity and cells; what becomes of it by s[l:], s[:h], s[l:h].
-/
namespace Go.Proofs.YtolkoidbkaidkaaGreat.lib
open Go Go.RowKit

/-- The slice (a, bs.length, cap) reads as bs. -/
structure Rd (w : World) (a : Option Addr) (cap : Nat) (bs : List UInt8) : Prop where
  cs : Cs w a (bs.map bv)
  le : bs.length ≤ cap
  max : cap ≤ maxLen
  nil : a = none → cap = 0
theorem Rd.fr {w w' : World} {a : Option Addr} {cap : Nat} {bs : List UInt8} (h : Rd w a cap bs) (f : Fr [] w w') : Rd w' a cap bs := ⟨h.cs.fr f (by simp), h.le, h.max, h.nil⟩
theorem Rd.frS {S : List Nat} {w w' : World} {a : Option Addr} {cap : Nat} {bs : List UInt8} (h : Rd w a cap bs) (f : Fr S w w') (hn : ∀ x ∈ blk a, x ∉ S) : Rd w' a cap bs := ⟨h.cs.fr f hn, h.le, h.max, h.nil⟩
theorem Rd.none (w : World) : Rd w none 0 [] := ⟨.inl rfl, Nat.le_refl _, Nat.zero_le _, fun _ => rfl⟩
theorem Rd.of_arg {w : World} {a : Option Addr} {len cap : Nat} {bs : List UInt8} (h : BytesArg w a len cap bs) : Rd w a cap bs := ⟨h.cs, by rw [h.length]; exact h.le, h.max, h.nil⟩
theorem cs_drop {w : World} {a : Option Addr} {cap : Nat} {vs : List Value} (h : Cs w a vs) (k : Nat) (hk : k ≤ vs.length) (hc : vs.length ≤ cap) : Cs w (cutAtN a cap k 1) (vs.drop k) := by
  have := h.cut cap k vs.length hk (Nat.le_refl _) hc
  rw [List.take_of_length_le (by simp), ← cutAtN_one] at this
  exact this
theorem cs_takev {w : World} {a : Option Addr} {vs : List Value} (h : Cs w a vs) (k : Nat) : Cs w a (vs.take k) := by
  rcases h with rfl | ⟨g, o, rfl, h⟩
  · left; simp
  · refine .inr ⟨g, o, rfl, fun j v hv => h j v ?_⟩
    rw [List.getElem?_take] at hv
    split at hv
    · exact hv
    · cases hv
theorem Rd.drop {w : World} {a : Option Addr} {cap : Nat} {bs : List UInt8} (h : Rd w a cap bs) (k : Nat) (hk : k ≤ bs.length) : Rd w (cutAtN a cap k 1) (cap - k) (bs.drop k) := by
  have h1 := h.le
  have h2 := h.max
  refine ⟨?_, by rw [List.length_drop]; omega, by omega, fun e => by have := h.nil (cutAtN_none e); omega⟩
  rw [List.map_drop]
  exact cs_drop h.cs k (by simpa using hk) (by simpa using h1)
theorem Rd.take {w : World} {a : Option Addr} {cap : Nat} {bs : List UInt8} (h : Rd w a cap bs) (k : Nat) : Rd w a cap (bs.take k) := by
  have h1 := h.le
  refine ⟨?_, by rw [List.length_take]; omega, h.max, h.nil⟩
  rw [List.map_take]
  exact cs_takev h.cs k
/-- s[l:l + m]. -/
theorem Rd.mid {w : World} {a : Option Addr} {cap : Nat} {bs : List UInt8} (h : Rd w a cap bs) (l m : Nat) (hk : l + m ≤ bs.length) : Rd w (cutAt a cap l) (cap - l) ((bs.drop l).take m) := by
  have h1 := (h.drop l (by omega)).take m
  rw [cutAtN_one] at h1
  exact h1
/-- The cell of a byte that is there. -/
theorem Rd.at {w : World} {a : Option Addr} {cap : Nat} {bs : List UInt8} (h : Rd w a cap bs) {i : Nat} (hi : i < bs.length) : ∃ g o, a = some ⟨g, o, Option.none⟩ ∧ w.cell? ⟨g, o + i, Option.none⟩ = some (.int .u8 ((bs[i].toNat : Nat) : Int)) := by
  obtain ⟨g, o, rfl, hc⟩ := h.cs.at (by simp; omega)
  exact ⟨g, o, rfl, hc i _ (by simp [hi, bv])⟩
/-- A row of bytes of one's own: any slice that a call owns, under one word. -/
theorem rd_of_owns {w : World} {base : Nat} {e : TypeId} {len cap : Nat} {bs : List UInt8} {a : Option Addr} (h : w.ownsRow base e 1 (.slice a len cap) len (bs.map bv)) : Rd w a cap bs ∧ bs.length = len := by
  have hl : bs.length = len := by simpa using h.1
  obtain ⟨_, _, he, h1, h2, h3⟩ := owns_form h
  simp only [Value.slice.injEq] at he
  obtain ⟨rfl, _, rfl⟩ := he
  exact ⟨⟨cs_of_owns h, by omega, h2, h3⟩, hl⟩
/-! ### s[l:], s[:h] and s[l:h] as run equations, for regions that draw their order -/
section
variable {P : Program} {t e : TypeId} {z : Value} {size bytes : Nat}
theorem run_slice_from (T : SliceTy P t e z size bytes) (l : Nat) (a : Option Addr) (len cap : Nat) (il : Int) (hl : il = l) (hc : l ≤ len) (hlc : len ≤ cap) (w : World) :
    (Instr.slice t (.slice a len cap) (some (.int .i64 il)) Option.none Option.none).run P w = .ok (.slice (cutAtN a cap l size) (len - l) (cap - l)) w := by
  obtain ⟨hu, ⟨i, hi', _, hs, _⟩, _, _⟩ := T
  subst hl
  have c1 : (0 : Int) ≤ (l : Int) ∧ (l : Int) ≤ (len : Int) := by omega
  have c2 : (len : Int) ≤ (cap : Int) := by omega
  simp [run_underlying hu, Instr.slice, Instr.sliceBounds, Instr.sliceBound, asIntOf, c1, c2, hc, hlc, sizeOf, typeInfo, hi', hs, cutAtN, Result.andThen]
theorem run_slice_to (T : SliceTy P t e z size bytes) (m : Nat) (a : Option Addr) (len cap : Nat) (ih : Int) (hh : ih = m) (hc : m ≤ cap) (w : World) :
    (Instr.slice t (.slice a len cap) Option.none (some (.int .i64 ih)) Option.none).run P w = .ok (.slice a m cap) w := by
  obtain ⟨hu, ⟨i, hi', _, hs, _⟩, _, _⟩ := T
  subst hh
  have c1 : (0 : Int) ≤ (m : Int) ∧ (m : Int) ≤ (cap : Int) := by omega
  have ad0 : ∀ x : Addr, x.add 0 = x := fun x => rfl
  cases a <;> simp [run_underlying hu, Instr.slice, Instr.sliceBounds, Instr.sliceBound, asIntOf, c1, hc, sizeOf, typeInfo, hi', hs, Result.andThen, ad0]
theorem run_slice_lh (T : SliceTy P t e z 1 bytes) (l m : Nat) (a : Option Addr) (len cap : Nat) (il ih : Int) (hl : il = l) (hh : ih = l + m) (hc : l + m ≤ cap) (w : World) :
    (Instr.slice t (.slice a len cap) (some (.int .i64 il)) (some (.int .i64 ih)) Option.none).run P w = .ok (.slice (cutAt a cap l) m (cap - l)) w := by
  obtain ⟨hu, ⟨i, hi', _, hs, _⟩, _, _⟩ := T
  subst hl
  obtain rfl : ih = ((l + m : Nat) : Int) := by omega
  have c1 : (0 : Int) ≤ (l : Int) + m ∧ (l : Int) + m ≤ (cap : Int) := by omega
  have e2 : ((l : Int) + m).toNat = l + m := by omega
  have e1 : l + m - l = m := by omega
  simp [run_underlying hu, Instr.slice, Instr.sliceBounds, Instr.sliceBound, asIntOf, c1, e2, sizeOf, typeInfo, hi', hs, cutAt, e1, Result.andThen]
end
/-- A new slice of bytes, cut to its length. -/
def NewBytes (w : World) (bs : List UInt8) (e : Ending) (w' : World) : Prop :=
  ∃ a, e = .returned (.slice a bs.length bs.length) ∧ Rd w' a bs.length bs ∧ (∀ x ∈ blk a, w.heap.size ≤ x ∧ x < w'.heap.size) ∧ Fr [] w w'
end Go.Proofs.YtolkoidbkaidkaaGreat.lib
/-
  More of a slice of bytes that is read; a slice expression with three indexes.
-/
namespace Go.Proofs.YtolkoidbkaidkaaGreat.lib
open Go Go.RowKit
theorem rd_frE {S : List Nat} {w w' : World} {a : Option Addr} {cap : Nat} {bs : List UInt8} (h : Rd w a cap bs) (f : Fr S w w') (hn : bs ≠ [] → ∀ x ∈ blk a, x ∉ S) : Rd w' a cap bs := by
  by_cases hb : bs = []
  · exact ⟨.inl (by rw [hb]; rfl), h.le, h.max, h.nil⟩
  · exact h.frS f (hn hb)
theorem rd_lt {w : World} {a : Option Addr} {cap : Nat} {bs : List UInt8} (h : Rd w a cap bs) (hb : bs ≠ []) : ∀ x ∈ blk a, x < w.heap.size := by
  intro x hx
  cases a with
  | none => simp [blk] at hx
  | some a => simp [blk] at hx; rw [hx]; exact h.cs.lt (by simpa using hb) a rfl
theorem run_slice_cut3 {P : Program} {t e : TypeId} {z : Value} {size bytes : Nat} (T : SliceTy P t e z size bytes) (n : Nat) (a : Option Addr) (cap : Nat) (hc : n ≤ cap) (w : World) :
    (Instr.slice t (.slice a n cap) Option.none (some (.int .i64 (n : Nat))) (some (.int .i64 (n : Nat)))).run P w = .ok (.slice a n n) w := by
  obtain ⟨hu, ⟨i, hi', _, hs, _⟩, _, _⟩ := T
  have c1 : (0 : Int) ≤ (n : Int) ∧ (n : Int) ≤ (cap : Int) := by omega
  have ad0 : ∀ x : Addr, x.add 0 = x := fun x => rfl
  cases a <;> simp [run_underlying hu, Instr.slice, Instr.sliceBounds, Instr.sliceBound, asIntOf, c1, hc, sizeOf, typeInfo, hi', hs, Result.andThen, ad0]
theorem cs_owns {w : World} {base : Nat} {e : TypeId} {size n : Nat} {xs : List Value} {ao : Option Addr} {len cap : Nat} (h : w.ownsRow base e size (.slice ao len cap) n xs) : Cs w ao xs := by
  rcases h.2 with ⟨h1, h2⟩ | ⟨g, cap', cur, h1, hb, hg, hn, hm, hs, ht⟩
  · left
    have := h.1
    rw [h2] at this
    exact List.eq_nil_of_length_eq_zero (by simpa using this)
  · simp only [Value.slice.injEq] at h1
    obtain ⟨rfl, rfl, rfl⟩ := h1
    refine .inr ⟨g, 0, rfl, fun j v hv => ?_⟩
    rw [cell_of hg, Nat.zero_add]
    rw [← ht, List.getElem?_take] at hv
    split at hv
    · simpa using hv
    · cases hv
theorem cs_new (w : World) (C : Array Value) (t : TypeId) (fr : Nat × Nat) : Cs (w.alloc (.cells C t fr)) (some ⟨w.heap.size, 0, none⟩) C.toList :=
  .inr ⟨w.heap.size, 0, rfl, fun j v hv => by rw [cell_of (alloc_at w _), Nat.zero_add, ← Array.getElem?_toList]; exact hv⟩
end Go.Proofs.YtolkoidbkaidkaaGreat.lib
/-
  deflate.three, alike.
-/
namespace Go.Proofs.YtolkoidbkaidkaaGreat.mat
open Go Go.RowKit Go.Proofs.YtolkoidbkaidkaaGreat.lib Go.Proofs.YtolkoidbkaidkaaGreat.bm

theorem or8 (x y : Nat) (hx : x < 256) (hy : y < 256) : bits .or .u32 (x : Int) ((y : Int) * 256) = ((x + 256 * y : Nat) : Int) := by
  have h := u32_put x y 8 8 hx hy (by decide)
  rw [Int.emod_eq_of_lt (by omega) (by have e : (2 : Int) ^ 8 = 256 := rfl; rw [e]; omega)] at h
  exact h
theorem or16 (x y : Nat) (hx : x < 65536) (hy : y < 256) : bits .or .u32 (x : Int) ((y : Int) * 65536) = ((x + 65536 * y : Nat) : Int) := by
  have h := u32_put x y 16 8 hx hy (by decide)
  rw [Int.emod_eq_of_lt (by omega) (by have e : (2 : Int) ^ 16 = 65536 := rfl; rw [e]; omega)] at h
  exact h
theorem three_drop (b : List UInt8) (i : Nat) : three (b.drop i) 0 = three b i := by
  unfold three
  simp only [List.getElem?_drop, Nat.add_zero, Nat.zero_add]
set_option maxRecDepth 100000 in
theorem three_any (a : Option Addr) (cap : Nat) (d : List UInt8) (w : World) (h : Rd w a cap d) (h3 : 3 ≤ d.length) :
    Calls Tryz.prog 29 #[.slice a d.length cap] w fun e w' => e = .returned (.int .u32 (three d 0)) ∧ ∃ n, w' = w.drewN n := by
  obtain ⟨g, o, rfl, c0⟩ := h.at (i := 0) (by omega)
  obtain ⟨g1, o1, e1, c1⟩ := h.at (i := 1) (by omega)
  obtain ⟨g2, o2, e2, c2⟩ := h.at (i := 2) (by omega)
  simp only [Option.some.injEq, Addr.mk.injEq, and_true] at e1 e2
  obtain ⟨rfl, rfl⟩ := e1
  obtain ⟨rfl, rfl⟩ := e2
  have hle := h.le
  have b0 : (d[0]?.getD 0) = d[0] := by rw [List.getElem?_eq_getElem (by omega)]; rfl
  have b1 : (d[1]?.getD 0) = d[1] := by rw [List.getElem?_eq_getElem (by omega)]; rfl
  have b2 : (d[2]?.getD 0) = d[2] := by rw [List.getElem?_eq_getElem (by omega)]; rfl
  have ht : three d 0 = d[0].toNat + 256 * d[1].toNat + 65536 * d[2].toNat := by unfold three; rw [Nat.zero_add, Nat.zero_add, b0, b1, b2]
  have l0 := UInt8.toNat_lt d[0]
  have l1 := UInt8.toNat_lt d[1]
  have l2 := UInt8.toNat_lt d[2]
  rw [ht]
  generalize d[0].toNat = x0 at *
  generalize d[1].toNat = x1 at *
  generalize d[2].toNat = x2 at *
  have o1 := or8 x0 x1 (by omega) (by omega)
  obtain ⟨y, hy⟩ : ∃ y, y = x0 + 256 * x1 := ⟨_, rfl⟩
  rw [← hy] at o1
  have o2 := or16 y x2 (by omega) (by omega)
  rw [← hy]
  obtain ⟨z, hz⟩ : ∃ z, z = y + 65536 * x2 := ⟨_, rfl⟩
  rw [← hz] at o2 ⊢
  clear hy hz
  have g0 : (0 : Int) < (d.length : Int) := by omega
  have g1 : (1 : Int) < (d.length : Int) := by omega
  have g2 : (2 : Int) < (d.length : Int) := by omega
  simp only [Nat.add_zero] at c0
  clear h b0 b1 b2 ht
  go_enter Tryz.func29, Tryz.ntmps29
  go_wp2_with fail
  go_quiet (fail)
  go_wp2
  go_ret
  exact ⟨rfl, _, rfl⟩
theorem alikeF_stop {b : List UInt8} {i j f n : Nat} (h : ¬ (j + n < b.length ∧ b[i + n]? = b[j + n]?)) : alikeF b i j f n = n := by
  cases f with
  | zero => rfl
  | succ f => rw [alikeF, if_neg h]
set_option maxRecDepth 100000 in
set_option maxHeartbeats 4000000 in
theorem alike_any (a : Option Addr) (cap i j : Nat) (b : List UInt8) (w : World) (h : Rd w a cap b) (hij : i ≤ j) (hj : j ≤ b.length) :
    Calls Tryz.prog 30 #[.slice a b.length cap, .int .i64 i, .int .i64 j] w fun e w' => e = .returned (.int .i64 (alike b i j)) ∧ Fr [] w w' := by
  have hle := h.le
  have hmax := h.max
  unfold maxLen at hmax
  obtain ⟨L, hL⟩ : ∃ L, L = b.length := ⟨_, rfl⟩
  rw [← hL] at hle hj ⊢
  have H := Lib.hid (And.intro h hL)
  clear h hL
  go_enter Tryz.func30, Tryz.ntmps30
  go_upto_block 0 with fail
  go_wp2
  go_loopg [7] 258 (fun k s7 wr => ∃ n : Nat, s7 = .int .i64 (n : Nat) ∧ n + k = 258 ∧ j + n ≤ L ∧ alikeF b i j k n = alike b i j ∧ Fr [] w wr)
  case atStart => exact ⟨0, rfl, rfl, by omega, rfl, Fr.refl _ _⟩
  case round =>
    obtain ⟨n, rfl, hn, hjn, hal, hf⟩ := hrel
    have HF := Lib.hid (And.intro hal hf)
    clear hal hf
    obtain ⟨m1, hm1⟩ : ∃ m1, m1 = i + n := ⟨_, rfl⟩
    obtain ⟨m2, hm2⟩ : ∃ m2, m2 = j + n := ⟨_, rfl⟩
    have e1 : (i : Int) + (n : Int) = (m1 : Int) := by omega
    have e2 : (j : Int) + (n : Int) = (m2 : Int) := by omega
    have w1 : IntKind.i64.wrap ((i : Int) + (n : Int)) = (m1 : Int) := by rw [IntKind.wrap_i64]; omega
    have w2 : IntKind.i64.wrap ((j : Int) + (n : Int)) = (m2 : Int) := by rw [IntKind.wrap_i64]; omega
    have HE := Lib.hid (And.intro hm1 hm2)
    have l1 : m1 ≤ L := by omega
    have l2 : m2 ≤ L := by omega
    have l3 : m1 ≤ m2 := by omega
    by_cases hn258 : n < 258
    · obtain ⟨k, rfl⟩ : ∃ k, gk = k + 1 := ⟨gk - 1, by omega⟩
      have d0 : decide ((n : Int) < 258) = true := by simp; omega
      by_cases c2 : m2 < L
      · have d2 : decide (m2 < L) = true := by simpa using c2
        have d2' : decide ((m2 : Int) < L) = true := by simp; omega
        have hl1 : m1 < b.length := by rw [← H.out.2]; omega
        have hl2 : m2 < b.length := by rw [← H.out.2]; omega
        obtain ⟨g1, o1, ra, X1⟩ := H.out.1.at hl1
        obtain ⟨g2, o2, rb, X2⟩ := H.out.1.at hl2
        have rb' := rb
        rw [ra] at rb'
        simp only [Option.some.injEq, Addr.mk.injEq, and_true] at rb'
        obtain ⟨rfl, rfl⟩ := rb'
        have x1 := HF.out.2.cell X1 (by simp)
        have x2 := HF.out.2.cell X2 (by simp)
        clear X1 X2
        obtain ⟨y1, hy1⟩ : ∃ y, y = b[m1] := ⟨_, rfl⟩
        obtain ⟨y2, hy2⟩ : ∃ y, y = b[m2] := ⟨_, rfl⟩
        rw [← hy1] at x1
        rw [← hy2] at x2
        have q1 : b[m1]? = some y1 := by rw [hy1]; exact List.getElem?_eq_getElem hl1
        have q2 : b[m2]? = some y2 := by rw [hy2]; exact List.getElem?_eq_getElem hl2
        have i1 : (m1 : Int) < (L : Int) := by omega
        have i2 : (m2 : Int) < (L : Int) := by omega
        subst ra
        clear rb hy1 hy2
        by_cases ce : y1 = y2
        · have hst : alikeF b i j (k + 1) n = alikeF b i j k (n + 1) := by
            rw [alikeF, if_pos]
            exact ⟨by rw [← H.out.2, ← hm2]; exact c2, by rw [← hm1, ← hm2, q1, q2, ce]⟩
          have HS := Lib.hid (hst.symm.trans HF.out.1)
          rw [← ce] at x2
          generalize y1.toNat = n1 at *
          clear ce hl1 hl2 hm1 hm2 q1 q2 hst
          go_upto_region 2 with fail
          go_quiet (fail)
          clear x1 x2 w1 w2
          go_wp2
          go_roundg k
          case measure => omega
          case rel => exact ⟨n + 1, by go_num, by omega, by have := HE.out.2; omega, HS.out, HF.out.2.trans (Fr.drewN [] _ _)⟩
        · have hne : y1.toNat ≠ y2.toNat := fun h => ce (UInt8.toNat_inj.1 h)
          have hst : alikeF b i j (k + 1) n = n := alikeF_stop fun hc => by
            rw [← hm1, ← hm2, q1, q2] at hc
            exact ce (Option.some.inj hc.2)
          have HS := Lib.hid (hst.symm.trans HF.out.1)
          have d3 : (((y1.toNat : Nat) : Int) == ((y2.toNat : Nat) : Int)) = false := by simp; omega
          generalize y1.toNat = n1 at *
          generalize y2.toNat = n2 at *
          clear ce hl1 hl2 hne hm1 hm2 q1 q2 hst
          go_upto_region 2 with fail
          go_quiet (fail)
          clear x1 x2 w1 w2
          go_wp2
          go_ret
          exact ⟨by rw [← HS.out]; rfl, HF.out.2.trans (Fr.drewN [] _ _)⟩
      · have d2 : decide (m2 < L) = false := by simpa using c2
        have d2' : decide ((m2 : Int) < L) = false := by simp; omega
        have hst : alikeF b i j (k + 1) n = n := alikeF_stop fun hc => by
          have := hc.1
          rw [← H.out.2] at this
          omega
        have HS := Lib.hid (hst.symm.trans HF.out.1)
        clear hst hm1 hm2
        go_upto_region 2 with fail
        go_quiet (fail)
        clear w1 w2
        go_wp2
        go_ret
        exact ⟨by rw [← HS.out]; rfl, HF.out.2.trans (Fr.drewN [] _ _)⟩
    · obtain rfl : n = 258 := by omega
      obtain rfl : gk = 0 := by omega
      have HS := Lib.hid HF.out.1
      clear hm1 hm2
      go_upto_region 2 with fail
      go_quiet (fail)
      clear w1 w2
      go_wp2
      go_ret
      exact ⟨by rw [← HS.out]; rfl, HF.out.2.trans (Fr.drewN [] _ _)⟩
end Go.Proofs.YtolkoidbkaidkaaGreat.mat
/-
  deflate.Matches: its memory (the map of heads, the row of places before), and the closure that enters a place.
-/
namespace Go.Proofs.YtolkoidbkaidkaaGreat.mat
open Go Go.RowKit Go.Proofs.YtolkoidbkaidkaaGreat.lib Go.Proofs.YtolkoidbkaidkaaGreat.bm

theorem und_u32 : Tryz.prog.underlying 66 = some (.int .u32) := by kernel_rfl
theorem und_int : Tryz.prog.underlying 3 = some (.int .i64) := by kernel_rfl
theorem und_map : Tryz.prog.underlying 70 = some (.map 66 3) := by kernel_rfl
theorem keyed_u32 : Maps.Keyed Tryz.prog 66 := Maps.int_keyed und_u32
theorem zero_int (w : World) : (zeroValue 3).run Tryz.prog w = .ok (.int .i64 0) w := by kernel_rfl
theorem wf_u32n {k : Nat} (h : k < 4294967296) : (Lit.int .u32 (k : Int)).wf = true := WalkArith.wf_u32 (by omega)
theorem wf_i64n {k : Int} (h : -9223372036854775808 ≤ k) (h2 : k ≤ 9223372036854775807) : (Lit.int .i64 k).wf = true := WalkArith.wf_i64 (by omega)
theorem key_u32 {k : Nat} (h : k < 4294967296) : keyOf Tryz.prog 66 (.int .u32 (k : Int)) = some (.int .u32 (k : Int)) := Maps.keyOf_int_mk und_u32 (wf_u32n h)
theorem cutAtN_map {a : Option Addr} {cap lo : Nat} (h : lo < cap) : cutAtN a cap lo 1 = Option.map (fun x => x.add lo) a := by
  unfold cutAtN
  rw [if_neg (by omega), Nat.mul_one]
/-- What the map says of a key: a place, if there is one. -/
def pq : Option Nat → Int × Bool
  | none => (0, false)
  | some p => ((p : Int), true)
/-- What stands in the row of places before. -/
def pv (b : List UInt8) (j : Nat) : Int := match last b j (three b j) with
  | none => -1
  | some p => (p : Int)
def MapOk (b : List UInt8) (i : Nat) (D : DataW Unit) : Prop :=
  Maps.IsMap D ∧ ∀ k : Nat, k < 4294967296 → D.atKey (.int .u32 (k : Int)) (.lit (.int .i64 0)) = .lit (.int .i64 (pq (last b i k)).1) ∧ Maps.has D (.int .u32 (k : Int)) = (pq (last b i k)).2
theorem mapOk_start (b : List UInt8) : MapOk b 0 (.map []) := ⟨Maps.isMap_empty, fun k _ => ⟨rfl, rfl⟩⟩
theorem MapOk.put {b : List UInt8} {i : Nat} {D : DataW Unit} (h : MapOk b i D) (hi : i + 3 ≤ b.length) : MapOk b (i + 1) (D.put (.int .u32 (three b i : Nat)) (.lit (.int .i64 (i : Int)))) := by
  refine ⟨h.1.put _ _, fun k hk => ?_⟩
  by_cases he : three b i = k
  · have hl : last b (i + 1) k = some i := by rw [last, if_pos ⟨hi, he⟩]
    rw [hl, he]
    have hkl : WideAt.IsKeyLit (.int .u32 (k : Int)) := by first | trivial | exact wf_u32n hk | simp [WideAt.IsKeyLit]
    exact ⟨Maps.atKey_put_same h.1 hkl _ _, Maps.has_put_same h.1 hkl _⟩
  · have hl : last b (i + 1) k = last b i k := by rw [last, if_neg (fun hc => he hc.2)]
    have hne : (Lit.int .u32 (k : Int)) ≠ .int .u32 (three b i : Nat) := by
      intro e
      simp only [Lit.int.injEq, true_and] at e
      omega
    rw [hl, Maps.atKey_put_other hne, Maps.has_put_other hne]
    exact h.2 k hk
theorem MapOk.skip {b : List UInt8} {i : Nat} {D : DataW Unit} (h : MapOk b i D) (hi : ¬ i + 3 ≤ b.length) : MapOk b (i + 1) D := by
  refine ⟨h.1, fun k hk => ?_⟩
  rw [last, if_neg (fun hc => hi hc.1)]
  exact h.2 k hk
theorem ownsMap_block {H : Type} {P : Program} {w w' : World} {k : TypeId} {R : Value → Option (DataW H × List MemPlace)} {m n : Nat} {D : DataW H} (h : w.ownsMap P k R m n D) (hb : w'.heap[m]? = w.heap[m]?) : w'.ownsMap P k R m n D := by
  obtain ⟨es, c, h1, r⟩ := h
  exact ⟨es, c, hb.trans h1, r⟩
theorem map_look {b : List UInt8} {i bm cnt : Nat} {D : DataW Unit} {w : World} (h : w.ownsMap Tryz.prog 66 (plainElem Tryz.prog 3) bm cnt D) (hm : MapOk b i D) {k : Nat} (hk : k < 4294967296) :
    (Instr.lookup 70 (.map (some bm)) (.int .u32 (k : Int)) true).run Tryz.prog w = .ok (.tuple #[.int .i64 (pq (last b i k)).1, .bool (pq (last b i k)).2]) w := by
  obtain ⟨v, ps, hrun, hv⟩ := h.look_ok keyed_u32 und_map (zero_int w) (plainElem_int und_int (by decide)) (key_u32 hk)
  obtain ⟨ha, hh⟩ := hm.2 k hk
  obtain ⟨c, rfl, hc, _⟩ := plainElem_int_inv und_int hv
  simp only [Prod.mk.injEq] at hc
  rw [ha] at hc
  have e : c = (pq (last b i k)).1 := by simpa using hc.1.symm
  rw [hrun, hh, e]
def pd : Option Nat → Int
  | none => -1
  | some p => (p : Int)
theorem pv_pd (b : List UInt8) (j : Nat) : pv b j = pd (last b j (three b j)) := by unfold pv pd; rfl
/-- The blocks. -/
structure Eb (w : World) (b : List UInt8) (a : Option Addr) (cap qb qp qh bp bm cnt : Nat) (D : DataW Unit) (P : Array Value) : Prop where
  vb : w.heap[qb]? = some (.cells #[.slice a b.length cap] 22 (0, 0))
  vp : w.heap[qp]? = some (.cells #[.slice (some ⟨bp, 0, none⟩) b.length b.length] 35 (0, 0))
  vh : w.heap[qh]? = some (.cells #[.map (some bm)] 70 (0, 0))
  rd : Rd w a cap b
  map : w.ownsMap Tryz.prog 66 (plainElem Tryz.prog 3) bm cnt D
  row : w.heap[bp]? = some (.cells P 3 (0, 0))
  size : P.size = b.length
  np : qb ≠ bp ∧ qp ≠ bp ∧ qh ≠ bp ∧ bm ≠ bp
  nm : qb ≠ bm ∧ qp ≠ bm ∧ qh ≠ bm
  na : b ≠ [] → ∀ x ∈ blk a, x ≠ bp ∧ x ≠ bm
theorem Eb.fr {w w' : World} {b : List UInt8} {a : Option Addr} {cap qb qp qh bp bm cnt : Nat} {D : DataW Unit} {P : Array Value} (h : Eb w b a cap qb qp qh bp bm cnt D P) (f : Fr [] w w') : Eb w' b a cap qb qp qh bp bm cnt D P :=
  ⟨f.blk h.vb (by simp), f.blk h.vp (by simp), f.blk h.vh (by simp), h.rd.fr f, ownsMap_block h.map (f.block _ h.map.lt (by simp)), f.blk h.row (by simp), h.size, h.np, h.nm, h.na⟩
theorem Eb.store {w : World} {b : List UInt8} {a : Option Addr} {cap qb qp qh bp bm cnt : Nat} {D : DataW Unit} {P : Array Value} (h : Eb w b a cap qb qp qh bp bm cnt D P) (i : Nat) (v : Value) :
    Eb (w.setCell ⟨bp, i, none⟩ v) b a cap qb qp qh bp bm cnt D (P.setIfInBounds i v) ∧ Fr [bp] w (w.setCell ⟨bp, i, none⟩ v) := by
  have f : Fr [bp] w (w.setCell ⟨bp, i, none⟩ v) := (Fr.refl [bp] w).setCell (by simp) v
  obtain ⟨n1, n2, n3, n4⟩ := h.np
  exact ⟨⟨f.blk h.vb (by simpa using n1), f.blk h.vp (by simpa using n2), f.blk h.vh (by simpa using n3), rd_frE h.rd f (fun hb x hx => by simpa using (h.na hb x hx).1), ownsMap_block h.map (f.block _ h.map.lt (by simpa using n4)), setCell_of h.row v, by simp [h.size], h.np, h.nm, h.na⟩, f⟩
theorem Eb.put {w w' : World} {b : List UInt8} {a : Option Addr} {cap qb qp qh bp bm cnt cnt' : Nat} {D D' : DataW Unit} {P : Array Value} (h : Eb w b a cap qb qp qh bp bm cnt D P) (hm : w'.ownsMap Tryz.prog 66 (plainElem Tryz.prog 3) bm cnt' D') (hg : w.grownBy w' (some bm)) :
    Eb w' b a cap qb qp qh bp bm cnt' D' P ∧ Fr [bm] w w' := by
  have f : Fr [bm] w w' := (Fr.refl [bm] w).grown hg (fun k hk => by simp only [Option.some.injEq] at hk; simp [hk])
  obtain ⟨n1, n2, n3, n4⟩ := h.np
  obtain ⟨m1, m2, m3⟩ := h.nm
  exact ⟨⟨f.blk h.vb (by simpa using m1), f.blk h.vp (by simpa using m2), f.blk h.vh (by simpa using m3), rd_frE h.rd f (fun hb x hx => by simpa using (h.na hb x hx).2), hm, f.blk h.row (by simpa using (Ne.symm n4)), h.size, h.np, h.nm, h.na⟩, f⟩
/-- What is entered up to i. -/
def En (w : World) (b : List UInt8) (a : Option Addr) (cap qb qp qh bp bm i : Nat) : Prop :=
  ∃ D P cnt, Eb w b a cap qb qp qh bp bm cnt D P ∧ cnt ≤ i ∧ MapOk b i D ∧ ∀ j, j < i → j + 3 ≤ b.length → P[j]? = some (.int .i64 (pv b j))
theorem En.fr {w w' : World} {b : List UInt8} {a : Option Addr} {cap qb qp qh bp bm i : Nat} (h : En w b a cap qb qp qh bp bm i) (f : Fr [] w w') : En w' b a cap qb qp qh bp bm i := by
  obtain ⟨D, P, cnt, h1, r⟩ := h
  exact ⟨D, P, cnt, h1.fr f, r⟩
theorem En.skip {w : World} {b : List UInt8} {a : Option Addr} {cap qb qp qh bp bm i : Nat} (h : En w b a cap qb qp qh bp bm i) (hi : ¬ i + 3 ≤ b.length) : En w b a cap qb qp qh bp bm (i + 1) := by
  obtain ⟨D, P, cnt, h1, h2, h3, h4⟩ := h
  exact ⟨D, P, cnt, h1, by omega, h3.skip hi, fun j hj hj2 => h4 j (by omega) hj2⟩
set_option maxRecDepth 100000 in
set_option maxHeartbeats 1000000 in
theorem enter_any (b : List UInt8) (a : Option Addr) (cap qb qp qh bp bm i : Nat) (w : World) (h : En w b a cap qb qp qh bp bm i) (hi : i < b.length) (hlen : b.length ≤ 100000) :
    Calls Tryz.prog 28 #[.int .i64 i, .pointer (some ⟨qb, 0, none⟩), .pointer (some ⟨qp, 0, none⟩), .pointer (some ⟨qh, 0, none⟩)] w fun e w' =>
      e = .returned (.tuple #[]) ∧ Fr [bp, bm] w w' ∧ En w' b a cap qb qp qh bp bm (i + 1) := by
  by_cases h3 : i + 3 ≤ b.length
  · obtain ⟨D, P, cnt, E, hcnt, hmap, hrow⟩ := h
    obtain ⟨L, hL⟩ : ∃ L, L = b.length := ⟨_, rfl⟩
    have cb := cell_of E.vb 0
    simp only [List.getElem?_toArray, List.getElem?_cons_zero] at cb
    have hle := E.rd.le
    have hth := three_any (cutAtN a cap i 1) (cap - i) (b.drop i) w (E.rd.drop i (by omega)) (by rw [List.length_drop]; omega)
    rw [List.length_drop, three_drop, cutAtN_map (by omega)] at hth
    have hkl := three_lt b i
    obtain ⟨ha, hh⟩ := hmap.2 _ hkl
    have hpv : ∀ p, last b i (three b i) = some p → pv b i = p := fun p hp => by unfold pv; rw [hp]
    have hpn : last b i (three b i) = none → pv b i = -1 := fun hp => by unfold pv; rw [hp]
    rw [← hL] at cb hi h3 hle hlen hth
    have HM := Lib.hid (And.intro E (And.intro hmap (And.intro hrow hL)))
    have HP := Lib.hid (And.intro hpv hpn)
    obtain ⟨k, hk⟩ : ∃ k, k = three b i := ⟨_, rfl⟩
    rw [← hk] at hkl ha hh hth
    have HT := Lib.hid hth
    have hkey := key_u32 hkl
    have HK := Lib.hid hk
    have HL : Hid (L = b.length) := HM.out.2.2.2 |> Lib.hid
    clear hth hpv hpn hL E hmap hrow hk
    have d0 : decide ((L : Int) < (i : Int) + 3) = false := by simp; omega
    go_enter Tryz.func28, Tryz.ntmps28
    go_upto_region 2 with (go_at_call 29; (with_reducible refine HT.out.mono ?_); rintro e w1 ⟨rfl, n1, hw1⟩; have HW1 := Lib.hid hw1; clear hw1)
    have E1 : Eb w1 b a cap qb qp qh bp bm cnt D P := HM.out.1.fr (by rw [HW1.out]; exact Fr.drewN [] w n1)
    have cp := cell_of E1.vp 0
    simp only [List.getElem?_toArray, List.getElem?_cons_zero] at cp
    rw [← HL.out] at cp
    have hz1 := frozen_of E1.row i
    have hpl : i < P.size := by rw [E1.size, ← HL.out]; exact hi
    obtain ⟨x0, hx0⟩ : ∃ x, w1.cell? ⟨bp, i, none⟩ = some x := ⟨P[i], by rw [cell_of E1.row]; exact Array.getElem?_eq_getElem hpl⟩
    have HE1 := Lib.hid (And.intro E1 hpl)
    clear E1 hpl cb
    go_upto_region 3 with fail
    obtain ⟨E2, f2⟩ := HE1.out.1.store i (.int .i64 (-1))
    generalize hw2 : w1.setCell ⟨bp, i, none⟩ (.int .i64 (-1)) = w2 at *
    have ch := cell_of E2.vh 0
    simp only [List.getElem?_toArray, List.getElem?_cons_zero] at ch
    have hown := E2.map
    have HE2 := Lib.hid (And.intro E2 f2)
    clear hw2 E2 f2 cp hz1 hx0
    have hcm : cnt < maxLen := by unfold maxLen; omega
    have HWF : Hid ((Lit.int .i64 (i : Int)).wf = true) := Lib.hid (wf_i64n (by omega) (by omega))
    cases hq : last b i k with
    | none =>
      rw [hq] at hh
      have hq' : last b i (three b i) = none := by rw [← HK.out]; exact hq
      have HQ := Lib.hid hq'
      simp only [pq] at hh
      clear hq hq' ha
      go_upto_region 6 with (at_lookup; refine wpList_lookup_own_ok_int _ rfl _ _ 70 rfl 66 3 .i64 keyed_u32 und_map und_int (zero_int _) bm cnt D rfl hown _ (.int .u32 (k : Int)) rfl hkey ?_; intro c hat _; rw [hh]; clear hat)
      go_wp2_with (at_mapUpdate; refine wpList_mapUpdate_own _ rfl _ _ _ 70 rfl 66 3 keyed_u32 und_map _ bm cnt D rfl hown hcm _ _ (.int .u32 (k : Int)) rfl rfl hkey _ [] (plainElem_int und_int (a := (i : Int)) HWF.out) ?_; intro w3 hown3 hgrow3)
      go_end0
      obtain ⟨E3, f3⟩ := HE2.out.1.put hown3 hgrow3
      refine ⟨rfl, ?_, _, _, _, E3, by omega, ?_, fun j hj hj2 => ?_⟩
      · have f1 : Fr [bp, bm] w w1 := by rw [HW1.out]; exact Fr.drewN [bp, bm] w n1
        exact (f1.step HE2.out.2 (fun y hy => .inl (by simp at hy; simp [hy]))).step f3 (fun y hy => .inl (by simp at hy; simp [hy]))
      · rw [HK.out]
        exact HM.out.2.1.put (by rw [← HL.out]; exact h3)
      · by_cases e : j = i
        · subst e
          rw [Array.getElem?_setIfInBounds_self_of_lt HE1.out.2, HP.out.2 HQ.out]
        · rw [Array.getElem?_setIfInBounds_ne (by omega)]
          exact HM.out.2.2.1 j (by omega) hj2
    | some p =>
      rw [hq] at hh ha
      have hq' : last b i (three b i) = some p := by rw [← HK.out]; exact hq
      have HQ := Lib.hid hq'
      simp only [pq] at hh ha
      have HA := Lib.hid ha
      clear hq hq' ha
      have cp := cell_of HE2.out.1.vp 0
      simp only [List.getElem?_toArray, List.getElem?_cons_zero] at cp
      rw [← HL.out] at cp
      have hz1 := frozen_of HE2.out.1.row i
      obtain ⟨x1, hx1⟩ : ∃ x, w2.cell? ⟨bp, i, none⟩ = some x := ⟨_, by rw [cell_of HE2.out.1.row]; exact Array.getElem?_setIfInBounds_self_of_lt HE1.out.2⟩
      go_upto_region 6 with (at_lookup; refine wpList_lookup_own_ok_int _ rfl _ _ 70 rfl 66 3 .i64 keyed_u32 und_map und_int (zero_int _) bm cnt D rfl hown _ (.int .u32 (k : Int)) rfl hkey ?_; intro c hat _; rw [hh]; have HC : Hid (c = (p : Int)) := Lib.hid (by rw [HA.out] at hat; simpa using hat.symm); clear hat)
      obtain ⟨E3, f3⟩ := HE2.out.1.store i (.int .i64 c)
      generalize hw3 : w2.setCell ⟨bp, i, none⟩ (.int .i64 c) = w3 at *
      have ch3 := cell_of E3.vh 0
      simp only [List.getElem?_toArray, List.getElem?_cons_zero] at ch3
      have hown3 := E3.map
      have HE3 := Lib.hid (And.intro E3 f3)
      clear hw3 E3 f3 cp hz1 hx1 hown ch
      go_wp2_with (at_mapUpdate; refine wpList_mapUpdate_own _ rfl _ _ _ 70 rfl 66 3 keyed_u32 und_map _ bm cnt D rfl hown3 hcm _ _ (.int .u32 (k : Int)) rfl rfl hkey _ [] (plainElem_int und_int (a := (i : Int)) HWF.out) ?_; intro w4 hown4 hgrow4)
      go_end0
      obtain ⟨E4, f4⟩ := HE3.out.1.put hown4 hgrow4
      refine ⟨rfl, ?_, _, _, _, E4, by omega, ?_, fun j hj hj2 => ?_⟩
      · have f1 : Fr [bp, bm] w w1 := by rw [HW1.out]; exact Fr.drewN [bp, bm] w n1
        exact ((f1.step HE2.out.2 (fun y hy => .inl (by simp at hy; simp [hy]))).step HE3.out.2 (fun y hy => .inl (by simp at hy; simp [hy]))).step f4 (fun y hy => .inl (by simp at hy; simp [hy]))
      · rw [HK.out]
        exact HM.out.2.1.put (by rw [← HL.out]; exact h3)
      · by_cases e : j = i
        · subst e
          rw [Array.getElem?_setIfInBounds_self_of_lt (by rw [Array.size_setIfInBounds]; exact HE1.out.2), HP.out.1 p HQ.out, HC.out]
        · rw [Array.getElem?_setIfInBounds_ne (by omega), Array.getElem?_setIfInBounds_ne (by omega)]
          exact HM.out.2.2.1 j (by omega) hj2
  · have hsk := h.skip h3
    obtain ⟨D, P, cnt, E, _⟩ := h
    have cb := cell_of E.vb 0
    simp only [List.getElem?_toArray, List.getElem?_cons_zero] at cb
    have HS := Lib.hid hsk
    clear hsk E
    have d0 : decide ((b.length : Int) < (i : Int) + 3) = true := by simp; omega
    go_enter Tryz.func28, Tryz.ntmps28
    go_wp2
    (try simp only [Exit.inBlock, Exit.then])
    refine bodyPost_ret (results_none rfl _ _ _) rfl ?_
    exact ⟨rfl, Fr.refl _ _, HS.out⟩
end Go.Proofs.YtolkoidbkaidkaaGreat.mat
