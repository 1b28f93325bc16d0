/-
  delta: the plain law: numbers in groups of seven bits, a copy's place and length, what a delta makes.
-/
import Derived.Test.YtoplgcikcanagaaOps2
namespace Go.Proofs.Ytoplgcikcanagaa.delta
open Go Go.RowKit Go.Proofs.Ytoplgcikcanagaa.lib

/-- A number in groups of seven bits. -/
def numb (n : Nat) : List UInt8 := if n ≤ 127 then [UInt8.ofNat n] else UInt8.ofNat (n % 128 + 128) :: numb (n / 128)
termination_by n
decreasing_by omega
theorem numb_small {n : Nat} (h : n ≤ 127) : numb n = [UInt8.ofNat n] := by rw [numb, if_pos h]
theorem numb_big {n : Nat} (h : 127 < n) : numb n = UInt8.ofNat (n % 128 + 128) :: numb (n / 128) := by rw [numb, if_neg (by omega)]
/-- A number is read: it, what stands behind it, what is wrong. f: how many bytes it may still have; i: how many it had. -/
def rdn : Nat → Nat → Nat → List UInt8 → Nat × List UInt8 × Nat
  | 0, _, _, _ => (0, [], 3)
  | _ + 1, _, _, [] => (0, [], 4)
  | f + 1, i, n, c :: r => if c.toNat < 128 then (if 2147483647 < n + c.toNat % 128 * 128 ^ i then (0, [], 3) else (n + c.toNat % 128 * 128 ^ i, r, 0)) else rdn f (i + 1) (n + c.toNat % 128 * 128 ^ i) r
def rd (d : List UInt8) : Nat × List UInt8 × Nat := rdn 5 0 0 d
def sizes (d : List UInt8) : Nat × Nat × List UInt8 × Nat :=
  if (rd d).2.2 = 0 then (if (rd (rd d).2.1).2.2 = 0 then ((rd d).1, (rd (rd d).2.1).1, (rd (rd d).2.1).2.1, 0) else (0, 0, [], (rd (rd d).2.1).2.2)) else (0, 0, [], (rd d).2.2)
/-- A copy's place and length: op: its bits; i: the bit that is looked at. -/
def pl (op : Nat) : Nat → Nat → Nat → Nat → List UInt8 → Option (Nat × Nat × List UInt8)
  | 0, _, p, n, d => some (p, (if n = 0 then 65536 else n), d)
  | f + 1, i, p, n, d => if op / 2 ^ i % 2 = 0 then pl op f (i + 1) p n d else match d with
    | [] => none
    | c :: r => if i < 4 then pl op f (i + 1) (p + c.toNat * 256 ^ i) n r else pl op f (i + 1) p (n + c.toNat * 256 ^ (i - 4)) r
/-- The instructions, from the left. -/
def app (base : List UInt8) (to : Nat) : Nat → List UInt8 → List UInt8 → List UInt8 × Nat
  | _, [], out => if out.length < to then ([], 3) else (out, 0)
  | 0, _ :: _, _ => ([], 3)
  | f + 1, c :: r, out => if 128 ≤ c.toNat then match pl (c.toNat - 128) 7 0 0 0 r with
      | none => ([], 4)
      | some (p, n, rest) => if base.length < p ∨ base.length - p < n ∨ to - out.length < n then ([], 3) else app base to f rest (out ++ (base.drop p).take n)
    else if c.toNat = 0 ∨ to - out.length < c.toNat then ([], 3) else if r.length < c.toNat then ([], 4) else app base to f (r.drop c.toNat) (out ++ r.take c.toNat)
def apply (base d : List UInt8) (bound : Int) : List UInt8 × Nat :=
  if (sizes d).2.2.2 ≠ 0 then ([], (sizes d).2.2.2) else if (sizes d).1 ≠ base.length then ([], 3) else if bound.toNat < (sizes d).2.1 then ([], 5) else app base (sizes d).2.1 (sizes d).2.2.1.length (sizes d).2.2.1 []

/-! ### Facts -/
theorem rdn_rest : ∀ (f i n : Nat) (d : List UInt8), ∃ k, (rdn f i n d).2.1.length + k = d.length ∧ ((rdn f i n d).2.2 = 0 → (rdn f i n d).2.1 = d.drop k ∧ (rdn f i n d).1 ≤ 2147483647)
  | 0, _, _, d => ⟨d.length, by simp [rdn], by simp [rdn]⟩
  | f + 1, i, n, [] => ⟨0, by simp [rdn], by simp [rdn]⟩
  | f + 1, i, n, c :: r => by
    rw [rdn]
    split
    · split
      · exact ⟨(c :: r).length, by simp, by simp⟩
      · refine ⟨1, by simp, fun _ => ⟨by simp, by simp only; omega⟩⟩
    · obtain ⟨k, h1, h2⟩ := rdn_rest f (i + 1) (n + c.toNat % 128 * 128 ^ i) r
      exact ⟨k + 1, by simp only [List.length_cons]; omega, fun h => by simpa using h2 h⟩
theorem sizes_to (d : List UInt8) : (sizes d).2.1 ≤ 2147483647 ∧ (sizes d).2.2.1.length ≤ d.length := by
  obtain ⟨k, h1, h2⟩ := rdn_rest 5 0 0 d
  unfold sizes
  split
  · rename_i h0
    obtain ⟨k', h3, h4⟩ := rdn_rest 5 0 0 (rd d).2.1
    split
    · rename_i h5
      refine ⟨(h4 h5).2, ?_⟩
      simp only
      unfold rd at *
      omega
    · simp
  · simp
theorem numb_pos (n : Nat) : 0 < (numb n).length := by
  rw [numb]
  split <;> simp
theorem u8_nat {n : Nat} (h : n < 256) : (UInt8.ofNat n).toNat = n := by rw [UInt8.toNat_ofNat']; omega
theorem pow128 (i : Nat) : 128 ^ (i + 1) = 128 * 128 ^ i := by rw [Nat.pow_succ, Nat.mul_comm]
/-- A number that was written is read. -/
theorem rdn_numb (n : Nat) : ∀ (f i acc : Nat) (r : List UInt8), n < 128 ^ (f + 1) → acc + n * 128 ^ i ≤ 2147483647 → rdn (f + 1) i acc (numb n ++ r) = (acc + n * 128 ^ i, r, 0) := by
  induction n using Nat.strongRecOn with
  | ind n ih =>
    intro f i acc r h1 h2
    by_cases hn : n ≤ 127
    · rw [numb_small hn, List.singleton_append, rdn, u8_nat (by omega), if_pos (by omega), Nat.mod_eq_of_lt (by omega), if_neg (by omega)]
    · rw [numb_big (by omega), List.cons_append, rdn, u8_nat (by omega), if_neg (by omega)]
      have e1 : (n % 128 + 128) % 128 = n % 128 := by omega
      have hp := pow128 i
      have e2 : n % 128 * 128 ^ i + n / 128 * 128 ^ (i + 1) = n * 128 ^ i := by
        rw [hp, ← Nat.mul_assoc, ← Nat.add_mul]
        congr 1
        omega
      cases f with
      | zero => simp at h1; omega
      | succ f =>
        rw [e1, ih (n / 128) (by omega) f (i + 1) _ r (by rw [pow128 (f + 1)] at h1; exact (Nat.div_lt_iff_lt_mul (by decide)).2 (by rw [Nat.mul_comm]; exact h1)) (by omega)]
        rw [Nat.add_assoc, e2]
theorem rd_numb (n : Nat) (h : n ≤ 2147483647) (r : List UInt8) : rd (numb n ++ r) = (n, r, 0) := by
  have := rdn_numb n 4 0 0 r (Nat.lt_of_le_of_lt h (by decide)) (by simpa using h)
  simpa [rd] using this
theorem sizes_numb (n m : Nat) (hn : n ≤ 2147483647) (hm : m ≤ 2147483647) (r : List UInt8) : sizes (numb n ++ (numb m ++ r)) = (n, m, r, 0) := by
  unfold sizes
  rw [rd_numb n hn]
  simp only [if_true]
  rw [rd_numb m hm]
  simp
end Go.Proofs.Ytoplgcikcanagaa.delta
