/-
  delta.Make: the plain law: what is written makes the text, and how long it is.
-/
import Derived.Test.YtoplgcikcanagaaDeltaApp
namespace Go.Proofs.Ytoplgcikcanagaa.delta
open Go Go.RowKit Go.Proofs.Ytoplgcikcanagaa.lib

/-! ### A copy -/
/-- A byte that is put only if it isn't nought. -/
def nz (c : Nat) : List UInt8 := if c = 0 then [] else [UInt8.ofNat c]
def bit (c : Nat) : Nat := if c = 0 then 0 else 1
theorem bit_le (c : Nat) : bit c ≤ 1 := by unfold bit; split <;> omega
theorem pl_step {op f i p n c : Nat} {r : List UInt8} (hc : c < 256) (h : op / 2 ^ i % 2 = bit c) : pl op (f + 1) i p n (nz c ++ r) = if i < 4 then pl op f (i + 1) (p + c * 256 ^ i) n r else pl op f (i + 1) p (n + c * 256 ^ (i - 4)) r := by
  unfold nz
  unfold bit at h
  by_cases h0 : c = 0
  · subst h0
    rw [if_pos rfl] at h ⊢
    rw [List.nil_append, pl_skip h]
    simp
  · rw [if_neg h0] at h ⊢
    rw [List.singleton_append, pl_cons h, u8_nat hc]
/-- The bytes of a copy's place (0 to 3) and length (4 to 6). -/
def cbyte (p k i : Nat) : Nat := if i < 4 then p / 256 ^ i % 256 else if k = 65536 then 0 else k / 256 ^ (i - 4) % 256
theorem cbyte_lt (p k i : Nat) : cbyte p k i < 256 := by
  unfold cbyte
  split
  · omega
  · split <;> omega
/-- The bits that say which of the first bytes follow. -/
def opOf (p k : Nat) : Nat → Nat
  | 0 => 0
  | i + 1 => opOf p k i + bit (cbyte p k i) * 2 ^ i
def argsOf (p k : Nat) : Nat → List UInt8
  | 0 => []
  | i + 1 => argsOf p k i ++ nz (cbyte p k i)
theorem nz_le (c : Nat) : (nz c).length ≤ 1 := by unfold nz; split <;> simp
theorem argsOf_le (p k : Nat) : ∀ i, (argsOf p k i).length ≤ i
  | 0 => Nat.le_refl _
  | i + 1 => by
    have := argsOf_le p k i
    have := nz_le (cbyte p k i)
    simp only [argsOf, List.length_append]
    omega
theorem opOf_lt (p k : Nat) : ∀ i, opOf p k i < 2 ^ i
  | 0 => by simp [opOf]
  | i + 1 => by
    have h1 := opOf_lt p k i
    have h2 := bit_le (cbyte p k i)
    have h3 : bit (cbyte p k i) * 2 ^ i ≤ 1 * 2 ^ i := Nat.mul_le_mul_right _ h2
    simp only [opOf, Nat.pow_succ]
    omega
theorem opOf_bit (p k : Nat) (i : Nat) (hi : i < 7) : opOf p k 7 / 2 ^ i % 2 = bit (cbyte p k i) := by
  have b0 := bit_le (cbyte p k 0)
  have b1 := bit_le (cbyte p k 1)
  have b2 := bit_le (cbyte p k 2)
  have b3 := bit_le (cbyte p k 3)
  have b4 := bit_le (cbyte p k 4)
  have b5 := bit_le (cbyte p k 5)
  have b6 := bit_le (cbyte p k 6)
  have e : opOf p k 7 = bit (cbyte p k 0) + bit (cbyte p k 1) * 2 + bit (cbyte p k 2) * 4 + bit (cbyte p k 3) * 8 + bit (cbyte p k 4) * 16 + bit (cbyte p k 5) * 32 + bit (cbyte p k 6) * 64 := by simp [opOf]
  rw [e]
  rcases (show i = 0 ∨ i = 1 ∨ i = 2 ∨ i = 3 ∨ i = 4 ∨ i = 5 ∨ i = 6 from by omega) with rfl | rfl | rfl | rfl | rfl | rfl | rfl
  all_goals simp only [show (2 : Nat) ^ 0 = 1 from rfl, show (2 : Nat) ^ 1 = 2 from rfl, show (2 : Nat) ^ 2 = 4 from rfl, show (2 : Nat) ^ 3 = 8 from rfl, show (2 : Nat) ^ 4 = 16 from rfl, show (2 : Nat) ^ 5 = 32 from rfl, show (2 : Nat) ^ 6 = 64 from rfl]; omega
theorem pl_args (p k : Nat) (hp : p < 4294967296) (hk1 : 1 ≤ k) (hk2 : k ≤ 65536) (r : List UInt8) : pl (opOf p k 7) 7 0 0 0 (argsOf p k 7 ++ r) = some (p, k, r) := by
  have e : argsOf p k 7 ++ r = nz (cbyte p k 0) ++ (nz (cbyte p k 1) ++ (nz (cbyte p k 2) ++ (nz (cbyte p k 3) ++ (nz (cbyte p k 4) ++ (nz (cbyte p k 5) ++ (nz (cbyte p k 6) ++ r)))))) := by simp [argsOf]
  rw [e, pl_step (cbyte_lt p k 0) (opOf_bit p k 0 (by decide)), if_pos (by decide), pl_step (cbyte_lt p k 1) (opOf_bit p k 1 (by decide)), if_pos (by decide), pl_step (cbyte_lt p k 2) (opOf_bit p k 2 (by decide)), if_pos (by decide), pl_step (cbyte_lt p k 3) (opOf_bit p k 3 (by decide)), if_pos (by decide),
    pl_step (cbyte_lt p k 4) (opOf_bit p k 4 (by decide)), if_neg (by decide), pl_step (cbyte_lt p k 5) (opOf_bit p k 5 (by decide)), if_neg (by decide), pl_step (cbyte_lt p k 6) (opOf_bit p k 6 (by decide)), if_neg (by decide), pl]
  have c0 : cbyte p k 0 = p % 256 := by unfold cbyte; simp
  have c1 : cbyte p k 1 = p / 256 % 256 := by unfold cbyte; simp
  have c2 : cbyte p k 2 = p / 65536 % 256 := by unfold cbyte; simp
  have c3 : cbyte p k 3 = p / 16777216 % 256 := by unfold cbyte; simp
  have c4 : cbyte p k 4 = if k = 65536 then 0 else k % 256 := by unfold cbyte; simp
  have c5 : cbyte p k 5 = if k = 65536 then 0 else k / 256 % 256 := by unfold cbyte; simp
  have c6 : cbyte p k 6 = if k = 65536 then 0 else k / 65536 % 256 := by unfold cbyte; simp
  rw [c0, c1, c2, c3, c4, c5, c6]
  have e1 : 0 + p % 256 * 256 ^ 0 + p / 256 % 256 * 256 ^ (0 + 1) + p / 65536 % 256 * 256 ^ (0 + 1 + 1) + p / 16777216 % 256 * 256 ^ (0 + 1 + 1 + 1) = p := by
    simp only [show 256 ^ 0 = 1 from rfl, show 256 ^ (0 + 1) = 256 from rfl, show 256 ^ (0 + 1 + 1) = 65536 from rfl, show 256 ^ (0 + 1 + 1 + 1) = 16777216 from rfl]
    omega
  rw [e1]
  by_cases hk : k = 65536
  · subst hk
    simp
  · simp only [if_neg hk]
    have e2 : 0 + k % 256 * 256 ^ (0 + 1 + 1 + 1 + 1 - 4) + k / 256 % 256 * 256 ^ (0 + 1 + 1 + 1 + 1 + 1 - 4) + k / 65536 % 256 * 256 ^ (0 + 1 + 1 + 1 + 1 + 1 + 1 - 4) = k := by
      simp only [show 256 ^ (0 + 1 + 1 + 1 + 1 - 4) = 1 from rfl, show 256 ^ (0 + 1 + 1 + 1 + 1 + 1 - 4) = 256 from rfl, show 256 ^ (0 + 1 + 1 + 1 + 1 + 1 + 1 - 4) = 65536 from rfl]
      omega
    rw [e2, if_neg (by omega)]
def cop (p k : Nat) : List UInt8 := UInt8.ofNat (128 + opOf p k 7) :: argsOf p k 7
theorem cop_le (p k : Nat) : (cop p k).length ≤ 8 := by
  have := argsOf_le p k 7
  simp only [cop, List.length_cons]
  omega

/-! ### Instructions that make something, whatever stands behind them -/
theorem app_fuel (base : List UInt8) (tn : Nat) : ∀ (f g : Nat) (r out : List UInt8), r.length ≤ f → r.length ≤ g → app base tn f r out = app base tn g r out
  | f, g, [], out, _, _ => by rw [app_nil, app_nil]
  | f + 1, g + 1, c :: r, out, hf, hg => by
    simp only [List.length_cons] at hf hg
    rw [app_cons, app_cons]
    split
    · cases hpl : pl (c.toNat - 128) 7 0 0 0 r with
      | none => rfl
      | some x =>
        obtain ⟨p, n, rest⟩ := x
        have := pl_len _ _ _ _ _ _ _ hpl
        simp only at this ⊢
        split
        · rfl
        · exact app_fuel base tn f g rest _ (by omega) (by omega)
    · split
      · rfl
      · split
        · rfl
        · exact app_fuel base tn f g _ _ (by rw [List.length_drop]; omega) (by rw [List.length_drop]; omega)
def Runs (base ins acc : List UInt8) : Prop := ∀ (tn : Nat) (rest out : List UInt8), out.length + acc.length ≤ tn → app base tn (ins ++ rest).length (ins ++ rest) out = app base tn rest.length rest (out ++ acc)
theorem runs_nil (base : List UInt8) : Runs base [] [] := fun tn rest out _ => by simp
theorem Runs.append {base i1 a1 i2 a2 : List UInt8} (h1 : Runs base i1 a1) (h2 : Runs base i2 a2) : Runs base (i1 ++ i2) (a1 ++ a2) := fun tn rest out h => by
  rw [List.length_append] at h
  have e1 := h1 tn (i2 ++ rest) out (by omega)
  have e2 := h2 tn rest (out ++ a1) (by rw [List.length_append]; omega)
  rw [List.append_assoc, e1, e2, List.append_assoc]
theorem runs_copy (base : List UInt8) (p k : Nat) (hb : base.length < 4294967296) (hk1 : 1 ≤ k) (hk2 : k ≤ 65536) (h : p + k ≤ base.length) : Runs base (cop p k) ((base.drop p).take k) := fun tn rest out ho => by
  have hl : ((base.drop p).take k).length = k := by rw [List.length_take, List.length_drop]; omega
  rw [hl] at ho
  have ho7 := opOf_lt p k 7
  have e2 : (2 : Nat) ^ 7 = 128 := by decide
  have eb : (UInt8.ofNat (128 + opOf p k 7)).toNat = 128 + opOf p k 7 := u8_nat (by omega)
  show app base tn ((argsOf p k 7 ++ rest).length + 1) (UInt8.ofNat (128 + opOf p k 7) :: (argsOf p k 7 ++ rest)) out = _
  rw [app_cons, eb, if_pos (by omega), Nat.add_sub_cancel_left, pl_args p k (by omega) hk1 hk2]
  simp only
  rw [if_neg (by omega)]
  exact app_fuel base tn _ _ _ _ (by rw [List.length_append]; omega) (Nat.le_refl _)
theorem runs_lit (base w : List UInt8) (h0 : 0 < w.length) (h1 : w.length ≤ 127) : Runs base (UInt8.ofNat w.length :: w) w := fun tn rest out ho => by
  have eb : (UInt8.ofNat w.length).toNat = w.length := u8_nat (by omega)
  show app base tn ((w ++ rest).length + 1) (UInt8.ofNat w.length :: (w ++ rest)) out = _
  rw [app_cons, eb, if_neg (by omega), if_neg (by omega), if_neg (by rw [List.length_append]; omega), List.drop_left, List.take_left]
  exact app_fuel base tn _ _ _ _ (by rw [List.length_append]; omega) (Nat.le_refl _)
/-- What waits, written as it is. -/
def lits : Nat → List UInt8 → List UInt8
  | 0, _ => []
  | f + 1, w => if w = [] then [] else (UInt8.ofNat (min 127 w.length) :: w.take 127) ++ lits f (w.drop 127)
theorem lits_nil (f : Nat) : lits f [] = [] := by cases f <;> simp [lits]
theorem lits_step {f : Nat} {w : List UInt8} (h : w ≠ []) : lits (f + 1) w = (UInt8.ofNat (min 127 w.length) :: w.take 127) ++ lits f (w.drop 127) := by rw [lits, if_neg h]
theorem runs_lits (base : List UInt8) : ∀ (f : Nat) (w : List UInt8), w.length ≤ f → Runs base (lits f w) w
  | 0, w, h => by
    obtain rfl : w = [] := List.eq_nil_of_length_eq_zero (by omega)
    exact runs_nil base
  | f + 1, w, h => by
    by_cases hw : w = []
    · subst hw
      rw [lits_nil]
      exact runs_nil base
    · have hl : 0 < w.length := List.length_pos_iff.2 hw
      rw [lits_step hw]
      have h1 := runs_lit base (w.take 127) (by rw [List.length_take]; omega) (by rw [List.length_take]; omega)
      rw [List.length_take] at h1
      have h2 := h1.append (runs_lits base f (w.drop 127) (by rw [List.length_drop]; omega))
      rw [List.take_append_drop] at h2
      exact h2
theorem lits_len : ∀ (f : Nat) (w : List UInt8), (lits f w).length ≤ w.length + (w.length + 126) / 127
  | 0, w => by simp [lits]
  | f + 1, w => by
    by_cases hw : w = []
    · subst hw
      rw [lits_nil]
      simp
    · have hl : 0 < w.length := List.length_pos_iff.2 hw
      have := lits_len f (w.drop 127)
      rw [lits_step hw]
      simp only [List.length_append, List.length_cons, List.length_take, List.length_drop] at *
      omega
/-- A piece of the base. -/
def cops : Nat → Nat → Nat → List UInt8
  | 0, _, _ => []
  | f + 1, p, n => if n = 0 then [] else cop p (min n 65536) ++ cops f (p + min n 65536) (n - min n 65536)
theorem cops_zero (f p : Nat) : cops f p 0 = [] := by cases f <;> simp [cops]
theorem cops_step {f p n : Nat} (h : n ≠ 0) : cops (f + 1) p n = cop p (min n 65536) ++ cops f (p + min n 65536) (n - min n 65536) := by rw [cops, if_neg h]
theorem runs_cops (base : List UInt8) (hb : base.length < 4294967296) : ∀ (f p n : Nat), n ≤ f → p + n ≤ base.length → Runs base (cops f p n) ((base.drop p).take n)
  | 0, p, n, hf, _ => by
    obtain rfl : n = 0 := by omega
    rw [List.take_zero]
    exact runs_nil base
  | f + 1, p, n, hf, h => by
    by_cases hn : n = 0
    · subst hn
      rw [cops_zero, List.take_zero]
      exact runs_nil base
    · rw [cops_step hn]
      have h1 := runs_copy base p (min n 65536) hb (by omega) (by omega) (by omega)
      have h2 := h1.append (runs_cops base hb f (p + min n 65536) (n - min n 65536) (by omega) (by omega))
      have e : (base.drop p).take n = (base.drop p).take (min n 65536) ++ (base.drop (p + min n 65536)).take (n - min n 65536) := by
        rw [← List.drop_drop, ← List.take_add]
        congr 1
        omega
      rw [e]
      exact h2
theorem cops_len : ∀ (f p n : Nat), (cops f p n).length ≤ 8 * ((n + 65535) / 65536)
  | 0, p, n => by simp [cops]
  | f + 1, p, n => by
    by_cases hn : n = 0
    · subst hn
      rw [cops_zero]
      simp
    · have h1 := cop_le p (min n 65536)
      have h2 := cops_len f (p + min n 65536) (n - min n 65536)
      rw [cops_step hn, List.length_append]
      omega
/-- The whole. -/
theorem apply_runs (base ins text : List UInt8) (hb : base.length ≤ 2147483647) (ht : text.length ≤ 2147483647) (h : Runs base ins text) (bound : Int) (hbd : (text.length : Int) ≤ bound) :
    delta.apply base (numb base.length ++ (numb text.length ++ ins)) bound = (text, 0) := by
  unfold delta.apply
  rw [sizes_numb base.length text.length hb ht ins]
  simp only [ne_eq, not_true_eq_false, if_false]
  rw [if_neg (by omega)]
  have := h text.length [] [] (by simp)
  simp only [List.append_nil, List.nil_append] at this
  rw [this, app_nil, if_neg (by omega)]
end Go.Proofs.Ytoplgcikcanagaa.delta
