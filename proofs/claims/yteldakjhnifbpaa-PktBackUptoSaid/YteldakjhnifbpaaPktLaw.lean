/-
  pkt: the plain law: lines as bytes, bytes as lines, bands.
-/
import Derived.Test.YteldakjhnifbpaaOps2
namespace Go.Proofs.Yteldakjhnifbpaa.pkt
open Go Go.RowKit Go.Proofs.Yteldakjhnifbpaa.lib

/-- A line: its kind and its bytes. -/
abbrev Ln := Int × List UInt8
/-! ### Writing -/
def hexd (k : Nat) : UInt8 := UInt8.ofNat (if k < 10 then 48 + k else 87 + k)
def hex4 (n : Nat) : List UInt8 := [hexd (n / 4096 % 16), hexd (n / 256 % 16), hexd (n / 16 % 16), hexd (n % 16)]
/-- 0: a line that may be; else the error. -/
def bad (x : Ln) : Nat := if x.1 < 1 ∨ 4 < x.1 ∨ (x.1 = 1 ∧ x.2 = []) then 3 else if x.1 = 1 ∧ 65516 < x.2.length then 5 else 0
def one (x : Ln) : List UInt8 := if x.1 = 1 then hex4 (x.2.length + 4) ++ x.2 else hex4 (x.1 - 2).toNat
def encErr : List Ln → Nat
  | [] => 0
  | x :: r => if bad x = 0 then encErr r else bad x
def encAll : List Ln → List UInt8
  | [] => []
  | x :: r => one x ++ encAll r
theorem encAll_append : ∀ a b : List Ln, encAll (a ++ b) = encAll a ++ encAll b
  | [], b => rfl
  | x :: a, b => by simp only [List.cons_append, encAll, encAll_append a b, List.append_assoc]
def enc (l : List Ln) : List UInt8 × Nat := if encErr l = 0 then (encAll l, 0) else ([], encErr l)

/-! ### Reading -/
def digit (c : UInt8) : Option Nat := if 48 ≤ c.toNat ∧ c.toNat ≤ 57 then some (c.toNat - 48) else if 97 ≤ c.toNat ∧ c.toNat ≤ 102 then some (c.toNat - 87) else none
def digs (n : Nat) : List UInt8 → Option Nat
  | [] => some n
  | c :: r => match digit c with
    | some v => digs (16 * n + v) r
    | none => none
/-- What four digits say. -/
def num (r : List UInt8) : Option Nat := digs 0 (r.take 4)
def dec : Nat → List UInt8 → Nat → List Ln → List Ln × Nat × Nat
  | 0, _, a, l => (l, a, 0)
  | f + 1, r, a, l => if r.length < 4 then (l, a, 0) else match num r with
    | none => ([], 0, 3)
    | some n => if n = 3 ∨ n = 4 then ([], 0, 3) else if 65520 < n then ([], 0, 5) else if n < 3 then dec f (r.drop 4) (a + 4) (l ++ [((2 : Int) + n, [])]) else if r.length < n then (l, a, 0) else dec f (r.drop n) (a + n) (l ++ [((1 : Int), (r.take n).drop 4)])
def decode (b : List UInt8) : List Ln × Nat × Nat := dec b.length b 0 []

/-! ### Bands -/
def side (band : UInt8) (c : Nat) : Nat → List UInt8 → List Ln
  | 0, _ => []
  | f + 1, bs => if bs = [] then [] else ((1 : Int), band :: bs.take c) :: side band c f (bs.drop c)
def unside : List Ln → List UInt8 → List UInt8 → List UInt8 × List UInt8 × Nat
  | [], d, n => (d, n, 0)
  | (k, bs) :: r, d, n => if k ≠ 1 then ([], [], 3) else match bs with
    | [] => ([], [], 3)
    | c :: t => if c = 1 then unside r (d ++ t) n else if c = 2 then unside r d (n ++ t) else if c = 3 then ([], t, 80) else ([], [], 3)

/-! ### Facts -/
theorem digit_lt {c : UInt8} {v : Nat} (h : digit c = some v) : v < 16 := by
  unfold digit at h
  split at h
  · simp at h; omega
  · split at h
    · simp at h; omega
    · cases h
theorem digit_hexd (k : Nat) (h : k < 16) : digit (hexd k) = some k := by
  have : ∀ k : Fin 16, digit (hexd k.1) = some k.1 := by decide
  exact this ⟨k, h⟩
theorem num_hex4 (n : Nat) (h : n < 65536) (r : List UInt8) : num (hex4 n ++ r) = some n := by
  unfold num hex4
  simp only [List.cons_append, List.nil_append, List.take_succ_cons, List.take_zero, digs]
  rw [digit_hexd _ (by omega), digit_hexd _ (by omega), digit_hexd _ (by omega), digit_hexd _ (by omega)]
  simp only [digs, Option.some.injEq]
  omega
theorem hex4_length (n : Nat) : (hex4 n).length = 4 := rfl
theorem digs_lt (r : List UInt8) : ∀ n m, digs n r = some m → m < (n + 1) * 16 ^ r.length := by
  induction r with
  | nil => intro n m h; simp [digs] at h; simp; omega
  | cons c r ih =>
    intro n m h
    simp only [digs] at h
    split at h
    · rename_i v hv
      have h1 := ih _ _ h
      have h2 := digit_lt hv
      have h3 : (16 * n + v + 1) * 16 ^ r.length ≤ (16 * (n + 1)) * 16 ^ r.length := Nat.mul_le_mul_right _ (by omega)
      rw [List.length_cons, Nat.pow_succ, Nat.mul_comm (16 ^ r.length) 16, ← Nat.mul_assoc, Nat.mul_comm (n + 1) 16]
      omega
    · cases h
theorem num_lt {r : List UInt8} {n : Nat} (h : num r = some n) : n < 65536 := by
  have h1 := digs_lt _ _ _ h
  have h2 : (r.take 4).length ≤ 4 := by simp; omega
  have h3 : 16 ^ (r.take 4).length ≤ 16 ^ 4 := Nat.pow_le_pow_right (by decide) h2
  simp at h1 h3 ⊢
  omega

/-! ### A line that is whole, and one that is not -/
/-- A line as it may be, and as it comes back. -/
def Fine (x : Ln) : Prop := bad x = 0 ∧ (x.1 = 1 ∨ x.2 = [])
theorem fine_kind {x : Ln} (h : bad x = 0) : 1 ≤ x.1 ∧ x.1 ≤ 4 ∧ (x.1 = 1 → x.2 ≠ [] ∧ x.2.length ≤ 65516) := by
  unfold bad at h
  split at h
  · cases h
  · rename_i h1
    split at h
    · cases h
    · rename_i h2
      refine ⟨by omega, by omega, fun h3 => ⟨fun h4 => h1 (.inr (.inr ⟨h3, h4⟩)), ?_⟩⟩
      have := fun h5 => h2 ⟨h3, h5⟩
      omega
theorem one_length (x : Ln) (h : bad x = 0) : 4 ≤ (one x).length ∧ (one x).length ≤ 65520 ∧ (x.1 = 1 → (one x).length = x.2.length + 4 ∧ 4 < (one x).length) ∧ (x.1 ≠ 1 → (one x).length = 4) := by
  obtain ⟨h1, h2, h3⟩ := fine_kind h
  unfold one
  by_cases hk : x.1 = 1
  · obtain ⟨h4, h5⟩ := h3 hk
    have : 0 < x.2.length := List.length_pos_iff.2 h4
    rw [if_pos hk]
    simp only [List.length_append, hex4_length]
    exact ⟨by omega, by omega, fun _ => by omega, fun h => absurd hk h⟩
  · rw [if_neg hk, hex4_length]
    exact ⟨by omega, by omega, fun h => absurd h hk, fun _ => rfl⟩
theorem dec_one (f : Nat) (x : Ln) (r : List UInt8) (a : Nat) (l : List Ln) (hx : Fine x) : dec (f + 1) (one x ++ r) a l = dec f r (a + (one x).length) (l ++ [x]) := by
  obtain ⟨hb, hf⟩ := hx
  obtain ⟨h1, h2, h3⟩ := fine_kind hb
  obtain ⟨l1, l2, l3, l4⟩ := one_length x hb
  obtain ⟨k, d⟩ := x
  simp only at *
  rw [dec, if_neg (by simp; omega)]
  by_cases hk : k = 1
  · subst hk
    obtain ⟨e1, e2⟩ := l3 rfl
    have e3 : one ((1 : Int), d) = hex4 (d.length + 4) ++ d := rfl
    have e4 : num (one ((1 : Int), d) ++ r) = some (d.length + 4) := by rw [e3, List.append_assoc]; exact num_hex4 _ (by omega) _
    have e5 : (one ((1 : Int), d) ++ r).drop (d.length + 4) = r := by rw [← e1, List.drop_left]
    have e6 : ((one ((1 : Int), d) ++ r).take (d.length + 4)).drop 4 = d := by rw [← e1, List.take_left, e3]; rfl
    simp only [e4, e5, e6]
    have hpos : 0 < d.length := by omega
    rw [if_neg (by omega), if_neg (by omega), if_neg (by omega), if_neg (by simp; omega), e1]
  · obtain rfl : d = [] := hf.resolve_left hk
    have e0 := l4 hk
    have e3 : one (k, ([] : List UInt8)) = hex4 (k - 2).toNat := by unfold one; rw [if_neg hk]
    have e4 : num (one (k, ([] : List UInt8)) ++ r) = some (k - 2).toNat := by rw [e3]; exact num_hex4 _ (by omega) _
    have e5 : (one (k, ([] : List UInt8)) ++ r).drop 4 = r := by rw [← e0, List.drop_left]
    simp only [e4, e5]
    rw [if_neg (by omega), if_neg (by omega), if_pos (by omega), e0, show (2 : Int) + ((k - 2).toNat : Nat) = k from by omega]
theorem dec_short (f : Nat) (x : Ln) (r s : List UInt8) (a : Nat) (l : List Ln) (hx : Fine x) (hr : r ++ s = one x) (hs : s ≠ []) : dec f r a l = (l, a, 0) := by
  obtain ⟨hb, hf⟩ := hx
  obtain ⟨h1, h2, h3⟩ := fine_kind hb
  obtain ⟨l1, l2, l3, l4⟩ := one_length x hb
  have hl : r.length + s.length = (one x).length := by rw [← hr, List.length_append]
  have hsl : 0 < s.length := List.length_pos_iff.2 hs
  cases f with
  | zero => rfl
  | succ f =>
    rw [dec]
    by_cases h4 : r.length < 4
    · rw [if_pos h4]
    · rw [if_neg h4]
      have hk : x.1 = 1 := by
        by_cases hk : x.1 = 1
        · exact hk
        · have := l4 hk
          omega
      obtain ⟨e1, e2⟩ := l3 hk
      have hnum : num r = some (x.2.length + 4) := by
        have e3 : one x = hex4 (x.2.length + 4) ++ x.2 := by unfold one; rw [if_pos hk]
        have e4 : num r = num (one x) := by
          unfold num
          rw [← hr, List.take_append_of_le_length (by omega)]
        rw [e4, e3]
        exact num_hex4 _ (by omega) _
      simp only [hnum]
      rw [if_neg (by omega), if_neg (by omega), if_neg (by omega), if_pos (by omega)]
/-- Fuel. -/
theorem dec_fuel : ∀ (f g : Nat) (r : List UInt8) (a : Nat) (l : List Ln), r.length ≤ f → r.length ≤ g → dec f r a l = dec g r a l
  | 0, 0, r, a, l, _, _ => rfl
  | 0, g + 1, r, a, l, hf, _ => by rw [dec, dec, if_pos (by omega)]
  | f + 1, 0, r, a, l, _, hg => by rw [dec, dec, if_pos (by omega)]
  | f + 1, g + 1, r, a, l, hf, hg => by
    rw [dec, dec]
    split
    · rfl
    · rename_i h4
      cases num r with
      | none => rfl
      | some n =>
        simp only
        split
        · rfl
        · split
          · rfl
          · split
            · exact dec_fuel f g _ _ _ (by simp; omega) (by simp; omega)
            · split
              · rfl
              · exact dec_fuel f g _ _ _ (by simp; omega) (by simp; omega)
/-- Any cut of lines that were written: the lines ahead of it, and those behind. -/
theorem dec_cut (l : List Ln) (hl : ∀ x ∈ l, Fine x) : ∀ (k : Nat), k ≤ (encAll l).length → ∀ (a : Nat) (acc : List Ln) (f : Nat), k ≤ f →
    ∃ p q, l = p ++ q ∧ (encAll p).length ≤ k ∧ dec f ((encAll l).take k) a acc = (acc ++ p, a + (encAll p).length, 0) := by
  induction l with
  | nil =>
    intro k hk a acc f hf
    refine ⟨[], [], rfl, by simp [encAll], ?_⟩
    cases f with
    | zero => simp [dec, encAll]
    | succ f => simp [dec, encAll]
  | cons x l ih =>
    intro k hk a acc f hf
    have hx := hl x (by simp)
    obtain ⟨l1, _, _, _⟩ := one_length x hx.1
    by_cases hk1 : (one x).length ≤ k
    · obtain ⟨p, q, h1, h2, h3⟩ := ih (fun y hy => hl y (by simp [hy])) (k - (one x).length) (by simp only [encAll, List.length_append] at hk; omega) (a + (one x).length) (acc ++ [x]) (f - 1) (by omega)
      refine ⟨x :: p, q, by rw [h1]; rfl, by simp only [encAll, List.length_append]; omega, ?_⟩
      obtain ⟨g, rfl⟩ : ∃ g, f = g + 1 := ⟨f - 1, by omega⟩
      have e : (encAll (x :: l)).take k = one x ++ (encAll l).take (k - (one x).length) := by
        simp only [encAll]
        rw [List.take_append, List.take_of_length_le hk1]
      rw [e, dec_one g x _ a acc hx]
      simp only [Nat.add_sub_cancel] at h3
      rw [h3]
      simp only [encAll, List.length_append, List.append_assoc, List.cons_append, List.nil_append]
      rw [Nat.add_assoc]
    · refine ⟨[], x :: l, rfl, by simp [encAll], ?_⟩
      have e : (encAll (x :: l)).take k = (one x).take k := by
        simp only [encAll]
        rw [List.take_append_of_le_length (by omega)]
      rw [e, dec_short f x _ ((one x).drop k) a acc hx (List.take_append_drop _ _) (by intro h; have := congrArg List.length h; simp at this; omega)]
      simp [encAll]
theorem dec_all (l : List Ln) (hl : ∀ x ∈ l, Fine x) (a : Nat) (acc : List Ln) (f : Nat) (hf : (encAll l).length ≤ f) : dec f (encAll l) a acc = (acc ++ l, a + (encAll l).length, 0) := by
  induction l generalizing a acc f with
  | nil => cases f <;> simp [dec, encAll]
  | cons x l ih =>
    have hx := hl x (by simp)
    obtain ⟨l1, _, _, _⟩ := one_length x hx.1
    simp only [encAll, List.length_append] at hf ⊢
    obtain ⟨g, rfl⟩ : ∃ g, f = g + 1 := ⟨f - 1, by omega⟩
    rw [dec_one g x _ a acc hx, ih (fun y hy => hl y (by simp [hy])) _ _ _ (by omega)]
    simp only [List.append_assoc, List.cons_append, List.nil_append]
    rw [Nat.add_assoc]
theorem encErr_zero {l : List Ln} (h : encErr l = 0) : ∀ x ∈ l, bad x = 0 := by
  induction l with
  | nil => simp
  | cons x l ih =>
    simp only [encErr] at h
    split at h
    · rename_i hb
      intro y hy
      rcases List.mem_cons.1 hy with rfl | hy
      · exact hb
      · exact ih h y hy
    · rename_i hb
      exact absurd h hb
/-- What is read in two pieces. -/
theorem decode_two (l : List Ln) (hl : ∀ x ∈ l, Fine x) (k : Nat) (hk : k ≤ (encAll l).length) :
    ∃ p q, l = p ++ q ∧ decode ((encAll l).take k) = (p, (encAll p).length, 0) ∧ (encAll p).length ≤ k ∧ decode ((encAll l).drop (encAll p).length) = (q, (encAll q).length, 0) := by
  obtain ⟨p, q, h1, h2, h3⟩ := dec_cut l hl k hk 0 [] ((encAll l).take k).length (by simp; omega)
  refine ⟨p, q, h1, by unfold decode; rw [h3]; simp, h2, ?_⟩
  have e : (encAll l).drop (encAll p).length = encAll q := by rw [h1, encAll_append, List.drop_left]
  rw [e]
  unfold decode
  rw [dec_all q (fun x hx => hl x (by rw [h1]; simp [hx])) 0 [] _ (Nat.le_refl _)]
  simp

/-! ### What was put aside -/
theorem unside_side (band : UInt8) (c : Nat) (hc : 0 < c) (hb : band = 1 ∨ band = 2) : ∀ (f : Nat) (bs d n : List UInt8), bs.length ≤ f →
    unside (side band c f bs) d n = (if band = 1 then (d ++ bs, n, 0) else (d, n ++ bs, 0))
  | 0, bs, d, n, hf => by
    obtain rfl : bs = [] := List.eq_nil_of_length_eq_zero (by omega)
    simp [side, unside]
  | f + 1, bs, d, n, hf => by
    rw [side]
    by_cases h0 : bs = []
    · subst h0
      simp [unside]
    · rw [if_neg h0]
      have hl : 0 < bs.length := List.length_pos_iff.2 h0
      have ih := fun d n => unside_side band c hc hb f (bs.drop c) d n (by simp; omega)
      rcases hb with rfl | rfl
      · simp only [unside, ne_eq, not_true_eq_false, if_false, if_true, ih]
        simp
      · simp only [unside, ne_eq, not_true_eq_false, if_false, ih, if_true]
        simp
end Go.Proofs.Yteldakjhnifbpaa.pkt
