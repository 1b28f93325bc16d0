/-
  deflate.Matches: the plain law: pieces that stood there before, found along the places that begin with the same three bytes.
-/
import Derived.Test.YtolkoidbkaidkaaLib
namespace Go.Proofs.Ytolkoidbkaidkaa.mat
open Go Go.RowKit Go.Proofs.Ytolkoidbkaidkaa.lib

/-- The three bytes from a place on, as a number. -/
def three (b : List UInt8) (i : Nat) : Nat := (b[i]?.getD 0).toNat + 256 * (b[i + 1]?.getD 0).toNat + 65536 * (b[i + 2]?.getD 0).toNat
theorem three_lt (b : List UInt8) (i : Nat) : three b i < 4294967296 := by
  unfold three
  have h0 := UInt8.toNat_lt (b[i]?.getD 0)
  have h1 := UInt8.toNat_lt (b[i + 1]?.getD 0)
  have h2 := UInt8.toNat_lt (b[i + 2]?.getD 0)
  omega
/-- The last place ahead of i with these three bytes. -/
def last (b : List UInt8) : Nat → Nat → Option Nat
  | 0, _ => none
  | i + 1, k => if i + 3 ≤ b.length ∧ three b i = k then some i else last b i k
theorem last_lt (b : List UInt8) : ∀ (i k p : Nat), last b i k = some p → p < i ∧ p + 3 ≤ b.length ∧ three b p = k
  | 0, _, _, h => by cases h
  | i + 1, k, p, h => by
    unfold last at h
    split at h
    · rename_i hc
      obtain rfl := Option.some.inj h
      exact ⟨by omega, hc.1, hc.2⟩
    · have := last_lt b i k p h
      exact ⟨by omega, this.2⟩
theorem last_far (b : List UInt8) (k : Nat) : ∀ (j i : Nat), b.length ≤ i + 2 → last b (i + j) k = last b i k
  | 0, _, _ => rfl
  | j + 1, i, h => by
    rw [← Nat.add_assoc, last, if_neg (by omega), last_far b k j i h]
/-- How many bytes from two places on are alike; n: that many are known to be; f: how many more it may be. -/
def alikeF (b : List UInt8) (i j : Nat) : Nat → Nat → Nat
  | 0, n => n
  | f + 1, n => if j + n < b.length ∧ b[i + n]? = b[j + n]? then alikeF b i j f (n + 1) else n
def alike (b : List UInt8) (i j : Nat) : Nat := alikeF b i j 258 0
theorem alikeF_spec (b : List UInt8) (i j : Nat) : ∀ (f n : Nat), j + n ≤ b.length → (∀ k, k < n → b[i + k]? = b[j + k]?) →
    n ≤ alikeF b i j f n ∧ alikeF b i j f n ≤ n + f ∧ j + alikeF b i j f n ≤ b.length ∧ ∀ k, k < alikeF b i j f n → b[i + k]? = b[j + k]?
  | 0, n, h1, h2 => ⟨Nat.le_refl _, Nat.le_refl _, h1, h2⟩
  | f + 1, n, h1, h2 => by
    unfold alikeF
    split
    · rename_i hc
      obtain ⟨a, b', c, d⟩ := alikeF_spec b i j f (n + 1) (by omega) (fun k hk => by
        by_cases e : k = n
        · rw [e]; exact hc.2
        · exact h2 k (by omega))
      exact ⟨by omega, by omega, c, d⟩
    · exact ⟨Nat.le_refl _, by omega, h1, h2⟩
theorem alike_spec (b : List UInt8) (i j : Nat) (h : j ≤ b.length) : alike b i j ≤ 258 ∧ j + alike b i j ≤ b.length ∧ ∀ k, k < alike b i j → b[i + k]? = b[j + k]? := by
  obtain ⟨_, h1, h2, h3⟩ := alikeF_spec b i j 258 0 (by omega) (fun k hk => by omega)
  exact ⟨by unfold alike; omega, h2, h3⟩
theorem alikeF_add (b : List UInt8) (i j : Nat) : ∀ (m f n : Nat), (∀ k, n ≤ k → k < n + m → j + k < b.length ∧ b[i + k]? = b[j + k]?) → alikeF b i j (f + m) n = alikeF b i j f (n + m)
  | 0, _, _, _ => rfl
  | m + 1, f, n, h => by
    rw [show f + (m + 1) = f + m + 1 from by omega, alikeF, if_pos (h n (Nat.le_refl _) (by omega)), alikeF_add b i j m f (n + 1) (fun k h1 h2 => h k (by omega) (by omega)), show n + 1 + m = n + (m + 1) from by omega]
/-- The longest piece, along the places that begin alike: how long, and where; n: how many places may still be tried. -/
def chase (b : List UInt8) (r i : Nat) : Nat → Option Nat → Nat → Nat → Nat × Nat
  | 0, _, best, at_ => (best, at_)
  | _ + 1, none, best, at_ => (best, at_)
  | n + 1, some p, best, at_ => if i - p ≤ r then (if best < alike b p i then chase b r i n (last b p (three b p)) (alike b p i) p else chase b r i n (last b p (three b p)) best at_) else (best, at_)
theorem chase_spec (b : List UInt8) (r i : Nat) : ∀ (n : Nat) (p : Option Nat) (best at_ : Nat), (∀ q, p = some q → q < i) → (best = 0 ∨ (best = alike b at_ i ∧ at_ < i ∧ i - at_ ≤ r)) →
    best ≤ (chase b r i n p best at_).1 ∧ ((chase b r i n p best at_).1 = 0 ∨ ((chase b r i n p best at_).1 = alike b (chase b r i n p best at_).2 i ∧ (chase b r i n p best at_).2 < i ∧ i - (chase b r i n p best at_).2 ≤ r))
  | 0, _, _, _, _, h => ⟨Nat.le_refl _, h⟩
  | _ + 1, none, _, _, _, h => ⟨Nat.le_refl _, h⟩
  | n + 1, some p, best, at_, hp, h => by
    have hpi := hp p rfl
    have hl : ∀ q, last b p (three b p) = some q → q < i := fun q hq => by have := (last_lt b _ _ _ hq).1; omega
    unfold chase
    split
    · split
      · obtain ⟨h1, h2⟩ := chase_spec b r i n (last b p (three b p)) (alike b p i) p hl (.inr ⟨rfl, hpi, by assumption⟩)
        exact ⟨by omega, h2⟩
      · exact chase_spec b r i n _ best at_ hl h
    · exact ⟨Nat.le_refl _, h⟩
def best (b : List UInt8) (r i : Nat) : Nat × Nat := chase b r i 48 (last b i (three b i)) 0 0
theorem best_spec (b : List UInt8) (r i : Nat) (h : 0 < (best b r i).1) : (best b r i).1 = alike b (best b r i).2 i ∧ (best b r i).2 < i ∧ i - (best b r i).2 ≤ r := by
  have h1 := (chase_spec b r i 48 (last b i (three b i)) 0 0 (fun q hq => (last_lt b _ _ _ hq).1) (.inl rfl)).2
  unfold best at *
  rcases h1 with h1 | h1
  · omega
  · exact h1
/-- A match: where, how long, how far back. -/
abbrev Mt := Nat × Nat × Nat
def step (b : List UInt8) (r i : Nat) : Nat := if 3 ≤ (best b r i).1 then (best b r i).1 else 1
def mloop (b : List UInt8) (r : Nat) : Nat → Nat → List Mt
  | 0, _ => []
  | f + 1, i => if i + 3 ≤ b.length then (if 3 ≤ (best b r i).1 then (i, (best b r i).1, i - (best b r i).2) :: mloop b r f (i + step b r i) else mloop b r f (i + step b r i)) else []
def matches_ (b : List UInt8) (reach : Int) : List Mt := if 0 < reach then mloop b (min reach 32768).toNat b.length 0 else []
/-- What a row of matches keeps to. -/
def Chain (b : List UInt8) (r : Nat) : Nat → List Mt → Prop
  | _, [] => True
  | e, (a, n, d) :: t => e ≤ a ∧ 3 ≤ n ∧ n ≤ 258 ∧ 1 ≤ d ∧ d ≤ r ∧ d ≤ a ∧ a + n ≤ b.length ∧ (∀ k, k < n → b[a + k]? = b[a + k - d]?) ∧ Chain b r (a + n) t
theorem Chain.mono {b : List UInt8} {r e e' : Nat} {l : List Mt} (h : Chain b r e l) (he : e' ≤ e) : Chain b r e' l := by
  cases l with
  | nil => trivial
  | cons x t => obtain ⟨a, n, d⟩ := x; exact ⟨Nat.le_trans he h.1, h.2⟩
theorem mloop_chain (b : List UInt8) (r : Nat) : ∀ (f i : Nat), Chain b r i (mloop b r f i)
  | 0, _ => trivial
  | f + 1, i => by
    unfold mloop
    split
    · rename_i hi
      have ih := mloop_chain b r f (i + step b r i)
      split
      · rename_i h3
        obtain ⟨h1, h2, h4⟩ := best_spec b r i (by omega)
        obtain ⟨k1, k2, k3⟩ := alike_spec b (best b r i).2 i (by omega)
        rw [← h1] at k1 k2 k3
        have hs : step b r i = (best b r i).1 := if_pos h3
        rw [hs] at ih
        refine ⟨Nat.le_refl _, h3, k1, by omega, h4, by omega, k2, fun k hk => ?_, by rw [hs]; exact ih⟩
        have := k3 k hk
        rw [show i + k - (i - (best b r i).2) = (best b r i).2 + k from by omega, this]
      · exact ih.mono (by omega)
    · trivial
theorem matches_chain (b : List UInt8) (reach : Int) : Chain b (min reach 32768).toNat 0 (matches_ b reach) := by
  unfold matches_
  split
  · exact mloop_chain _ _ _ _
  · trivial
theorem Chain.len {b : List UInt8} {r : Nat} : ∀ {l : List Mt} {e : Nat}, Chain b r e l → e ≤ b.length → l.length ≤ b.length - e
  | [], _, _, _ => Nat.zero_le _
  | (a, n, d) :: t, e, h, _ => by
    obtain ⟨h1, h2, h3, h4, h5, h6, h7, h8, h9⟩ := h
    have := h9.len h7
    rw [List.length_cons]
    omega
theorem Chain.at {b : List UInt8} {r : Nat} : ∀ {l : List Mt} {e : Nat}, Chain b r e l → ∀ {i : Nat} {x : Mt}, l[i]? = some x →
    3 ≤ x.2.1 ∧ x.2.1 ≤ 258 ∧ 1 ≤ x.2.2 ∧ x.2.2 ≤ r ∧ x.2.2 ≤ x.1 ∧ x.1 + x.2.1 ≤ b.length ∧ (∀ k, k < x.2.1 → b[x.1 + k]? = b[x.1 + k - x.2.2]?) ∧ (if i = 0 then e ≤ x.1 else ∃ y, l[i - 1]? = some y ∧ y.1 + y.2.1 ≤ x.1)
  | [], _, _, i, x, h => by simp at h
  | (a, n, d) :: t, e, hc, 0, x, h => by
    simp only [List.getElem?_cons_zero, Option.some.injEq] at h
    subst h
    obtain ⟨h1, h2, h3, h4, h5, h6, h7, h8, _⟩ := hc
    exact ⟨h2, h3, h4, h5, h6, h7, h8, h1⟩
  | (a, n, d) :: t, e, hc, i + 1, x, h => by
    rw [List.getElem?_cons_succ] at h
    obtain ⟨h1, h2, h3, h4, h5, h6, h7, h8⟩ := hc.2.2.2.2.2.2.2.2.at h
    refine ⟨h1, h2, h3, h4, h5, h6, h7, ?_⟩
    rw [if_neg (by omega), Nat.add_sub_cancel]
    split at h8
    · rename_i h0
      subst h0
      exact ⟨(a, n, d), rfl, h8⟩
    · rename_i h0
      obtain ⟨y, hy, hy2⟩ := h8
      refine ⟨y, ?_, hy2⟩
      obtain ⟨j, rfl⟩ : ∃ j, i = j + 1 := ⟨i - 1, by omega⟩
      simpa using hy
end Go.Proofs.Ytolkoidbkaidkaa.mat
