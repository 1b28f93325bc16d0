/-
  NetCounts: the plain law: how often each number is on its way.
-/
import Derived.Test.YtmoiahgbenaihaaAwake2
namespace Go.Proofs.Ytmoiahgbenaihaa.netCounts
open Go Go.RowKit Go.Proofs.Ytmoiahgbenaihaa.lib Go.Proofs.Ytmoiahgbenaihaa.net

/-- How many datagrams bear number j. -/
def cnt : List Gr → Nat → Nat
  | [], _ => 0
  | g :: l, j => (if g.src = j then 1 else 0) + cnt l j
theorem cnt_append : ∀ (a b : List Gr) (j : Nat), cnt (a ++ b) j = cnt a j + cnt b j
  | [], b, j => by simp [cnt]
  | g :: a, b, j => by simp only [List.cons_append, cnt, cnt_append a b j]; omega
theorem cnt_erase : ∀ (l : List Gr) (i : Nat) (h : i < l.length) (j : Nat), cnt (l.eraseIdx i) j + (if l[i].src = j then 1 else 0) = cnt l j
  | g :: l, 0, h, j => by simp only [List.eraseIdx_cons_zero, List.getElem_cons_zero, cnt]; omega
  | g :: l, i + 1, h, j => by
    have := cnt_erase l i (by simpa using h) j
    simp only [List.eraseIdx_cons_succ, List.getElem_cons_succ, cnt]
    omega
theorem cnt_le : ∀ (l : List Gr) (j : Nat), cnt l j ≤ l.length
  | [], j => Nat.le_refl _
  | g :: l, j => by have := cnt_le l j; simp only [cnt, List.length_cons]; split <;> omega
/-- The row of the counts. -/
def row (l : List Gr) : List Value := (List.range 32).map fun j => Value.int .i64 (cnt l j)
theorem row_length (l : List Gr) : (row l).length = 32 := by simp [row]
theorem row_at (l : List Gr) (j : Nat) (h : j < 32) : (row l)[j]? = some (.int .i64 (cnt l j)) := by simp [row, h]
theorem row_of (l : List Gr) (xs : List Value) (hl : xs.length = 32) (h : ∀ j, j < 32 → xs[j]? = some (.int .i64 (cnt l j))) : xs = row l := by
  apply List.ext_getElem?
  intro j
  by_cases hj : j < 32
  · rw [h j hj, row_at l j hj]
  · rw [List.getElem?_eq_none (by omega), List.getElem?_eq_none (by rw [row_length]; omega)]
theorem row_more (l : List Gr) (g : Gr) (j : Nat) (hj : j < 32) (hg : g.src = j) : (row l).set j (.int .i64 ((cnt l j : Int) + 1)) = row (l ++ [g]) := by
  refine row_of _ _ (by simp [row_length]) fun k hk => ?_
  rw [List.getElem?_set, cnt_append]
  simp only [cnt]
  by_cases e : j = k
  · subst e
    rw [if_pos rfl, if_pos (by rw [row_length]; exact hj), if_pos hg]
    exact congrArg some (int_eq (by omega))
  · rw [if_neg e, row_at l k hk, if_neg (by rw [hg]; omega)]
    rfl
theorem row_less (l : List Gr) (i : Nat) (h : i < l.length) (j : Nat) (hj : j < 32) (hg : l[i].src = j) : (row l).set j (.int .i64 ((cnt l j : Int) - 1)) = row (l.eraseIdx i) := by
  refine row_of _ _ (by simp [row_length]) fun k hk => ?_
  have he := cnt_erase l i h k
  rw [List.getElem?_set]
  by_cases e : j = k
  · subst e
    rw [if_pos hg] at he
    rw [if_pos rfl, if_pos (by rw [row_length]; exact hj)]
    exact congrArg some (int_eq (by omega))
  · rw [if_neg (by rw [hg]; omega)] at he
    rw [if_neg e, row_at l k hk]
    exact congrArg some (int_eq (by omega))
theorem row_nil : row [] = (madeCells (Value.int .i64 0).cells (32 * 1)).toList := (toList_madeCells_one (Value.int .i64 0) 32).symm ▸ rfl
/-- A datagram with a number of its own below n. -/
def Good (n : Nat) (g : Gr) : Prop := ∃ j : Nat, j < n ∧ g.src = j ∧ g.dst = j + 1 ∧ g.bs = [UInt8.ofNat j, UInt8.ofNat (3 * j)]
/-- (t % L + L) % L is a place. -/
theorem place (t : Int) (L : Nat) (hL : 0 < L) : ∃ k : Nat, k < L ∧ (t.tmod L + L).tmod L = k := by
  have h1 : -(L : Int) < t.tmod L := by have := Int.lt_tmod_of_pos t (show (0 : Int) < L by omega); omega
  have h2 : 0 ≤ t.tmod L + L := by omega
  refine ⟨((t.tmod L + L).tmod L).toNat, ?_, ?_⟩
  · have := Int.tmod_lt_of_pos (t.tmod L + L) (show (0 : Int) < L by omega)
    have := Int.tmod_nonneg (L : Int) h2
    omega
  · have := Int.tmod_nonneg (L : Int) h2
    omega

/-! ### The state -/
structure Co (w wr : World) (p : Nat) (F : List Nat) (c n : Nat) (l : List Gr) : Prop where
  net : New w wr p F 64 200 0 l
  own : wr.ownsRow 0 3 1 (.slice (some ⟨c, 0, none⟩) 32 32) 32 (row l)
  new : w.heap.size ≤ c
  far : c ∉ F
  good : ∀ g ∈ l, Good n g
theorem Co.lt {w wr : World} {p : Nat} {F : List Nat} {c n : Nat} {l : List Gr} (h : Co w wr p F c n l) : c < wr.heap.size := owns_lt h.own (by simp [Value.ownBlock])
/-- The net has turned: what is left is the counts' turn. -/
theorem Co.turn {w w1 w2 : World} {p : Nat} {F F' : List Nat} {c n : Nat} {l l' : List Gr} (h : Co w w1 p F c n l) (hn : Nt w2 p F' 64 200 0 l') (f : Fr F w1 w2) (hF : ∀ x ∈ F', x ∈ F ∨ w1.heap.size ≤ x) (j : Nat) (u : Value) (hr : (row l).set j u = row l') (hg : ∀ g ∈ l', Good n g) :
    Co w (w2.setCell ⟨c, j, none⟩ u) p F' c n l' := by
  have hlt := h.lt
  have h2 := h.net.on hn f hF
  have hcF : c ∉ F' := fun hc => by
    rcases hF c hc with h3 | h3
    · exact h.far h3
    · omega
  have own2 := ownsRow_fr h.own f (fun k hk => by simp [Value.ownBlock] at hk; subst hk; exact h.far)
  have hs := (own2.stored j u).1
  rw [hr] at hs
  exact ⟨h2.fr (Fr.setCell (Fr.refl [c] w2) (by simp) _) (fun x hx e => by simp at e; subst e; exact hcF hx) (fun x hx => by simp at hx; subst hx; exact h.new), hs, h.new, hcF, hg⟩
end Go.Proofs.Ytmoiahgbenaihaa.netCounts
