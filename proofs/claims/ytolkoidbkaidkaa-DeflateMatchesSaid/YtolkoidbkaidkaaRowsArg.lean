/-
  A slice of slices of bytes among a law's arguments, as a walk is told of it.
-/
import Derived.Test.YtolkoidbkaidkaaBytes
import Derived.Test.YtolkoidbkaidkaaArgs2
import Derived.Lib.SmallJoins
namespace Go.Proofs.Ytolkoidbkaidkaa.lib
open Go Go.RowKit Go.ChangeShapes Go.WideShapes

/-- One row: where it lies, its capacity, its bytes. -/
structure Rv where
  ao : Option Addr
  cap : Nat
  bs : List UInt8
def Rv.val (r : Rv) : Value := .slice r.ao r.bs.length r.cap
/-- What a walk is told of rows that came in. -/
structure RowsOf (w : World) (a : Option Addr) (cap : Nat) (l : List Rv) : Prop where
  cs : Cs w a (l.map Rv.val)
  le : l.length ≤ cap
  max : cap ≤ maxLen
  nil : a = none → cap = 0
  row : ∀ r ∈ l, Rd w r.ao r.cap r.bs
theorem RowsOf.fr {w w' : World} {a : Option Addr} {cap : Nat} {l : List Rv} (h : RowsOf w a cap l) (f : Fr [] w w') : RowsOf w' a cap l := ⟨h.cs.fr f (by simp), h.le, h.max, h.nil, fun r hr => (h.row r hr).fr f⟩
theorem RowsOf.at {w : World} {a : Option Addr} {cap : Nat} {l : List Rv} (h : RowsOf w a cap l) {i : Nat} (hi : i < l.length) : ∃ g o, a = some ⟨g, o, none⟩ ∧ w.cell? ⟨g, o + i, none⟩ = some (.slice l[i].ao l[i].bs.length l[i].cap) ∧ Rd w l[i].ao l[i].cap l[i].bs := by
  obtain ⟨g, o, rfl, hc⟩ := h.cs.at (by simp; omega)
  exact ⟨g, o, rfl, hc i _ (by simp [hi, Rv.val]), h.row _ (List.getElem_mem hi)⟩
theorem exists_list {α : Type} {P : Nat → α → Prop} : ∀ (n : Nat), (∀ i, i < n → ∃ x, P i x) → ∃ l : List α, l.length = n ∧ ∀ (i : Nat) (h : i < l.length), P i l[i]
  | 0, _ => ⟨[], rfl, fun i h => by cases h⟩
  | n + 1, h => by
    obtain ⟨l, h1, h2⟩ := exists_list n fun i hi => h i (by omega)
    obtain ⟨x, hx⟩ := h n (by omega)
    refine ⟨l ++ [x], by simp [h1], fun i hi => ?_⟩
    by_cases hl : i < l.length
    · rw [List.getElem_append_left hl]; exact h2 i hl
    · simp at hi
      obtain rfl : i = l.length := by omega
      simp
      rw [h1]
      exact hx
theorem rows_arg {P : Program} {H : Type} {enc : TypeId × Value → H} {w : World} {t e u : TypeId} {a : Option Addr} {len cap : Nat} {d : DataW H} {p : List MemPlace} (ht : P.underlying t = some (.slice e)) (he : P.underlying e = some (.slice u)) (hu : P.underlying u = some (.int .u8))
    (hc : P.cellsOf e = 1) (hc1 : P.cellsOf u = 1) (hb1 : P.bytesOf u = 1)
    (h : DataW.Trod enc P w 0 (fun _ => true) true t (.slice a len cap) d p) (hL : Light P t d) : ∃ l : List Rv, l.length = len ∧ RowsOf w a cap l ∧ len * P.bytesOf e ≤ 140737488351232 := by
  obtain ⟨h1, h2, h4, h6, h5, h3⟩ := slice_arg ht hc (by decide) h hL
  rcases h3 with rfl | ⟨g, o, rfl, h3⟩
  · exact ⟨[], rfl, ⟨.inl rfl, Nat.zero_le _, h2, h4, by simp⟩, h6⟩
  · obtain ⟨l, hl, hls⟩ := exists_list (P := fun i (x : Rv) => w.cell? ⟨g, o + i, none⟩ = some x.val ∧ Rd w x.ao x.cap x.bs) len fun i hi => by
      obtain ⟨cs, y, n, hl, hc, ht, hLy, hBy⟩ := h3 i hi
      obtain ⟨ad, dl, dc, bs, rfl, hB, _⟩ := bytes_cell he hu hc1 hb1 ht hLy
      obtain rfl := hB.length
      have := hc 0 _ rfl
      rw [Nat.mul_one, Nat.add_zero] at this
      exact ⟨⟨ad, dc, bs⟩, this, .of_arg hB⟩
    refine ⟨l, hl, ⟨.inr ⟨g, o, rfl, fun j v hv => ?_⟩, by omega, h2, h4, fun x hx => ?_⟩, h6⟩
    · obtain ⟨hj, rfl⟩ := List.getElem?_eq_some_iff.1 hv
      rw [List.length_map] at hj
      rw [List.getElem_map]
      exact (hls j hj).1
    · obtain ⟨i, hi, rfl⟩ := List.getElem_of_mem hx
      exact (hls i hi).2
end Go.Proofs.Ytolkoidbkaidkaa.lib
