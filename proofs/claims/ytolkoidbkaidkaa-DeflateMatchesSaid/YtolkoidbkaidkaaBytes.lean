/-
  A slice of bytes that is read: one word for its address, capacity and cells; what becomes of it by s[l:], s[:h], s[l:h].
-/
import Derived.Test.YtolkoidbkaidkaaOps2
import Derived.Test.YtolkoidbkaidkaaArgs2
namespace Go.Proofs.Ytolkoidbkaidkaa.lib
open Go Go.RowKit

/-- The slice (a, bs.length, cap) reads as bs. -/
structure Rd (w : World) (a : Option Addr) (cap : Nat) (bs : List UInt8) : Prop where
  cs : Cs w a (bs.map bv)
  le : bs.length ≤ cap
  max : cap ≤ maxLen
  nil : a = none → cap = 0
theorem Rd.fr {w w' : World} {a : Option Addr} {cap : Nat} {bs : List UInt8} (h : Rd w a cap bs) (f : Fr [] w w') : Rd w' a cap bs := ⟨h.cs.fr f (by simp), h.le, h.max, h.nil⟩
theorem Rd.frS {S : List Nat} {w w' : World} {a : Option Addr} {cap : Nat} {bs : List UInt8} (h : Rd w a cap bs) (f : Fr S w w') (hn : ∀ x ∈ blk a, x ∉ S) : Rd w' a cap bs := ⟨h.cs.fr f hn, h.le, h.max, h.nil⟩
theorem Rd.none (w : World) : Rd w none 0 [] := ⟨.inl rfl, Nat.le_refl _, Nat.zero_le _, fun _ => rfl⟩
theorem Rd.of_arg {w : World} {a : Option Addr} {len cap : Nat} {bs : List UInt8} (h : BytesArg w a len cap bs) : Rd w a cap bs := ⟨h.cs, by rw [h.length]; exact h.le, h.max, h.nil⟩
theorem cs_drop {w : World} {a : Option Addr} {cap : Nat} {vs : List Value} (h : Cs w a vs) (k : Nat) (hk : k ≤ vs.length) (hc : vs.length ≤ cap) : Cs w (cutAtN a cap k 1) (vs.drop k) := by
  have := h.cut cap k vs.length hk (Nat.le_refl _) hc
  rw [List.take_of_length_le (by simp), ← cutAtN_one] at this
  exact this
theorem cs_takev {w : World} {a : Option Addr} {vs : List Value} (h : Cs w a vs) (k : Nat) : Cs w a (vs.take k) := by
  rcases h with rfl | ⟨g, o, rfl, h⟩
  · left; simp
  · refine .inr ⟨g, o, rfl, fun j v hv => h j v ?_⟩
    rw [List.getElem?_take] at hv
    split at hv
    · exact hv
    · cases hv
theorem Rd.drop {w : World} {a : Option Addr} {cap : Nat} {bs : List UInt8} (h : Rd w a cap bs) (k : Nat) (hk : k ≤ bs.length) : Rd w (cutAtN a cap k 1) (cap - k) (bs.drop k) := by
  have h1 := h.le
  have h2 := h.max
  refine ⟨?_, by rw [List.length_drop]; omega, by omega, fun e => by have := h.nil (cutAtN_none e); omega⟩
  rw [List.map_drop]
  exact cs_drop h.cs k (by simpa using hk) (by simpa using h1)
theorem Rd.take {w : World} {a : Option Addr} {cap : Nat} {bs : List UInt8} (h : Rd w a cap bs) (k : Nat) : Rd w a cap (bs.take k) := by
  have h1 := h.le
  refine ⟨?_, by rw [List.length_take]; omega, h.max, h.nil⟩
  rw [List.map_take]
  exact cs_takev h.cs k
/-- s[l:l + m]. -/
theorem Rd.mid {w : World} {a : Option Addr} {cap : Nat} {bs : List UInt8} (h : Rd w a cap bs) (l m : Nat) (hk : l + m ≤ bs.length) : Rd w (cutAt a cap l) (cap - l) ((bs.drop l).take m) := by
  have h1 := (h.drop l (by omega)).take m
  rw [cutAtN_one] at h1
  exact h1
/-- The cell of a byte that is there. -/
theorem Rd.at {w : World} {a : Option Addr} {cap : Nat} {bs : List UInt8} (h : Rd w a cap bs) {i : Nat} (hi : i < bs.length) : ∃ g o, a = some ⟨g, o, Option.none⟩ ∧ w.cell? ⟨g, o + i, Option.none⟩ = some (.int .u8 ((bs[i].toNat : Nat) : Int)) := by
  obtain ⟨g, o, rfl, hc⟩ := h.cs.at (by simp; omega)
  exact ⟨g, o, rfl, hc i _ (by simp [hi, bv])⟩
/-- A row of bytes of one's own: any slice that a call owns, under one word. -/
theorem rd_of_owns {w : World} {base : Nat} {e : TypeId} {len cap : Nat} {bs : List UInt8} {a : Option Addr} (h : w.ownsRow base e 1 (.slice a len cap) len (bs.map bv)) : Rd w a cap bs ∧ bs.length = len := by
  have hl : bs.length = len := by simpa using h.1
  obtain ⟨_, _, he, h1, h2, h3⟩ := owns_form h
  simp only [Value.slice.injEq] at he
  obtain ⟨rfl, _, rfl⟩ := he
  exact ⟨⟨cs_of_owns h, by omega, h2, h3⟩, hl⟩
/-! ### s[l:], s[:h] and s[l:h] as run equations, for regions that draw their order -/
section
variable {P : Program} {t e : TypeId} {z : Value} {size bytes : Nat}
theorem run_slice_from (T : SliceTy P t e z size bytes) (l : Nat) (a : Option Addr) (len cap : Nat) (il : Int) (hl : il = l) (hc : l ≤ len) (hlc : len ≤ cap) (w : World) :
    (Instr.slice t (.slice a len cap) (some (.int .i64 il)) Option.none Option.none).run P w = .ok (.slice (cutAtN a cap l size) (len - l) (cap - l)) w := by
  obtain ⟨hu, ⟨i, hi', _, hs, _⟩, _, _⟩ := T
  subst hl
  have c1 : (0 : Int) ≤ (l : Int) ∧ (l : Int) ≤ (len : Int) := by omega
  have c2 : (len : Int) ≤ (cap : Int) := by omega
  simp [run_underlying hu, Instr.slice, Instr.sliceBounds, Instr.sliceBound, asIntOf, c1, c2, hc, hlc, sizeOf, typeInfo, hi', hs, cutAtN, Result.andThen]
theorem run_slice_to (T : SliceTy P t e z size bytes) (m : Nat) (a : Option Addr) (len cap : Nat) (ih : Int) (hh : ih = m) (hc : m ≤ cap) (w : World) :
    (Instr.slice t (.slice a len cap) Option.none (some (.int .i64 ih)) Option.none).run P w = .ok (.slice a m cap) w := by
  obtain ⟨hu, ⟨i, hi', _, hs, _⟩, _, _⟩ := T
  subst hh
  have c1 : (0 : Int) ≤ (m : Int) ∧ (m : Int) ≤ (cap : Int) := by omega
  have ad0 : ∀ x : Addr, x.add 0 = x := fun x => rfl
  cases a <;> simp [run_underlying hu, Instr.slice, Instr.sliceBounds, Instr.sliceBound, asIntOf, c1, hc, sizeOf, typeInfo, hi', hs, Result.andThen, ad0]
theorem run_slice_lh (T : SliceTy P t e z 1 bytes) (l m : Nat) (a : Option Addr) (len cap : Nat) (il ih : Int) (hl : il = l) (hh : ih = l + m) (hc : l + m ≤ cap) (w : World) :
    (Instr.slice t (.slice a len cap) (some (.int .i64 il)) (some (.int .i64 ih)) Option.none).run P w = .ok (.slice (cutAt a cap l) m (cap - l)) w := by
  obtain ⟨hu, ⟨i, hi', _, hs, _⟩, _, _⟩ := T
  subst hl
  obtain rfl : ih = ((l + m : Nat) : Int) := by omega
  have c1 : (0 : Int) ≤ (l : Int) + m ∧ (l : Int) + m ≤ (cap : Int) := by omega
  have e2 : ((l : Int) + m).toNat = l + m := by omega
  have e1 : l + m - l = m := by omega
  simp [run_underlying hu, Instr.slice, Instr.sliceBounds, Instr.sliceBound, asIntOf, c1, e2, sizeOf, typeInfo, hi', hs, cutAt, e1, Result.andThen]
end
/-- A new slice of bytes, cut to its length. -/
def NewBytes (w : World) (bs : List UInt8) (e : Ending) (w' : World) : Prop :=
  ∃ a, e = .returned (.slice a bs.length bs.length) ∧ Rd w' a bs.length bs ∧ (∀ x ∈ blk a, w.heap.size ≤ x ∧ x < w'.heap.size) ∧ Fr [] w w'
end Go.Proofs.Ytolkoidbkaidkaa.lib
