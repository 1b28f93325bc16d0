/-
  s[:h] and s[l:] of a slice whose elements take any number of cells, as laws for a walk.
-/
import Derived.Test.YtolkoidbkaidkaaOps
namespace Go.Proofs.Ytolkoidbkaidkaa.lib
open Go Go.RowKit

def cutAtN (ao : Option Addr) (cap lo size : Nat) : Option Addr := if cap = lo then ao else ao.map (·.add (lo * size))
theorem cutAtN_none {ao : Option Addr} {cap lo size : Nat} (h : cutAtN ao cap lo size = none) : ao = none := by
  unfold cutAtN at h
  split at h
  · exact h
  · simpa using h
theorem cutAtN_blk (ao : Option Addr) (cap lo size : Nat) : blk (cutAtN ao cap lo size) = blk ao := by
  unfold cutAtN
  split
  · rfl
  · cases ao with
    | none => rfl
    | some a => simp only [Option.map_some, blk, Addr.add]; split <;> rfl
theorem cutAtN_one (ao : Option Addr) (cap lo : Nat) : cutAtN ao cap lo 1 = cutAt ao cap lo := by unfold cutAtN cutAt; rw [Nat.mul_one]
section
variable {P : Program} {w : World} {ops : Array Oper} {rest : List Oper} {o : Oper} {a : Act} {Q : Exit → Act → World → Prop} {t e : TypeId} {z : Value} {size bytes : Nat}
theorem wpList_slice_to (T : SliceTy P t e z size bytes) (m : Nat) (hgd : o.guard = none) (x hi : Operand) (ho : o.op = .slice t x none (some hi) none) (ao : Option Addr) (len cap : Nat) (ih : Int)
    (hx : a.eval x = .slice ao len cap) (hhi : a.eval hi = .int .i64 ih) (hh : ih = m) (hc : m ≤ cap)
    (h : wpList P ops Q rest (a.put o.dst (.slice ao m cap)) w) : wpList P ops Q (o :: rest) a w := by
  obtain ⟨hu, ⟨i, hi', _, hs, _⟩, _, _⟩ := T
  subst hh
  refine wpList_value _ hgd ?_ h
  have c1 : (0 : Int) ≤ (m : Int) ∧ (m : Int) ≤ (cap : Int) := by omega
  have ad0 : ∀ x : Addr, x.add 0 = x := fun x => rfl
  cases ao <;> simp [execOp, ho, Instr.sliceAt, run_underlying hu, hx, hhi, Instr.slice, Instr.sliceBounds, Instr.sliceBound, asIntOf, c1, hc, sizeOf, typeInfo, hi', hs, Result.andThen, ad0]
theorem wpList_slice_from (T : SliceTy P t e z size bytes) (l : Nat) (hgd : o.guard = none) (x lo : Operand) (ho : o.op = .slice t x (some lo) none none) (ao : Option Addr) (len cap : Nat) (il : Int)
    (hx : a.eval x = .slice ao len cap) (hlo : a.eval lo = .int .i64 il) (hl : il = l) (hc : l ≤ len) (hlc : len ≤ cap)
    (h : wpList P ops Q rest (a.put o.dst (.slice (cutAtN ao cap l size) (len - l) (cap - l))) w) : wpList P ops Q (o :: rest) a w := by
  obtain ⟨hu, ⟨i, hi', _, hs, _⟩, _, _⟩ := T
  subst hl
  refine wpList_value _ hgd ?_ h
  have c1 : (0 : Int) ≤ (l : Int) ∧ (l : Int) ≤ (len : Int) := by omega
  have c2 : (len : Int) ≤ (cap : Int) := by omega
  simp [execOp, ho, Instr.sliceAt, run_underlying hu, hx, hlo, Instr.slice, Instr.sliceBounds, Instr.sliceBound, asIntOf, c1, c2, hc, hlc, sizeOf, typeInfo, hi', hs, cutAtN, Result.andThen]
end
end Go.Proofs.Ytolkoidbkaidkaa.lib
