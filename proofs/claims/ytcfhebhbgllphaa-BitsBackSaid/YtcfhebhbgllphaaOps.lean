/-
  Some operations as laws for a walk: min and max of ints without parting; the conversion of bytes to a string.
-/
import Derived.Test.YtcfhebhbgllphaaLib
namespace Go.Proofs.Ytcfhebhbgllphaa.lib
open Go Go.RowKit

section
variable {P : Program} {w : World} {ops : Array Oper} {rest : List Oper} {o : Oper} {a : Act} {Q : Exit → Act → World → Prop}
/-- An operation whose value is known. -/
theorem wpList_value (v : Value) (hgd : o.guard = none) (hr : (execOp a.eval o).run P w = .ok (.value v) w) (h : wpList P ops Q rest (a.put o.dst v) w) : wpList P ops Q (o :: rest) a w :=
  wpList_plain hgd fun K hK => by
    unfold Oper.wp
    rw [hr]
    exact hK _ _ h
theorem wpList_min2 (m : Int) (hgd : o.guard = none) (x y : Operand) (ts : Array TypeId) (ho : o.op = .call { callee := .builtin .min, args := #[x, y], argTypes := ts }) (i j : Int)
    (hx : a.eval x = .int .i64 i) (hy : a.eval y = .int .i64 j) (hm : m = if j < i then j else i) (h : wpList P ops Q rest (a.put o.dst (.int .i64 m)) w) : wpList P ops Q (o :: rest) a w := by
  subst hm
  refine wpList_value _ hgd ?_ h
  simp [execOp, ho, resolve, invoke, builtin, hx, hy, Builtin.min_, Builtin.min2]
theorem wpList_min3 (m : Int) (hgd : o.guard = none) (x y z : Operand) (ts : Array TypeId) (ho : o.op = .call { callee := .builtin .min, args := #[x, y, z], argTypes := ts }) (i j k : Int)
    (hx : a.eval x = .int .i64 i) (hy : a.eval y = .int .i64 j) (hz : a.eval z = .int .i64 k) (hm : m = min (min i j) k) (h : wpList P ops Q rest (a.put o.dst (.int .i64 m)) w) : wpList P ops Q (o :: rest) a w := by
  subst hm
  refine wpList_value _ hgd ?_ h
  have e : min (min i j) k = (if k < if j < i then j else i then k else if j < i then j else i) := by
    by_cases h1 : j < i <;> simp only [h1, if_true, if_false] <;> split <;> omega
  rw [e]
  simp [execOp, ho, resolve, invoke, builtin, hx, hy, hz, Builtin.min_, Builtin.min2]
theorem wpList_max2 (m : Int) (hgd : o.guard = none) (x y : Operand) (ts : Array TypeId) (ho : o.op = .call { callee := .builtin .max, args := #[x, y], argTypes := ts }) (i j : Int)
    (hx : a.eval x = .int .i64 i) (hy : a.eval y = .int .i64 j) (hm : m = if j > i then j else i) (h : wpList P ops Q rest (a.put o.dst (.int .i64 m)) w) : wpList P ops Q (o :: rest) a w := by
  subst hm
  refine wpList_value _ hgd ?_ h
  simp [execOp, ho, resolve, invoke, builtin, hx, hy, Builtin.max_, Builtin.max2]
end
end Go.Proofs.Ytcfhebhbgllphaa.lib
