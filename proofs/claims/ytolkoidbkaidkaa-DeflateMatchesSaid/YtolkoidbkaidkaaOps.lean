/-
  Some operations as laws for a walk: min and max of ints without parting; the conversion of bytes to a string.
-/
import Derived.Test.YtolkoidbkaidkaaAppend
namespace Go.Proofs.Ytolkoidbkaidkaa.lib
open Go Go.RowKit

section
variable {P : Program} {w : World} {ops : Array Oper} {rest : List Oper} {o : Oper} {a : Act} {Q : Exit → Act → World → Prop}
/-- An operation whose value is known. -/
theorem wpList_value (v : Value) (hgd : o.guard = none) (hr : (execOp a.eval o).run P w = .ok (.value v) w) (h : wpList P ops Q rest (a.put o.dst v) w) : wpList P ops Q (o :: rest) a w :=
  wpList_plain hgd fun K hK => by
    unfold Oper.wp
    rw [hr]
    exact hK _ _ h
theorem wpList_min2 (m : Int) (hgd : o.guard = none) (x y : Operand) (ts : Array TypeId) (ho : o.op = .call { callee := .builtin .min, args := #[x, y], argTypes := ts }) (i j : Int)
    (hx : a.eval x = .int .i64 i) (hy : a.eval y = .int .i64 j) (hm : m = if j < i then j else i) (h : wpList P ops Q rest (a.put o.dst (.int .i64 m)) w) : wpList P ops Q (o :: rest) a w := by
  subst hm
  refine wpList_value _ hgd ?_ h
  simp [execOp, ho, resolve, invoke, builtin, hx, hy, Builtin.min_, Builtin.min2]
theorem wpList_min3 (m : Int) (hgd : o.guard = none) (x y z : Operand) (ts : Array TypeId) (ho : o.op = .call { callee := .builtin .min, args := #[x, y, z], argTypes := ts }) (i j k : Int)
    (hx : a.eval x = .int .i64 i) (hy : a.eval y = .int .i64 j) (hz : a.eval z = .int .i64 k) (hm : m = min (min i j) k) (h : wpList P ops Q rest (a.put o.dst (.int .i64 m)) w) : wpList P ops Q (o :: rest) a w := by
  subst hm
  refine wpList_value _ hgd ?_ h
  have e : min (min i j) k = (if k < if j < i then j else i then k else if j < i then j else i) := by
    by_cases h1 : j < i <;> simp only [h1, if_true, if_false] <;> split <;> omega
  rw [e]
  simp [execOp, ho, resolve, invoke, builtin, hx, hy, hz, Builtin.min_, Builtin.min2]
theorem wpList_max2 (m : Int) (hgd : o.guard = none) (x y : Operand) (ts : Array TypeId) (ho : o.op = .call { callee := .builtin .max, args := #[x, y], argTypes := ts }) (i j : Int)
    (hx : a.eval x = .int .i64 i) (hy : a.eval y = .int .i64 j) (hm : m = if j > i then j else i) (h : wpList P ops Q rest (a.put o.dst (.int .i64 m)) w) : wpList P ops Q (o :: rest) a w := by
  subst hm
  refine wpList_value _ hgd ?_ h
  simp [execOp, ho, resolve, invoke, builtin, hx, hy, Builtin.max_, Builtin.max2]
end
section
variable {P : Program} {w : World} {ops : Array Oper} {rest : List Oper} {o : Oper} {a : Act} {Q : Exit → Act → World → Prop} {t e : TypeId} {z : Value} {bytes : Nat}
/-- s[l:h], of elements of one cell each; m = h - l. -/
theorem wpList_slice_lh (T : SliceTy P t e z 1 bytes) (l m : Nat) (hgd : o.guard = none) (x lo hi : Operand) (ho : o.op = .slice t x (some lo) (some hi) none) (ao : Option Addr) (len cap : Nat) (il ih : Int)
    (hx : a.eval x = .slice ao len cap) (hlo : a.eval lo = .int .i64 il) (hhi : a.eval hi = .int .i64 ih) (hl : il = l) (hh : ih = l + m) (hc : l + m ≤ cap)
    (h : wpList P ops Q rest (a.put o.dst (.slice (cutAt ao cap l) m (cap - l))) w) : wpList P ops Q (o :: rest) a w := by
  obtain ⟨hu, ⟨i, hi', _, hs, _⟩, _, _⟩ := T
  subst hl
  obtain rfl : ih = ((l + m : Nat) : Int) := by omega
  refine wpList_value _ hgd ?_ h
  have c1 : (0 : Int) ≤ (l : Int) + m ∧ (l : Int) + m ≤ (cap : Int) := by omega
  have e2 : ((l : Int) + m).toNat = l + m := by omega
  have e1 : l + m - l = m := by omega
  simp [execOp, ho, Instr.sliceAt, run_underlying hu, hx, hlo, hhi, Instr.slice, Instr.sliceBounds, Instr.sliceBound, asIntOf, c1, e2, sizeOf, typeInfo, hi', hs, cutAt, e1, Result.andThen]
end
/-- Bytes as a string. -/
def str (bs : List UInt8) : ByteArray := ⟨bs.toArray⟩
theorem str_toList (bs : List UInt8) : (str bs).toList = bs := by rw [ByteArray.toList_eq]; rfl
theorem str_inj {a b : List UInt8} (h : str a = str b) : a = b := by
  have := congrArg (fun s : ByteArray => s.data.toList) h
  simpa [str] using this
theorem str_beq (a b : List UInt8) : (str a == str b) = (a == b) := by
  have h : (str a == str b) = (a.toArray == b.toArray) := rfl
  rw [h, Bool.eq_iff_iff, beq_iff_eq, beq_iff_eq]
  exact ⟨fun h => by simpa using h, fun h => by rw [h]⟩
theorem run_conv {P : Program} (w : World) {src dst e : TypeId} (hs : P.underlying src = some (.slice e)) (he : P.underlying e = some (.int .u8)) (hd : P.underlying dst = some .string)
    {ao : Option Addr} {n : Nat} {bs : List UInt8} (hn : bs.length = n) (hcs : Cs w ao (bs.map bv)) :
    ∀ cap, (convert src dst (.slice ao n cap)).run P w = .ok (.string (str bs)) w := by
  intro cap
  have hnil : ∀ (ao : Option Addr), bs = [] → (convert src dst (.slice ao n cap)).run P w = .ok (.string (str bs)) w := by
    intro ao hb
    subst hb
    obtain rfl : n = 0 := by simpa using hn.symm
    rw [run_convert_bytes_string w src dst e ao 0 cap hs he hd]
    cases ao with
    | none => rfl
    | some a => rfl
  rcases hcs with h | ⟨g, o, rfl, h⟩
  · exact hnil ao (by simpa using h)
  · have hr := run_convert_bytes_arg (P := P) w src e hs he g o n cap (bs.map fun b => (b.toNat : Int)) (by simpa using hn) (fun i hi => by
      have h2 := h i (bv (bs.getD i 0)) (by simp [List.getD, show i < bs.length by omega])
      rw [h2]
      have hi' : i < bs.length := by omega
      simp [bv, List.getD, hi']) dst hd
    rw [hr]
    congr 2
    unfold strOfNums str
    congr 1
    rw [List.map_map]
    have : ((fun n : Int => UInt8.ofNat n.toNat) ∘ fun b : UInt8 => (b.toNat : Int)) = id := by
      funext b
      simp
    rw [this, List.map_id]
end Go.Proofs.Ytolkoidbkaidkaa.lib
