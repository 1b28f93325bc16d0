/-
  Texts of this proof, one behind the other: Ops, Ops2, Args.
-/
import Derived.Test.YtflcdnmhgfhmdaaGreatDoorG1
import Derived.SizedLaws
import Derived.Deep.CondSized
import Derived.JoinedCond
import Derived.ChangeOld
set_option linter.unusedVariables false
set_option linter.unusedSimpArgs false
/-
  Some operations as laws for a walk: min and max of ints without parting; the conversion of bytes to a string.
-/
namespace Go.Proofs.YtflcdnmhgfhmdaaGreatDoor.lib
open Go Go.RowKit

section
variable {P : Program} {w : World} {ops : Array Oper} {rest : List Oper} {o : Oper} {a : Act} {Q : Exit → Act → World → Prop}
/-- An operation whose value is known. -/
theorem wpList_value (v : Value) (hgd : o.guard = none) (hr : (execOp a.eval o).run P w = .ok (.value v) w) (h : wpList P ops Q rest (a.put o.dst v) w) : wpList P ops Q (o :: rest) a w :=
  wpList_plain hgd fun K hK => by
    unfold Oper.wp
    rw [hr]
    exact hK _ _ h
theorem wpList_min2 (m : Int) (hgd : o.guard = none) (x y : Operand) (ts : Array TypeId) (ho : o.op = .call { callee := .builtin .min, args := #[x, y], argTypes := ts }) (i j : Int)
    (hx : a.eval x = .int .i64 i) (hy : a.eval y = .int .i64 j) (hm : m = if j < i then j else i) (h : wpList P ops Q rest (a.put o.dst (.int .i64 m)) w) : wpList P ops Q (o :: rest) a w := by
  subst hm
  refine wpList_value _ hgd ?_ h
  simp [execOp, ho, resolve, invoke, builtin, hx, hy, Builtin.min_, Builtin.min2]
theorem wpList_min3 (m : Int) (hgd : o.guard = none) (x y z : Operand) (ts : Array TypeId) (ho : o.op = .call { callee := .builtin .min, args := #[x, y, z], argTypes := ts }) (i j k : Int)
    (hx : a.eval x = .int .i64 i) (hy : a.eval y = .int .i64 j) (hz : a.eval z = .int .i64 k) (hm : m = min (min i j) k) (h : wpList P ops Q rest (a.put o.dst (.int .i64 m)) w) : wpList P ops Q (o :: rest) a w := by
  subst hm
  refine wpList_value _ hgd ?_ h
  have e : min (min i j) k = (if k < if j < i then j else i then k else if j < i then j else i) := by
    by_cases h1 : j < i <;> simp only [h1, if_true, if_false] <;> split <;> omega
  rw [e]
  simp [execOp, ho, resolve, invoke, builtin, hx, hy, hz, Builtin.min_, Builtin.min2]
theorem wpList_max2 (m : Int) (hgd : o.guard = none) (x y : Operand) (ts : Array TypeId) (ho : o.op = .call { callee := .builtin .max, args := #[x, y], argTypes := ts }) (i j : Int)
    (hx : a.eval x = .int .i64 i) (hy : a.eval y = .int .i64 j) (hm : m = if j > i then j else i) (h : wpList P ops Q rest (a.put o.dst (.int .i64 m)) w) : wpList P ops Q (o :: rest) a w := by
  subst hm
  refine wpList_value _ hgd ?_ h
  simp [execOp, ho, resolve, invoke, builtin, hx, hy, Builtin.max_, Builtin.max2]
end
section
variable {P : Program} {w : World} {ops : Array Oper} {rest : List Oper} {o : Oper} {a : Act} {Q : Exit → Act → World → Prop} {t e : TypeId} {z : Value} {bytes : Nat}
/-- s[l:h], of elements of one cell each; m = h - l. -/
theorem wpList_slice_lh (T : SliceTy P t e z 1 bytes) (l m : Nat) (hgd : o.guard = none) (x lo hi : Operand) (ho : o.op = .slice t x (some lo) (some hi) none) (ao : Option Addr) (len cap : Nat) (il ih : Int)
    (hx : a.eval x = .slice ao len cap) (hlo : a.eval lo = .int .i64 il) (hhi : a.eval hi = .int .i64 ih) (hl : il = l) (hh : ih = l + m) (hc : l + m ≤ cap)
    (h : wpList P ops Q rest (a.put o.dst (.slice (cutAt ao cap l) m (cap - l))) w) : wpList P ops Q (o :: rest) a w := by
  obtain ⟨hu, ⟨i, hi', _, hs, _⟩, _, _⟩ := T
  subst hl
  obtain rfl : ih = ((l + m : Nat) : Int) := by omega
  refine wpList_value _ hgd ?_ h
  have c1 : (0 : Int) ≤ (l : Int) + m ∧ (l : Int) + m ≤ (cap : Int) := by omega
  have e2 : ((l : Int) + m).toNat = l + m := by omega
  have e1 : l + m - l = m := by omega
  simp [execOp, ho, Instr.sliceAt, run_underlying hu, hx, hlo, hhi, Instr.slice, Instr.sliceBounds, Instr.sliceBound, asIntOf, c1, e2, sizeOf, typeInfo, hi', hs, cutAt, e1, Result.andThen]
end
/-- Bytes as a string. -/
def str (bs : List UInt8) : ByteArray := ⟨bs.toArray⟩
theorem str_toList (bs : List UInt8) : (str bs).toList = bs := by rw [ByteArray.toList_eq]; rfl
theorem str_inj {a b : List UInt8} (h : str a = str b) : a = b := by
  have := congrArg (fun s : ByteArray => s.data.toList) h
  simpa [str] using this
theorem str_beq (a b : List UInt8) : (str a == str b) = (a == b) := by
  have h : (str a == str b) = (a.toArray == b.toArray) := rfl
  rw [h, Bool.eq_iff_iff, beq_iff_eq, beq_iff_eq]
  exact ⟨fun h => by simpa using h, fun h => by rw [h]⟩
theorem run_conv {P : Program} (w : World) {src dst e : TypeId} (hs : P.underlying src = some (.slice e)) (he : P.underlying e = some (.int .u8)) (hd : P.underlying dst = some .string)
    {ao : Option Addr} {n : Nat} {bs : List UInt8} (hn : bs.length = n) (hcs : Cs w ao (bs.map bv)) :
    ∀ cap, (convert src dst (.slice ao n cap)).run P w = .ok (.string (str bs)) w := by
  intro cap
  have hnil : ∀ (ao : Option Addr), bs = [] → (convert src dst (.slice ao n cap)).run P w = .ok (.string (str bs)) w := by
    intro ao hb
    subst hb
    obtain rfl : n = 0 := by simpa using hn.symm
    rw [run_convert_bytes_string w src dst e ao 0 cap hs he hd]
    cases ao with
    | none => rfl
    | some a => rfl
  rcases hcs with h | ⟨g, o, rfl, h⟩
  · exact hnil ao (by simpa using h)
  · have hr := run_convert_bytes_arg (P := P) w src e hs he g o n cap (bs.map fun b => (b.toNat : Int)) (by simpa using hn) (fun i hi => by
      have h2 := h i (bv (bs.getD i 0)) (by simp [List.getD, show i < bs.length by omega])
      rw [h2]
      have hi' : i < bs.length := by omega
      simp [bv, List.getD, hi']) dst hd
    rw [hr]
    congr 2
    unfold strOfNums str
    congr 1
    rw [List.map_map]
    have : ((fun n : Int => UInt8.ofNat n.toNat) ∘ fun b : UInt8 => (b.toNat : Int)) = id := by
      funext b
      simp
    rw [this, List.map_id]
end Go.Proofs.YtflcdnmhgfhmdaaGreatDoor.lib
/-
  s[:h] and s[l:] of a slice whose elements take any number of cells, as laws for a walk.
-/
namespace Go.Proofs.YtflcdnmhgfhmdaaGreatDoor.lib
open Go Go.RowKit

def cutAtN (ao : Option Addr) (cap lo size : Nat) : Option Addr := if cap = lo then ao else ao.map (·.add (lo * size))
theorem cutAtN_none {ao : Option Addr} {cap lo size : Nat} (h : cutAtN ao cap lo size = none) : ao = none := by
  unfold cutAtN at h
  split at h
  · exact h
  · simpa using h
theorem cutAtN_blk (ao : Option Addr) (cap lo size : Nat) : blk (cutAtN ao cap lo size) = blk ao := by
  unfold cutAtN
  split
  · rfl
  · cases ao with
    | none => rfl
    | some a => simp only [Option.map_some, blk, Addr.add]; split <;> rfl
theorem cutAtN_one (ao : Option Addr) (cap lo : Nat) : cutAtN ao cap lo 1 = cutAt ao cap lo := by unfold cutAtN cutAt; rw [Nat.mul_one]
section
variable {P : Program} {w : World} {ops : Array Oper} {rest : List Oper} {o : Oper} {a : Act} {Q : Exit → Act → World → Prop} {t e : TypeId} {z : Value} {size bytes : Nat}
theorem wpList_slice_to (T : SliceTy P t e z size bytes) (m : Nat) (hgd : o.guard = none) (x hi : Operand) (ho : o.op = .slice t x none (some hi) none) (ao : Option Addr) (len cap : Nat) (ih : Int)
    (hx : a.eval x = .slice ao len cap) (hhi : a.eval hi = .int .i64 ih) (hh : ih = m) (hc : m ≤ cap)
    (h : wpList P ops Q rest (a.put o.dst (.slice ao m cap)) w) : wpList P ops Q (o :: rest) a w := by
  obtain ⟨hu, ⟨i, hi', _, hs, _⟩, _, _⟩ := T
  subst hh
  refine wpList_value _ hgd ?_ h
  have c1 : (0 : Int) ≤ (m : Int) ∧ (m : Int) ≤ (cap : Int) := by omega
  have ad0 : ∀ x : Addr, x.add 0 = x := fun x => rfl
  cases ao <;> simp [execOp, ho, Instr.sliceAt, run_underlying hu, hx, hhi, Instr.slice, Instr.sliceBounds, Instr.sliceBound, asIntOf, c1, hc, sizeOf, typeInfo, hi', hs, Result.andThen, ad0]
theorem wpList_slice_from (T : SliceTy P t e z size bytes) (l : Nat) (hgd : o.guard = none) (x lo : Operand) (ho : o.op = .slice t x (some lo) none none) (ao : Option Addr) (len cap : Nat) (il : Int)
    (hx : a.eval x = .slice ao len cap) (hlo : a.eval lo = .int .i64 il) (hl : il = l) (hc : l ≤ len) (hlc : len ≤ cap)
    (h : wpList P ops Q rest (a.put o.dst (.slice (cutAtN ao cap l size) (len - l) (cap - l))) w) : wpList P ops Q (o :: rest) a w := by
  obtain ⟨hu, ⟨i, hi', _, hs, _⟩, _, _⟩ := T
  subst hl
  refine wpList_value _ hgd ?_ h
  have c1 : (0 : Int) ≤ (l : Int) ∧ (l : Int) ≤ (len : Int) := by omega
  have c2 : (len : Int) ≤ (cap : Int) := by omega
  simp [execOp, ho, Instr.sliceAt, run_underlying hu, hx, hlo, Instr.slice, Instr.sliceBounds, Instr.sliceBound, asIntOf, c1, c2, hc, hlc, sizeOf, typeInfo, hi', hs, cutAtN, Result.andThen]
end
end Go.Proofs.YtflcdnmhgfhmdaaGreatDoor.lib
/-
  How a law's arguments, as they came in, are opened for a walk; that they read behind the call as before.
-/
namespace Go.Proofs.YtflcdnmhgfhmdaaGreatDoor.lib
open Go Go.RowKit Go.ChangeShapes Go.WideShapes

theorem wf_u8 {n : Int} (h : (Lit.int .u8 n).wf = true) : 0 ≤ n ∧ n ≤ 255 := by
  simpa [Lit.wf, IntKind.min, IntKind.max, IntKind.signed, IntKind.bits] using h
theorem wf_u32 {n : Int} (h : (Lit.int .u32 n).wf = true) : 0 ≤ n ∧ n ≤ 4294967295 := by
  simpa [Lit.wf, IntKind.min, IntKind.max, IntKind.signed, IntKind.bits] using h
theorem wf_i64 {n : Int} (h : (Lit.int .i64 n).wf = true) : -9223372036854775808 ≤ n ∧ n ≤ 9223372036854775807 := by
  simpa [Lit.wf, IntKind.min, IntKind.max, IntKind.signed, IntKind.bits] using h
/-- What a walk is told of a slice of integers that came in. -/
structure IntsArg (k : IntKind) (w : World) (a : Option Addr) (len cap : Nat) (xs : List Int) : Prop where
  le : len ≤ cap
  max : cap ≤ maxLen
  nil : a = none → cap = 0
  length : xs.length = len
  cs : Cs w a (xs.map (Value.int k))
  wf : ∀ x ∈ xs, (Lit.int k x).wf = true
  lt : ∀ x ∈ blk a, cap ≠ 0 → x < w.heap.size

theorem add_at {x : Addr} (h : x.spot = none) (j : Nat) : x.add j = ⟨x.block, x.off + j, none⟩ := by
  obtain ⟨b, o, s⟩ := x
  simp only at h
  subst h
  unfold Addr.add
  split <;> simp_all

section
variable {H : Type} {enc : TypeId × Value → H} {P : Program} {w : World}
theorem ints_arg {t e : TypeId} {k : IntKind} {a : Option Addr} {len cap : Nat} {d : DataW H} {p : List MemPlace} (ht : P.underlying t = some (.slice e)) (he : P.underlying e = some (.int k)) (hc : P.cellsOf e = 1)
    (h : DataW.Trod enc P w 0 (fun _ => true) true t (.slice a len cap) d p) :
    ∃ xs sp : List Int, IntsArg k w a len cap xs ∧ sp.length = cap - len ∧ (d = .nil ∧ cap = 0 ∨ d = .slice (lits k xs) (lits k sp)) := by
  obtain ⟨fuel, hf⟩ := h
  rcases open_ints ht he hc hf with ⟨hcs, hx⟩ | ⟨x, l, c, zs, hcs, _, hl, hm, hz, hx, hcell, hwz⟩
  · simp [Value.cells] at hcs
    obtain ⟨rfl, rfl, rfl⟩ := hcs
    simp at hx
    exact ⟨[], [], ⟨Nat.le_refl _, Nat.zero_le _, fun _ => rfl, rfl, .inl rfl, by simp, by simp [blk]⟩, rfl, .inl ⟨hx.1, rfl⟩⟩
  · simp [Value.cells] at hcs
    obtain ⟨rfl, rfl, rfl⟩ := hcs
    simp only [if_true] at hz
    simp at hx
    have hcl : ∀ i v, (zs.map (Value.int k))[i]? = some v → w.cell? (x.add i) = some v := by
      intro i v hv
      have hi : i < zs.length := by have := (List.getElem?_eq_some_iff.1 hv).1; simpa using this
      rw [hcell i hi]
      simp [hi] at hv
      simp [List.getD, hi, hv]
    have spot : 0 < zs.length → x.spot = none := by
      intro h0
      have h1 := hcell 0 h0
      have h2 : x.add 0 = x := by simp [Addr.add]
      rw [h2] at h1
      cases hs : x.spot with
      | none => rfl
      | some s =>
        simp only [World.cell?, hs, Option.isSome_some, if_true] at h1
        split at h1 <;> cases h1
    have hcsx : Cs w (some x) (zs.map (Value.int k)) := by
      by_cases h0 : zs = []
      · left; simp [h0]
      · right
        have hp : 0 < zs.length := List.length_pos_iff.2 h0
        have hs := spot hp
        refine ⟨x.block, x.off, by rw [← hs], fun j v hv => ?_⟩
        have h3 := hcl j v hv
        have h4 : x.add j = ⟨x.block, x.off + j, none⟩ := by exact add_at hs j
        rwa [h4] at h3
    refine ⟨zs.take len, zs.drop len, ⟨hl, hm, (fun h => by cases h), (by simp; omega), ?_, fun y hy => hwz y (List.mem_of_mem_take hy), ?_⟩, (by simp; omega), .inr hx.1⟩
    · rcases hcsx with h0 | ⟨g, o, ha, h0⟩
      · left
        have : zs = [] := by simpa using h0
        simp [this]
      · refine .inr ⟨g, o, ha, fun j v hv => h0 j v ?_⟩
        rw [List.map_take, List.getElem?_take] at hv
        split at hv
        · exact hv
        · cases hv
    · intro y hy hne
      simp [blk] at hy
      subst hy
      have h0 : 0 < zs.length := by omega
      exact World.block_lt_of_cell? w _ (by have := hcell 0 h0; simpa [Addr.add] using this)
/-- Each argument reads behind the call as before, where below the heap's old size nothing has turned. -/
theorem trodAll_below (hl : laidOutB P = true) {W W' : World} (hb : Below W.heap.size W W') : ∀ {ts : List TypeId} {vs : List Value} {ds : List (DataW H)} {ps : List MemPlace},
    (ts.all fun t => P.readableRec t && decide (t < P.types.size)) = true → (∀ x ∈ ps, x.block < W.heap.size) → DataW.TrodAll enc P W 0 (fun _ => true) true ts vs ds ps → DataW.TrodAll enc P W' 0 (fun b => decide (b < W.heap.size)) true ts vs ds ps
  | [], [], [], _, _, _, h => h
  | t :: ts, v :: vs, d :: ds, ps, hr, hlt, h => by
    simp only [List.all_cons, Bool.and_eq_true, decide_eq_true_eq] at hr
    obtain ⟨v', vs', d', ds', p, q, hv, hd, rfl, h1, h2⟩ := trodAll_cons h
    obtain ⟨rfl, rfl⟩ := List.cons.inj hv
    obtain ⟨rfl, rfl⟩ := List.cons.inj hd
    exact trodAll_cons_mk (Below.trod hl hr.1.1 hr.1.2 h1 hb (fun x hx => hlt x (by simp [hx]))) (trodAll_below hl hb hr.2 (fun x hx => hlt x (by simp [hx])) h2)
  | [], _ :: _, _, _, _, _, h => by simp [DataW.TrodAll] at h
  | [], [], _ :: _, _, _, _, h => by simp [DataW.TrodAll] at h
  | _ :: _, [], _, _, _, _, h => by simp [DataW.TrodAll] at h
  | _ :: _, _ :: _, [], _, _, _, h => by simp [DataW.TrodAll] at h
/-- A law's call that returns true and turns nothing that was there meets the law's specification. -/
theorem law_of_calls {s : ChangeSpec} {f : FuncId} {fn : Func} {W : World} {args : Array Value} {ds gs : List (DataW H)} {before : List MemPlace} {tb : TypeId}
    (hl : laidOutB P = true) (hread : (fn.params.toList.all fun t => P.readableRec t && decide (t < P.types.size)) = true) (hvars : s.vars = []) (hres : fn.resultTypes = #[tb]) (htb : P.underlying tb = some .bool)
    (hW : DataW.Whole enc P fn.params.toList s.vars false W args.toList ds gs before) (hfn : ∀ gs, s.vars = [] → gs = [] → s.fn H (ds ++ gs) = { results := [.lit (.bool true)], args := ds })
    (hc : Calls P f args W fun e W' => e = .returned (.bool true) ∧ Below W.heap.size W W') :
    Calls P f args W fun e W' => ∃ v, e = .returned v ∧ s.post enc P fn false true false false W args v W' := by
  have hW' := hW
  obtain ⟨p, q, hA, hV, rfl, hfz, hnd⟩ := hW
  have hV' := hV
  rw [hvars] at hV'
  obtain ⟨rfl, rfl⟩ := trodVars_none hV'
  have hlt : ∀ x ∈ p, x.block < W.heap.size := fun x hx => by simpa using hW'.lt x (by simpa using hx)
  refine hc.mono fun e W' ⟨he, hb⟩ => ⟨_, he, _, _, _, [], p, [], hW', ?_, ?_, ?_, hb.frame _, fun h => by cases h⟩
  · rw [hfn [] hvars rfl, hres]
    exact trodAll_mk1 (shut_bool htb _)
  · rw [hfn [] hvars rfl]
    exact trodAll_below hl hb hread hlt hA
  · rw [hvars, hfn [] hvars rfl]
    rfl
end
end Go.Proofs.YtflcdnmhgfhmdaaGreatDoor.lib
