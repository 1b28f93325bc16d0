/-
  Texts of this proof, one behind the other: Args2, Bytes, CrcLaw.
-/
import Derived.Test.YtflcdnmhgfhmdaaGreatDoorG2
set_option linter.unusedVariables false
set_option linter.unusedSimpArgs false
/-
  Slices of structs among a law's arguments, opened for a walk: each element's cells, and what they read as.
-/
namespace Go.Proofs.YtflcdnmhgfhmdaaGreatDoor.lib
open Go Go.RowKit Go.ChangeShapes Go.WideShapes

section
variable {H : Type} {enc : TypeId × Value → H} {P : Program} {w : World}
def Light (P : Program) (t : TypeId) (d : DataW H) : Prop := (DataW.weights P t d).all (· ≤ reachBytes) = true
theorem light_all {e : TypeId} : ∀ {ds : List (DataW H)}, (DataW.weightsAll P e ds).all (· ≤ reachBytes) = true → ∀ d ∈ ds, Light P e d
  | [], _, d, hd => by cases hd
  | x :: r, h, d, hd => by
    rw [DataW.weightsAll, List.all_append, Bool.and_eq_true] at h
    rcases List.mem_cons.1 hd with rfl | hd
    · exact h.1
    · exact light_all h.2 d hd
theorem light_each {ts : List TypeId} {ds : List (DataW H)} (h : (DataW.weightsEach P ts ds).all (· ≤ reachBytes) = true) {j : Nat} {t : TypeId} {d : DataW H} (ht : ts[j]? = some t) (hd : ds[j]? = some d) : Light P t d :=
  List.all_eq_true.2 fun n hn => List.all_eq_true.1 h n (DataW.weights_mem_each ht hd n hn)
theorem light_slice {t e : TypeId} {elems spare : List (DataW H)} (ht : P.underlying t = some (.slice e)) (h : Light P t (.slice elems spare)) :
    (elems.length + spare.length) * P.bytesOf e ≤ reachBytes ∧ (∀ d ∈ elems, Light P e d) ∧ ∀ d ∈ spare, Light P e d := by
  unfold Light at h
  rw [DataW.weights, ht] at h
  simp only [List.all_cons, List.all_append, Bool.and_eq_true, decide_eq_true_eq] at h
  exact ⟨h.1, light_all h.2.1, light_all h.2.2⟩
theorem light_struct {t : TypeId} {fs : Array Field} {parts : List (DataW H)} (ht : P.underlying t = some (.struct fs)) (h : Light P t (.agg parts)) {j : Nat} {u : TypeId} {d : DataW H} (hu : (fs.toList.map (·.type))[j]? = some u) (hd : parts[j]? = some d) : Light P u d := by
  unfold Light at h
  rw [DataW.weights, ht] at h
  exact light_each h hu hd
theorem light_string {t : TypeId} {bytes : List UInt8} (h : Light (H := H) P t (.lit (.string bytes))) : bytes.length ≤ 140737488351232 := by
  unfold Light at h
  rw [DataW.weights] at h
  simp only [List.all_cons, List.all_nil, Bool.and_true, decide_eq_true_eq] at h
  have e : reachBytes = 140737488351232 := by decide
  omega

/-! ### The bulk of what came in ('uptoBulk', in the given rows) -/
theorem bulk_one (d : DataW H) : 1 ≤ Rows.uptoBulk d := by
  cases d with
  | lit l => cases l <;> simp [Rows.uptoBulk]
  | nil => simp [Rows.uptoBulk]
  | ptr d => simp [Rows.uptoBulk]
  | slice elems spare => simp [Rows.uptoBulk]
  | agg parts => simp [Rows.uptoBulk]
  | iface t d => simp [Rows.uptoBulk]
  | map entries => simp [Rows.uptoBulk]
  | held h => simp [Rows.uptoBulk]
theorem bulk_part {d : DataW H} {l : List (DataW H)} (h : d ∈ l) : Rows.uptoBulk d ≤ Rows.uptoBulkAll l := by
  induction l with
  | nil => cases h
  | cons x r ih =>
    simp only [Rows.uptoBulkAll]
    cases List.mem_cons.1 h with
    | inl e => subst e; omega
    | inr e => have := ih e; omega
theorem bulk_length (l : List (DataW H)) : l.length ≤ Rows.uptoBulkAll l := by
  induction l with
  | nil => simp [Rows.uptoBulkAll]
  | cons x r ih => have := bulk_one x; simp only [Rows.uptoBulkAll, List.length_cons]; omega
theorem bulk_elem {d : DataW H} {elems spare : List (DataW H)} (h : d ∈ elems) : Rows.uptoBulk d ≤ Rows.uptoBulk (.slice elems spare) := by
  have := bulk_part h
  simp only [Rows.uptoBulk]
  omega
theorem bulk_agg {d : DataW H} {parts : List (DataW H)} (h : d ∈ parts) : Rows.uptoBulk d ≤ Rows.uptoBulk (.agg parts) := by
  have := bulk_part h
  simp only [Rows.uptoBulk]
  omega
theorem bulk_slice (elems spare : List (DataW H)) : elems.length ≤ Rows.uptoBulk (.slice elems spare) := by
  have := bulk_length elems
  simp only [Rows.uptoBulk]
  omega

/-- A slice that came in, whatever its elements: each element's cells, what they read as, and that it is light. -/
theorem slice_arg {t e : TypeId} {a : Option Addr} {len cap s : Nat} {d : DataW H} {p : List MemPlace} (ht : P.underlying t = some (.slice e)) (hs : P.cellsOf e = s) (h0 : 0 < s)
    (h : DataW.Trod enc P w 0 (fun _ => true) true t (.slice a len cap) d p) (hL : Light P t d) :
    len ≤ cap ∧ cap ≤ maxLen ∧ (a = none → cap = 0) ∧ len * P.bytesOf e ≤ 140737488351232 ∧ len ≤ Rows.uptoBulk d ∧ (len = 0 ∨ ∃ g o, a = some ⟨g, o, none⟩ ∧ ∀ i, i < len → ∃ (cs : List Value) (y : DataW H × List MemPlace) (n : Nat),
      cs.length = s ∧ (∀ j v, cs[j]? = some v → w.cell? ⟨g, o + i * s + j, none⟩ = some v) ∧ DataW.trod enc P w 0 (fun _ => true) true n e cs = some y ∧ Light P e y.1 ∧ Rows.uptoBulk y.1 ≤ Rows.uptoBulk d) := by
  have er : reachBytes = 140737488351232 := by decide
  obtain ⟨fuel, hf⟩ := h
  rcases DataW.trod_slice ht hf with ⟨hcs, hx⟩ | ⟨x, l, c, elems, rest, n, _, hcs, hx, _, hl, hm, hlen, hel, _⟩
  · simp [Value.cells] at hcs
    obtain ⟨rfl, rfl, rfl⟩ := hcs
    exact ⟨Nat.le_refl _, Nat.zero_le _, fun _ => rfl, by simp, Nat.zero_le _, .inl rfl⟩
  · simp [Value.cells] at hcs
    obtain ⟨rfl, rfl, rfl⟩ := hcs
    simp only [Prod.mk.injEq] at hx
    obtain ⟨rfl, _⟩ := hx
    obtain ⟨hw, hle, _⟩ := light_slice ht hL
    simp only [List.length_map] at hw
    refine ⟨hl, hm, (fun h => by cases h), ?_, by have := bulk_slice (elems.map (·.1)) (rest.map (·.1)); simp at this; omega, ?_⟩
    · have h1 : len * P.bytesOf e ≤ (elems.length + rest.length) * P.bytesOf e := Nat.mul_le_mul_right _ (by omega)
      omega
    · by_cases hz : len = 0
      · exact .inl hz
      · right
        have get : ∀ i, i < len → ∃ (cs : List Value) (y : DataW H × List MemPlace), cs.length = s ∧ (∀ j v, cs[j]? = some v → w.cell? ((x.add (i * s)).add j) = some v) ∧ DataW.trod enc P w 0 (fun _ => true) true n e cs = some y ∧ Light P e y.1 ∧ Rows.uptoBulk y.1 ≤ Rows.uptoBulk (.slice (elems.map (·.1)) (rest.map (·.1))) := by
          intro i hi
          have h1 := hel i hi
          rw [hs] at h1
          have hie : i < elems.length := by omega
          rw [List.getElem?_eq_getElem hie] at h1
          obtain ⟨cs, hc1, hc2⟩ := Option.bind_eq_some_iff.1 h1
          obtain ⟨_, hc3, hc4⟩ := World.cells?_some hc1
          exact ⟨cs, elems[i], hc3, fun j v hv => by rw [hc4 j (by have := (List.getElem?_eq_some_iff.1 hv).1; omega), hv], hc2, hle _ (List.mem_map.2 ⟨_, List.getElem_mem hie, rfl⟩), bulk_elem (List.mem_map.2 ⟨_, List.getElem_mem hie, rfl⟩)⟩
        have spot : x.spot = none := by
          obtain ⟨cs, y, h1, h2, _⟩ := get 0 (by omega)
          have h3 : 0 < cs.length := by omega
          have h4 := h2 0 cs[0] (by simp [h3])
          simp only [Nat.zero_mul] at h4
          have h5 : (x.add 0).add 0 = x := by simp [Addr.add]
          rw [h5] at h4
          cases hs : x.spot with
          | none => rfl
          | some s =>
            simp only [World.cell?, hs, Option.isSome_some, if_true] at h4
            split at h4 <;> cases h4
        refine ⟨x.block, x.off, by rw [← spot], fun i hi => ?_⟩
        obtain ⟨cs, y, h1, h2, h3, h4⟩ := get i hi
        refine ⟨cs, y, n, h1, fun j v hv => ?_, h3, h4⟩
        have h5 := h2 j v hv
        rw [add_at spot, add_at rfl] at h5
        exact h5

/-- What a walk is told of a slice of bytes that came in. -/
structure BytesArg (w : World) (a : Option Addr) (len cap : Nat) (bs : List UInt8) : Prop where
  le : len ≤ cap
  max : cap ≤ maxLen
  nil : a = none → cap = 0
  length : bs.length = len
  cs : Cs w a (bs.map bv)
  lim : len ≤ 140737488351232
  lt : ∀ x ∈ blk a, bs ≠ [] → x < w.heap.size
theorem bytes_arg {t e : TypeId} {a : Option Addr} {len cap : Nat} {d : DataW H} {p : List MemPlace} (ht : P.underlying t = some (.slice e)) (he : P.underlying e = some (.int .u8)) (hc : P.cellsOf e = 1) (hby : P.bytesOf e = 1)
    (h : DataW.Trod enc P w 0 (fun _ => true) true t (.slice a len cap) d p) (hL : Light P t d) : ∃ bs, BytesArg w a len cap bs ∧ len ≤ Rows.uptoBulk d := by
  obtain ⟨xs, _, A, _⟩ := ints_arg ht he hc h
  obtain ⟨_, _, _, hlim, hbk, _⟩ := slice_arg ht hc (by decide) h hL
  have key : Cs w a ((xs.map fun x => UInt8.ofNat x.toNat).map bv) := by
    have e : (xs.map fun x => UInt8.ofNat x.toNat).map bv = xs.map (Value.int .u8) := by
      rw [List.map_map]
      apply List.map_congr_left
      intro x hx
      have := wf_u8 (A.wf x hx)
      simp only [Function.comp, bv, UInt8.toNat_ofNat']
      exact int_eq (by omega)
    rw [e]
    exact A.cs
  refine ⟨xs.map fun x => UInt8.ofNat x.toNat, ⟨A.le, A.max, A.nil, by simp [A.length], key, by rw [hby] at hlim; omega, fun x hx hne => ?_⟩, hbk⟩
  cases a with
  | none => simp [blk] at hx
  | some a =>
    simp [blk] at hx
    subst hx
    exact key.lt (by simpa using hne) a rfl
/-- The same of a cell that holds such a slice. -/
theorem bytes_cell {t e : TypeId} {n : Nat} {cs : List Value} {y : DataW H × List MemPlace} (ht : P.underlying t = some (.slice e)) (he : P.underlying e = some (.int .u8)) (hc : P.cellsOf e = 1) (hby : P.bytesOf e = 1)
    (h : DataW.trod enc P w 0 (fun _ => true) true n t cs = some y) (hL : Light P t y.1) : ∃ a len cap bs, cs = [.slice a len cap] ∧ BytesArg w a len cap bs ∧ len ≤ Rows.uptoBulk y.1 := by
  have hform : ∃ a l c, cs = [.slice a l c] := by
    rcases DataW.trod_slice ht h with ⟨hcs, _⟩ | ⟨a', len', cap', _, _, _, _, hcs, _⟩
    · exact ⟨_, _, _, hcs⟩
    · exact ⟨_, _, _, hcs⟩
  obtain ⟨a, l, c, rfl⟩ := hform
  obtain ⟨bs, hb⟩ := bytes_arg (enc := enc) (a := a) (len := l) (cap := c) (d := y.1) (p := y.2) ht he hc hby ⟨n, h⟩ hL
  exact ⟨a, l, c, bs, rfl, hb⟩
end
end Go.Proofs.YtflcdnmhgfhmdaaGreatDoor.lib
/-
  A slice of bytes that is read: one word for its address, capacity and cells; what becomes of it by s[l:], s[:h], s[l:h].
-/
namespace Go.Proofs.YtflcdnmhgfhmdaaGreatDoor.lib
open Go Go.RowKit

/-- The slice (a, bs.length, cap) reads as bs. -/
structure Rd (w : World) (a : Option Addr) (cap : Nat) (bs : List UInt8) : Prop where
  cs : Cs w a (bs.map bv)
  le : bs.length ≤ cap
  max : cap ≤ maxLen
  nil : a = none → cap = 0
theorem Rd.fr {w w' : World} {a : Option Addr} {cap : Nat} {bs : List UInt8} (h : Rd w a cap bs) (f : Fr [] w w') : Rd w' a cap bs := ⟨h.cs.fr f (by simp), h.le, h.max, h.nil⟩
theorem Rd.frS {S : List Nat} {w w' : World} {a : Option Addr} {cap : Nat} {bs : List UInt8} (h : Rd w a cap bs) (f : Fr S w w') (hn : ∀ x ∈ blk a, x ∉ S) : Rd w' a cap bs := ⟨h.cs.fr f hn, h.le, h.max, h.nil⟩
theorem Rd.none (w : World) : Rd w none 0 [] := ⟨.inl rfl, Nat.le_refl _, Nat.zero_le _, fun _ => rfl⟩
theorem Rd.of_arg {w : World} {a : Option Addr} {len cap : Nat} {bs : List UInt8} (h : BytesArg w a len cap bs) : Rd w a cap bs := ⟨h.cs, by rw [h.length]; exact h.le, h.max, h.nil⟩
theorem cs_drop {w : World} {a : Option Addr} {cap : Nat} {vs : List Value} (h : Cs w a vs) (k : Nat) (hk : k ≤ vs.length) (hc : vs.length ≤ cap) : Cs w (cutAtN a cap k 1) (vs.drop k) := by
  have := h.cut cap k vs.length hk (Nat.le_refl _) hc
  rw [List.take_of_length_le (by simp), ← cutAtN_one] at this
  exact this
theorem cs_takev {w : World} {a : Option Addr} {vs : List Value} (h : Cs w a vs) (k : Nat) : Cs w a (vs.take k) := by
  rcases h with rfl | ⟨g, o, rfl, h⟩
  · left; simp
  · refine .inr ⟨g, o, rfl, fun j v hv => h j v ?_⟩
    rw [List.getElem?_take] at hv
    split at hv
    · exact hv
    · cases hv
theorem Rd.drop {w : World} {a : Option Addr} {cap : Nat} {bs : List UInt8} (h : Rd w a cap bs) (k : Nat) (hk : k ≤ bs.length) : Rd w (cutAtN a cap k 1) (cap - k) (bs.drop k) := by
  have h1 := h.le
  have h2 := h.max
  refine ⟨?_, by rw [List.length_drop]; omega, by omega, fun e => by have := h.nil (cutAtN_none e); omega⟩
  rw [List.map_drop]
  exact cs_drop h.cs k (by simpa using hk) (by simpa using h1)
theorem Rd.take {w : World} {a : Option Addr} {cap : Nat} {bs : List UInt8} (h : Rd w a cap bs) (k : Nat) : Rd w a cap (bs.take k) := by
  have h1 := h.le
  refine ⟨?_, by rw [List.length_take]; omega, h.max, h.nil⟩
  rw [List.map_take]
  exact cs_takev h.cs k
/-- s[l:l + m]. -/
theorem Rd.mid {w : World} {a : Option Addr} {cap : Nat} {bs : List UInt8} (h : Rd w a cap bs) (l m : Nat) (hk : l + m ≤ bs.length) : Rd w (cutAt a cap l) (cap - l) ((bs.drop l).take m) := by
  have h1 := (h.drop l (by omega)).take m
  rw [cutAtN_one] at h1
  exact h1
/-- The cell of a byte that is there. -/
theorem Rd.at {w : World} {a : Option Addr} {cap : Nat} {bs : List UInt8} (h : Rd w a cap bs) {i : Nat} (hi : i < bs.length) : ∃ g o, a = some ⟨g, o, Option.none⟩ ∧ w.cell? ⟨g, o + i, Option.none⟩ = some (.int .u8 ((bs[i].toNat : Nat) : Int)) := by
  obtain ⟨g, o, rfl, hc⟩ := h.cs.at (by simp; omega)
  exact ⟨g, o, rfl, hc i _ (by simp [hi, bv])⟩
/-- A row of bytes of one's own: any slice that a call owns, under one word. -/
theorem rd_of_owns {w : World} {base : Nat} {e : TypeId} {len cap : Nat} {bs : List UInt8} {a : Option Addr} (h : w.ownsRow base e 1 (.slice a len cap) len (bs.map bv)) : Rd w a cap bs ∧ bs.length = len := by
  have hl : bs.length = len := by simpa using h.1
  obtain ⟨_, _, he, h1, h2, h3⟩ := owns_form h
  simp only [Value.slice.injEq] at he
  obtain ⟨rfl, _, rfl⟩ := he
  exact ⟨⟨cs_of_owns h, by omega, h2, h3⟩, hl⟩
/-! ### s[l:], s[:h] and s[l:h] as run equations, for regions that draw their order -/
section
variable {P : Program} {t e : TypeId} {z : Value} {size bytes : Nat}
theorem run_slice_from (T : SliceTy P t e z size bytes) (l : Nat) (a : Option Addr) (len cap : Nat) (il : Int) (hl : il = l) (hc : l ≤ len) (hlc : len ≤ cap) (w : World) :
    (Instr.slice t (.slice a len cap) (some (.int .i64 il)) Option.none Option.none).run P w = .ok (.slice (cutAtN a cap l size) (len - l) (cap - l)) w := by
  obtain ⟨hu, ⟨i, hi', _, hs, _⟩, _, _⟩ := T
  subst hl
  have c1 : (0 : Int) ≤ (l : Int) ∧ (l : Int) ≤ (len : Int) := by omega
  have c2 : (len : Int) ≤ (cap : Int) := by omega
  simp [run_underlying hu, Instr.slice, Instr.sliceBounds, Instr.sliceBound, asIntOf, c1, c2, hc, hlc, sizeOf, typeInfo, hi', hs, cutAtN, Result.andThen]
theorem run_slice_to (T : SliceTy P t e z size bytes) (m : Nat) (a : Option Addr) (len cap : Nat) (ih : Int) (hh : ih = m) (hc : m ≤ cap) (w : World) :
    (Instr.slice t (.slice a len cap) Option.none (some (.int .i64 ih)) Option.none).run P w = .ok (.slice a m cap) w := by
  obtain ⟨hu, ⟨i, hi', _, hs, _⟩, _, _⟩ := T
  subst hh
  have c1 : (0 : Int) ≤ (m : Int) ∧ (m : Int) ≤ (cap : Int) := by omega
  have ad0 : ∀ x : Addr, x.add 0 = x := fun x => rfl
  cases a <;> simp [run_underlying hu, Instr.slice, Instr.sliceBounds, Instr.sliceBound, asIntOf, c1, hc, sizeOf, typeInfo, hi', hs, Result.andThen, ad0]
theorem run_slice_lh (T : SliceTy P t e z 1 bytes) (l m : Nat) (a : Option Addr) (len cap : Nat) (il ih : Int) (hl : il = l) (hh : ih = l + m) (hc : l + m ≤ cap) (w : World) :
    (Instr.slice t (.slice a len cap) (some (.int .i64 il)) (some (.int .i64 ih)) Option.none).run P w = .ok (.slice (cutAt a cap l) m (cap - l)) w := by
  obtain ⟨hu, ⟨i, hi', _, hs, _⟩, _, _⟩ := T
  subst hl
  obtain rfl : ih = ((l + m : Nat) : Int) := by omega
  have c1 : (0 : Int) ≤ (l : Int) + m ∧ (l : Int) + m ≤ (cap : Int) := by omega
  have e2 : ((l : Int) + m).toNat = l + m := by omega
  have e1 : l + m - l = m := by omega
  simp [run_underlying hu, Instr.slice, Instr.sliceBounds, Instr.sliceBound, asIntOf, c1, e2, sizeOf, typeInfo, hi', hs, cutAt, e1, Result.andThen]
end
/-- A new slice of bytes, cut to its length. -/
def NewBytes (w : World) (bs : List UInt8) (e : Ending) (w' : World) : Prop :=
  ∃ a, e = .returned (.slice a bs.length bs.length) ∧ Rd w' a bs.length bs ∧ (∀ x ∈ blk a, w.heap.size ≤ x ∧ x < w'.heap.size) ∧ Fr [] w w'
end Go.Proofs.YtflcdnmhgfhmdaaGreatDoor.lib
/-
  CRC-32, plain: by a table as by single bits.
-/
namespace Go.Proofs.YtflcdnmhgfhmdaaGreatDoor.crc
open Go

def poly : Nat := 3988292384
def st (c : Nat) : Nat := if c % 2 = 1 then (c / 2) ^^^ poly else c / 2
def stN : Nat → Nat → Nat
  | 0, c => c
  | k + 1, c => stN k (st c)
theorem stN_succ (k c : Nat) : stN (k + 1) c = st (stN k c) := by
  induction k generalizing c with
  | zero => rfl
  | succ k ih => show stN (k + 1) (st c) = _; rw [ih]; rfl
theorem xor_lt {a b : Nat} (h1 : a < 4294967296) (h2 : b < 4294967296) : a ^^^ b < 4294967296 := Nat.xor_lt_two_pow (n := 32) h1 h2
theorem st_lt {c : Nat} (h : c < 4294967296) : st c < 4294967296 := by
  unfold st
  split
  · exact xor_lt (by omega) (by decide)
  · omega
theorem stN_lt (k : Nat) : ∀ {c : Nat}, c < 4294967296 → stN k c < 4294967296 := by
  induction k with
  | zero => intro c h; exact h
  | succ k ih => intro c h; exact ih (st_lt h)
theorem xor_half (a b : Nat) : (a ^^^ b) / 2 = a / 2 ^^^ b / 2 := Nat.xor_div_two
theorem xor_odd (a b : Nat) : (a ^^^ b) % 2 = (a % 2 + b % 2) % 2 := by
  have := Nat.xor_mod_two_pow (a := a) (b := b) (n := 1)
  simp only [Nat.pow_one] at this
  rw [this]
  rcases Nat.mod_two_eq_zero_or_one a with h | h <;> rcases Nat.mod_two_eq_zero_or_one b with k | k <;> rw [h, k] <;> rfl
theorem st_xor (a b : Nat) : st (a ^^^ b) = st a ^^^ st b := by
  unfold st
  rw [xor_half, xor_odd]
  rcases Nat.mod_two_eq_zero_or_one a with h | h <;> rcases Nat.mod_two_eq_zero_or_one b with k | k <;> rw [h, k] <;> simp
  · rw [Nat.xor_assoc]
  · rw [Nat.xor_assoc, Nat.xor_comm (b / 2) poly, ← Nat.xor_assoc]
  · rw [Nat.xor_assoc, ← Nat.xor_assoc poly, Nat.xor_comm poly, Nat.xor_assoc (b / 2), Nat.xor_self, Nat.xor_zero]
theorem stN_xor (k : Nat) : ∀ (a b : Nat), stN k (a ^^^ b) = stN k a ^^^ stN k b := by
  induction k with
  | zero => intro a b; rfl
  | succ k ih => intro a b; show stN k (st (a ^^^ b)) = _; rw [st_xor, ih]; rfl
theorem stN_even (k : Nat) : ∀ (h : Nat), stN k (2 ^ k * h) = h := by
  induction k with
  | zero => intro h; simp [stN]
  | succ k ih =>
    intro h
    show stN k (st (2 ^ (k + 1) * h)) = h
    have e : 2 ^ (k + 1) * h = 2 * (2 ^ k * h) := by rw [Nat.pow_succ, Nat.mul_comm (2 ^ k) 2, Nat.mul_assoc]
    unfold st
    rw [e, if_neg (by omega), Nat.mul_div_cancel_left _ (by decide), ih]
theorem split8 (x : Nat) : x = (2 ^ 8 * (x / 256)) ^^^ (x % 256) := by
  have h1 : 2 ^ 8 * (x / 256) + x % 256 = x := by omega
  have h2 := Nat.two_pow_add_eq_or_of_lt (i := 8) (b := x % 256) (by omega) (x / 256)
  apply Nat.eq_of_testBit_eq
  intro i
  rw [Nat.testBit_xor]
  conv => lhs; rw [← h1, h2]
  rw [Nat.testBit_or, Nat.testBit_two_pow_mul]
  by_cases hi : 8 ≤ i
  · have : (x % 256).testBit i = false := Nat.testBit_lt_two_pow (Nat.lt_of_lt_of_le (Nat.mod_lt x (by decide)) (Nat.pow_le_pow_right (n := 2) (by decide) hi))
    rw [this]; simp
  · simp [hi]
/-- The number of a byte in the table. -/
def tb (i : Nat) : Nat := stN 8 i
/-- A byte taken in, by single bits. -/
def inb (c : Nat) (b : UInt8) : Nat := stN 8 (c ^^^ b.toNat)
theorem xor_div256 (a b : Nat) : (a ^^^ b) / 256 = a / 256 ^^^ b / 256 := by
  have := Nat.xor_div_two_pow (a := a) (b := b) (n := 8)
  simpa using this
/-- The same by the table. -/
theorem inb_tab (c : Nat) (b : UInt8) : inb c b = c / 256 ^^^ tb (c % 256 ^^^ b.toNat) := by
  have hb : b.toNat < 256 := b.toNat_lt
  unfold inb tb
  conv => lhs; rw [split8 (c ^^^ b.toNat)]
  rw [stN_xor, stN_even, xor_div256, Nat.div_eq_of_lt hb, Nat.xor_zero]
  have := Nat.xor_mod_two_pow (a := c) (b := b.toNat) (n := 8)
  rw [show (2 : Nat) ^ 8 = 256 from rfl] at this
  rw [this, Nat.mod_eq_of_lt hb]
theorem inb_lt {c : Nat} (h : c < 4294967296) (b : UInt8) : inb c b < 4294967296 := stN_lt 8 (xor_lt h (by have := b.toNat_lt; omega))
theorem tb_lt {i : Nat} (h : i < 256) : tb i < 4294967296 := stN_lt 8 (by omega)
def crcs (bs : List UInt8) : Nat := bs.foldl inb 4294967295
theorem crcF_lt (bs : List UInt8) : ∀ {c : Nat}, c < 4294967296 → bs.foldl inb c < 4294967296 := by
  induction bs with
  | nil => intro c h; exact h
  | cons b t ih => intro c h; exact ih (inb_lt h b)
def crc (bs : List UInt8) : Nat := 4294967295 - crcs bs
end Go.Proofs.YtflcdnmhgfhmdaaGreatDoor.crc
