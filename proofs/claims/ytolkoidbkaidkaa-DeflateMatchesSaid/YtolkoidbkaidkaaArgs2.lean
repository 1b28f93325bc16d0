/-
  Slices of structs among a law's arguments, opened for a walk: each element's cells, and what they read as.
-/
import Derived.Test.YtolkoidbkaidkaaArgs
namespace Go.Proofs.Ytolkoidbkaidkaa.lib
open Go Go.RowKit Go.ChangeShapes Go.WideShapes

section
variable {H : Type} {enc : TypeId × Value → H} {P : Program} {w : World}
def Light (P : Program) (t : TypeId) (d : DataW H) : Prop := (DataW.weights P t d).all (· ≤ reachBytes) = true
theorem light_all {e : TypeId} : ∀ {ds : List (DataW H)}, (DataW.weightsAll P e ds).all (· ≤ reachBytes) = true → ∀ d ∈ ds, Light P e d
  | [], _, d, hd => by cases hd
  | x :: r, h, d, hd => by
    rw [DataW.weightsAll, List.all_append, Bool.and_eq_true] at h
    rcases List.mem_cons.1 hd with rfl | hd
    · exact h.1
    · exact light_all h.2 d hd
theorem light_each {ts : List TypeId} {ds : List (DataW H)} (h : (DataW.weightsEach P ts ds).all (· ≤ reachBytes) = true) {j : Nat} {t : TypeId} {d : DataW H} (ht : ts[j]? = some t) (hd : ds[j]? = some d) : Light P t d :=
  List.all_eq_true.2 fun n hn => List.all_eq_true.1 h n (DataW.weights_mem_each ht hd n hn)
theorem light_slice {t e : TypeId} {elems spare : List (DataW H)} (ht : P.underlying t = some (.slice e)) (h : Light P t (.slice elems spare)) :
    (elems.length + spare.length) * P.bytesOf e ≤ reachBytes ∧ (∀ d ∈ elems, Light P e d) ∧ ∀ d ∈ spare, Light P e d := by
  unfold Light at h
  rw [DataW.weights, ht] at h
  simp only [List.all_cons, List.all_append, Bool.and_eq_true, decide_eq_true_eq] at h
  exact ⟨h.1, light_all h.2.1, light_all h.2.2⟩
theorem light_struct {t : TypeId} {fs : Array Field} {parts : List (DataW H)} (ht : P.underlying t = some (.struct fs)) (h : Light P t (.agg parts)) {j : Nat} {u : TypeId} {d : DataW H} (hu : (fs.toList.map (·.type))[j]? = some u) (hd : parts[j]? = some d) : Light P u d := by
  unfold Light at h
  rw [DataW.weights, ht] at h
  exact light_each h hu hd
theorem light_string {t : TypeId} {bytes : List UInt8} (h : Light (H := H) P t (.lit (.string bytes))) : bytes.length ≤ 140737488351232 := by
  unfold Light at h
  rw [DataW.weights] at h
  simp only [List.all_cons, List.all_nil, Bool.and_true, decide_eq_true_eq] at h
  have e : reachBytes = 140737488351232 := by decide
  omega

/-! ### The bulk of what came in ('uptoBulk', in the given rows) -/
theorem bulk_one (d : DataW H) : 1 ≤ Rows.uptoBulk d := by
  cases d with
  | lit l => cases l <;> simp [Rows.uptoBulk]
  | nil => simp [Rows.uptoBulk]
  | ptr d => simp [Rows.uptoBulk]
  | slice elems spare => simp [Rows.uptoBulk]
  | agg parts => simp [Rows.uptoBulk]
  | iface t d => simp [Rows.uptoBulk]
  | map entries => simp [Rows.uptoBulk]
  | held h => simp [Rows.uptoBulk]
theorem bulk_part {d : DataW H} {l : List (DataW H)} (h : d ∈ l) : Rows.uptoBulk d ≤ Rows.uptoBulkAll l := by
  induction l with
  | nil => cases h
  | cons x r ih =>
    simp only [Rows.uptoBulkAll]
    cases List.mem_cons.1 h with
    | inl e => subst e; omega
    | inr e => have := ih e; omega
theorem bulk_length (l : List (DataW H)) : l.length ≤ Rows.uptoBulkAll l := by
  induction l with
  | nil => simp [Rows.uptoBulkAll]
  | cons x r ih => have := bulk_one x; simp only [Rows.uptoBulkAll, List.length_cons]; omega
theorem bulk_elem {d : DataW H} {elems spare : List (DataW H)} (h : d ∈ elems) : Rows.uptoBulk d ≤ Rows.uptoBulk (.slice elems spare) := by
  have := bulk_part h
  simp only [Rows.uptoBulk]
  omega
theorem bulk_agg {d : DataW H} {parts : List (DataW H)} (h : d ∈ parts) : Rows.uptoBulk d ≤ Rows.uptoBulk (.agg parts) := by
  have := bulk_part h
  simp only [Rows.uptoBulk]
  omega
theorem bulk_slice (elems spare : List (DataW H)) : elems.length ≤ Rows.uptoBulk (.slice elems spare) := by
  have := bulk_length elems
  simp only [Rows.uptoBulk]
  omega

/-- A slice that came in, whatever its elements: each element's cells, what they read as, and that it is light. -/
theorem slice_arg {t e : TypeId} {a : Option Addr} {len cap s : Nat} {d : DataW H} {p : List MemPlace} (ht : P.underlying t = some (.slice e)) (hs : P.cellsOf e = s) (h0 : 0 < s)
    (h : DataW.Trod enc P w 0 (fun _ => true) true t (.slice a len cap) d p) (hL : Light P t d) :
    len ≤ cap ∧ cap ≤ maxLen ∧ (a = none → cap = 0) ∧ len * P.bytesOf e ≤ 140737488351232 ∧ len ≤ Rows.uptoBulk d ∧ (len = 0 ∨ ∃ g o, a = some ⟨g, o, none⟩ ∧ ∀ i, i < len → ∃ (cs : List Value) (y : DataW H × List MemPlace) (n : Nat),
      cs.length = s ∧ (∀ j v, cs[j]? = some v → w.cell? ⟨g, o + i * s + j, none⟩ = some v) ∧ DataW.trod enc P w 0 (fun _ => true) true n e cs = some y ∧ Light P e y.1 ∧ Rows.uptoBulk y.1 ≤ Rows.uptoBulk d) := by
  have er : reachBytes = 140737488351232 := by decide
  obtain ⟨fuel, hf⟩ := h
  rcases DataW.trod_slice ht hf with ⟨hcs, hx⟩ | ⟨x, l, c, elems, rest, n, _, hcs, hx, _, hl, hm, hlen, hel, _⟩
  · simp [Value.cells] at hcs
    obtain ⟨rfl, rfl, rfl⟩ := hcs
    exact ⟨Nat.le_refl _, Nat.zero_le _, fun _ => rfl, by simp, Nat.zero_le _, .inl rfl⟩
  · simp [Value.cells] at hcs
    obtain ⟨rfl, rfl, rfl⟩ := hcs
    simp only [Prod.mk.injEq] at hx
    obtain ⟨rfl, _⟩ := hx
    obtain ⟨hw, hle, _⟩ := light_slice ht hL
    simp only [List.length_map] at hw
    refine ⟨hl, hm, (fun h => by cases h), ?_, by have := bulk_slice (elems.map (·.1)) (rest.map (·.1)); simp at this; omega, ?_⟩
    · have h1 : len * P.bytesOf e ≤ (elems.length + rest.length) * P.bytesOf e := Nat.mul_le_mul_right _ (by omega)
      omega
    · by_cases hz : len = 0
      · exact .inl hz
      · right
        have get : ∀ i, i < len → ∃ (cs : List Value) (y : DataW H × List MemPlace), cs.length = s ∧ (∀ j v, cs[j]? = some v → w.cell? ((x.add (i * s)).add j) = some v) ∧ DataW.trod enc P w 0 (fun _ => true) true n e cs = some y ∧ Light P e y.1 ∧ Rows.uptoBulk y.1 ≤ Rows.uptoBulk (.slice (elems.map (·.1)) (rest.map (·.1))) := by
          intro i hi
          have h1 := hel i hi
          rw [hs] at h1
          have hie : i < elems.length := by omega
          rw [List.getElem?_eq_getElem hie] at h1
          obtain ⟨cs, hc1, hc2⟩ := Option.bind_eq_some_iff.1 h1
          obtain ⟨_, hc3, hc4⟩ := World.cells?_some hc1
          exact ⟨cs, elems[i], hc3, fun j v hv => by rw [hc4 j (by have := (List.getElem?_eq_some_iff.1 hv).1; omega), hv], hc2, hle _ (List.mem_map.2 ⟨_, List.getElem_mem hie, rfl⟩), bulk_elem (List.mem_map.2 ⟨_, List.getElem_mem hie, rfl⟩)⟩
        have spot : x.spot = none := by
          obtain ⟨cs, y, h1, h2, _⟩ := get 0 (by omega)
          have h3 : 0 < cs.length := by omega
          have h4 := h2 0 cs[0] (by simp [h3])
          simp only [Nat.zero_mul] at h4
          have h5 : (x.add 0).add 0 = x := by simp [Addr.add]
          rw [h5] at h4
          cases hs : x.spot with
          | none => rfl
          | some s =>
            simp only [World.cell?, hs, Option.isSome_some, if_true] at h4
            split at h4 <;> cases h4
        refine ⟨x.block, x.off, by rw [← spot], fun i hi => ?_⟩
        obtain ⟨cs, y, h1, h2, h3, h4⟩ := get i hi
        refine ⟨cs, y, n, h1, fun j v hv => ?_, h3, h4⟩
        have h5 := h2 j v hv
        rw [add_at spot, add_at rfl] at h5
        exact h5

/-- What a walk is told of a slice of bytes that came in. -/
structure BytesArg (w : World) (a : Option Addr) (len cap : Nat) (bs : List UInt8) : Prop where
  le : len ≤ cap
  max : cap ≤ maxLen
  nil : a = none → cap = 0
  length : bs.length = len
  cs : Cs w a (bs.map bv)
  lim : len ≤ 140737488351232
  lt : ∀ x ∈ blk a, bs ≠ [] → x < w.heap.size
theorem bytes_arg {t e : TypeId} {a : Option Addr} {len cap : Nat} {d : DataW H} {p : List MemPlace} (ht : P.underlying t = some (.slice e)) (he : P.underlying e = some (.int .u8)) (hc : P.cellsOf e = 1) (hby : P.bytesOf e = 1)
    (h : DataW.Trod enc P w 0 (fun _ => true) true t (.slice a len cap) d p) (hL : Light P t d) : ∃ bs, BytesArg w a len cap bs ∧ len ≤ Rows.uptoBulk d := by
  obtain ⟨xs, _, A, _⟩ := ints_arg ht he hc h
  obtain ⟨_, _, _, hlim, hbk, _⟩ := slice_arg ht hc (by decide) h hL
  have key : Cs w a ((xs.map fun x => UInt8.ofNat x.toNat).map bv) := by
    have e : (xs.map fun x => UInt8.ofNat x.toNat).map bv = xs.map (Value.int .u8) := by
      rw [List.map_map]
      apply List.map_congr_left
      intro x hx
      have := wf_u8 (A.wf x hx)
      simp only [Function.comp, bv, UInt8.toNat_ofNat']
      exact int_eq (by omega)
    rw [e]
    exact A.cs
  refine ⟨xs.map fun x => UInt8.ofNat x.toNat, ⟨A.le, A.max, A.nil, by simp [A.length], key, by rw [hby] at hlim; omega, fun x hx hne => ?_⟩, hbk⟩
  cases a with
  | none => simp [blk] at hx
  | some a =>
    simp [blk] at hx
    subst hx
    exact key.lt (by simpa using hne) a rfl
/-- The same of a cell that holds such a slice. -/
theorem bytes_cell {t e : TypeId} {n : Nat} {cs : List Value} {y : DataW H × List MemPlace} (ht : P.underlying t = some (.slice e)) (he : P.underlying e = some (.int .u8)) (hc : P.cellsOf e = 1) (hby : P.bytesOf e = 1)
    (h : DataW.trod enc P w 0 (fun _ => true) true n t cs = some y) (hL : Light P t y.1) : ∃ a len cap bs, cs = [.slice a len cap] ∧ BytesArg w a len cap bs ∧ len ≤ Rows.uptoBulk y.1 := by
  have hform : ∃ a l c, cs = [.slice a l c] := by
    rcases DataW.trod_slice ht h with ⟨hcs, _⟩ | ⟨a', len', cap', _, _, _, _, hcs, _⟩
    · exact ⟨_, _, _, hcs⟩
    · exact ⟨_, _, _, hcs⟩
  obtain ⟨a, l, c, rfl⟩ := hform
  obtain ⟨bs, hb⟩ := bytes_arg (enc := enc) (a := a) (len := l) (cap := c) (d := y.1) (p := y.2) ht he hc hby ⟨n, h⟩ hL
  exact ⟨a, l, c, bs, rfl, hb⟩
end
end Go.Proofs.Ytolkoidbkaidkaa.lib
