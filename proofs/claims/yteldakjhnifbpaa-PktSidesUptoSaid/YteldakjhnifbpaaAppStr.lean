/-
  append(b, s...): a string's bytes onto a slice of bytes that is owned.
-/
import Derived.Test.YteldakjhnifbpaaOps
import Derived.Lib.AppendStr
namespace Go.Proofs.Yteldakjhnifbpaa.lib
open Go Go.RowKit

theorem strCells_str (bs : List UInt8) : Lib.strCells (str bs) = bs.map bv := by simp [Lib.strCells, str, bv]
theorem str_size (bs : List UInt8) : (str bs).size = bs.length := by simp [str, ByteArray.size]
section
variable {P : Program} {w : World} {t u e : TypeId}
theorem run_append_str (T : SliceTy P t e (.int .u8 0) 1 1) (hu : P.underlying u = some .string) (ty : TypeId) (v : Value) (n : Nat) (xs : List Value) (S : List Nat) (hS : v.ownBlock.toList = S) (hown : w.ownsRow 0 e 1 v n xs)
    (bs : List UInt8) (hb : n + bs.length ≤ 140737488355328) (h63 : n + bs.length ≤ maxLen) :
    ∃ ao' cap' w', (Builtin.append_ #[t, u] ty #[v, .string (str bs)]).run P w = .ok (.slice ao' (n + bs.length) cap') w' ∧ Appended w w' e 1 S ao' (n + bs.length) cap' (xs ++ bs.map bv) := by
  obtain ⟨ht, ⟨i, hi, hz, hsize, hby⟩, _, _⟩ := T
  subst hS
  rw [← str_size bs, ← strCells_str bs] at *
  generalize str bs = s at *
  have hsmall : n + s.size ≤ 9223372036854775807 := by simp only [maxLen] at h63; omega
  have hxl : xs.length = n := by simpa using hown.1
  have hlen : (xs ++ Lib.strCells s).length = (n + s.size) * 1 := by rw [List.length_append, hxl, Lib.strCells_length, Nat.mul_one]
  have grown : ∀ (old : Nat), old < n + s.size → ∀ (row : List Nat),
      Appended w (w.drew.alloc (.cells (xs.toArray ++ (Lib.strCells s).toArray ++ Builtin.zeroCells (Value.int .u8 0).cells (grownCap w (n + s.size) old e - (n + s.size))) e)) e 1 row
        (some ⟨w.heap.size, 0, none⟩) (n + s.size) (grownCap w (n + s.size) old e) (xs ++ Lib.strCells s) := by
    intro old ho row
    have hge := grownCap_ge w (n + s.size) old e
    have hcm : grownCap w (n + s.size) old e ≤ maxLen := grownCap_le_maxLen w (n + s.size) old e h63
    refine ⟨⟨hlen, .inr ⟨w.heap.size, _, _, rfl, Nat.zero_le _, heap_alloc_new w.drew _, hge, hcm, ?_, ?_⟩⟩, (Fr.drew1 row w).alloc _, fun x hx => by right; simpa [blk] using hx, hge, hcm, fun h => by cases h⟩
    · have hz1 : (Value.int IntKind.u8 0).cells.size = 1 := rfl
      simp only [Array.size_append, List.size_toArray, size_zeroCells, hz1, hxl, Lib.strCells_length]
      omega
    · simp only [Array.toList_append, List.append_assoc]
      rw [← List.append_assoc, ← hlen]
      exact List.take_left
  rcases hown.2 with ⟨rfl, rfl⟩ | ⟨g, cap, cur, rfl, hbg, hg, hnc, hcm, hcs, htake⟩
  · have hx : xs = [] := List.eq_nil_of_length_eq_zero hxl
    subst hx
    by_cases hm : s.size = 0
    · have hn : Lib.strCells s = [] := List.eq_nil_of_length_eq_zero (by rw [Lib.strCells_length]; exact hm)
      refine ⟨none, 0, w, ?_, by rw [hm, hn]; exact World.ownsRow_nil w 0 e 1, Fr.refl _ _, by simp [blk], by omega, Nat.zero_le _, fun _ => rfl⟩
      have hf := Lib.run_firstCells_string (P := P) w 1 s
      rw [hm] at hf
      simp [Builtin.append_, run_underlying ht, run_underlying hu, sizeOf, typeInfo, hi, hsize, Builtin.lenOf, hm, hf]
    · have hr := run_append_nil_string (P := P) w t u ty e i (.int .u8 0) ht hu hi hz s (by omega) (by omega) (by rw [hby]; omega)
      have hgr := grown 0 (by omega) (Value.ownBlock (.slice none 0 0)).toList
      simp only [Nat.zero_add, List.nil_append, Array.empty_append] at hgr ⊢
      have e1 : (s.data.map fun b => Value.int .u8 b.toNat) = (Lib.strCells s).toArray := by
        apply Array.ext'
        simp [Lib.strCells]
      rw [e1] at hr
      exact ⟨_, _, _, hr, hgr⟩
  · by_cases hroom : n + s.size ≤ cap
    · have hcs' : cur.size = cap := by simpa using hcs
      have hr := Lib.run_append_room_string (P := P) w t u ty e i ht hu hi hsize g n cap cur hg s hroom (by omega)
      refine ⟨_, _, _, hr, ⟨hlen, .inr ⟨g, cap, _, rfl, hbg, setRow_heap w g cur _ e _ hg, hroom, hcm, ?_, ?_⟩⟩, ⟨rfl, rfl, rfl, by simp, fun k _ hk => setRow_other w g k _ (fun e => hk (by simp [Value.ownBlock, e]))⟩, fun x hx => .inl (by simpa [blk, Value.ownBlock] using hx), hroom, hcm, fun h => by cases h⟩
      · simp only [List.size_toArray, List.length_append, List.length_take, List.length_drop, Array.length_toList, Lib.strCells_length]
        omega
      · have ht' : cur.toList.take n = xs := by simpa using htake
        rw [ht', ← hlen]
        exact List.take_left
    · have holds : ∀ j u, xs[j]? = some u → w.cell? ((⟨g, 0, none⟩ : Addr).add j) = some u := hown.cells (g := g) rfl
      have hr := Lib.run_append_grow_string (P := P) w t u ty e i (.int .u8 0) ht hu hi hz ⟨g, 0, none⟩ n cap xs (by rw [hsize]; simpa using hxl) holds s (by omega) (by omega) (by rw [hby]; exact growslice_fits (by omega) (by omega))
      exact ⟨_, _, _, hr, grown cap (by omega) _⟩
theorem wp_append_str (T : SliceTy P t e (.int .u8 0) 1 1) (hu : P.underlying u = some .string) {o : Oper} {a : Act} {K : Act → World → Prop} {Q : Exit → Act → World → Prop} (s x : Operand)
    (ho : o.op = .call { callee := .builtin .append, args := #[s, x], argTypes := #[t, u] })
    (v : Value) (n : Nat) (xs : List Value) (S : List Nat) (hs : a.eval s = v) (hS : v.ownBlock.toList = S) (hown : w.ownsRow 0 e 1 v n xs)
    (bs : List UInt8) (hx : a.eval x = .string (str bs)) (hb : n + bs.length ≤ 140737488355328) (h63 : n + bs.length ≤ maxLen)
    (h : ∀ ao' cap' w', Appended w w' e 1 S ao' (n + bs.length) cap' (xs ++ bs.map bv) → K (a.put o.dst (.slice ao' (n + bs.length) cap')) w') : o.wp P a w K Q := by
  obtain ⟨ao', cap', w', hr, h2⟩ := run_append_str (P := P) T hu o.type v n xs S hS hown bs hb h63
  unfold Oper.wp execOp
  simp only [ho, resolve, invoke, builtin, Sem.run_bind, Sem.run_pure, Result.andThen_ok, List.map_toArray, List.map_cons, List.map_nil, hs, hx, hr]
  exact h ao' cap' w' h2
theorem wpList_append_str (T : SliceTy P t e (.int .u8 0) 1 1) (hu : P.underlying u = some .string) {ops : Array Oper} {rest : List Oper} {o : Oper} {a : Act} {Q : Exit → Act → World → Prop} (hgd : o.guard = none) (s x : Operand)
    (ho : o.op = .call { callee := .builtin .append, args := #[s, x], argTypes := #[t, u] })
    (v : Value) (n : Nat) (xs : List Value) (S : List Nat) (hs : a.eval s = v) (hS : v.ownBlock.toList = S) (hown : w.ownsRow 0 e 1 v n xs)
    (bs : List UInt8) (hx : a.eval x = .string (str bs)) (hb : n + bs.length ≤ 140737488355328) (h63 : n + bs.length ≤ maxLen)
    (h : ∀ ao' cap' w', Appended w w' e 1 S ao' (n + bs.length) cap' (xs ++ bs.map bv) → wpList P ops Q rest (a.put o.dst (.slice ao' (n + bs.length) cap')) w') : wpList P ops Q (o :: rest) a w :=
  wpList_plain hgd fun _ hK => wp_append_str T hu s x ho v n xs S hs hS hown bs hx hb h63 fun ao' cap' w' h2 => hK _ _ (h ao' cap' w' h2)
end
/-! ### Strings -/
section
variable {P : Program} {w : World} {ops : Array Oper} {rest : List Oper} {o : Oper} {a : Act} {Q : Exit → Act → World → Prop} {t : TypeId}
theorem str_extract (bs : List UInt8) (l h : Nat) : (str bs).extract l h = str ((bs.take h).drop l) := by
  apply ByteArray.ext
  simp only [ByteArray.data_extract, str]
  apply Array.ext'
  simp [List.extract_eq_take_drop, List.drop_take]
theorem str_append (a b : List UInt8) : str a ++ str b = str (a ++ b) := by
  apply ByteArray.ext
  simp [str, ByteArray.data_append]
end
end Go.Proofs.Yteldakjhnifbpaa.lib
