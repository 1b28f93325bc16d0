/-
  append onto a slice that has no room: always a new block.
-/
import Derived.Test.YtolkoidbkaidkaaAppend
namespace Go.Proofs.Ytolkoidbkaidkaa.lib
open Go Go.RowKit
section
variable {P : Program} {w : World} {t e : TypeId} {z : Value} {size bytes : Nat}
theorem cs_add {g o : Nat} {vs : List Value} (h : ∀ j v, vs[j]? = some v → w.cell? ⟨g, o + j, none⟩ = some v) : ∀ j v, vs[j]? = some v → w.cell? ((⟨g, o, none⟩ : Addr).add j) = some v := fun j v hv => by rw [addr_add]; exact h j v hv
theorem run_append_full (T : SliceTy P t e z size bytes) (ty : TypeId) (b : Option Addr) (n c : Nat) (olds : List Value) (hb : Cs w b olds) (hol : olds.length = n * size) (hnc : n ≤ c) (hbn : b = none → c = 0)
    (ao : Option Addr) (m c' : Nat) (news : List Value) (hc : Cs w ao news) (hl : news.length = m * size) (hfull : c < n + m)
    (hby : (n + m) * bytes ≤ 140737488355328) (h63 : n + m ≤ maxLen) :
    ∃ cap' w', (Builtin.append_ #[t, t] ty #[.slice b n c, .slice ao m c']).run P w = .ok (.slice (some ⟨w.heap.size, 0, none⟩) (n + m) cap') w' ∧ Appended w w' e size [] (some ⟨w.heap.size, 0, none⟩) (n + m) cap' (olds ++ news) := by
  obtain ⟨hu, ⟨i, hi, hz, hs, hbt⟩, hcz, hp⟩ := T
  have hsmall : n + m ≤ 9223372036854775807 := by simp only [maxLen] at h63; omega
  have hne : 0 < news.length := by rw [hl]; exact Nat.mul_pos (by omega) hp
  obtain ⟨g, o, rfl, hcn⟩ := hc.at hne
  have hn' := cs_add hcn
  have key : ∀ (old : Nat), old < n + m → Appended w (w.drew.alloc (.cells (olds.toArray ++ news.toArray ++ Builtin.zeroCells z.cells (grownCap w (n + m) old e - (n + m))) e)) e size []
      (some ⟨w.heap.size, 0, none⟩) (n + m) (grownCap w (n + m) old e) (olds ++ news) := by
    intro old ho
    have hge := grownCap_ge w (n + m) old e
    have hcm : grownCap w (n + m) old e ≤ maxLen := grownCap_le_maxLen w (n + m) old e h63
    refine ⟨⟨by rw [List.length_append, hol, hl, Nat.add_mul], .inr ⟨w.heap.size, _, _, rfl, Nat.zero_le _, heap_alloc_new w.drew _, hge, hcm, ?_, ?_⟩⟩, (Fr.drew1 [] w).alloc _, fun x hx => by right; simpa [blk] using hx, hge, hcm, fun h => by cases h⟩
    · simp only [Array.size_append, List.size_toArray, size_zeroCells, hcz, hol, hl]
      rw [← Nat.add_mul, ← Nat.add_mul]
      congr 1
      omega
    · simp only [Array.toList_append]
      rw [List.take_append_of_le_length (by simp [hol, hl, Nat.add_mul])]
      rw [List.take_of_length_le (by simp [hol, hl, Nat.add_mul])]
  cases b with
  | none =>
    have hc0 := hbn rfl
    subst hc0
    obtain rfl : n = 0 := by omega
    obtain rfl : olds = [] := List.eq_nil_of_length_eq_zero (by simpa using hol)
    have hr := run_append_nil (P := P) w t ty e i z hu hi hz ⟨g, o, none⟩ m c' news (by rw [hs]; exact hl) hn' (by omega) (by omega) (by rw [hbt]; simp at hby; omega)
    have hk := key 0 (by omega)
    simp only [Nat.zero_add, List.nil_append, Array.empty_append] at hk ⊢
    exact ⟨_, _, hr, hk⟩
  | some a =>
    have ho : ∀ j v, olds[j]? = some v → w.cell? (a.add j) = some v := by
      intro j v hv
      rcases hb with rfl | ⟨g', o', ha, hb⟩
      · simp at hv
      · obtain rfl := Option.some.inj ha
        rw [addr_add]
        exact hb j v hv
    have hfit : Builtin.nextslicecap (n + m) c * i.bytes ≤ 281474976710656 := by rw [hbt]; exact growslice_fits (by omega) (by omega)
    have hr := run_append_grow (P := P) w t ty e i z hu hi hz a n c olds (by rw [hs]; exact hol) ho ⟨g, o, none⟩ m c' news (by rw [hs]; exact hl) hn' hfull (by omega) hfit
    exact ⟨_, _, hr, key c hfull⟩
theorem wp_append_full (T : SliceTy P t e z size bytes) {o : Oper} {a : Act} {K : Act → World → Prop} {Q : Exit → Act → World → Prop} (s x : Operand)
    (ho : o.op = .call { callee := .builtin .append, args := #[s, x], argTypes := #[t, t] })
    (b : Option Addr) (n c : Nat) (olds : List Value) (hs : a.eval s = .slice b n c) (hb : Cs w b olds) (hol : olds.length = n * size) (hnc : n ≤ c) (hbn : b = none → c = 0)
    (ao : Option Addr) (m c' : Nat) (news : List Value) (hx : a.eval x = .slice ao m c') (hc : Cs w ao news) (hl : news.length = m * size) (hfull : c < n + m)
    (hby : (n + m) * bytes ≤ 140737488355328) (h63 : n + m ≤ maxLen)
    (h : ∀ cap' w', Appended w w' e size [] (some ⟨w.heap.size, 0, none⟩) (n + m) cap' (olds ++ news) → K (a.put o.dst (.slice (some ⟨w.heap.size, 0, none⟩) (n + m) cap')) w') : o.wp P a w K Q := by
  obtain ⟨cap', w', hr, h2⟩ := run_append_full (P := P) T o.type b n c olds hb hol hnc hbn ao m c' news hc hl hfull hby h63
  unfold Oper.wp execOp
  simp only [ho, resolve, invoke, builtin, Sem.run_bind, Sem.run_pure, Result.andThen_ok, List.map_toArray, List.map_cons, List.map_nil, hs, hx, hr]
  exact h cap' w' h2
theorem wpList_append_full (T : SliceTy P t e z size bytes) {ops : Array Oper} {rest : List Oper} {o : Oper} {a : Act} {Q : Exit → Act → World → Prop} (hgd : o.guard = none) (s x : Operand)
    (ho : o.op = .call { callee := .builtin .append, args := #[s, x], argTypes := #[t, t] })
    (b : Option Addr) (n c : Nat) (olds : List Value) (hs : a.eval s = .slice b n c) (hb : Cs w b olds) (hol : olds.length = n * size) (hnc : n ≤ c) (hbn : b = none → c = 0)
    (ao : Option Addr) (m c' : Nat) (news : List Value) (hx : a.eval x = .slice ao m c') (hc : Cs w ao news) (hl : news.length = m * size) (hfull : c < n + m)
    (hby : (n + m) * bytes ≤ 140737488355328) (h63 : n + m ≤ maxLen)
    (h : ∀ cap' w', Appended w w' e size [] (some ⟨w.heap.size, 0, none⟩) (n + m) cap' (olds ++ news) → wpList P ops Q rest (a.put o.dst (.slice (some ⟨w.heap.size, 0, none⟩) (n + m) cap')) w') : wpList P ops Q (o :: rest) a w :=
  wpList_plain hgd fun _ hK => wp_append_full T s x ho b n c olds hs hb hol hnc hbn ao m c' news hx hc hl hfull hby h63 fun cap' w' h2 => hK _ _ (h cap' w' h2)
end
end Go.Proofs.Ytolkoidbkaidkaa.lib
