/-
  Texts of this proof, one behind the other: AppFull, AppMid.
-/
import Derived.Test.YtflcdnmhgfhmdaaGreatDoorG1
import Derived.Test.YtflcdnmhgfhmdaaGreatDoorG3
set_option linter.unusedVariables false
set_option linter.unusedSimpArgs false
/-
  append onto a slice that has no room: always a new block.
-/
namespace Go.Proofs.YtflcdnmhgfhmdaaGreatDoor.lib
open Go Go.RowKit
section
variable {P : Program} {w : World} {t e : TypeId} {z : Value} {size bytes : Nat}
theorem cs_add {g o : Nat} {vs : List Value} (h : ∀ j v, vs[j]? = some v → w.cell? ⟨g, o + j, none⟩ = some v) : ∀ j v, vs[j]? = some v → w.cell? ((⟨g, o, none⟩ : Addr).add j) = some v := fun j v hv => by rw [addr_add]; exact h j v hv
theorem run_append_full (T : SliceTy P t e z size bytes) (ty : TypeId) (b : Option Addr) (n c : Nat) (olds : List Value) (hb : Cs w b olds) (hol : olds.length = n * size) (hnc : n ≤ c) (hbn : b = none → c = 0)
    (ao : Option Addr) (m c' : Nat) (news : List Value) (hc : Cs w ao news) (hl : news.length = m * size) (hfull : c < n + m)
    (hby : (n + m) * bytes ≤ 140737488355328) (h63 : n + m ≤ maxLen) :
    ∃ cap' w', (Builtin.append_ #[t, t] ty #[.slice b n c, .slice ao m c']).run P w = .ok (.slice (some ⟨w.heap.size, 0, none⟩) (n + m) cap') w' ∧ Appended w w' e size [] (some ⟨w.heap.size, 0, none⟩) (n + m) cap' (olds ++ news) := by
  obtain ⟨hu, ⟨i, hi, hz, hs, hbt⟩, hcz, hp⟩ := T
  have hsmall : n + m ≤ 9223372036854775807 := by simp only [maxLen] at h63; omega
  have hne : 0 < news.length := by rw [hl]; exact Nat.mul_pos (by omega) hp
  obtain ⟨g, o, rfl, hcn⟩ := hc.at hne
  have hn' := cs_add hcn
  have key : ∀ (old : Nat), old < n + m → Appended w (w.drew.alloc (.cells (olds.toArray ++ news.toArray ++ Builtin.zeroCells z.cells (grownCap w (n + m) old e - (n + m))) e)) e size []
      (some ⟨w.heap.size, 0, none⟩) (n + m) (grownCap w (n + m) old e) (olds ++ news) := by
    intro old ho
    have hge := grownCap_ge w (n + m) old e
    have hcm : grownCap w (n + m) old e ≤ maxLen := grownCap_le_maxLen w (n + m) old e h63
    refine ⟨⟨by rw [List.length_append, hol, hl, Nat.add_mul], .inr ⟨w.heap.size, _, _, rfl, Nat.zero_le _, heap_alloc_new w.drew _, hge, hcm, ?_, ?_⟩⟩, (Fr.drew1 [] w).alloc _, fun x hx => by right; simpa [blk] using hx, hge, hcm, fun h => by cases h⟩
    · simp only [Array.size_append, List.size_toArray, size_zeroCells, hcz, hol, hl]
      rw [← Nat.add_mul, ← Nat.add_mul]
      congr 1
      omega
    · simp only [Array.toList_append]
      rw [List.take_append_of_le_length (by simp [hol, hl, Nat.add_mul])]
      rw [List.take_of_length_le (by simp [hol, hl, Nat.add_mul])]
  cases b with
  | none =>
    have hc0 := hbn rfl
    subst hc0
    obtain rfl : n = 0 := by omega
    obtain rfl : olds = [] := List.eq_nil_of_length_eq_zero (by simpa using hol)
    have hr := run_append_nil (P := P) w t ty e i z hu hi hz ⟨g, o, none⟩ m c' news (by rw [hs]; exact hl) hn' (by omega) (by omega) (by rw [hbt]; simp at hby; omega)
    have hk := key 0 (by omega)
    simp only [Nat.zero_add, List.nil_append, Array.empty_append] at hk ⊢
    exact ⟨_, _, hr, hk⟩
  | some a =>
    have ho : ∀ j v, olds[j]? = some v → w.cell? (a.add j) = some v := by
      intro j v hv
      rcases hb with rfl | ⟨g', o', ha, hb⟩
      · simp at hv
      · obtain rfl := Option.some.inj ha
        rw [addr_add]
        exact hb j v hv
    have hfit : Builtin.nextslicecap (n + m) c * i.bytes ≤ 281474976710656 := by rw [hbt]; exact growslice_fits (by omega) (by omega)
    have hr := run_append_grow (P := P) w t ty e i z hu hi hz a n c olds (by rw [hs]; exact hol) ho ⟨g, o, none⟩ m c' news (by rw [hs]; exact hl) hn' hfull (by omega) hfit
    exact ⟨_, _, hr, key c hfull⟩
theorem wp_append_full (T : SliceTy P t e z size bytes) {o : Oper} {a : Act} {K : Act → World → Prop} {Q : Exit → Act → World → Prop} (s x : Operand)
    (ho : o.op = .call { callee := .builtin .append, args := #[s, x], argTypes := #[t, t] })
    (b : Option Addr) (n c : Nat) (olds : List Value) (hs : a.eval s = .slice b n c) (hb : Cs w b olds) (hol : olds.length = n * size) (hnc : n ≤ c) (hbn : b = none → c = 0)
    (ao : Option Addr) (m c' : Nat) (news : List Value) (hx : a.eval x = .slice ao m c') (hc : Cs w ao news) (hl : news.length = m * size) (hfull : c < n + m)
    (hby : (n + m) * bytes ≤ 140737488355328) (h63 : n + m ≤ maxLen)
    (h : ∀ cap' w', Appended w w' e size [] (some ⟨w.heap.size, 0, none⟩) (n + m) cap' (olds ++ news) → K (a.put o.dst (.slice (some ⟨w.heap.size, 0, none⟩) (n + m) cap')) w') : o.wp P a w K Q := by
  obtain ⟨cap', w', hr, h2⟩ := run_append_full (P := P) T o.type b n c olds hb hol hnc hbn ao m c' news hc hl hfull hby h63
  unfold Oper.wp execOp
  simp only [ho, resolve, invoke, builtin, Sem.run_bind, Sem.run_pure, Result.andThen_ok, List.map_toArray, List.map_cons, List.map_nil, hs, hx, hr]
  exact h cap' w' h2
theorem wpList_append_full (T : SliceTy P t e z size bytes) {ops : Array Oper} {rest : List Oper} {o : Oper} {a : Act} {Q : Exit → Act → World → Prop} (hgd : o.guard = none) (s x : Operand)
    (ho : o.op = .call { callee := .builtin .append, args := #[s, x], argTypes := #[t, t] })
    (b : Option Addr) (n c : Nat) (olds : List Value) (hs : a.eval s = .slice b n c) (hb : Cs w b olds) (hol : olds.length = n * size) (hnc : n ≤ c) (hbn : b = none → c = 0)
    (ao : Option Addr) (m c' : Nat) (news : List Value) (hx : a.eval x = .slice ao m c') (hc : Cs w ao news) (hl : news.length = m * size) (hfull : c < n + m)
    (hby : (n + m) * bytes ≤ 140737488355328) (h63 : n + m ≤ maxLen)
    (h : ∀ cap' w', Appended w w' e size [] (some ⟨w.heap.size, 0, none⟩) (n + m) cap' (olds ++ news) → wpList P ops Q rest (a.put o.dst (.slice (some ⟨w.heap.size, 0, none⟩) (n + m) cap')) w') : wpList P ops Q (o :: rest) a w :=
  wpList_plain hgd fun _ hK => wp_append_full T s x ho b n c olds hs hb hol hnc hbn ao m c' news hx hc hl hfull hby h63 fun cap' w' h2 => hK _ _ (h cap' w' h2)
end
end Go.Proofs.YtflcdnmhgfhmdaaGreatDoor.lib
/-
  A slice of one's own that may begin in the midst of its block (s = s[n:]): read, cut, appended to. Elements of one cell.
-/
namespace Go.Proofs.YtflcdnmhgfhmdaaGreatDoor.lib
open Go Go.RowKit

/-- The slice (a, xs.length, cap) is one's own and reads as xs. -/
def Own (w : World) (e : TypeId) (a : Option Addr) (cap : Nat) (xs : List Value) : Prop :=
  (a = none ∧ cap = 0 ∧ xs = []) ∨ ∃ g o cur, a = some ⟨g, o, none⟩ ∧ w.heap[g]? = some (.cells cur e (0, 0)) ∧ xs.length ≤ cap ∧ cap ≤ maxLen ∧ o + cap ≤ cur.size ∧ (cur.toList.drop o).take xs.length = xs
theorem Own.nil (w : World) (e : TypeId) : Own w e none 0 [] := .inl ⟨rfl, rfl, rfl⟩
theorem Own.shape {w : World} {e : TypeId} {a : Option Addr} {cap : Nat} {xs : List Value} (h : Own w e a cap xs) : xs.length ≤ cap ∧ cap ≤ maxLen ∧ (a = none → cap = 0) := by
  rcases h with ⟨_, rfl, rfl⟩ | ⟨g, o, cur, rfl, _, h1, h2, _⟩
  · exact ⟨Nat.le_refl _, Nat.zero_le _, fun _ => rfl⟩
  · exact ⟨h1, h2, fun h => by cases h⟩
theorem Own.cs {w : World} {e : TypeId} {a : Option Addr} {cap : Nat} {xs : List Value} (h : Own w e a cap xs) : Cs w a xs := by
  rcases h with ⟨_, _, rfl⟩ | ⟨g, o, cur, rfl, hg, h1, h2, h3, h4⟩
  · exact .inl rfl
  · refine .inr ⟨g, o, rfl, fun j v hv => ?_⟩
    rw [cell_of hg, ← Array.getElem?_toList]
    rw [← h4, List.getElem?_take] at hv
    split at hv
    · simpa using hv
    · cases hv
theorem Own.fr {S : List Nat} {w w' : World} {e : TypeId} {a : Option Addr} {cap : Nat} {xs : List Value} (h : Own w e a cap xs) (f : Fr S w w') (hn : ∀ x ∈ blk a, x ∉ S) : Own w' e a cap xs := by
  rcases h with h | ⟨g, o, cur, rfl, hg, r⟩
  · exact .inl h
  · exact .inr ⟨g, o, cur, rfl, f.blk hg (hn g (by simp [blk])), r⟩
theorem Own.lt {w : World} {e : TypeId} {a : Option Addr} {cap : Nat} {xs : List Value} (h : Own w e a cap xs) : ∀ x ∈ blk a, x < w.heap.size := by
  rcases h with ⟨rfl, _⟩ | ⟨g, o, cur, rfl, hg, r⟩
  · simp [blk]
  · intro x hx
    simp [blk] at hx
    rw [hx]
    exact lt_of_block hg
theorem Own.rd {w : World} {e : TypeId} {a : Option Addr} {cap : Nat} {bs : List UInt8} (h : Own w e a cap (bs.map bv)) : Rd w a cap bs := by
  obtain ⟨h1, h2, h3⟩ := h.shape
  exact ⟨h.cs, by simpa using h1, h2, h3⟩
theorem own_of_row {w : World} {e : TypeId} {a : Option Addr} {n cap : Nat} {xs : List Value} (h : w.ownsRow 0 e 1 (.slice a n cap) n xs) : Own w e a cap xs ∧ xs.length = n := by
  have hl : xs.length = n := by simpa using h.1
  refine ⟨?_, hl⟩
  rcases h.2 with ⟨h1, h2⟩ | ⟨g, cap', cur, h1, hb, hg, hn, hm, hs, ht⟩
  · simp only [Value.slice.injEq] at h1
    obtain ⟨rfl, h3, rfl⟩ := h1
    exact .inl ⟨rfl, rfl, List.eq_nil_of_length_eq_zero (by omega)⟩
  · simp only [Value.slice.injEq] at h1
    obtain ⟨rfl, _, rfl⟩ := h1
    refine .inr ⟨g, 0, cur, rfl, hg, by omega, hm, by omega, ?_⟩
    rw [List.drop_zero, hl]
    simpa using ht
theorem Own.take {w : World} {e : TypeId} {a : Option Addr} {cap : Nat} {xs : List Value} (h : Own w e a cap xs) (k : Nat) : Own w e a cap (xs.take k) := by
  rcases h with ⟨h1, h2, rfl⟩ | ⟨g, o, cur, rfl, hg, h1, h2, h3, h4⟩
  · exact .inl ⟨h1, h2, by simp⟩
  · refine .inr ⟨g, o, cur, rfl, hg, by rw [List.length_take]; omega, h2, h3, ?_⟩
    have e1 : xs.take k = ((cur.toList.drop o).take xs.length).take k := by rw [h4]
    rw [e1, List.take_take, List.length_take]
    congr 1
    have := congrArg List.length h4
    rw [List.length_take] at this
    omega
theorem Own.drop {w : World} {e : TypeId} {a : Option Addr} {cap : Nat} {xs : List Value} (h : Own w e a cap xs) (k : Nat) (hk : k ≤ xs.length) : Own w e (cutAtN a cap k 1) (cap - k) (xs.drop k) := by
  rcases h with ⟨rfl, rfl, rfl⟩ | ⟨g, o, cur, rfl, hg, h1, h2, h3, h4⟩
  · obtain rfl : k = 0 := by simpa using hk
    exact .inl ⟨rfl, rfl, rfl⟩
  · unfold cutAtN
    by_cases hc : cap = k
    · rw [if_pos hc]
      have hx : xs.drop k = [] := List.drop_eq_nil_of_le (by omega)
      rw [hx]
      exact .inr ⟨g, o, cur, rfl, hg, by simp, by omega, by omega, rfl⟩
    · rw [if_neg hc]
      refine .inr ⟨g, o + k, cur, by simp only [Option.map_some, addr_add, Nat.mul_one], hg, by rw [List.length_drop]; omega, by omega, by omega, ?_⟩
      have e1 : xs.drop k = ((cur.toList.drop o).take xs.length).drop k := by rw [h4]
      rw [e1, List.drop_take, List.drop_drop, List.length_take, List.length_drop]
      congr 1
      have := congrArg List.length h4
      rw [List.length_take, List.length_drop] at this
      simp only [Array.length_toList] at *
      omega
section
variable {P : Program} {w : World} {t e : TypeId} {z : Value} {bytes : Nat}
/-- What an append leaves. -/
structure OwnMore (w w' : World) (e : TypeId) (a a' : Option Addr) (cap' : Nat) (xs : List Value) : Prop where
  own : Own w' e a' cap' xs
  fr : Fr (blk a) w w'
  at_ : ∀ x ∈ blk a', x ∈ blk a ∨ w.heap.size ≤ x
theorem run_append_mid (T : SliceTy P t e z 1 bytes) (ty : TypeId) (a : Option Addr) (n cap : Nat) (xs : List Value) (hown : Own w e a cap xs) (hn : xs.length = n)
    (ao : Option Addr) (m c : Nat) (news : List Value) (hmc : m ≤ c) (hnone : ao = none → c = 0) (hc : Cs w ao news) (hl : news.length = m) (h1 : ∀ u ∈ news, u.oneCell' = true)
    (hby : (n + m) * bytes ≤ 140737488355328) (h63 : n + m ≤ maxLen) :
    ∃ a' cap' w', (Builtin.append_ #[t, t] ty #[.slice a n cap, .slice ao m c]).run P w = .ok (.slice a' (n + m) cap') w' ∧ OwnMore w w' e a a' cap' (xs ++ news) := by
  subst hn
  rcases hown with ⟨rfl, rfl, rfl⟩ | ⟨g, o, cur, rfl, hg, k1, k2, k3, k4⟩
  · obtain ⟨a', cap', w', hr, A⟩ := run_append (P := P) T ty (.slice none 0 0) 0 [] [] rfl (World.ownsRow_nil w 0 e 1) ao m c news hmc hnone hc (by omega) h1 (by simpa using hby) (by simpa using h63)
    obtain ⟨o1, _⟩ := own_of_row A.own
    exact ⟨a', cap', w', by simpa using hr, o1, A.fr, fun x hx => .inr (Nat.le_of_eq (by have := A.at_ x hx; simp at this; exact this.symm))⟩
  · have hsz : xs.length ≤ cur.size - o := by
      have := congrArg List.length k4
      rw [List.length_take, List.length_drop] at this
      simp only [Array.length_toList] at this
      omega
    by_cases hm0 : m = 0
    · subst hm0
      obtain rfl : news = [] := List.eq_nil_of_length_eq_zero hl
      obtain ⟨hu, ⟨i, hi, hz, hs, hbt⟩, hcz, hp⟩ := T
      refine ⟨some ⟨g, o, none⟩, cap, w, ?_, by rw [List.append_nil]; exact .inr ⟨g, o, cur, rfl, hg, k1, k2, k3, k4⟩, Fr.refl _ _, fun x hx => .inl hx⟩
      cases ao with
      | none =>
        have hc0 := hnone rfl
        simp [Builtin.append_, run_underlying hu, sizeOf, typeInfo, hi, Builtin.lenOf, k1, Builtin.firstCells, storeCells]
      | some b =>
        have hf := run_firstCells_some (P := P) w i.size 0 b 0 c [] (by simp) (by simp)
        simp [Builtin.append_, run_underlying hu, sizeOf, typeInfo, hi, Builtin.lenOf, k1, hf, storeCells]
    · by_cases hroom : xs.length + m ≤ cap
      · obtain ⟨hu, ⟨i, hi, hz, hs, hbt⟩, hcz, hp⟩ := T
        obtain ⟨g', o', rfl, hcn⟩ := hc.at (by omega)
        have hn' := cs_add hcn
        have hf := run_firstCells_some (P := P) w i.size m ⟨g', o', none⟩ m c news (by rw [hs]; omega) hn'
        have hst := run_storeCells_at P g (o + xs.length * i.size) e news 0 cur w hg (by rw [hs]; omega) h1
        simp only [Nat.add_zero] at hst
        refine ⟨some ⟨g, o, none⟩, cap, _, ?_, ⟨.inr ⟨g, o, _, rfl, setRow_heap w g cur (cur.toList.take (o + xs.length * i.size) ++ news ++ cur.toList.drop (o + xs.length * i.size + news.length)).toArray e (0, 0) hg, by rw [List.length_append, hl]; exact hroom, k2, ?_, ?_⟩, ⟨rfl, rfl, rfl, by simp, fun k _ hk => setRow_other w g k _ (fun e => hk (by simp [blk, e]))⟩, fun x hx => .inl hx⟩⟩
        · simp [Builtin.append_, run_underlying hu, sizeOf, typeInfo, hi, Builtin.lenOf, hroom, hf, Addr.add_lit, hst]
        · simp only [List.size_toArray, List.length_append, List.length_take, List.length_drop, Array.length_toList, hs]
          omega
        · simp only [hs, Nat.mul_one]
          rw [List.drop_append_of_le_length (by simp; omega), List.drop_append_of_le_length (by simp; omega), List.drop_take, Nat.add_sub_cancel_left, k4, List.length_append, hl]
          rw [List.take_append_of_le_length (by simp [hl]), List.take_of_length_le (by simp [hl])]
      · have hcs : Cs w (some ⟨g, o, none⟩) xs := Own.cs (.inr ⟨g, o, cur, rfl, hg, k1, k2, k3, k4⟩)
        obtain ⟨cap', w', hr, A⟩ := run_append_full (P := P) T ty (some ⟨g, o, none⟩) xs.length cap xs hcs (by omega) k1 (by simp) ao m c news hc (by omega) (by omega) hby h63
        obtain ⟨o1, _⟩ := own_of_row A.own
        exact ⟨_, cap', w', hr, o1, A.fr.mono (by simp), fun x hx => .inr (Nat.le_of_eq (by have := A.at_ x hx; simp at this; exact this.symm))⟩
theorem wp_append_mid (T : SliceTy P t e z 1 bytes) {o : Oper} {A : Act} {K : Act → World → Prop} {Q : Exit → Act → World → Prop} (s x : Operand)
    (ho : o.op = .call { callee := .builtin .append, args := #[s, x], argTypes := #[t, t] })
    (a : Option Addr) (n cap : Nat) (xs : List Value) (hs : A.eval s = .slice a n cap) (hown : Own w e a cap xs) (hn : xs.length = n)
    (ao : Option Addr) (m c : Nat) (news : List Value) (hx : A.eval x = .slice ao m c) (hmc : m ≤ c) (hnone : ao = none → c = 0) (hc : Cs w ao news) (hl : news.length = m) (h1 : ∀ u ∈ news, u.oneCell' = true)
    (hby : (n + m) * bytes ≤ 140737488355328) (h63 : n + m ≤ maxLen)
    (h : ∀ a' cap' w', OwnMore w w' e a a' cap' (xs ++ news) → K (A.put o.dst (.slice a' (n + m) cap')) w') : o.wp P A w K Q := by
  obtain ⟨a', cap', w', hr, h2⟩ := run_append_mid (P := P) T o.type a n cap xs hown hn ao m c news hmc hnone hc hl h1 hby h63
  unfold Oper.wp execOp
  simp only [ho, resolve, invoke, builtin, Sem.run_bind, Sem.run_pure, Result.andThen_ok, List.map_toArray, List.map_cons, List.map_nil, hs, hx, hr]
  exact h a' cap' w' h2
theorem wpList_append_mid (T : SliceTy P t e z 1 bytes) {ops : Array Oper} {rest : List Oper} {o : Oper} {A : Act} {Q : Exit → Act → World → Prop} (hgd : o.guard = none) (s x : Operand)
    (ho : o.op = .call { callee := .builtin .append, args := #[s, x], argTypes := #[t, t] })
    (a : Option Addr) (n cap : Nat) (xs : List Value) (hs : A.eval s = .slice a n cap) (hown : Own w e a cap xs) (hn : xs.length = n)
    (ao : Option Addr) (m c : Nat) (news : List Value) (hx : A.eval x = .slice ao m c) (hmc : m ≤ c) (hnone : ao = none → c = 0) (hc : Cs w ao news) (hl : news.length = m) (h1 : ∀ u ∈ news, u.oneCell' = true)
    (hby : (n + m) * bytes ≤ 140737488355328) (h63 : n + m ≤ maxLen)
    (h : ∀ a' cap' w', OwnMore w w' e a a' cap' (xs ++ news) → wpList P ops Q rest (A.put o.dst (.slice a' (n + m) cap')) w') : wpList P ops Q (o :: rest) A w :=
  wpList_plain hgd fun _ hK => wp_append_mid T s x ho a n cap xs hs hown hn ao m c news hx hmc hnone hc hl h1 hby h63 fun a' cap' w' h2 => hK _ _ (h a' cap' w' h2)
/-- Two appends, one on the other. -/
theorem OwnMore.two {w1 w2 w3 : World} {a a2 a3 : Option Addr} {c2 c3 : Nat} {xs ys : List Value} (A : OwnMore w1 w2 e a a2 c2 xs) (B : OwnMore w2 w3 e a2 a3 c3 ys) : OwnMore w1 w3 e a a3 c3 ys := by
  refine ⟨B.own, A.fr.step B.fr fun y hy => A.at_ y hy, fun y hy => ?_⟩
  rcases B.at_ y hy with h | h
  · exact A.at_ y h
  · exact .inr (Nat.le_trans A.fr.size h)
end
end Go.Proofs.YtflcdnmhgfhmdaaGreatDoor.lib
