/-
  append as one law: onto a slice that is owned (nil or not), of cells that are read (none or some).
-/
import Derived.Test.YtolkoidbkaidkaaLib
import Derived.Maps.AppendAt
import Derived.Deep.RegionLaw
namespace Go.Proofs.Ytolkoidbkaidkaa.lib
open Go Go.RowKit

/-- What the program's tables say of a slice type and its element type. -/
structure SliceTy (P : Program) (t e : TypeId) (z : Value) (size bytes : Nat) : Prop where
  under : P.underlying t = some (.slice e)
  info : ∃ i, P.info? e = some i ∧ i.zero = some z ∧ i.size = size ∧ i.bytes = bytes
  cells : z.cells.size = size
  pos : 0 < size
theorem SliceTy.of {P : Program} {t e : TypeId} {z : Value} {size bytes : Nat} (h : P.underlying t = some (.slice e))
    (hi : (P.info? e).map (fun i => (i.zero, i.size, i.bytes)) = some (some z, size, bytes)) (hz : z.cells.size = size) (hp : 0 < size) : SliceTy P t e z size bytes := by
  obtain ⟨i, h1, h2, h3, h4⟩ := info_parts hi
  exact ⟨h, ⟨i, h1, h2, h3, h4⟩, hz, hp⟩

/-- What an append leaves: the slice (ao, len, cap) owns the cells xs; blocks of S alone may have turned. -/
structure Appended (w w' : World) (e : TypeId) (size : Nat) (S : List Nat) (ao : Option Addr) (len cap : Nat) (xs : List Value) : Prop where
  own : w'.ownsRow 0 e size (.slice ao len cap) len xs
  fr : Fr S w w'
  at_ : ∀ x ∈ blk ao, x ∈ S ∨ x = w.heap.size
  le : len ≤ cap
  max : cap ≤ maxLen
  nil : ao = none → cap = 0
theorem Appended.lt {w w' : World} {e : TypeId} {size : Nat} {S : List Nat} {ao : Option Addr} {len cap : Nat} {xs : List Value} (h : Appended w w' e size S ao len cap xs) : ∀ x ∈ blk ao, x < w'.heap.size :=
  fun _ hx => owns_lt h.own (blk_own hx)

section
variable {P : Program} {w : World} {t e : TypeId} {z : Value} {size bytes : Nat}
theorem addr_add (g o j : Nat) : (⟨g, o, none⟩ : Addr).add j = ⟨g, o + j, none⟩ := by unfold Addr.add; split <;> simp_all

theorem run_append (T : SliceTy P t e z size bytes) (ty : TypeId) (v : Value) (n : Nat) (xs : List Value) (S : List Nat) (hS : v.ownBlock.toList = S) (hown : w.ownsRow 0 e size v n xs)
    (ao : Option Addr) (m c : Nat) (news : List Value) (hmc : m ≤ c) (hnone : ao = none → c = 0) (hc : Cs w ao news) (hl : news.length = m * size) (h1 : ∀ u ∈ news, u.oneCell' = true)
    (hb : (n + m) * bytes ≤ 140737488355328) (h63 : n + m ≤ maxLen) :
    ∃ ao' cap' w', (Builtin.append_ #[t, t] ty #[v, .slice ao m c]).run P w = .ok (.slice ao' (n + m) cap') w' ∧ Appended w w' e size S ao' (n + m) cap' (xs ++ news) := by
  obtain ⟨hu, ⟨i, hi, hz, hs, hby⟩, hcz, hp⟩ := T
  subst hS
  have key : ∀ v' w', w'.ownsRow 0 e size v' (n + m) (xs ++ news) → w.grownBy w' v.ownBlock → (v'.ownBlock = v.ownBlock ∨ v'.ownBlock = some w.heap.size) → ∃ ao' cap', v' = .slice ao' (n + m) cap' ∧ Appended w w' e size v.ownBlock.toList ao' (n + m) cap' (xs ++ news) := by
    intro v' w' h2 h3 h4
    obtain ⟨ao', cap', rfl, h5, h6⟩ := owns_shape h2
    refine ⟨ao', cap', rfl, h2, (Fr.refl _ w).grown h3 (fun k hk => .inl (by simp [hk])), ?_, h5, h6, ?_⟩
    · intro x hx
      have hx' := blk_own (n := n + m) (cap := cap') hx
      rcases h4 with h | h
      · left; rw [← h, hx']; simp
      · right; rw [h] at hx'; exact (Option.some.inj hx').symm
    · rintro rfl
      rcases h2.2 with ⟨h, _⟩ | ⟨g, cap, cur, h, _⟩
      · simp only [Value.slice.injEq] at h; exact h.2.2
      · simp at h
  cases ao with
  | none =>
    have hc0 := hnone rfl
    obtain rfl : m = 0 := by omega
    subst hc0
    have hn : news = [] := List.eq_nil_of_length_eq_zero (by simpa using hl)
    subst hn
    have hr := run_append_owned_none (P := P) (w := w) 0 t ty e i size hu hi v n xs hown
    obtain ⟨ao', cap', rfl, hA⟩ := key v w (by simpa using hown) ⟨rfl, rfl, rfl, Nat.le_refl _, fun _ _ _ => rfl⟩ (.inl rfl)
    exact ⟨ao', cap', w, hr, hA⟩
  | some a =>
    have hcells : ∀ j u, news[j]? = some u → w.cell? (a.add j) = some u := by
      intro j u hj
      rcases hc with rfl | ⟨g, o, ha, hc⟩
      · simp at hj
      · obtain rfl := Option.some.inj ha
        rw [addr_add]
        exact hc j u hj
    obtain ⟨v', w', hr, h2, h3, h4, h5⟩ := run_append_own_at (P := P) w 0 t ty e i z size bytes hu hi hz hs hby hcz hp v n xs hown a m c news hl hcells h1 h63 hb (Nat.zero_le _)
    obtain ⟨ao', cap', rfl, hA⟩ := key v' w' h2 h3 h5
    exact ⟨ao', cap', w', hr, hA⟩

theorem wp_append (T : SliceTy P t e z size bytes) {o : Oper} {a : Act} {K : Act → World → Prop} {Q : Exit → Act → World → Prop} (s x : Operand)
    (ho : o.op = .call { callee := .builtin .append, args := #[s, x], argTypes := #[t, t] })
    (v : Value) (n : Nat) (xs : List Value) (S : List Nat) (hs : a.eval s = v) (hS : v.ownBlock.toList = S) (hown : w.ownsRow 0 e size v n xs)
    (ao : Option Addr) (m c : Nat) (news : List Value) (hx : a.eval x = .slice ao m c) (hmc : m ≤ c) (hnone : ao = none → c = 0) (hc : Cs w ao news) (hl : news.length = m * size) (h1 : ∀ u ∈ news, u.oneCell' = true)
    (hb : (n + m) * bytes ≤ 140737488355328) (h63 : n + m ≤ maxLen)
    (h : ∀ ao' cap' w', Appended w w' e size S ao' (n + m) cap' (xs ++ news) → K (a.put o.dst (.slice ao' (n + m) cap')) w') : o.wp P a w K Q := by
  obtain ⟨ao', cap', w', hr, h2⟩ := run_append (P := P) T o.type v n xs S hS hown ao m c news hmc hnone hc hl h1 hb h63
  unfold Oper.wp execOp
  simp only [ho, resolve, invoke, builtin, Sem.run_bind, Sem.run_pure, Result.andThen_ok, List.map_toArray, List.map_cons, List.map_nil, hs, hx, hr]
  exact h ao' cap' w' h2
/-- At a plain region's list. -/
theorem wpList_append (T : SliceTy P t e z size bytes) {ops : Array Oper} {rest : List Oper} {o : Oper} {a : Act} {Q : Exit → Act → World → Prop} (hgd : o.guard = none) (s x : Operand)
    (ho : o.op = .call { callee := .builtin .append, args := #[s, x], argTypes := #[t, t] })
    (v : Value) (n : Nat) (xs : List Value) (S : List Nat) (hs : a.eval s = v) (hS : v.ownBlock.toList = S) (hown : w.ownsRow 0 e size v n xs)
    (ao : Option Addr) (m c : Nat) (news : List Value) (hx : a.eval x = .slice ao m c) (hmc : m ≤ c) (hnone : ao = none → c = 0) (hc : Cs w ao news) (hl : news.length = m * size) (h1 : ∀ u ∈ news, u.oneCell' = true)
    (hb : (n + m) * bytes ≤ 140737488355328) (h63 : n + m ≤ maxLen)
    (h : ∀ ao' cap' w', Appended w w' e size S ao' (n + m) cap' (xs ++ news) → wpList P ops Q rest (a.put o.dst (.slice ao' (n + m) cap')) w') : wpList P ops Q (o :: rest) a w :=
  wpList_plain hgd fun _ hK => wp_append T s x ho v n xs S hs hS hown ao m c news hx hmc hnone hc hl h1 hb h63 fun ao' cap' w' h2 => hK _ _ (h ao' cap' w' h2)
/-- At a step of a region that draws its order. -/
theorem step_append (T : SliceTy P t e z size bytes) {ops : Array Oper} {o : Oper} {a : Act} {K : Act → World → Prop} {Q : Exit → Act → World → Prop} {E : Prop} (hgd : o.guard = none) (s x : Operand)
    (ho : o.op = .call { callee := .builtin .append, args := #[s, x], argTypes := #[t, t] })
    (v : Value) (n : Nat) (xs : List Value) (S : List Nat) (hs : a.eval s = v) (hS : v.ownBlock.toList = S) (hown : w.ownsRow 0 e size v n xs)
    (ao : Option Addr) (m c : Nat) (news : List Value) (hx : a.eval x = .slice ao m c) (hmc : m ≤ c) (hnone : ao = none → c = 0) (hc : Cs w ao news) (hl : news.length = m * size) (h1 : ∀ u ∈ news, u.oneCell' = true)
    (hb : (n + m) * bytes ≤ 140737488355328) (h63 : n + m ≤ maxLen)
    (h : ∀ ao' cap' w', Appended w w' e size S ao' (n + m) cap' (xs ++ news) → K (a.put o.dst (.slice ao' (n + m) cap')) w') :
    if Region.wanted o (yielded ops a.tmps) = true then Oper.wp P o a w K Q else E := by
  have hw : Region.wanted o (yielded ops a.tmps) = true := by simp [Region.wanted, hgd]
  rw [if_pos hw]
  exact wp_append T s x ho v n xs S hs hS hown ao m c news hx hmc hnone hc hl h1 hb h63 h
end
theorem cs_one (w : World) (B : Nat) (v : Value) (t : TypeId) (h : w.heap[B]? = some (.cells #[v] t (0, 0))) : Cs w (some ⟨B, 0, none⟩) [v] :=
  .inr ⟨B, 0, rfl, fun j u hj => by
    match j, hj with
    | 0, hj => rw [cell_of h]; simpa using hj⟩
end Go.Proofs.Ytolkoidbkaidkaa.lib
