/-
  Texts of this proof, one behind the other: Lib, Append.
-/
import Derived.Test.YtflcdnmhgfhmdaaGreatDoorRows
import Derived.WalkKit
import Derived.ProofKit
import Derived.OpenShut
import Derived.BigQuiet
import Derived.Lib.Hide
import Derived.ShutString
import Derived.Maps.AppendAt
import Derived.Deep.RegionLaw
set_option linter.unusedVariables false
set_option linter.unusedSimpArgs false
/-
  Lemmas on worlds, frames and slices that all proofs of this seat share; they speak of no program.
-/
namespace Go.Proofs.YtflcdnmhgfhmdaaGreatDoor.lib
open Go Go.RowKit

/-- Only blocks of S may have turned; new blocks may have come. -/
structure Fr (S : List Nat) (w w' : World) : Prop where
  os : w'.os = w.os
  tape : w'.tape = w.tape
  output : w'.output = w.output
  size : w.heap.size ≤ w'.heap.size
  block : ∀ k, k < w.heap.size → k ∉ S → w'.heap[k]? = w.heap[k]?

theorem Fr.refl (S : List Nat) (w : World) : Fr S w w := ⟨rfl, rfl, rfl, Nat.le_refl _, fun _ _ _ => rfl⟩
theorem Fr.drewN (S : List Nat) (w : World) (n : Nat) : Fr S w (w.drewN n) := ⟨rfl, rfl, rfl, Nat.le_refl _, fun _ _ _ => rfl⟩
theorem Fr.drew1 (S : List Nat) (w : World) : Fr S w w.drew := ⟨rfl, rfl, rfl, Nat.le_refl _, fun _ _ _ => rfl⟩
/-- Two steps; the second may also write what is new behind the first. -/
theorem Fr.step {S T : List Nat} {a b c : World} (h : Fr S a b) (k : Fr T b c) (hT : ∀ x ∈ T, x ∈ S ∨ a.heap.size ≤ x) : Fr S a c :=
  ⟨k.os.trans h.os, k.tape.trans h.tape, k.output.trans h.output, Nat.le_trans h.size k.size, fun i hi hn => by
    rw [k.block i (Nat.lt_of_lt_of_le hi h.size) (fun hx => by rcases hT i hx with h1 | h1; exact hn h1; omega), h.block i hi hn]⟩
theorem Fr.trans {S : List Nat} {a b c : World} (h : Fr S a b) (k : Fr S b c) : Fr S a c := h.step k fun _ hx => .inl hx
theorem Fr.mono {S T : List Nat} {w w' : World} (h : Fr S w w') (hT : ∀ x ∈ S, x ∈ T ∨ w.heap.size ≤ x) : Fr T w w' :=
  (Fr.refl T w).step h hT
theorem Fr.alloc {S : List Nat} {a w : World} (h : Fr S a w) (o : Obj) : Fr S a (w.alloc o) :=
  h.step (T := []) ⟨rfl, rfl, rfl, by simp, fun k hk _ => Below.heap_alloc _ _ _ (by omega)⟩ (by simp)
theorem Fr.drew {S : List Nat} {a w : World} (h : Fr S a w) : Fr S a w.drew := h.step (Fr.drew1 [] w) (by simp)
theorem Fr.drewsN {S : List Nat} {a w : World} (h : Fr S a w) (n : Nat) : Fr S a (w.drewN n) := h.step (Fr.drewN [] w n) (by simp)
theorem Fr.setCell {S : List Nat} {a w : World} (h : Fr S a w) {p : Addr} (hp : p.block ∈ S ∨ a.heap.size ≤ p.block) (u : Value) : Fr S a (w.setCell p u) :=
  h.step (T := [p.block]) ⟨rfl, rfl, rfl, by simp [World.setCell], fun k hk hn => Below.heap_setCell _ _ _ _ (by simpa using hn)⟩ (by simpa using hp)
theorem Fr.grown {S : List Nat} {a w w' : World} {row : Option Nat} (h : Fr S a w) (hg : w.grownBy w' row) (hr : ∀ k, row = some k → k ∈ S ∨ a.heap.size ≤ k) : Fr S a w' :=
  h.step (T := row.toList) ⟨hg.os, hg.tape, hg.output, hg.size, fun k hk hn => hg.block k hk (fun e => hn (by simp [← e]))⟩ (fun x hx => hr x (by simpa using hx))
theorem Fr.below {S : List Nat} {w w' : World} {B : Nat} (h : Fr S w w') (hS : ∀ x ∈ S, B ≤ x) (hB : B ≤ w.heap.size) : Below B w w' :=
  ⟨h.os, h.tape, h.output, h.size, fun k hk => h.block k (by omega) (fun hx => by have := hS k hx; omega)⟩
theorem Fr.of_below {w w' : World} (h : Below w.heap.size w w') (S : List Nat) : Fr S w w' :=
  ⟨h.os, h.tape, h.output, h.size, fun k hk _ => h.block k hk⟩
theorem below_of_fr {w w' : World} (h : Fr [] w w') : Below w.heap.size w w' := h.below (by simp) (Nat.le_refl _)
theorem Fr.blk {S : List Nat} {w w' : World} (h : Fr S w w') {k : Nat} {o : Obj} (hk : w.heap[k]? = some o) (hn : k ∉ S) : w'.heap[k]? = some o := by
  rw [h.block k (lt_of_block hk) hn, hk]
theorem Fr.cell {S : List Nat} {w w' : World} (h : Fr S w w') {a : Addr} {v : Value} (hc : w.cell? a = some v) (hn : a.block ∉ S) : w'.cell? a = some v := by
  rw [World.cell?_of_block (w := w) (h.block a.block (World.block_lt_of_cell? w a hc) hn), hc]
theorem below_blk {B : Nat} {w w' : World} (h : Below B w w') {k : Nat} {o : Obj} (hk : w.heap[k]? = some o) (hB : k < B) : w'.heap[k]? = some o := by
  rw [h.block k hB, hk]

/-! ### A block that is known whole -/
theorem cell_of {w : World} {b : Nat} {c : Array Value} {t : TypeId} {f : Nat × Nat} (h : w.heap[b]? = some (.cells c t f)) (o : Nat) : w.cell? ⟨b, o, none⟩ = c[o]? := by
  simp [World.cell?, h]
theorem frozen_of {w : World} {b : Nat} {c : Array Value} {t : TypeId} (h : w.heap[b]? = some (.cells c t (0, 0))) (o : Nat) : w.frozen? ⟨b, o, none⟩ = false := by
  simp [World.frozen?, h]
theorem setCell_of {w : World} {b o : Nat} {c : Array Value} {t : TypeId} {f : Nat × Nat} (h : w.heap[b]? = some (.cells c t f)) (v : Value) :
    (w.setCell ⟨b, o, none⟩ v).heap[b]? = some (.cells (c.setIfInBounds o v) t f) := by
  have hlt := lt_of_block h
  have h' : w.heap[b] = .cells c t f := by simpa [Array.getElem?_eq_getElem hlt] using h
  show (w.heap.modify b _)[b]? = _
  rw [Array.getElem?_eq_getElem (by simpa using hlt), Array.getElem_modify_self, h']
  rfl
theorem setCell_other {w : World} {b b' o : Nat} (hne : b' ≠ b) (v : Value) : (w.setCell ⟨b, o, none⟩ v).heap[b']? = w.heap[b']? :=
  Below.heap_setCell w ⟨b, o, none⟩ v b' hne
theorem alloc_at (w : World) (o : Obj) : (w.alloc o).heap[w.heap.size]? = some o := heap_alloc_new w o
theorem alloc_old {w : World} {b : Nat} {x : Obj} (o : Obj) (h : w.heap[b]? = some x) : (w.alloc o).heap[b]? = some x := by
  rw [Below.heap_alloc w o b (lt_of_block h), h]

theorem grown_blk {w w' : World} {row : Option Nat} (h : w.grownBy w' row) {k : Nat} {o : Obj} (hk : w.heap[k]? = some o) (hn : row ≠ some k) : w'.heap[k]? = some o := by
  rw [h.block k (lt_of_block hk) (fun e => hn e.symm), hk]

/-! ### Slices that are read -/
def blk : Option Addr → List Nat
  | some a => [a.block]
  | none => []
/-- The address leads to these cells (nothing is asked where there are none). -/
def Cs (w : World) (ao : Option Addr) (vs : List Value) : Prop :=
  vs = [] ∨ ∃ g o, ao = some ⟨g, o, none⟩ ∧ ∀ j v, vs[j]? = some v → w.cell? ⟨g, o + j, none⟩ = some v
theorem Cs.nil (w : World) (ao : Option Addr) : Cs w ao [] := .inl rfl
theorem Cs.at {w : World} {ao : Option Addr} {vs : List Value} (h : Cs w ao vs) (hne : 0 < vs.length) : ∃ g o, ao = some ⟨g, o, none⟩ ∧ ∀ j v, vs[j]? = some v → w.cell? ⟨g, o + j, none⟩ = some v := by
  rcases h with rfl | h
  · simp at hne
  · exact h
theorem Cs.keep {w w' : World} {ao : Option Addr} {vs : List Value} (h : Cs w ao vs) (hk : ∀ a, ao = some a → w'.heap[a.block]? = w.heap[a.block]?) : Cs w' ao vs := by
  rcases h with h | ⟨g, o, rfl, h⟩
  · exact .inl h
  · refine .inr ⟨g, o, rfl, fun j v hv => ?_⟩
    rw [World.cell?_of_block (w := w) (a := ⟨g, o + j, none⟩) (hk ⟨g, o, none⟩ rfl), h j v hv]
theorem Cs.lt {w : World} {ao : Option Addr} {vs : List Value} (h : Cs w ao vs) (hne : vs ≠ []) : ∀ a, ao = some a → a.block < w.heap.size := by
  rcases h with h | ⟨g, o, rfl, h⟩
  · exact absurd h hne
  · intro a ha
    obtain rfl := Option.some.inj ha
    cases vs with
    | nil => exact absurd rfl hne
    | cons v vs => exact World.block_lt_of_cell? w _ (h 0 v rfl)
theorem Cs.fr {S : List Nat} {w w' : World} {ao : Option Addr} {vs : List Value} (h : Cs w ao vs) (hf : Fr S w w') (hn : ∀ x ∈ blk ao, x ∉ S) : Cs w' ao vs := by
  by_cases hne : vs = []
  · exact .inl hne
  · exact h.keep fun a ha => hf.block a.block (h.lt hne a ha) (hn _ (by simp [ha, blk]))
theorem Cs.below {B : Nat} {w w' : World} {ao : Option Addr} {vs : List Value} (h : Cs w ao vs) (hf : Below B w w') (hn : ∀ x ∈ blk ao, x < B) : Cs w' ao vs := by
  refine h.keep fun a ha => hf.block a.block (hn _ (by simp [ha, blk]))
theorem Cs.belowAll {w w' : World} {ao : Option Addr} {vs : List Value} (h : Cs w ao vs) (hf : Below w.heap.size w w') : Cs w' ao vs := by
  by_cases hne : vs = []
  · exact .inl hne
  · exact h.keep fun a ha => hf.block a.block (h.lt hne a ha)

/-! ### What the call owns (the kit's 'ownsRow') as cells to be read -/
theorem cs_of_owns {w : World} {base : Nat} {e : TypeId} {n : Nat} {xs : List Value} {ao : Option Addr} {len cap : Nat} (h : w.ownsRow base e 1 (.slice ao len cap) n xs) : Cs w ao xs := by
  rcases h.2 with ⟨h1, h2⟩ | ⟨g, cap', cur, h1, hb, hg, hn, hm, hs, ht⟩
  · left
    have := h.1
    rw [h2] at this
    exact List.eq_nil_of_length_eq_zero (by simpa using this)
  · simp only [Value.slice.injEq] at h1
    obtain ⟨rfl, rfl, rfl⟩ := h1
    refine .inr ⟨g, 0, rfl, fun j v hv => ?_⟩
    rw [cell_of hg, Nat.zero_add]
    rw [← ht, List.getElem?_take] at hv
    split at hv
    · simpa using hv
    · cases hv
theorem owns_shape {w : World} {base : Nat} {e : TypeId} {size : Nat} {v : Value} {n : Nat} {xs : List Value} (h : w.ownsRow base e size v n xs) :
    ∃ ao cap, v = .slice ao n cap ∧ n ≤ cap ∧ cap ≤ maxLen := by
  rcases h.2 with ⟨rfl, rfl⟩ | ⟨g, cap, cur, rfl, hb, hg, hn, hm, hs, ht⟩
  · exact ⟨none, 0, rfl, Nat.le_refl _, Nat.zero_le _⟩
  · exact ⟨_, cap, rfl, hn, hm⟩
theorem owns_form {w : World} {base : Nat} {e : TypeId} {size : Nat} {v : Value} {n : Nat} {xs : List Value} (h : w.ownsRow base e size v n xs) :
    ∃ ao cap, v = .slice ao n cap ∧ n ≤ cap ∧ cap ≤ maxLen ∧ (ao = none → cap = 0) := by
  rcases h.2 with ⟨rfl, rfl⟩ | ⟨g, cap, cur, rfl, hb, hg, hn, hm, hs, ht⟩
  · exact ⟨none, 0, rfl, Nat.le_refl _, Nat.zero_le _, fun _ => rfl⟩
  · exact ⟨_, cap, rfl, hn, hm, fun h => by cases h⟩
theorem ownsRow_rebase {w : World} {base base' : Nat} {e : TypeId} {size : Nat} {v : Value} {n : Nat} {xs : List Value} (h : w.ownsRow base e size v n xs) (hb : ∀ k, v.ownBlock = some k → base' ≤ k) : w.ownsRow base' e size v n xs := by
  obtain ⟨h1, h2⟩ := h
  refine ⟨h1, ?_⟩
  rcases h2 with h2 | ⟨g, cap, cur, rfl, _, r⟩
  · exact .inl h2
  · exact .inr ⟨g, cap, cur, rfl, hb g rfl, r⟩
theorem ownsRow_fr {S : List Nat} {w w' : World} {base : Nat} {e : TypeId} {size : Nat} {v : Value} {n : Nat} {xs : List Value} (h : w.ownsRow base e size v n xs) (hf : Fr S w w') (hn : ∀ k, v.ownBlock = some k → k ∉ S) : w'.ownsRow base e size v n xs := by
  obtain ⟨h1, h2⟩ := h
  refine ⟨h1, ?_⟩
  rcases h2 with h2 | ⟨g, cap, cur, rfl, hb, hg, r⟩
  · exact .inl h2
  · exact .inr ⟨g, cap, cur, rfl, hb, hf.blk hg (hn g rfl), r⟩

/-! ### Bytes -/
def bv (b : UInt8) : Value := .int .u8 b.toNat
theorem ret_eq {u v : Value} (h : u = v) : Ending.returned u = Ending.returned v := by rw [h]
theorem int_eq {k : IntKind} {a b : Int} (h : a = b) : Value.int k a = Value.int k b := by rw [h]
theorem bool_eq {a b : Bool} (h : a = b) : Value.bool a = Value.bool b := by rw [h]

theorem own_blk (ao : Option Addr) (n cap : Nat) : (Value.slice ao n cap).ownBlock.toList = blk ao := by
  cases ao <;> rfl
theorem blk_own {ao : Option Addr} {n cap : Nat} {x : Nat} (h : x ∈ blk ao) : (Value.slice ao n cap).ownBlock = some x := by
  cases ao with
  | none => simp [blk] at h
  | some a => simp [blk] at h; simp [Value.ownBlock, h]
theorem owns_lt {w : World} {base : Nat} {e : TypeId} {size : Nat} {v : Value} {n : Nat} {xs : List Value} (h : w.ownsRow base e size v n xs) {k : Nat} (hk : v.ownBlock = some k) : k < w.heap.size := (h.lt k hk).2

/-! ### Slices that a call made and that nobody else holds; they may be cut at their end -/
def Fresh (w : World) (B : Nat) (e : TypeId) (ao : Option Addr) (xs : List Value) : Prop :=
  xs = [] ∨ ∃ g cur, ao = some ⟨g, 0, none⟩ ∧ B ≤ g ∧ w.heap[g]? = some (.cells cur e (0, 0)) ∧ cur.toList.take xs.length = xs
theorem Fresh.cs {w : World} {B : Nat} {e : TypeId} {ao : Option Addr} {xs : List Value} (h : Fresh w B e ao xs) : Cs w ao xs := by
  rcases h with h | ⟨g, cur, rfl, hB, hg, ht⟩
  · exact .inl h
  · refine .inr ⟨g, 0, rfl, fun j v hv => ?_⟩
    rw [Nat.zero_add, cell_of hg]
    rw [← ht, List.getElem?_take] at hv
    split at hv
    · simpa using hv
    · cases hv
theorem Fresh.mono {w : World} {B B' : Nat} {e : TypeId} {ao : Option Addr} {xs : List Value} (h : Fresh w B e ao xs) (hB : B' ≤ B) : Fresh w B' e ao xs := by
  rcases h with h | ⟨g, cur, rfl, hg, r⟩
  · exact .inl h
  · exact .inr ⟨g, cur, rfl, Nat.le_trans hB hg, r⟩
theorem Fresh.fr {S : List Nat} {w w' : World} {B : Nat} {e : TypeId} {ao : Option Addr} {xs : List Value} (h : Fresh w B e ao xs) (hf : Fr S w w') (hn : ∀ a, ao = some a → a.block ∉ S) : Fresh w' B e ao xs := by
  rcases h with h | ⟨g, cur, rfl, hB, hg, ht⟩
  · exact .inl h
  · exact .inr ⟨g, cur, rfl, hB, hf.blk hg (hn _ rfl), ht⟩
theorem fresh_of_owns {w : World} {base B : Nat} {e : TypeId} {n len cap : Nat} {xs : List Value} {ao : Option Addr} (h : w.ownsRow base e 1 (.slice ao len cap) n xs) (hB : ∀ k, (Value.slice ao len cap).ownBlock = some k → B ≤ k) : Fresh w B e ao xs := by
  obtain ⟨h1, h2⟩ := h
  rcases h2 with ⟨h2, rfl⟩ | ⟨g, cap', cur, h2, hb, hg, hn, hm, hs, ht⟩
  · exact .inl (List.eq_nil_of_length_eq_zero (by simpa using h1))
  · simp only [Value.slice.injEq] at h2
    obtain ⟨rfl, rfl, rfl⟩ := h2
    exact .inr ⟨g, cur, rfl, hB g rfl, hg, by rw [h1]; exact ht⟩
theorem fresh_of_cells {w : World} {e : TypeId} {n cap : Nat} {xs : List Value} {ao : Option Addr} {B : Nat} (h : w.ownsRow 0 e 1 (.slice ao n cap) n xs) (hB : ∀ x ∈ blk ao, B ≤ x) : Fresh w B e ao xs :=
  fresh_of_owns h fun k hk => hB k (by rw [← own_blk ao n cap, hk]; simp)
/-- The address of s[lo:]. -/
def cutAt (ao : Option Addr) (cap lo : Nat) : Option Addr := if cap = lo then ao else ao.map (·.add lo)
theorem cutAt_none {ao : Option Addr} {cap lo : Nat} (h : cutAt ao cap lo = none) : ao = none := by
  unfold cutAt at h
  split at h
  · exact h
  · simpa using h
theorem cutAt_blk (ao : Option Addr) (cap lo : Nat) : blk (cutAt ao cap lo) = blk ao := by
  unfold cutAt
  split
  · rfl
  · cases ao with
    | none => rfl
    | some a => simp only [Option.map_some, blk, Addr.add]; split <;> rfl
theorem Cs.cut {w : World} {ao : Option Addr} {vs : List Value} (h : Cs w ao vs) (cap lo hi : Nat) (hl : lo ≤ hi) (hh : hi ≤ vs.length) (hc : vs.length ≤ cap) : Cs w (cutAt ao cap lo) ((vs.drop lo).take (hi - lo)) := by
  by_cases he : cap = lo
  · left
    have : hi - lo = 0 := by omega
    rw [this]
    rfl
  · rcases h with rfl | ⟨g, o, rfl, h⟩
    · left; simp
    · right
      refine ⟨g, o + lo, ?_, fun j v hv => ?_⟩
      · unfold cutAt
        rw [if_neg he]
        simp only [Option.map_some, Addr.add]
        split <;> simp_all
      · rw [List.getElem?_take] at hv
        split at hv
        · rw [Nat.add_assoc]
          exact h _ _ (by simpa using hv)
        · cases hv
end Go.Proofs.YtflcdnmhgfhmdaaGreatDoor.lib
/-
  append as one law: onto a slice that is owned (nil or not), of cells that are read (none or some).
-/
namespace Go.Proofs.YtflcdnmhgfhmdaaGreatDoor.lib
open Go Go.RowKit

/-- What the program's tables say of a slice type and its element type. -/
structure SliceTy (P : Program) (t e : TypeId) (z : Value) (size bytes : Nat) : Prop where
  under : P.underlying t = some (.slice e)
  info : ∃ i, P.info? e = some i ∧ i.zero = some z ∧ i.size = size ∧ i.bytes = bytes
  cells : z.cells.size = size
  pos : 0 < size
theorem SliceTy.of {P : Program} {t e : TypeId} {z : Value} {size bytes : Nat} (h : P.underlying t = some (.slice e))
    (hi : (P.info? e).map (fun i => (i.zero, i.size, i.bytes)) = some (some z, size, bytes)) (hz : z.cells.size = size) (hp : 0 < size) : SliceTy P t e z size bytes := by
  obtain ⟨i, h1, h2, h3, h4⟩ := info_parts hi
  exact ⟨h, ⟨i, h1, h2, h3, h4⟩, hz, hp⟩

/-- What an append leaves: the slice (ao, len, cap) owns the cells xs; blocks of S alone may have turned. -/
structure Appended (w w' : World) (e : TypeId) (size : Nat) (S : List Nat) (ao : Option Addr) (len cap : Nat) (xs : List Value) : Prop where
  own : w'.ownsRow 0 e size (.slice ao len cap) len xs
  fr : Fr S w w'
  at_ : ∀ x ∈ blk ao, x ∈ S ∨ x = w.heap.size
  le : len ≤ cap
  max : cap ≤ maxLen
  nil : ao = none → cap = 0
theorem Appended.lt {w w' : World} {e : TypeId} {size : Nat} {S : List Nat} {ao : Option Addr} {len cap : Nat} {xs : List Value} (h : Appended w w' e size S ao len cap xs) : ∀ x ∈ blk ao, x < w'.heap.size :=
  fun _ hx => owns_lt h.own (blk_own hx)

section
variable {P : Program} {w : World} {t e : TypeId} {z : Value} {size bytes : Nat}
theorem addr_add (g o j : Nat) : (⟨g, o, none⟩ : Addr).add j = ⟨g, o + j, none⟩ := by unfold Addr.add; split <;> simp_all

theorem run_append (T : SliceTy P t e z size bytes) (ty : TypeId) (v : Value) (n : Nat) (xs : List Value) (S : List Nat) (hS : v.ownBlock.toList = S) (hown : w.ownsRow 0 e size v n xs)
    (ao : Option Addr) (m c : Nat) (news : List Value) (hmc : m ≤ c) (hnone : ao = none → c = 0) (hc : Cs w ao news) (hl : news.length = m * size) (h1 : ∀ u ∈ news, u.oneCell' = true)
    (hb : (n + m) * bytes ≤ 140737488355328) (h63 : n + m ≤ maxLen) :
    ∃ ao' cap' w', (Builtin.append_ #[t, t] ty #[v, .slice ao m c]).run P w = .ok (.slice ao' (n + m) cap') w' ∧ Appended w w' e size S ao' (n + m) cap' (xs ++ news) := by
  obtain ⟨hu, ⟨i, hi, hz, hs, hby⟩, hcz, hp⟩ := T
  subst hS
  have key : ∀ v' w', w'.ownsRow 0 e size v' (n + m) (xs ++ news) → w.grownBy w' v.ownBlock → (v'.ownBlock = v.ownBlock ∨ v'.ownBlock = some w.heap.size) → ∃ ao' cap', v' = .slice ao' (n + m) cap' ∧ Appended w w' e size v.ownBlock.toList ao' (n + m) cap' (xs ++ news) := by
    intro v' w' h2 h3 h4
    obtain ⟨ao', cap', rfl, h5, h6⟩ := owns_shape h2
    refine ⟨ao', cap', rfl, h2, (Fr.refl _ w).grown h3 (fun k hk => .inl (by simp [hk])), ?_, h5, h6, ?_⟩
    · intro x hx
      have hx' := blk_own (n := n + m) (cap := cap') hx
      rcases h4 with h | h
      · left; rw [← h, hx']; simp
      · right; rw [h] at hx'; exact (Option.some.inj hx').symm
    · rintro rfl
      rcases h2.2 with ⟨h, _⟩ | ⟨g, cap, cur, h, _⟩
      · simp only [Value.slice.injEq] at h; exact h.2.2
      · simp at h
  cases ao with
  | none =>
    have hc0 := hnone rfl
    obtain rfl : m = 0 := by omega
    subst hc0
    have hn : news = [] := List.eq_nil_of_length_eq_zero (by simpa using hl)
    subst hn
    have hr := run_append_owned_none (P := P) (w := w) 0 t ty e i size hu hi v n xs hown
    obtain ⟨ao', cap', rfl, hA⟩ := key v w (by simpa using hown) ⟨rfl, rfl, rfl, Nat.le_refl _, fun _ _ _ => rfl⟩ (.inl rfl)
    exact ⟨ao', cap', w, hr, hA⟩
  | some a =>
    have hcells : ∀ j u, news[j]? = some u → w.cell? (a.add j) = some u := by
      intro j u hj
      rcases hc with rfl | ⟨g, o, ha, hc⟩
      · simp at hj
      · obtain rfl := Option.some.inj ha
        rw [addr_add]
        exact hc j u hj
    obtain ⟨v', w', hr, h2, h3, h4, h5⟩ := run_append_own_at (P := P) w 0 t ty e i z size bytes hu hi hz hs hby hcz hp v n xs hown a m c news hl hcells h1 h63 hb (Nat.zero_le _)
    obtain ⟨ao', cap', rfl, hA⟩ := key v' w' h2 h3 h5
    exact ⟨ao', cap', w', hr, hA⟩

theorem wp_append (T : SliceTy P t e z size bytes) {o : Oper} {a : Act} {K : Act → World → Prop} {Q : Exit → Act → World → Prop} (s x : Operand)
    (ho : o.op = .call { callee := .builtin .append, args := #[s, x], argTypes := #[t, t] })
    (v : Value) (n : Nat) (xs : List Value) (S : List Nat) (hs : a.eval s = v) (hS : v.ownBlock.toList = S) (hown : w.ownsRow 0 e size v n xs)
    (ao : Option Addr) (m c : Nat) (news : List Value) (hx : a.eval x = .slice ao m c) (hmc : m ≤ c) (hnone : ao = none → c = 0) (hc : Cs w ao news) (hl : news.length = m * size) (h1 : ∀ u ∈ news, u.oneCell' = true)
    (hb : (n + m) * bytes ≤ 140737488355328) (h63 : n + m ≤ maxLen)
    (h : ∀ ao' cap' w', Appended w w' e size S ao' (n + m) cap' (xs ++ news) → K (a.put o.dst (.slice ao' (n + m) cap')) w') : o.wp P a w K Q := by
  obtain ⟨ao', cap', w', hr, h2⟩ := run_append (P := P) T o.type v n xs S hS hown ao m c news hmc hnone hc hl h1 hb h63
  unfold Oper.wp execOp
  simp only [ho, resolve, invoke, builtin, Sem.run_bind, Sem.run_pure, Result.andThen_ok, List.map_toArray, List.map_cons, List.map_nil, hs, hx, hr]
  exact h ao' cap' w' h2
/-- At a plain region's list. -/
theorem wpList_append (T : SliceTy P t e z size bytes) {ops : Array Oper} {rest : List Oper} {o : Oper} {a : Act} {Q : Exit → Act → World → Prop} (hgd : o.guard = none) (s x : Operand)
    (ho : o.op = .call { callee := .builtin .append, args := #[s, x], argTypes := #[t, t] })
    (v : Value) (n : Nat) (xs : List Value) (S : List Nat) (hs : a.eval s = v) (hS : v.ownBlock.toList = S) (hown : w.ownsRow 0 e size v n xs)
    (ao : Option Addr) (m c : Nat) (news : List Value) (hx : a.eval x = .slice ao m c) (hmc : m ≤ c) (hnone : ao = none → c = 0) (hc : Cs w ao news) (hl : news.length = m * size) (h1 : ∀ u ∈ news, u.oneCell' = true)
    (hb : (n + m) * bytes ≤ 140737488355328) (h63 : n + m ≤ maxLen)
    (h : ∀ ao' cap' w', Appended w w' e size S ao' (n + m) cap' (xs ++ news) → wpList P ops Q rest (a.put o.dst (.slice ao' (n + m) cap')) w') : wpList P ops Q (o :: rest) a w :=
  wpList_plain hgd fun _ hK => wp_append T s x ho v n xs S hs hS hown ao m c news hx hmc hnone hc hl h1 hb h63 fun ao' cap' w' h2 => hK _ _ (h ao' cap' w' h2)
/-- At a step of a region that draws its order. -/
theorem step_append (T : SliceTy P t e z size bytes) {ops : Array Oper} {o : Oper} {a : Act} {K : Act → World → Prop} {Q : Exit → Act → World → Prop} {E : Prop} (hgd : o.guard = none) (s x : Operand)
    (ho : o.op = .call { callee := .builtin .append, args := #[s, x], argTypes := #[t, t] })
    (v : Value) (n : Nat) (xs : List Value) (S : List Nat) (hs : a.eval s = v) (hS : v.ownBlock.toList = S) (hown : w.ownsRow 0 e size v n xs)
    (ao : Option Addr) (m c : Nat) (news : List Value) (hx : a.eval x = .slice ao m c) (hmc : m ≤ c) (hnone : ao = none → c = 0) (hc : Cs w ao news) (hl : news.length = m * size) (h1 : ∀ u ∈ news, u.oneCell' = true)
    (hb : (n + m) * bytes ≤ 140737488355328) (h63 : n + m ≤ maxLen)
    (h : ∀ ao' cap' w', Appended w w' e size S ao' (n + m) cap' (xs ++ news) → K (a.put o.dst (.slice ao' (n + m) cap')) w') :
    if Region.wanted o (yielded ops a.tmps) = true then Oper.wp P o a w K Q else E := by
  have hw : Region.wanted o (yielded ops a.tmps) = true := by simp [Region.wanted, hgd]
  rw [if_pos hw]
  exact wp_append T s x ho v n xs S hs hS hown ao m c news hx hmc hnone hc hl h1 hb h63 h
end
theorem cs_one (w : World) (B : Nat) (v : Value) (t : TypeId) (h : w.heap[B]? = some (.cells #[v] t (0, 0))) : Cs w (some ⟨B, 0, none⟩) [v] :=
  .inr ⟨B, 0, rfl, fun j u hj => by
    match j, hj with
    | 0, hj => rw [cell_of h]; simpa using hj⟩
end Go.Proofs.YtflcdnmhgfhmdaaGreatDoor.lib
