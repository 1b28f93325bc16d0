/-
  Texts of this proof, one behind the other: Lib, Append, Ops, Ops2, Args, Args2, Bytes, PackLaw, BitsMath, BitsOps, BitsInt, Tail, Mix, AppFull, PackHead, PackTake, PackNil, MixE.
-/
import Derived.Test.YtkmpfgpfbmeihaaGreatDoorRows
import Derived.WalkKit
import Derived.ProofKit
import Derived.OpenShut
import Derived.BigQuiet
import Derived.Lib.Hide
import Derived.ShutString
import Derived.Maps.AppendAt
import Derived.Deep.RegionLaw
import Derived.SizedLaws
import Derived.Deep.CondSized
import Derived.JoinedCond
import Derived.ChangeOld
import Derived.StillTailTactics
import Derived.OrdersHeld
import Derived.Deep.DeepCutAuto
import Derived.Deep.CutBlock
import Derived.WalkMore
import Derived.Lib.SliceRun
import Derived.Laws.EntriesVeiled
import Derived.Carry
set_option linter.unusedVariables false
set_option linter.unusedSimpArgs false
/-
  Lemmas on worlds, frames and slices that all proofs of this seat share; they speak of no program.
-/
namespace Go.Proofs.YtkmpfgpfbmeihaaGreatDoor.lib
open Go Go.RowKit

/-- Only blocks of S may have turned; new blocks may have come. -/
structure Fr (S : List Nat) (w w' : World) : Prop where
  os : w'.os = w.os
  tape : w'.tape = w.tape
  output : w'.output = w.output
  size : w.heap.size ≤ w'.heap.size
  block : ∀ k, k < w.heap.size → k ∉ S → w'.heap[k]? = w.heap[k]?

theorem Fr.refl (S : List Nat) (w : World) : Fr S w w := ⟨rfl, rfl, rfl, Nat.le_refl _, fun _ _ _ => rfl⟩
theorem Fr.drewN (S : List Nat) (w : World) (n : Nat) : Fr S w (w.drewN n) := ⟨rfl, rfl, rfl, Nat.le_refl _, fun _ _ _ => rfl⟩
theorem Fr.drew1 (S : List Nat) (w : World) : Fr S w w.drew := ⟨rfl, rfl, rfl, Nat.le_refl _, fun _ _ _ => rfl⟩
/-- Two steps; the second may also write what is new behind the first. -/
theorem Fr.step {S T : List Nat} {a b c : World} (h : Fr S a b) (k : Fr T b c) (hT : ∀ x ∈ T, x ∈ S ∨ a.heap.size ≤ x) : Fr S a c :=
  ⟨k.os.trans h.os, k.tape.trans h.tape, k.output.trans h.output, Nat.le_trans h.size k.size, fun i hi hn => by
    rw [k.block i (Nat.lt_of_lt_of_le hi h.size) (fun hx => by rcases hT i hx with h1 | h1; exact hn h1; omega), h.block i hi hn]⟩
theorem Fr.trans {S : List Nat} {a b c : World} (h : Fr S a b) (k : Fr S b c) : Fr S a c := h.step k fun _ hx => .inl hx
theorem Fr.mono {S T : List Nat} {w w' : World} (h : Fr S w w') (hT : ∀ x ∈ S, x ∈ T ∨ w.heap.size ≤ x) : Fr T w w' :=
  (Fr.refl T w).step h hT
theorem Fr.alloc {S : List Nat} {a w : World} (h : Fr S a w) (o : Obj) : Fr S a (w.alloc o) :=
  h.step (T := []) ⟨rfl, rfl, rfl, by simp, fun k hk _ => Below.heap_alloc _ _ _ (by omega)⟩ (by simp)
theorem Fr.drew {S : List Nat} {a w : World} (h : Fr S a w) : Fr S a w.drew := h.step (Fr.drew1 [] w) (by simp)
theorem Fr.drewsN {S : List Nat} {a w : World} (h : Fr S a w) (n : Nat) : Fr S a (w.drewN n) := h.step (Fr.drewN [] w n) (by simp)
theorem Fr.setCell {S : List Nat} {a w : World} (h : Fr S a w) {p : Addr} (hp : p.block ∈ S ∨ a.heap.size ≤ p.block) (u : Value) : Fr S a (w.setCell p u) :=
  h.step (T := [p.block]) ⟨rfl, rfl, rfl, by simp [World.setCell], fun k hk hn => Below.heap_setCell _ _ _ _ (by simpa using hn)⟩ (by simpa using hp)
theorem Fr.grown {S : List Nat} {a w w' : World} {row : Option Nat} (h : Fr S a w) (hg : w.grownBy w' row) (hr : ∀ k, row = some k → k ∈ S ∨ a.heap.size ≤ k) : Fr S a w' :=
  h.step (T := row.toList) ⟨hg.os, hg.tape, hg.output, hg.size, fun k hk hn => hg.block k hk (fun e => hn (by simp [← e]))⟩ (fun x hx => hr x (by simpa using hx))
theorem Fr.below {S : List Nat} {w w' : World} {B : Nat} (h : Fr S w w') (hS : ∀ x ∈ S, B ≤ x) (hB : B ≤ w.heap.size) : Below B w w' :=
  ⟨h.os, h.tape, h.output, h.size, fun k hk => h.block k (by omega) (fun hx => by have := hS k hx; omega)⟩
theorem Fr.of_below {w w' : World} (h : Below w.heap.size w w') (S : List Nat) : Fr S w w' :=
  ⟨h.os, h.tape, h.output, h.size, fun k hk _ => h.block k hk⟩
theorem below_of_fr {w w' : World} (h : Fr [] w w') : Below w.heap.size w w' := h.below (by simp) (Nat.le_refl _)
theorem Fr.blk {S : List Nat} {w w' : World} (h : Fr S w w') {k : Nat} {o : Obj} (hk : w.heap[k]? = some o) (hn : k ∉ S) : w'.heap[k]? = some o := by
  rw [h.block k (lt_of_block hk) hn, hk]
theorem Fr.cell {S : List Nat} {w w' : World} (h : Fr S w w') {a : Addr} {v : Value} (hc : w.cell? a = some v) (hn : a.block ∉ S) : w'.cell? a = some v := by
  rw [World.cell?_of_block (w := w) (h.block a.block (World.block_lt_of_cell? w a hc) hn), hc]
theorem below_blk {B : Nat} {w w' : World} (h : Below B w w') {k : Nat} {o : Obj} (hk : w.heap[k]? = some o) (hB : k < B) : w'.heap[k]? = some o := by
  rw [h.block k hB, hk]

/-! ### A block that is known whole -/
theorem cell_of {w : World} {b : Nat} {c : Array Value} {t : TypeId} {f : Nat × Nat} (h : w.heap[b]? = some (.cells c t f)) (o : Nat) : w.cell? ⟨b, o, none⟩ = c[o]? := by
  simp [World.cell?, h]
theorem frozen_of {w : World} {b : Nat} {c : Array Value} {t : TypeId} (h : w.heap[b]? = some (.cells c t (0, 0))) (o : Nat) : w.frozen? ⟨b, o, none⟩ = false := by
  simp [World.frozen?, h]
theorem setCell_of {w : World} {b o : Nat} {c : Array Value} {t : TypeId} {f : Nat × Nat} (h : w.heap[b]? = some (.cells c t f)) (v : Value) :
    (w.setCell ⟨b, o, none⟩ v).heap[b]? = some (.cells (c.setIfInBounds o v) t f) := by
  have hlt := lt_of_block h
  have h' : w.heap[b] = .cells c t f := by simpa [Array.getElem?_eq_getElem hlt] using h
  show (w.heap.modify b _)[b]? = _
  rw [Array.getElem?_eq_getElem (by simpa using hlt), Array.getElem_modify_self, h']
  rfl
theorem setCell_other {w : World} {b b' o : Nat} (hne : b' ≠ b) (v : Value) : (w.setCell ⟨b, o, none⟩ v).heap[b']? = w.heap[b']? :=
  Below.heap_setCell w ⟨b, o, none⟩ v b' hne
theorem alloc_at (w : World) (o : Obj) : (w.alloc o).heap[w.heap.size]? = some o := heap_alloc_new w o
theorem alloc_old {w : World} {b : Nat} {x : Obj} (o : Obj) (h : w.heap[b]? = some x) : (w.alloc o).heap[b]? = some x := by
  rw [Below.heap_alloc w o b (lt_of_block h), h]

theorem grown_blk {w w' : World} {row : Option Nat} (h : w.grownBy w' row) {k : Nat} {o : Obj} (hk : w.heap[k]? = some o) (hn : row ≠ some k) : w'.heap[k]? = some o := by
  rw [h.block k (lt_of_block hk) (fun e => hn e.symm), hk]

/-! ### Slices that are read -/
def blk : Option Addr → List Nat
  | some a => [a.block]
  | none => []
/-- The address leads to these cells (nothing is asked where there are none). -/
def Cs (w : World) (ao : Option Addr) (vs : List Value) : Prop :=
  vs = [] ∨ ∃ g o, ao = some ⟨g, o, none⟩ ∧ ∀ j v, vs[j]? = some v → w.cell? ⟨g, o + j, none⟩ = some v
theorem Cs.nil (w : World) (ao : Option Addr) : Cs w ao [] := .inl rfl
theorem Cs.at {w : World} {ao : Option Addr} {vs : List Value} (h : Cs w ao vs) (hne : 0 < vs.length) : ∃ g o, ao = some ⟨g, o, none⟩ ∧ ∀ j v, vs[j]? = some v → w.cell? ⟨g, o + j, none⟩ = some v := by
  rcases h with rfl | h
  · simp at hne
  · exact h
theorem Cs.keep {w w' : World} {ao : Option Addr} {vs : List Value} (h : Cs w ao vs) (hk : ∀ a, ao = some a → w'.heap[a.block]? = w.heap[a.block]?) : Cs w' ao vs := by
  rcases h with h | ⟨g, o, rfl, h⟩
  · exact .inl h
  · refine .inr ⟨g, o, rfl, fun j v hv => ?_⟩
    rw [World.cell?_of_block (w := w) (a := ⟨g, o + j, none⟩) (hk ⟨g, o, none⟩ rfl), h j v hv]
theorem Cs.lt {w : World} {ao : Option Addr} {vs : List Value} (h : Cs w ao vs) (hne : vs ≠ []) : ∀ a, ao = some a → a.block < w.heap.size := by
  rcases h with h | ⟨g, o, rfl, h⟩
  · exact absurd h hne
  · intro a ha
    obtain rfl := Option.some.inj ha
    cases vs with
    | nil => exact absurd rfl hne
    | cons v vs => exact World.block_lt_of_cell? w _ (h 0 v rfl)
theorem Cs.fr {S : List Nat} {w w' : World} {ao : Option Addr} {vs : List Value} (h : Cs w ao vs) (hf : Fr S w w') (hn : ∀ x ∈ blk ao, x ∉ S) : Cs w' ao vs := by
  by_cases hne : vs = []
  · exact .inl hne
  · exact h.keep fun a ha => hf.block a.block (h.lt hne a ha) (hn _ (by simp [ha, blk]))
theorem Cs.below {B : Nat} {w w' : World} {ao : Option Addr} {vs : List Value} (h : Cs w ao vs) (hf : Below B w w') (hn : ∀ x ∈ blk ao, x < B) : Cs w' ao vs := by
  refine h.keep fun a ha => hf.block a.block (hn _ (by simp [ha, blk]))
theorem Cs.belowAll {w w' : World} {ao : Option Addr} {vs : List Value} (h : Cs w ao vs) (hf : Below w.heap.size w w') : Cs w' ao vs := by
  by_cases hne : vs = []
  · exact .inl hne
  · exact h.keep fun a ha => hf.block a.block (h.lt hne a ha)

/-! ### What the call owns (the kit's 'ownsRow') as cells to be read -/
theorem cs_of_owns {w : World} {base : Nat} {e : TypeId} {n : Nat} {xs : List Value} {ao : Option Addr} {len cap : Nat} (h : w.ownsRow base e 1 (.slice ao len cap) n xs) : Cs w ao xs := by
  rcases h.2 with ⟨h1, h2⟩ | ⟨g, cap', cur, h1, hb, hg, hn, hm, hs, ht⟩
  · left
    have := h.1
    rw [h2] at this
    exact List.eq_nil_of_length_eq_zero (by simpa using this)
  · simp only [Value.slice.injEq] at h1
    obtain ⟨rfl, rfl, rfl⟩ := h1
    refine .inr ⟨g, 0, rfl, fun j v hv => ?_⟩
    rw [cell_of hg, Nat.zero_add]
    rw [← ht, List.getElem?_take] at hv
    split at hv
    · simpa using hv
    · cases hv
theorem owns_shape {w : World} {base : Nat} {e : TypeId} {size : Nat} {v : Value} {n : Nat} {xs : List Value} (h : w.ownsRow base e size v n xs) :
    ∃ ao cap, v = .slice ao n cap ∧ n ≤ cap ∧ cap ≤ maxLen := by
  rcases h.2 with ⟨rfl, rfl⟩ | ⟨g, cap, cur, rfl, hb, hg, hn, hm, hs, ht⟩
  · exact ⟨none, 0, rfl, Nat.le_refl _, Nat.zero_le _⟩
  · exact ⟨_, cap, rfl, hn, hm⟩
theorem owns_form {w : World} {base : Nat} {e : TypeId} {size : Nat} {v : Value} {n : Nat} {xs : List Value} (h : w.ownsRow base e size v n xs) :
    ∃ ao cap, v = .slice ao n cap ∧ n ≤ cap ∧ cap ≤ maxLen ∧ (ao = none → cap = 0) := by
  rcases h.2 with ⟨rfl, rfl⟩ | ⟨g, cap, cur, rfl, hb, hg, hn, hm, hs, ht⟩
  · exact ⟨none, 0, rfl, Nat.le_refl _, Nat.zero_le _, fun _ => rfl⟩
  · exact ⟨_, cap, rfl, hn, hm, fun h => by cases h⟩
theorem ownsRow_rebase {w : World} {base base' : Nat} {e : TypeId} {size : Nat} {v : Value} {n : Nat} {xs : List Value} (h : w.ownsRow base e size v n xs) (hb : ∀ k, v.ownBlock = some k → base' ≤ k) : w.ownsRow base' e size v n xs := by
  obtain ⟨h1, h2⟩ := h
  refine ⟨h1, ?_⟩
  rcases h2 with h2 | ⟨g, cap, cur, rfl, _, r⟩
  · exact .inl h2
  · exact .inr ⟨g, cap, cur, rfl, hb g rfl, r⟩
theorem ownsRow_fr {S : List Nat} {w w' : World} {base : Nat} {e : TypeId} {size : Nat} {v : Value} {n : Nat} {xs : List Value} (h : w.ownsRow base e size v n xs) (hf : Fr S w w') (hn : ∀ k, v.ownBlock = some k → k ∉ S) : w'.ownsRow base e size v n xs := by
  obtain ⟨h1, h2⟩ := h
  refine ⟨h1, ?_⟩
  rcases h2 with h2 | ⟨g, cap, cur, rfl, hb, hg, r⟩
  · exact .inl h2
  · exact .inr ⟨g, cap, cur, rfl, hb, hf.blk hg (hn g rfl), r⟩

/-! ### Bytes -/
def bv (b : UInt8) : Value := .int .u8 b.toNat
theorem ret_eq {u v : Value} (h : u = v) : Ending.returned u = Ending.returned v := by rw [h]
theorem int_eq {k : IntKind} {a b : Int} (h : a = b) : Value.int k a = Value.int k b := by rw [h]
theorem bool_eq {a b : Bool} (h : a = b) : Value.bool a = Value.bool b := by rw [h]

theorem own_blk (ao : Option Addr) (n cap : Nat) : (Value.slice ao n cap).ownBlock.toList = blk ao := by
  cases ao <;> rfl
theorem blk_own {ao : Option Addr} {n cap : Nat} {x : Nat} (h : x ∈ blk ao) : (Value.slice ao n cap).ownBlock = some x := by
  cases ao with
  | none => simp [blk] at h
  | some a => simp [blk] at h; simp [Value.ownBlock, h]
theorem owns_lt {w : World} {base : Nat} {e : TypeId} {size : Nat} {v : Value} {n : Nat} {xs : List Value} (h : w.ownsRow base e size v n xs) {k : Nat} (hk : v.ownBlock = some k) : k < w.heap.size := (h.lt k hk).2

/-! ### Slices that a call made and that nobody else holds; they may be cut at their end -/
def Fresh (w : World) (B : Nat) (e : TypeId) (ao : Option Addr) (xs : List Value) : Prop :=
  xs = [] ∨ ∃ g cur, ao = some ⟨g, 0, none⟩ ∧ B ≤ g ∧ w.heap[g]? = some (.cells cur e (0, 0)) ∧ cur.toList.take xs.length = xs
theorem Fresh.cs {w : World} {B : Nat} {e : TypeId} {ao : Option Addr} {xs : List Value} (h : Fresh w B e ao xs) : Cs w ao xs := by
  rcases h with h | ⟨g, cur, rfl, hB, hg, ht⟩
  · exact .inl h
  · refine .inr ⟨g, 0, rfl, fun j v hv => ?_⟩
    rw [Nat.zero_add, cell_of hg]
    rw [← ht, List.getElem?_take] at hv
    split at hv
    · simpa using hv
    · cases hv
theorem Fresh.mono {w : World} {B B' : Nat} {e : TypeId} {ao : Option Addr} {xs : List Value} (h : Fresh w B e ao xs) (hB : B' ≤ B) : Fresh w B' e ao xs := by
  rcases h with h | ⟨g, cur, rfl, hg, r⟩
  · exact .inl h
  · exact .inr ⟨g, cur, rfl, Nat.le_trans hB hg, r⟩
theorem Fresh.fr {S : List Nat} {w w' : World} {B : Nat} {e : TypeId} {ao : Option Addr} {xs : List Value} (h : Fresh w B e ao xs) (hf : Fr S w w') (hn : ∀ a, ao = some a → a.block ∉ S) : Fresh w' B e ao xs := by
  rcases h with h | ⟨g, cur, rfl, hB, hg, ht⟩
  · exact .inl h
  · exact .inr ⟨g, cur, rfl, hB, hf.blk hg (hn _ rfl), ht⟩
theorem fresh_of_owns {w : World} {base B : Nat} {e : TypeId} {n len cap : Nat} {xs : List Value} {ao : Option Addr} (h : w.ownsRow base e 1 (.slice ao len cap) n xs) (hB : ∀ k, (Value.slice ao len cap).ownBlock = some k → B ≤ k) : Fresh w B e ao xs := by
  obtain ⟨h1, h2⟩ := h
  rcases h2 with ⟨h2, rfl⟩ | ⟨g, cap', cur, h2, hb, hg, hn, hm, hs, ht⟩
  · exact .inl (List.eq_nil_of_length_eq_zero (by simpa using h1))
  · simp only [Value.slice.injEq] at h2
    obtain ⟨rfl, rfl, rfl⟩ := h2
    exact .inr ⟨g, cur, rfl, hB g rfl, hg, by rw [h1]; exact ht⟩
theorem fresh_of_cells {w : World} {e : TypeId} {n cap : Nat} {xs : List Value} {ao : Option Addr} {B : Nat} (h : w.ownsRow 0 e 1 (.slice ao n cap) n xs) (hB : ∀ x ∈ blk ao, B ≤ x) : Fresh w B e ao xs :=
  fresh_of_owns h fun k hk => hB k (by rw [← own_blk ao n cap, hk]; simp)
/-- The address of s[lo:]. -/
def cutAt (ao : Option Addr) (cap lo : Nat) : Option Addr := if cap = lo then ao else ao.map (·.add lo)
theorem cutAt_none {ao : Option Addr} {cap lo : Nat} (h : cutAt ao cap lo = none) : ao = none := by
  unfold cutAt at h
  split at h
  · exact h
  · simpa using h
theorem cutAt_blk (ao : Option Addr) (cap lo : Nat) : blk (cutAt ao cap lo) = blk ao := by
  unfold cutAt
  split
  · rfl
  · cases ao with
    | none => rfl
    | some a => simp only [Option.map_some, blk, Addr.add]; split <;> rfl
theorem Cs.cut {w : World} {ao : Option Addr} {vs : List Value} (h : Cs w ao vs) (cap lo hi : Nat) (hl : lo ≤ hi) (hh : hi ≤ vs.length) (hc : vs.length ≤ cap) : Cs w (cutAt ao cap lo) ((vs.drop lo).take (hi - lo)) := by
  by_cases he : cap = lo
  · left
    have : hi - lo = 0 := by omega
    rw [this]
    rfl
  · rcases h with rfl | ⟨g, o, rfl, h⟩
    · left; simp
    · right
      refine ⟨g, o + lo, ?_, fun j v hv => ?_⟩
      · unfold cutAt
        rw [if_neg he]
        simp only [Option.map_some, Addr.add]
        split <;> simp_all
      · rw [List.getElem?_take] at hv
        split at hv
        · rw [Nat.add_assoc]
          exact h _ _ (by simpa using hv)
        · cases hv
end Go.Proofs.YtkmpfgpfbmeihaaGreatDoor.lib
/-
  append as one law: onto a slice that is owned (nil or not), of cells that are read (none or some).
-/
namespace Go.Proofs.YtkmpfgpfbmeihaaGreatDoor.lib
open Go Go.RowKit

/-- What the program's tables say of a slice type and its element type. -/
structure SliceTy (P : Program) (t e : TypeId) (z : Value) (size bytes : Nat) : Prop where
  under : P.underlying t = some (.slice e)
  info : ∃ i, P.info? e = some i ∧ i.zero = some z ∧ i.size = size ∧ i.bytes = bytes
  cells : z.cells.size = size
  pos : 0 < size
theorem SliceTy.of {P : Program} {t e : TypeId} {z : Value} {size bytes : Nat} (h : P.underlying t = some (.slice e))
    (hi : (P.info? e).map (fun i => (i.zero, i.size, i.bytes)) = some (some z, size, bytes)) (hz : z.cells.size = size) (hp : 0 < size) : SliceTy P t e z size bytes := by
  obtain ⟨i, h1, h2, h3, h4⟩ := info_parts hi
  exact ⟨h, ⟨i, h1, h2, h3, h4⟩, hz, hp⟩

/-- What an append leaves: the slice (ao, len, cap) owns the cells xs; blocks of S alone may have turned. -/
structure Appended (w w' : World) (e : TypeId) (size : Nat) (S : List Nat) (ao : Option Addr) (len cap : Nat) (xs : List Value) : Prop where
  own : w'.ownsRow 0 e size (.slice ao len cap) len xs
  fr : Fr S w w'
  at_ : ∀ x ∈ blk ao, x ∈ S ∨ x = w.heap.size
  le : len ≤ cap
  max : cap ≤ maxLen
  nil : ao = none → cap = 0
theorem Appended.lt {w w' : World} {e : TypeId} {size : Nat} {S : List Nat} {ao : Option Addr} {len cap : Nat} {xs : List Value} (h : Appended w w' e size S ao len cap xs) : ∀ x ∈ blk ao, x < w'.heap.size :=
  fun _ hx => owns_lt h.own (blk_own hx)

section
variable {P : Program} {w : World} {t e : TypeId} {z : Value} {size bytes : Nat}
theorem addr_add (g o j : Nat) : (⟨g, o, none⟩ : Addr).add j = ⟨g, o + j, none⟩ := by unfold Addr.add; split <;> simp_all

theorem run_append (T : SliceTy P t e z size bytes) (ty : TypeId) (v : Value) (n : Nat) (xs : List Value) (S : List Nat) (hS : v.ownBlock.toList = S) (hown : w.ownsRow 0 e size v n xs)
    (ao : Option Addr) (m c : Nat) (news : List Value) (hmc : m ≤ c) (hnone : ao = none → c = 0) (hc : Cs w ao news) (hl : news.length = m * size) (h1 : ∀ u ∈ news, u.oneCell' = true)
    (hb : (n + m) * bytes ≤ 140737488355328) (h63 : n + m ≤ maxLen) :
    ∃ ao' cap' w', (Builtin.append_ #[t, t] ty #[v, .slice ao m c]).run P w = .ok (.slice ao' (n + m) cap') w' ∧ Appended w w' e size S ao' (n + m) cap' (xs ++ news) := by
  obtain ⟨hu, ⟨i, hi, hz, hs, hby⟩, hcz, hp⟩ := T
  subst hS
  have key : ∀ v' w', w'.ownsRow 0 e size v' (n + m) (xs ++ news) → w.grownBy w' v.ownBlock → (v'.ownBlock = v.ownBlock ∨ v'.ownBlock = some w.heap.size) → ∃ ao' cap', v' = .slice ao' (n + m) cap' ∧ Appended w w' e size v.ownBlock.toList ao' (n + m) cap' (xs ++ news) := by
    intro v' w' h2 h3 h4
    obtain ⟨ao', cap', rfl, h5, h6⟩ := owns_shape h2
    refine ⟨ao', cap', rfl, h2, (Fr.refl _ w).grown h3 (fun k hk => .inl (by simp [hk])), ?_, h5, h6, ?_⟩
    · intro x hx
      have hx' := blk_own (n := n + m) (cap := cap') hx
      rcases h4 with h | h
      · left; rw [← h, hx']; simp
      · right; rw [h] at hx'; exact (Option.some.inj hx').symm
    · rintro rfl
      rcases h2.2 with ⟨h, _⟩ | ⟨g, cap, cur, h, _⟩
      · simp only [Value.slice.injEq] at h; exact h.2.2
      · simp at h
  cases ao with
  | none =>
    have hc0 := hnone rfl
    obtain rfl : m = 0 := by omega
    subst hc0
    have hn : news = [] := List.eq_nil_of_length_eq_zero (by simpa using hl)
    subst hn
    have hr := run_append_owned_none (P := P) (w := w) 0 t ty e i size hu hi v n xs hown
    obtain ⟨ao', cap', rfl, hA⟩ := key v w (by simpa using hown) ⟨rfl, rfl, rfl, Nat.le_refl _, fun _ _ _ => rfl⟩ (.inl rfl)
    exact ⟨ao', cap', w, hr, hA⟩
  | some a =>
    have hcells : ∀ j u, news[j]? = some u → w.cell? (a.add j) = some u := by
      intro j u hj
      rcases hc with rfl | ⟨g, o, ha, hc⟩
      · simp at hj
      · obtain rfl := Option.some.inj ha
        rw [addr_add]
        exact hc j u hj
    obtain ⟨v', w', hr, h2, h3, h4, h5⟩ := run_append_own_at (P := P) w 0 t ty e i z size bytes hu hi hz hs hby hcz hp v n xs hown a m c news hl hcells h1 h63 hb (Nat.zero_le _)
    obtain ⟨ao', cap', rfl, hA⟩ := key v' w' h2 h3 h5
    exact ⟨ao', cap', w', hr, hA⟩

theorem wp_append (T : SliceTy P t e z size bytes) {o : Oper} {a : Act} {K : Act → World → Prop} {Q : Exit → Act → World → Prop} (s x : Operand)
    (ho : o.op = .call { callee := .builtin .append, args := #[s, x], argTypes := #[t, t] })
    (v : Value) (n : Nat) (xs : List Value) (S : List Nat) (hs : a.eval s = v) (hS : v.ownBlock.toList = S) (hown : w.ownsRow 0 e size v n xs)
    (ao : Option Addr) (m c : Nat) (news : List Value) (hx : a.eval x = .slice ao m c) (hmc : m ≤ c) (hnone : ao = none → c = 0) (hc : Cs w ao news) (hl : news.length = m * size) (h1 : ∀ u ∈ news, u.oneCell' = true)
    (hb : (n + m) * bytes ≤ 140737488355328) (h63 : n + m ≤ maxLen)
    (h : ∀ ao' cap' w', Appended w w' e size S ao' (n + m) cap' (xs ++ news) → K (a.put o.dst (.slice ao' (n + m) cap')) w') : o.wp P a w K Q := by
  obtain ⟨ao', cap', w', hr, h2⟩ := run_append (P := P) T o.type v n xs S hS hown ao m c news hmc hnone hc hl h1 hb h63
  unfold Oper.wp execOp
  simp only [ho, resolve, invoke, builtin, Sem.run_bind, Sem.run_pure, Result.andThen_ok, List.map_toArray, List.map_cons, List.map_nil, hs, hx, hr]
  exact h ao' cap' w' h2
/-- At a plain region's list. -/
theorem wpList_append (T : SliceTy P t e z size bytes) {ops : Array Oper} {rest : List Oper} {o : Oper} {a : Act} {Q : Exit → Act → World → Prop} (hgd : o.guard = none) (s x : Operand)
    (ho : o.op = .call { callee := .builtin .append, args := #[s, x], argTypes := #[t, t] })
    (v : Value) (n : Nat) (xs : List Value) (S : List Nat) (hs : a.eval s = v) (hS : v.ownBlock.toList = S) (hown : w.ownsRow 0 e size v n xs)
    (ao : Option Addr) (m c : Nat) (news : List Value) (hx : a.eval x = .slice ao m c) (hmc : m ≤ c) (hnone : ao = none → c = 0) (hc : Cs w ao news) (hl : news.length = m * size) (h1 : ∀ u ∈ news, u.oneCell' = true)
    (hb : (n + m) * bytes ≤ 140737488355328) (h63 : n + m ≤ maxLen)
    (h : ∀ ao' cap' w', Appended w w' e size S ao' (n + m) cap' (xs ++ news) → wpList P ops Q rest (a.put o.dst (.slice ao' (n + m) cap')) w') : wpList P ops Q (o :: rest) a w :=
  wpList_plain hgd fun _ hK => wp_append T s x ho v n xs S hs hS hown ao m c news hx hmc hnone hc hl h1 hb h63 fun ao' cap' w' h2 => hK _ _ (h ao' cap' w' h2)
/-- At a step of a region that draws its order. -/
theorem step_append (T : SliceTy P t e z size bytes) {ops : Array Oper} {o : Oper} {a : Act} {K : Act → World → Prop} {Q : Exit → Act → World → Prop} {E : Prop} (hgd : o.guard = none) (s x : Operand)
    (ho : o.op = .call { callee := .builtin .append, args := #[s, x], argTypes := #[t, t] })
    (v : Value) (n : Nat) (xs : List Value) (S : List Nat) (hs : a.eval s = v) (hS : v.ownBlock.toList = S) (hown : w.ownsRow 0 e size v n xs)
    (ao : Option Addr) (m c : Nat) (news : List Value) (hx : a.eval x = .slice ao m c) (hmc : m ≤ c) (hnone : ao = none → c = 0) (hc : Cs w ao news) (hl : news.length = m * size) (h1 : ∀ u ∈ news, u.oneCell' = true)
    (hb : (n + m) * bytes ≤ 140737488355328) (h63 : n + m ≤ maxLen)
    (h : ∀ ao' cap' w', Appended w w' e size S ao' (n + m) cap' (xs ++ news) → K (a.put o.dst (.slice ao' (n + m) cap')) w') :
    if Region.wanted o (yielded ops a.tmps) = true then Oper.wp P o a w K Q else E := by
  have hw : Region.wanted o (yielded ops a.tmps) = true := by simp [Region.wanted, hgd]
  rw [if_pos hw]
  exact wp_append T s x ho v n xs S hs hS hown ao m c news hx hmc hnone hc hl h1 hb h63 h
end
theorem cs_one (w : World) (B : Nat) (v : Value) (t : TypeId) (h : w.heap[B]? = some (.cells #[v] t (0, 0))) : Cs w (some ⟨B, 0, none⟩) [v] :=
  .inr ⟨B, 0, rfl, fun j u hj => by
    match j, hj with
    | 0, hj => rw [cell_of h]; simpa using hj⟩
end Go.Proofs.YtkmpfgpfbmeihaaGreatDoor.lib
/-
  Some operations as laws for a walk: min and max of ints without parting; the conversion of bytes to a string.
-/
namespace Go.Proofs.YtkmpfgpfbmeihaaGreatDoor.lib
open Go Go.RowKit

section
variable {P : Program} {w : World} {ops : Array Oper} {rest : List Oper} {o : Oper} {a : Act} {Q : Exit → Act → World → Prop}
/-- An operation whose value is known. -/
theorem wpList_value (v : Value) (hgd : o.guard = none) (hr : (execOp a.eval o).run P w = .ok (.value v) w) (h : wpList P ops Q rest (a.put o.dst v) w) : wpList P ops Q (o :: rest) a w :=
  wpList_plain hgd fun K hK => by
    unfold Oper.wp
    rw [hr]
    exact hK _ _ h
theorem wpList_min2 (m : Int) (hgd : o.guard = none) (x y : Operand) (ts : Array TypeId) (ho : o.op = .call { callee := .builtin .min, args := #[x, y], argTypes := ts }) (i j : Int)
    (hx : a.eval x = .int .i64 i) (hy : a.eval y = .int .i64 j) (hm : m = if j < i then j else i) (h : wpList P ops Q rest (a.put o.dst (.int .i64 m)) w) : wpList P ops Q (o :: rest) a w := by
  subst hm
  refine wpList_value _ hgd ?_ h
  simp [execOp, ho, resolve, invoke, builtin, hx, hy, Builtin.min_, Builtin.min2]
theorem wpList_min3 (m : Int) (hgd : o.guard = none) (x y z : Operand) (ts : Array TypeId) (ho : o.op = .call { callee := .builtin .min, args := #[x, y, z], argTypes := ts }) (i j k : Int)
    (hx : a.eval x = .int .i64 i) (hy : a.eval y = .int .i64 j) (hz : a.eval z = .int .i64 k) (hm : m = min (min i j) k) (h : wpList P ops Q rest (a.put o.dst (.int .i64 m)) w) : wpList P ops Q (o :: rest) a w := by
  subst hm
  refine wpList_value _ hgd ?_ h
  have e : min (min i j) k = (if k < if j < i then j else i then k else if j < i then j else i) := by
    by_cases h1 : j < i <;> simp only [h1, if_true, if_false] <;> split <;> omega
  rw [e]
  simp [execOp, ho, resolve, invoke, builtin, hx, hy, hz, Builtin.min_, Builtin.min2]
theorem wpList_max2 (m : Int) (hgd : o.guard = none) (x y : Operand) (ts : Array TypeId) (ho : o.op = .call { callee := .builtin .max, args := #[x, y], argTypes := ts }) (i j : Int)
    (hx : a.eval x = .int .i64 i) (hy : a.eval y = .int .i64 j) (hm : m = if j > i then j else i) (h : wpList P ops Q rest (a.put o.dst (.int .i64 m)) w) : wpList P ops Q (o :: rest) a w := by
  subst hm
  refine wpList_value _ hgd ?_ h
  simp [execOp, ho, resolve, invoke, builtin, hx, hy, Builtin.max_, Builtin.max2]
end
section
variable {P : Program} {w : World} {ops : Array Oper} {rest : List Oper} {o : Oper} {a : Act} {Q : Exit → Act → World → Prop} {t e : TypeId} {z : Value} {bytes : Nat}
/-- s[l:h], of elements of one cell each; m = h - l. -/
theorem wpList_slice_lh (T : SliceTy P t e z 1 bytes) (l m : Nat) (hgd : o.guard = none) (x lo hi : Operand) (ho : o.op = .slice t x (some lo) (some hi) none) (ao : Option Addr) (len cap : Nat) (il ih : Int)
    (hx : a.eval x = .slice ao len cap) (hlo : a.eval lo = .int .i64 il) (hhi : a.eval hi = .int .i64 ih) (hl : il = l) (hh : ih = l + m) (hc : l + m ≤ cap)
    (h : wpList P ops Q rest (a.put o.dst (.slice (cutAt ao cap l) m (cap - l))) w) : wpList P ops Q (o :: rest) a w := by
  obtain ⟨hu, ⟨i, hi', _, hs, _⟩, _, _⟩ := T
  subst hl
  obtain rfl : ih = ((l + m : Nat) : Int) := by omega
  refine wpList_value _ hgd ?_ h
  have c1 : (0 : Int) ≤ (l : Int) + m ∧ (l : Int) + m ≤ (cap : Int) := by omega
  have e2 : ((l : Int) + m).toNat = l + m := by omega
  have e1 : l + m - l = m := by omega
  simp [execOp, ho, Instr.sliceAt, run_underlying hu, hx, hlo, hhi, Instr.slice, Instr.sliceBounds, Instr.sliceBound, asIntOf, c1, e2, sizeOf, typeInfo, hi', hs, cutAt, e1, Result.andThen]
end
/-- Bytes as a string. -/
def str (bs : List UInt8) : ByteArray := ⟨bs.toArray⟩
theorem str_toList (bs : List UInt8) : (str bs).toList = bs := by rw [ByteArray.toList_eq]; rfl
theorem str_inj {a b : List UInt8} (h : str a = str b) : a = b := by
  have := congrArg (fun s : ByteArray => s.data.toList) h
  simpa [str] using this
theorem str_beq (a b : List UInt8) : (str a == str b) = (a == b) := by
  have h : (str a == str b) = (a.toArray == b.toArray) := rfl
  rw [h, Bool.eq_iff_iff, beq_iff_eq, beq_iff_eq]
  exact ⟨fun h => by simpa using h, fun h => by rw [h]⟩
theorem run_conv {P : Program} (w : World) {src dst e : TypeId} (hs : P.underlying src = some (.slice e)) (he : P.underlying e = some (.int .u8)) (hd : P.underlying dst = some .string)
    {ao : Option Addr} {n : Nat} {bs : List UInt8} (hn : bs.length = n) (hcs : Cs w ao (bs.map bv)) :
    ∀ cap, (convert src dst (.slice ao n cap)).run P w = .ok (.string (str bs)) w := by
  intro cap
  have hnil : ∀ (ao : Option Addr), bs = [] → (convert src dst (.slice ao n cap)).run P w = .ok (.string (str bs)) w := by
    intro ao hb
    subst hb
    obtain rfl : n = 0 := by simpa using hn.symm
    rw [run_convert_bytes_string w src dst e ao 0 cap hs he hd]
    cases ao with
    | none => rfl
    | some a => rfl
  rcases hcs with h | ⟨g, o, rfl, h⟩
  · exact hnil ao (by simpa using h)
  · have hr := run_convert_bytes_arg (P := P) w src e hs he g o n cap (bs.map fun b => (b.toNat : Int)) (by simpa using hn) (fun i hi => by
      have h2 := h i (bv (bs.getD i 0)) (by simp [List.getD, show i < bs.length by omega])
      rw [h2]
      have hi' : i < bs.length := by omega
      simp [bv, List.getD, hi']) dst hd
    rw [hr]
    congr 2
    unfold strOfNums str
    congr 1
    rw [List.map_map]
    have : ((fun n : Int => UInt8.ofNat n.toNat) ∘ fun b : UInt8 => (b.toNat : Int)) = id := by
      funext b
      simp
    rw [this, List.map_id]
end Go.Proofs.YtkmpfgpfbmeihaaGreatDoor.lib
/-
  s[:h] and s[l:] of a slice whose elements take any number of cells, as laws for a walk.
-/
namespace Go.Proofs.YtkmpfgpfbmeihaaGreatDoor.lib
open Go Go.RowKit

def cutAtN (ao : Option Addr) (cap lo size : Nat) : Option Addr := if cap = lo then ao else ao.map (·.add (lo * size))
theorem cutAtN_none {ao : Option Addr} {cap lo size : Nat} (h : cutAtN ao cap lo size = none) : ao = none := by
  unfold cutAtN at h
  split at h
  · exact h
  · simpa using h
theorem cutAtN_blk (ao : Option Addr) (cap lo size : Nat) : blk (cutAtN ao cap lo size) = blk ao := by
  unfold cutAtN
  split
  · rfl
  · cases ao with
    | none => rfl
    | some a => simp only [Option.map_some, blk, Addr.add]; split <;> rfl
theorem cutAtN_one (ao : Option Addr) (cap lo : Nat) : cutAtN ao cap lo 1 = cutAt ao cap lo := by unfold cutAtN cutAt; rw [Nat.mul_one]
section
variable {P : Program} {w : World} {ops : Array Oper} {rest : List Oper} {o : Oper} {a : Act} {Q : Exit → Act → World → Prop} {t e : TypeId} {z : Value} {size bytes : Nat}
theorem wpList_slice_to (T : SliceTy P t e z size bytes) (m : Nat) (hgd : o.guard = none) (x hi : Operand) (ho : o.op = .slice t x none (some hi) none) (ao : Option Addr) (len cap : Nat) (ih : Int)
    (hx : a.eval x = .slice ao len cap) (hhi : a.eval hi = .int .i64 ih) (hh : ih = m) (hc : m ≤ cap)
    (h : wpList P ops Q rest (a.put o.dst (.slice ao m cap)) w) : wpList P ops Q (o :: rest) a w := by
  obtain ⟨hu, ⟨i, hi', _, hs, _⟩, _, _⟩ := T
  subst hh
  refine wpList_value _ hgd ?_ h
  have c1 : (0 : Int) ≤ (m : Int) ∧ (m : Int) ≤ (cap : Int) := by omega
  have ad0 : ∀ x : Addr, x.add 0 = x := fun x => rfl
  cases ao <;> simp [execOp, ho, Instr.sliceAt, run_underlying hu, hx, hhi, Instr.slice, Instr.sliceBounds, Instr.sliceBound, asIntOf, c1, hc, sizeOf, typeInfo, hi', hs, Result.andThen, ad0]
theorem wpList_slice_from (T : SliceTy P t e z size bytes) (l : Nat) (hgd : o.guard = none) (x lo : Operand) (ho : o.op = .slice t x (some lo) none none) (ao : Option Addr) (len cap : Nat) (il : Int)
    (hx : a.eval x = .slice ao len cap) (hlo : a.eval lo = .int .i64 il) (hl : il = l) (hc : l ≤ len) (hlc : len ≤ cap)
    (h : wpList P ops Q rest (a.put o.dst (.slice (cutAtN ao cap l size) (len - l) (cap - l))) w) : wpList P ops Q (o :: rest) a w := by
  obtain ⟨hu, ⟨i, hi', _, hs, _⟩, _, _⟩ := T
  subst hl
  refine wpList_value _ hgd ?_ h
  have c1 : (0 : Int) ≤ (l : Int) ∧ (l : Int) ≤ (len : Int) := by omega
  have c2 : (len : Int) ≤ (cap : Int) := by omega
  simp [execOp, ho, Instr.sliceAt, run_underlying hu, hx, hlo, Instr.slice, Instr.sliceBounds, Instr.sliceBound, asIntOf, c1, c2, hc, hlc, sizeOf, typeInfo, hi', hs, cutAtN, Result.andThen]
end
end Go.Proofs.YtkmpfgpfbmeihaaGreatDoor.lib
/-
  How a law's arguments, as they came in, are opened for a walk; that they read behind the call as before.
-/
namespace Go.Proofs.YtkmpfgpfbmeihaaGreatDoor.lib
open Go Go.RowKit Go.ChangeShapes Go.WideShapes

theorem wf_u8 {n : Int} (h : (Lit.int .u8 n).wf = true) : 0 ≤ n ∧ n ≤ 255 := by
  simpa [Lit.wf, IntKind.min, IntKind.max, IntKind.signed, IntKind.bits] using h
theorem wf_u32 {n : Int} (h : (Lit.int .u32 n).wf = true) : 0 ≤ n ∧ n ≤ 4294967295 := by
  simpa [Lit.wf, IntKind.min, IntKind.max, IntKind.signed, IntKind.bits] using h
theorem wf_i64 {n : Int} (h : (Lit.int .i64 n).wf = true) : -9223372036854775808 ≤ n ∧ n ≤ 9223372036854775807 := by
  simpa [Lit.wf, IntKind.min, IntKind.max, IntKind.signed, IntKind.bits] using h
/-- What a walk is told of a slice of integers that came in. -/
structure IntsArg (k : IntKind) (w : World) (a : Option Addr) (len cap : Nat) (xs : List Int) : Prop where
  le : len ≤ cap
  max : cap ≤ maxLen
  nil : a = none → cap = 0
  length : xs.length = len
  cs : Cs w a (xs.map (Value.int k))
  wf : ∀ x ∈ xs, (Lit.int k x).wf = true
  lt : ∀ x ∈ blk a, cap ≠ 0 → x < w.heap.size

theorem add_at {x : Addr} (h : x.spot = none) (j : Nat) : x.add j = ⟨x.block, x.off + j, none⟩ := by
  obtain ⟨b, o, s⟩ := x
  simp only at h
  subst h
  unfold Addr.add
  split <;> simp_all

section
variable {H : Type} {enc : TypeId × Value → H} {P : Program} {w : World}
theorem ints_arg {t e : TypeId} {k : IntKind} {a : Option Addr} {len cap : Nat} {d : DataW H} {p : List MemPlace} (ht : P.underlying t = some (.slice e)) (he : P.underlying e = some (.int k)) (hc : P.cellsOf e = 1)
    (h : DataW.Trod enc P w 0 (fun _ => true) true t (.slice a len cap) d p) :
    ∃ xs sp : List Int, IntsArg k w a len cap xs ∧ sp.length = cap - len ∧ (d = .nil ∧ cap = 0 ∨ d = .slice (lits k xs) (lits k sp)) := by
  obtain ⟨fuel, hf⟩ := h
  rcases open_ints ht he hc hf with ⟨hcs, hx⟩ | ⟨x, l, c, zs, hcs, _, hl, hm, hz, hx, hcell, hwz⟩
  · simp [Value.cells] at hcs
    obtain ⟨rfl, rfl, rfl⟩ := hcs
    simp at hx
    exact ⟨[], [], ⟨Nat.le_refl _, Nat.zero_le _, fun _ => rfl, rfl, .inl rfl, by simp, by simp [blk]⟩, rfl, .inl ⟨hx.1, rfl⟩⟩
  · simp [Value.cells] at hcs
    obtain ⟨rfl, rfl, rfl⟩ := hcs
    simp only [if_true] at hz
    simp at hx
    have hcl : ∀ i v, (zs.map (Value.int k))[i]? = some v → w.cell? (x.add i) = some v := by
      intro i v hv
      have hi : i < zs.length := by have := (List.getElem?_eq_some_iff.1 hv).1; simpa using this
      rw [hcell i hi]
      simp [hi] at hv
      simp [List.getD, hi, hv]
    have spot : 0 < zs.length → x.spot = none := by
      intro h0
      have h1 := hcell 0 h0
      have h2 : x.add 0 = x := by simp [Addr.add]
      rw [h2] at h1
      cases hs : x.spot with
      | none => rfl
      | some s =>
        simp only [World.cell?, hs, Option.isSome_some, if_true] at h1
        split at h1 <;> cases h1
    have hcsx : Cs w (some x) (zs.map (Value.int k)) := by
      by_cases h0 : zs = []
      · left; simp [h0]
      · right
        have hp : 0 < zs.length := List.length_pos_iff.2 h0
        have hs := spot hp
        refine ⟨x.block, x.off, by rw [← hs], fun j v hv => ?_⟩
        have h3 := hcl j v hv
        have h4 : x.add j = ⟨x.block, x.off + j, none⟩ := by exact add_at hs j
        rwa [h4] at h3
    refine ⟨zs.take len, zs.drop len, ⟨hl, hm, (fun h => by cases h), (by simp; omega), ?_, fun y hy => hwz y (List.mem_of_mem_take hy), ?_⟩, (by simp; omega), .inr hx.1⟩
    · rcases hcsx with h0 | ⟨g, o, ha, h0⟩
      · left
        have : zs = [] := by simpa using h0
        simp [this]
      · refine .inr ⟨g, o, ha, fun j v hv => h0 j v ?_⟩
        rw [List.map_take, List.getElem?_take] at hv
        split at hv
        · exact hv
        · cases hv
    · intro y hy hne
      simp [blk] at hy
      subst hy
      have h0 : 0 < zs.length := by omega
      exact World.block_lt_of_cell? w _ (by have := hcell 0 h0; simpa [Addr.add] using this)
/-- Each argument reads behind the call as before, where below the heap's old size nothing has turned. -/
theorem trodAll_below (hl : laidOutB P = true) {W W' : World} (hb : Below W.heap.size W W') : ∀ {ts : List TypeId} {vs : List Value} {ds : List (DataW H)} {ps : List MemPlace},
    (ts.all fun t => P.readableRec t && decide (t < P.types.size)) = true → (∀ x ∈ ps, x.block < W.heap.size) → DataW.TrodAll enc P W 0 (fun _ => true) true ts vs ds ps → DataW.TrodAll enc P W' 0 (fun b => decide (b < W.heap.size)) true ts vs ds ps
  | [], [], [], _, _, _, h => h
  | t :: ts, v :: vs, d :: ds, ps, hr, hlt, h => by
    simp only [List.all_cons, Bool.and_eq_true, decide_eq_true_eq] at hr
    obtain ⟨v', vs', d', ds', p, q, hv, hd, rfl, h1, h2⟩ := trodAll_cons h
    obtain ⟨rfl, rfl⟩ := List.cons.inj hv
    obtain ⟨rfl, rfl⟩ := List.cons.inj hd
    exact trodAll_cons_mk (Below.trod hl hr.1.1 hr.1.2 h1 hb (fun x hx => hlt x (by simp [hx]))) (trodAll_below hl hb hr.2 (fun x hx => hlt x (by simp [hx])) h2)
  | [], _ :: _, _, _, _, _, h => by simp [DataW.TrodAll] at h
  | [], [], _ :: _, _, _, _, h => by simp [DataW.TrodAll] at h
  | _ :: _, [], _, _, _, _, h => by simp [DataW.TrodAll] at h
  | _ :: _, _ :: _, [], _, _, _, h => by simp [DataW.TrodAll] at h
/-- A law's call that returns true and turns nothing that was there meets the law's specification. -/
theorem law_of_calls {s : ChangeSpec} {f : FuncId} {fn : Func} {W : World} {args : Array Value} {ds gs : List (DataW H)} {before : List MemPlace} {tb : TypeId}
    (hl : laidOutB P = true) (hread : (fn.params.toList.all fun t => P.readableRec t && decide (t < P.types.size)) = true) (hvars : s.vars = []) (hres : fn.resultTypes = #[tb]) (htb : P.underlying tb = some .bool)
    (hW : DataW.Whole enc P fn.params.toList s.vars false W args.toList ds gs before) (hfn : ∀ gs, s.vars = [] → gs = [] → s.fn H (ds ++ gs) = { results := [.lit (.bool true)], args := ds })
    (hc : Calls P f args W fun e W' => e = .returned (.bool true) ∧ Below W.heap.size W W') :
    Calls P f args W fun e W' => ∃ v, e = .returned v ∧ s.post enc P fn false true false false W args v W' := by
  have hW' := hW
  obtain ⟨p, q, hA, hV, rfl, hfz, hnd⟩ := hW
  have hV' := hV
  rw [hvars] at hV'
  obtain ⟨rfl, rfl⟩ := trodVars_none hV'
  have hlt : ∀ x ∈ p, x.block < W.heap.size := fun x hx => by simpa using hW'.lt x (by simpa using hx)
  refine hc.mono fun e W' ⟨he, hb⟩ => ⟨_, he, _, _, _, [], p, [], hW', ?_, ?_, ?_, hb.frame _, fun h => by cases h⟩
  · rw [hfn [] hvars rfl, hres]
    exact trodAll_mk1 (shut_bool htb _)
  · rw [hfn [] hvars rfl]
    exact trodAll_below hl hb hread hlt hA
  · rw [hvars, hfn [] hvars rfl]
    rfl
end
end Go.Proofs.YtkmpfgpfbmeihaaGreatDoor.lib
/-
  Slices of structs among a law's arguments, opened for a walk: each element's cells, and what they read as.
-/
namespace Go.Proofs.YtkmpfgpfbmeihaaGreatDoor.lib
open Go Go.RowKit Go.ChangeShapes Go.WideShapes

section
variable {H : Type} {enc : TypeId × Value → H} {P : Program} {w : World}
def Light (P : Program) (t : TypeId) (d : DataW H) : Prop := (DataW.weights P t d).all (· ≤ reachBytes) = true
theorem light_all {e : TypeId} : ∀ {ds : List (DataW H)}, (DataW.weightsAll P e ds).all (· ≤ reachBytes) = true → ∀ d ∈ ds, Light P e d
  | [], _, d, hd => by cases hd
  | x :: r, h, d, hd => by
    rw [DataW.weightsAll, List.all_append, Bool.and_eq_true] at h
    rcases List.mem_cons.1 hd with rfl | hd
    · exact h.1
    · exact light_all h.2 d hd
theorem light_each {ts : List TypeId} {ds : List (DataW H)} (h : (DataW.weightsEach P ts ds).all (· ≤ reachBytes) = true) {j : Nat} {t : TypeId} {d : DataW H} (ht : ts[j]? = some t) (hd : ds[j]? = some d) : Light P t d :=
  List.all_eq_true.2 fun n hn => List.all_eq_true.1 h n (DataW.weights_mem_each ht hd n hn)
theorem light_slice {t e : TypeId} {elems spare : List (DataW H)} (ht : P.underlying t = some (.slice e)) (h : Light P t (.slice elems spare)) :
    (elems.length + spare.length) * P.bytesOf e ≤ reachBytes ∧ (∀ d ∈ elems, Light P e d) ∧ ∀ d ∈ spare, Light P e d := by
  unfold Light at h
  rw [DataW.weights, ht] at h
  simp only [List.all_cons, List.all_append, Bool.and_eq_true, decide_eq_true_eq] at h
  exact ⟨h.1, light_all h.2.1, light_all h.2.2⟩
theorem light_struct {t : TypeId} {fs : Array Field} {parts : List (DataW H)} (ht : P.underlying t = some (.struct fs)) (h : Light P t (.agg parts)) {j : Nat} {u : TypeId} {d : DataW H} (hu : (fs.toList.map (·.type))[j]? = some u) (hd : parts[j]? = some d) : Light P u d := by
  unfold Light at h
  rw [DataW.weights, ht] at h
  exact light_each h hu hd
theorem light_string {t : TypeId} {bytes : List UInt8} (h : Light (H := H) P t (.lit (.string bytes))) : bytes.length ≤ 140737488351232 := by
  unfold Light at h
  rw [DataW.weights] at h
  simp only [List.all_cons, List.all_nil, Bool.and_true, decide_eq_true_eq] at h
  have e : reachBytes = 140737488351232 := by decide
  omega

/-! ### The bulk of what came in ('uptoBulk', in the given rows) -/
theorem bulk_one (d : DataW H) : 1 ≤ Rows.uptoBulk d := by
  cases d with
  | lit l => cases l <;> simp [Rows.uptoBulk]
  | nil => simp [Rows.uptoBulk]
  | ptr d => simp [Rows.uptoBulk]
  | slice elems spare => simp [Rows.uptoBulk]
  | agg parts => simp [Rows.uptoBulk]
  | iface t d => simp [Rows.uptoBulk]
  | map entries => simp [Rows.uptoBulk]
  | held h => simp [Rows.uptoBulk]
theorem bulk_part {d : DataW H} {l : List (DataW H)} (h : d ∈ l) : Rows.uptoBulk d ≤ Rows.uptoBulkAll l := by
  induction l with
  | nil => cases h
  | cons x r ih =>
    simp only [Rows.uptoBulkAll]
    cases List.mem_cons.1 h with
    | inl e => subst e; omega
    | inr e => have := ih e; omega
theorem bulk_length (l : List (DataW H)) : l.length ≤ Rows.uptoBulkAll l := by
  induction l with
  | nil => simp [Rows.uptoBulkAll]
  | cons x r ih => have := bulk_one x; simp only [Rows.uptoBulkAll, List.length_cons]; omega
theorem bulk_elem {d : DataW H} {elems spare : List (DataW H)} (h : d ∈ elems) : Rows.uptoBulk d ≤ Rows.uptoBulk (.slice elems spare) := by
  have := bulk_part h
  simp only [Rows.uptoBulk]
  omega
theorem bulk_agg {d : DataW H} {parts : List (DataW H)} (h : d ∈ parts) : Rows.uptoBulk d ≤ Rows.uptoBulk (.agg parts) := by
  have := bulk_part h
  simp only [Rows.uptoBulk]
  omega
theorem bulk_slice (elems spare : List (DataW H)) : elems.length ≤ Rows.uptoBulk (.slice elems spare) := by
  have := bulk_length elems
  simp only [Rows.uptoBulk]
  omega

/-- A slice that came in, whatever its elements: each element's cells, what they read as, and that it is light. -/
theorem slice_arg {t e : TypeId} {a : Option Addr} {len cap s : Nat} {d : DataW H} {p : List MemPlace} (ht : P.underlying t = some (.slice e)) (hs : P.cellsOf e = s) (h0 : 0 < s)
    (h : DataW.Trod enc P w 0 (fun _ => true) true t (.slice a len cap) d p) (hL : Light P t d) :
    len ≤ cap ∧ cap ≤ maxLen ∧ (a = none → cap = 0) ∧ len * P.bytesOf e ≤ 140737488351232 ∧ len ≤ Rows.uptoBulk d ∧ (len = 0 ∨ ∃ g o, a = some ⟨g, o, none⟩ ∧ ∀ i, i < len → ∃ (cs : List Value) (y : DataW H × List MemPlace) (n : Nat),
      cs.length = s ∧ (∀ j v, cs[j]? = some v → w.cell? ⟨g, o + i * s + j, none⟩ = some v) ∧ DataW.trod enc P w 0 (fun _ => true) true n e cs = some y ∧ Light P e y.1 ∧ Rows.uptoBulk y.1 ≤ Rows.uptoBulk d) := by
  have er : reachBytes = 140737488351232 := by decide
  obtain ⟨fuel, hf⟩ := h
  rcases DataW.trod_slice ht hf with ⟨hcs, hx⟩ | ⟨x, l, c, elems, rest, n, _, hcs, hx, _, hl, hm, hlen, hel, _⟩
  · simp [Value.cells] at hcs
    obtain ⟨rfl, rfl, rfl⟩ := hcs
    exact ⟨Nat.le_refl _, Nat.zero_le _, fun _ => rfl, by simp, Nat.zero_le _, .inl rfl⟩
  · simp [Value.cells] at hcs
    obtain ⟨rfl, rfl, rfl⟩ := hcs
    simp only [Prod.mk.injEq] at hx
    obtain ⟨rfl, _⟩ := hx
    obtain ⟨hw, hle, _⟩ := light_slice ht hL
    simp only [List.length_map] at hw
    refine ⟨hl, hm, (fun h => by cases h), ?_, by have := bulk_slice (elems.map (·.1)) (rest.map (·.1)); simp at this; omega, ?_⟩
    · have h1 : len * P.bytesOf e ≤ (elems.length + rest.length) * P.bytesOf e := Nat.mul_le_mul_right _ (by omega)
      omega
    · by_cases hz : len = 0
      · exact .inl hz
      · right
        have get : ∀ i, i < len → ∃ (cs : List Value) (y : DataW H × List MemPlace), cs.length = s ∧ (∀ j v, cs[j]? = some v → w.cell? ((x.add (i * s)).add j) = some v) ∧ DataW.trod enc P w 0 (fun _ => true) true n e cs = some y ∧ Light P e y.1 ∧ Rows.uptoBulk y.1 ≤ Rows.uptoBulk (.slice (elems.map (·.1)) (rest.map (·.1))) := by
          intro i hi
          have h1 := hel i hi
          rw [hs] at h1
          have hie : i < elems.length := by omega
          rw [List.getElem?_eq_getElem hie] at h1
          obtain ⟨cs, hc1, hc2⟩ := Option.bind_eq_some_iff.1 h1
          obtain ⟨_, hc3, hc4⟩ := World.cells?_some hc1
          exact ⟨cs, elems[i], hc3, fun j v hv => by rw [hc4 j (by have := (List.getElem?_eq_some_iff.1 hv).1; omega), hv], hc2, hle _ (List.mem_map.2 ⟨_, List.getElem_mem hie, rfl⟩), bulk_elem (List.mem_map.2 ⟨_, List.getElem_mem hie, rfl⟩)⟩
        have spot : x.spot = none := by
          obtain ⟨cs, y, h1, h2, _⟩ := get 0 (by omega)
          have h3 : 0 < cs.length := by omega
          have h4 := h2 0 cs[0] (by simp [h3])
          simp only [Nat.zero_mul] at h4
          have h5 : (x.add 0).add 0 = x := by simp [Addr.add]
          rw [h5] at h4
          cases hs : x.spot with
          | none => rfl
          | some s =>
            simp only [World.cell?, hs, Option.isSome_some, if_true] at h4
            split at h4 <;> cases h4
        refine ⟨x.block, x.off, by rw [← spot], fun i hi => ?_⟩
        obtain ⟨cs, y, h1, h2, h3, h4⟩ := get i hi
        refine ⟨cs, y, n, h1, fun j v hv => ?_, h3, h4⟩
        have h5 := h2 j v hv
        rw [add_at spot, add_at rfl] at h5
        exact h5

/-- What a walk is told of a slice of bytes that came in. -/
structure BytesArg (w : World) (a : Option Addr) (len cap : Nat) (bs : List UInt8) : Prop where
  le : len ≤ cap
  max : cap ≤ maxLen
  nil : a = none → cap = 0
  length : bs.length = len
  cs : Cs w a (bs.map bv)
  lim : len ≤ 140737488351232
  lt : ∀ x ∈ blk a, bs ≠ [] → x < w.heap.size
theorem bytes_arg {t e : TypeId} {a : Option Addr} {len cap : Nat} {d : DataW H} {p : List MemPlace} (ht : P.underlying t = some (.slice e)) (he : P.underlying e = some (.int .u8)) (hc : P.cellsOf e = 1) (hby : P.bytesOf e = 1)
    (h : DataW.Trod enc P w 0 (fun _ => true) true t (.slice a len cap) d p) (hL : Light P t d) : ∃ bs, BytesArg w a len cap bs ∧ len ≤ Rows.uptoBulk d := by
  obtain ⟨xs, _, A, _⟩ := ints_arg ht he hc h
  obtain ⟨_, _, _, hlim, hbk, _⟩ := slice_arg ht hc (by decide) h hL
  have key : Cs w a ((xs.map fun x => UInt8.ofNat x.toNat).map bv) := by
    have e : (xs.map fun x => UInt8.ofNat x.toNat).map bv = xs.map (Value.int .u8) := by
      rw [List.map_map]
      apply List.map_congr_left
      intro x hx
      have := wf_u8 (A.wf x hx)
      simp only [Function.comp, bv, UInt8.toNat_ofNat']
      exact int_eq (by omega)
    rw [e]
    exact A.cs
  refine ⟨xs.map fun x => UInt8.ofNat x.toNat, ⟨A.le, A.max, A.nil, by simp [A.length], key, by rw [hby] at hlim; omega, fun x hx hne => ?_⟩, hbk⟩
  cases a with
  | none => simp [blk] at hx
  | some a =>
    simp [blk] at hx
    subst hx
    exact key.lt (by simpa using hne) a rfl
/-- The same of a cell that holds such a slice. -/
theorem bytes_cell {t e : TypeId} {n : Nat} {cs : List Value} {y : DataW H × List MemPlace} (ht : P.underlying t = some (.slice e)) (he : P.underlying e = some (.int .u8)) (hc : P.cellsOf e = 1) (hby : P.bytesOf e = 1)
    (h : DataW.trod enc P w 0 (fun _ => true) true n t cs = some y) (hL : Light P t y.1) : ∃ a len cap bs, cs = [.slice a len cap] ∧ BytesArg w a len cap bs ∧ len ≤ Rows.uptoBulk y.1 := by
  have hform : ∃ a l c, cs = [.slice a l c] := by
    rcases DataW.trod_slice ht h with ⟨hcs, _⟩ | ⟨a', len', cap', _, _, _, _, hcs, _⟩
    · exact ⟨_, _, _, hcs⟩
    · exact ⟨_, _, _, hcs⟩
  obtain ⟨a, l, c, rfl⟩ := hform
  obtain ⟨bs, hb⟩ := bytes_arg (enc := enc) (a := a) (len := l) (cap := c) (d := y.1) (p := y.2) ht he hc hby ⟨n, h⟩ hL
  exact ⟨a, l, c, bs, rfl, hb⟩
end
end Go.Proofs.YtkmpfgpfbmeihaaGreatDoor.lib
/-
  A slice of bytes that is read: one word for its address, capacity and cells; what becomes of it by s[l:], s[:h], s[l:h].
-/
namespace Go.Proofs.YtkmpfgpfbmeihaaGreatDoor.lib
open Go Go.RowKit

/-- The slice (a, bs.length, cap) reads as bs. -/
structure Rd (w : World) (a : Option Addr) (cap : Nat) (bs : List UInt8) : Prop where
  cs : Cs w a (bs.map bv)
  le : bs.length ≤ cap
  max : cap ≤ maxLen
  nil : a = none → cap = 0
theorem Rd.fr {w w' : World} {a : Option Addr} {cap : Nat} {bs : List UInt8} (h : Rd w a cap bs) (f : Fr [] w w') : Rd w' a cap bs := ⟨h.cs.fr f (by simp), h.le, h.max, h.nil⟩
theorem Rd.frS {S : List Nat} {w w' : World} {a : Option Addr} {cap : Nat} {bs : List UInt8} (h : Rd w a cap bs) (f : Fr S w w') (hn : ∀ x ∈ blk a, x ∉ S) : Rd w' a cap bs := ⟨h.cs.fr f hn, h.le, h.max, h.nil⟩
theorem Rd.none (w : World) : Rd w none 0 [] := ⟨.inl rfl, Nat.le_refl _, Nat.zero_le _, fun _ => rfl⟩
theorem Rd.of_arg {w : World} {a : Option Addr} {len cap : Nat} {bs : List UInt8} (h : BytesArg w a len cap bs) : Rd w a cap bs := ⟨h.cs, by rw [h.length]; exact h.le, h.max, h.nil⟩
theorem cs_drop {w : World} {a : Option Addr} {cap : Nat} {vs : List Value} (h : Cs w a vs) (k : Nat) (hk : k ≤ vs.length) (hc : vs.length ≤ cap) : Cs w (cutAtN a cap k 1) (vs.drop k) := by
  have := h.cut cap k vs.length hk (Nat.le_refl _) hc
  rw [List.take_of_length_le (by simp), ← cutAtN_one] at this
  exact this
theorem cs_takev {w : World} {a : Option Addr} {vs : List Value} (h : Cs w a vs) (k : Nat) : Cs w a (vs.take k) := by
  rcases h with rfl | ⟨g, o, rfl, h⟩
  · left; simp
  · refine .inr ⟨g, o, rfl, fun j v hv => h j v ?_⟩
    rw [List.getElem?_take] at hv
    split at hv
    · exact hv
    · cases hv
theorem Rd.drop {w : World} {a : Option Addr} {cap : Nat} {bs : List UInt8} (h : Rd w a cap bs) (k : Nat) (hk : k ≤ bs.length) : Rd w (cutAtN a cap k 1) (cap - k) (bs.drop k) := by
  have h1 := h.le
  have h2 := h.max
  refine ⟨?_, by rw [List.length_drop]; omega, by omega, fun e => by have := h.nil (cutAtN_none e); omega⟩
  rw [List.map_drop]
  exact cs_drop h.cs k (by simpa using hk) (by simpa using h1)
theorem Rd.take {w : World} {a : Option Addr} {cap : Nat} {bs : List UInt8} (h : Rd w a cap bs) (k : Nat) : Rd w a cap (bs.take k) := by
  have h1 := h.le
  refine ⟨?_, by rw [List.length_take]; omega, h.max, h.nil⟩
  rw [List.map_take]
  exact cs_takev h.cs k
/-- s[l:l + m]. -/
theorem Rd.mid {w : World} {a : Option Addr} {cap : Nat} {bs : List UInt8} (h : Rd w a cap bs) (l m : Nat) (hk : l + m ≤ bs.length) : Rd w (cutAt a cap l) (cap - l) ((bs.drop l).take m) := by
  have h1 := (h.drop l (by omega)).take m
  rw [cutAtN_one] at h1
  exact h1
/-- The cell of a byte that is there. -/
theorem Rd.at {w : World} {a : Option Addr} {cap : Nat} {bs : List UInt8} (h : Rd w a cap bs) {i : Nat} (hi : i < bs.length) : ∃ g o, a = some ⟨g, o, Option.none⟩ ∧ w.cell? ⟨g, o + i, Option.none⟩ = some (.int .u8 ((bs[i].toNat : Nat) : Int)) := by
  obtain ⟨g, o, rfl, hc⟩ := h.cs.at (by simp; omega)
  exact ⟨g, o, rfl, hc i _ (by simp [hi, bv])⟩
/-- A row of bytes of one's own: any slice that a call owns, under one word. -/
theorem rd_of_owns {w : World} {base : Nat} {e : TypeId} {len cap : Nat} {bs : List UInt8} {a : Option Addr} (h : w.ownsRow base e 1 (.slice a len cap) len (bs.map bv)) : Rd w a cap bs ∧ bs.length = len := by
  have hl : bs.length = len := by simpa using h.1
  obtain ⟨_, _, he, h1, h2, h3⟩ := owns_form h
  simp only [Value.slice.injEq] at he
  obtain ⟨rfl, _, rfl⟩ := he
  exact ⟨⟨cs_of_owns h, by omega, h2, h3⟩, hl⟩
/-! ### s[l:], s[:h] and s[l:h] as run equations, for regions that draw their order -/
section
variable {P : Program} {t e : TypeId} {z : Value} {size bytes : Nat}
theorem run_slice_from (T : SliceTy P t e z size bytes) (l : Nat) (a : Option Addr) (len cap : Nat) (il : Int) (hl : il = l) (hc : l ≤ len) (hlc : len ≤ cap) (w : World) :
    (Instr.slice t (.slice a len cap) (some (.int .i64 il)) Option.none Option.none).run P w = .ok (.slice (cutAtN a cap l size) (len - l) (cap - l)) w := by
  obtain ⟨hu, ⟨i, hi', _, hs, _⟩, _, _⟩ := T
  subst hl
  have c1 : (0 : Int) ≤ (l : Int) ∧ (l : Int) ≤ (len : Int) := by omega
  have c2 : (len : Int) ≤ (cap : Int) := by omega
  simp [run_underlying hu, Instr.slice, Instr.sliceBounds, Instr.sliceBound, asIntOf, c1, c2, hc, hlc, sizeOf, typeInfo, hi', hs, cutAtN, Result.andThen]
theorem run_slice_to (T : SliceTy P t e z size bytes) (m : Nat) (a : Option Addr) (len cap : Nat) (ih : Int) (hh : ih = m) (hc : m ≤ cap) (w : World) :
    (Instr.slice t (.slice a len cap) Option.none (some (.int .i64 ih)) Option.none).run P w = .ok (.slice a m cap) w := by
  obtain ⟨hu, ⟨i, hi', _, hs, _⟩, _, _⟩ := T
  subst hh
  have c1 : (0 : Int) ≤ (m : Int) ∧ (m : Int) ≤ (cap : Int) := by omega
  have ad0 : ∀ x : Addr, x.add 0 = x := fun x => rfl
  cases a <;> simp [run_underlying hu, Instr.slice, Instr.sliceBounds, Instr.sliceBound, asIntOf, c1, hc, sizeOf, typeInfo, hi', hs, Result.andThen, ad0]
theorem run_slice_lh (T : SliceTy P t e z 1 bytes) (l m : Nat) (a : Option Addr) (len cap : Nat) (il ih : Int) (hl : il = l) (hh : ih = l + m) (hc : l + m ≤ cap) (w : World) :
    (Instr.slice t (.slice a len cap) (some (.int .i64 il)) (some (.int .i64 ih)) Option.none).run P w = .ok (.slice (cutAt a cap l) m (cap - l)) w := by
  obtain ⟨hu, ⟨i, hi', _, hs, _⟩, _, _⟩ := T
  subst hl
  obtain rfl : ih = ((l + m : Nat) : Int) := by omega
  have c1 : (0 : Int) ≤ (l : Int) + m ∧ (l : Int) + m ≤ (cap : Int) := by omega
  have e2 : ((l : Int) + m).toNat = l + m := by omega
  have e1 : l + m - l = m := by omega
  simp [run_underlying hu, Instr.slice, Instr.sliceBounds, Instr.sliceBound, asIntOf, c1, e2, sizeOf, typeInfo, hi', hs, cutAt, e1, Result.andThen]
end
/-- A new slice of bytes, cut to its length. -/
def NewBytes (w : World) (bs : List UInt8) (e : Ending) (w' : World) : Prop :=
  ∃ a, e = .returned (.slice a bs.length bs.length) ∧ Rd w' a bs.length bs ∧ (∀ x ∈ blk a, w.heap.size ≤ x ∧ x < w'.heap.size) ∧ Fr [] w w'
end Go.Proofs.YtkmpfgpfbmeihaaGreatDoor.lib
/-
  An entry's head and an offset, plain: the bytes that are written, and that an offset's bytes are read as what it was.
-/
namespace Go.Proofs.YtkmpfgpfbmeihaaGreatDoor.pk
open Go

/-- A head's bytes behind the kind: c is the byte under way, n what is left of the size (f: fuel). -/
def hdF : Nat → Nat → Nat → List UInt8
  | 0, c, _ => [UInt8.ofNat c]
  | f + 1, c, n => if n = 0 then [UInt8.ofNat c] else UInt8.ofNat (c + 128) :: hdF f (n % 128) (n / 128)
def hd (kind size : Nat) : List UInt8 := hdF size (kind % 8 * 16 + size % 16) (size / 16)
theorem hdF_len (f c n : Nat) : (hdF f c n).length ≤ f + 1 := by
  induction f generalizing c n with
  | zero => simp [hdF]
  | succ f ih =>
    unfold hdF
    split
    · simp
    · simp only [List.length_cons]
      have := ih (n % 128) (n / 128)
      omega
theorem hdF_fuel {f g : Nat} : ∀ {c n : Nat}, n ≤ f → n ≤ g → hdF f c n = hdF g c n := by
  induction f generalizing g with
  | zero =>
    intro c n h1 h2
    have : n = 0 := by omega
    subst this
    cases g <;> simp [hdF]
  | succ f ih =>
    intro c n h1 h2
    by_cases h0 : n = 0
    · subst h0
      cases g <;> simp [hdF]
    · cases g with
      | zero => omega
      | succ g =>
        unfold hdF
        rw [if_neg h0, if_neg h0, ih (g := g) (by omega) (by omega)]
theorem hdF_le {k : Nat} : ∀ {f c n : Nat}, n < 128 ^ k → n ≤ f → (hdF f c n).length ≤ k + 1 := by
  induction k with
  | zero =>
    intro f c n h _
    have : n = 0 := by omega
    subst this
    cases f <;> simp [hdF]
  | succ k ih =>
    intro f c n h hf
    cases f with
    | zero => simp [hdF]
    | succ f =>
      unfold hdF
      split
      · simp
      · have h2 : n / 128 < 128 ^ k := by rw [Nat.pow_succ] at h; exact Nat.div_lt_of_lt_mul (by omega)
        have := ih (f := f) (c := n % 128) h2 (by omega)
        simp only [List.length_cons]
        omega

/-- What stands above an offset's lowest seven bits, the lowest first. -/
def bkF : Nat → Nat → List UInt8
  | 0, _ => []
  | f + 1, m => if m = 0 then [] else UInt8.ofNat ((m - 1) % 128 + 128) :: bkF f ((m - 1) / 128)
def bk (n : Nat) : List UInt8 := UInt8.ofNat (n % 128) :: bkF n (n / 128)
theorem bkF_fuel {f g : Nat} : ∀ {m : Nat}, m ≤ f → m ≤ g → bkF f m = bkF g m := by
  induction f generalizing g with
  | zero =>
    intro m h1 h2
    have : m = 0 := by omega
    subst this
    cases g <;> simp [bkF]
  | succ f ih =>
    intro m h1 h2
    by_cases h0 : m = 0
    · subst h0
      cases g <;> simp [bkF]
    · cases g with
      | zero => omega
      | succ g =>
        unfold bkF
        rw [if_neg h0, if_neg h0, ih (g := g) (by omega) (by omega)]
theorem bkF_len {k : Nat} : ∀ {f m : Nat}, m < 128 ^ k → (bkF f m).length ≤ k := by
  induction k with
  | zero =>
    intro f m h
    have : m = 0 := by omega
    subst this
    cases f <;> simp [bkF]
  | succ k ih =>
    intro f m h
    cases f with
    | zero => simp [bkF]
    | succ f =>
      unfold bkF
      split
      · simp
      · have h2 : (m - 1) / 128 < 128 ^ k := by rw [Nat.pow_succ] at h; exact Nat.div_lt_of_lt_mul (by omega)
        have := ih (f := f) h2
        simp only [List.length_cons]
        omega
/-- The value behind the first i bytes. -/
def vat (l : List UInt8) : Nat → Nat
  | 0 => 0
  | i + 1 => (if i = 0 then 0 else (vat l i + 1) * 128) + (l[i]?.getD 0).toNat % 128
theorem vat_app {l r : List UInt8} : ∀ {i : Nat}, i ≤ l.length → vat (l ++ r) i = vat l i := by
  intro i
  induction i with
  | zero => intro _; rfl
  | succ i ih =>
    intro h
    unfold vat
    rw [ih (by omega), List.getElem?_append_left (by omega)]
theorem toNat_byte {n : Nat} (h : n < 256) : (UInt8.ofNat n).toNat = n := by simp [UInt8.toNat_ofNat']; omega
theorem vat_bkF : ∀ {f m : Nat}, m ≤ f → 0 < m → 0 < (bkF f m).length ∧ vat (bkF f m).reverse (bkF f m).length = m - 1 := by
  intro f
  induction f with
  | zero => intro m h1 h2; omega
  | succ f ih =>
    intro m h1 h2
    unfold bkF
    rw [if_neg (by omega)]
    refine ⟨by simp, ?_⟩
    rw [List.reverse_cons, List.length_cons]
    unfold vat
    rw [List.getElem?_append_right (by simp), List.length_reverse, Nat.sub_self]
    simp only [List.getElem?_cons_zero, Option.getD_some]
    rw [toNat_byte (by omega), vat_app (by simp)]
    by_cases h0 : (m - 1) / 128 = 0
    · have he : bkF f ((m - 1) / 128) = [] := by rw [h0]; cases f <;> simp [bkF]
      rw [he]
      simp
      omega
    · obtain ⟨k1, k2⟩ := ih (m := (m - 1) / 128) (by omega) (by omega)
      rw [if_neg (by omega), k2]
      omega
theorem bk_val (n : Nat) : vat (bk n).reverse (bk n).length = n := by
  unfold bk
  rw [List.reverse_cons, List.length_cons]
  unfold vat
  rw [List.getElem?_append_right (by simp), List.length_reverse, Nat.sub_self]
  simp only [List.getElem?_cons_zero, Option.getD_some]
  rw [toNat_byte (by omega), vat_app (by simp)]
  by_cases h0 : n / 128 = 0
  · have he : bkF n (n / 128) = [] := by rw [h0]; cases n <;> simp [bkF]
    rw [he]
    simp
    omega
  · obtain ⟨k1, k2⟩ := vat_bkF (f := n) (m := n / 128) (by omega) (by omega)
    rw [if_neg (by omega), k2]
    omega
theorem bkF_high : ∀ {f m : Nat}, ∀ x ∈ bkF f m, 128 ≤ x.toNat := by
  intro f
  induction f with
  | zero => intro m x h; simp [bkF] at h
  | succ f ih =>
    intro m x h
    unfold bkF at h
    split at h
    · simp at h
    · simp only [List.mem_cons] at h
      rcases h with rfl | h
      · rw [toNat_byte (by omega)]; omega
      · exact ih x h
/-- Each byte but the last one is marked. -/
theorem bk_mark (n : Nat) {i : Nat} (hi : i < (bk n).length) : 128 ≤ ((bk n).reverse[i]?.getD 0).toNat ↔ i + 1 < (bk n).length := by
  have e : (bk n).reverse = (bkF n (n / 128)).reverse ++ [UInt8.ofNat (n % 128)] := by unfold bk; rw [List.reverse_cons]
  have hl : (bk n).length = (bkF n (n / 128)).length + 1 := rfl
  rw [e]
  by_cases h : i + 1 < (bk n).length
  · rw [List.getElem?_append_left (by rw [List.length_reverse]; omega)]
    have h2 : i < (bkF n (n / 128)).reverse.length := by rw [List.length_reverse]; omega
    rw [List.getElem?_eq_getElem h2]
    have := bkF_high (f := n) (m := n / 128) _ (List.mem_reverse.1 (List.getElem_mem h2))
    simp only [Option.getD_some]
    exact ⟨fun _ => h, fun _ => this⟩
  · rw [List.getElem?_append_right (by rw [List.length_reverse]; omega), List.length_reverse, show i - (bkF n (n / 128)).length = 0 by omega]
    simp only [List.getElem?_cons_zero, Option.getD_some]
    rw [toNat_byte (by omega)]
    omega
theorem bk_len {n : Nat} (h : n ≤ 1073741824) : (bk n).length ≤ 5 := by
  unfold bk
  have h1 : n / 128 < 128 ^ 4 := by omega
  have := bkF_len (f := n) h1
  simp only [List.length_cons]
  omega
theorem hd_len {kind size : Nat} (h : size ≤ 2147483647) : (hd kind size).length ≤ 5 := by
  unfold hd
  have h1 : size / 16 < 128 ^ 4 := by omega
  exact hdF_le h1 (by omega)
end Go.Proofs.YtkmpfgpfbmeihaaGreatDoor.pk
/-
  The plain arithmetic of bits of bytes, the lowest first.
-/
namespace Go.Proofs.YtkmpfgpfbmeihaaGreatDoor.bm

/-- Bytes as one number, the first byte the lowest. -/
def num : List UInt8 → Nat
  | [] => 0
  | b :: r => b.toNat + 256 * num r

theorem num_lt : ∀ bs : List UInt8, num bs < 2 ^ (8 * bs.length)
  | [] => by simp [num]
  | b :: r => by
    have h := num_lt r
    have hb : b.toNat < 256 := b.toNat_lt
    have e : 2 ^ (8 * (b :: r).length) = 256 * 2 ^ (8 * r.length) := by
      rw [List.length_cons, Nat.mul_add, Nat.pow_add, Nat.mul_comm]
    rw [e]
    simp only [num]
    omega
theorem num_append : ∀ a b : List UInt8, num (a ++ b) = num a + 2 ^ (8 * a.length) * num b
  | [], b => by simp [num]
  | x :: a, b => by
    have e : 2 ^ (8 * (x :: a).length) = 256 * 2 ^ (8 * a.length) := by
      rw [List.length_cons, Nat.mul_add, Nat.pow_add, Nat.mul_comm]
    rw [List.cons_append, num, num, num_append a b, e, Nat.mul_assoc, Nat.mul_add, Nat.add_assoc]
theorem num_drop (bs : List UInt8) (i : Nat) (h : i ≤ bs.length) : num bs / 2 ^ (8 * i) = num (bs.drop i) := by
  have e := num_append (bs.take i) (bs.drop i)
  rw [List.take_append_drop] at e
  have hl := num_lt (bs.take i)
  rw [List.length_take, Nat.min_eq_left h] at e hl
  rw [e, Nat.add_mul_div_left _ _ (Nat.two_pow_pos _), Nat.div_eq_of_lt hl, Nat.zero_add]
theorem mod_div (x a b : Nat) (h : 0 < a) : x % (a * b) = x % a + a * (x / a % b) := Nat.mod_mul
/-- Some bits within one byte. -/
theorem chunk (bs : List UInt8) (a k : Nat) (h : a / 8 < bs.length) (hk : a % 8 + k ≤ 8) :
    num bs / 2 ^ a % 2 ^ k = (bs.getD (a / 8) 0).toNat / 2 ^ (a % 8) % 2 ^ k := by
  have e : num bs / 2 ^ a = num (bs.drop (a / 8)) / 2 ^ (a % 8) := by
    rw [← num_drop bs (a / 8) (by omega), Nat.div_div_eq_div_mul, ← Nat.pow_add, Nat.div_add_mod]
  have hd : bs.drop (a / 8) = bs[a / 8] :: bs.drop (a / 8 + 1) := List.drop_eq_getElem_cons h
  have hg : bs.getD (a / 8) 0 = bs[a / 8] := by simp [List.getD, h]
  rw [e, hd, hg, num]
  generalize num (bs.drop (a / 8 + 1)) = r
  generalize (bs[a / 8]).toNat = b
  have e256 : 256 * r = 2 ^ (a % 8) * (2 ^ k * (2 ^ (8 - a % 8 - k) * r)) := by
    rw [← Nat.mul_assoc, ← Nat.mul_assoc, ← Nat.pow_add, ← Nat.pow_add, show a % 8 + k + (8 - a % 8 - k) = 8 from by omega]
  rw [e256, Nat.add_mul_div_left _ _ (Nat.two_pow_pos _), Nat.add_mul_mod_self_left]
/-- What was taken so far, and some bits more. -/
theorem more (x a i k : Nat) : x / 2 ^ a % 2 ^ (i + k) = x / 2 ^ a % 2 ^ i + 2 ^ i * (x / 2 ^ (a + i) % 2 ^ k) := by
  rw [Nat.pow_add 2 i k, Nat.mod_mul, Nat.div_div_eq_div_mul, ← Nat.pow_add]

/-- The k lowest bytes of a number. -/
def dig : Nat → Nat → List UInt8
  | 0, _ => []
  | k + 1, m => UInt8.ofNat m :: dig k (m / 256)
theorem dig_length : ∀ k m : Nat, (dig k m).length = k
  | 0, _ => rfl
  | k + 1, m => by simp [dig, dig_length k]
theorem two8 (k : Nat) : 2 ^ (8 * (k + 1)) = 256 * 2 ^ (8 * k) := by
  rw [Nat.mul_add, Nat.pow_add, Nat.mul_comm]
theorem num_dig : ∀ k m : Nat, num (dig k m) = m % 2 ^ (8 * k)
  | 0, m => by simp [dig, num, Nat.mod_one]
  | k + 1, m => by
    rw [dig, num, num_dig k, two8, Nat.mod_mul]
    simp [UInt8.toNat_ofNat']
theorem num_dig_lt (k m : Nat) (h : m < 2 ^ (8 * k)) : num (dig k m) = m := by rw [num_dig, Nat.mod_eq_of_lt h]
theorem dig_add : ∀ k m x : Nat, dig k (m + 2 ^ (8 * k) * x) = dig k m
  | 0, m, x => rfl
  | k + 1, m, x => by
    rw [dig, dig, two8, Nat.mul_assoc]
    have h1 : UInt8.ofNat (m + 256 * (2 ^ (8 * k) * x)) = UInt8.ofNat m := UInt8.toNat_inj.1 (by simp [UInt8.toNat_ofNat'])
    have h2 : (m + 256 * (2 ^ (8 * k) * x)) / 256 = m / 256 + 2 ^ (8 * k) * x := by omega
    rw [h1, h2, dig_add k]
theorem dig_mod (k m : Nat) : dig k (m % 2 ^ (8 * k)) = dig k m := by
  have h := dig_add k (m % 2 ^ (8 * k)) (m / 2 ^ (8 * k))
  rw [Nat.mod_add_div] at h
  exact h.symm
theorem dig_append : ∀ k j m : Nat, dig (k + j) m = dig k m ++ dig j (m / 2 ^ (8 * k))
  | 0, j, m => by simp [dig]
  | k + 1, j, m => by
    rw [Nat.add_right_comm, dig, dig, dig_append k j, List.cons_append, Nat.div_div_eq_div_mul, two8]
theorem dig_snoc (k m : Nat) : dig (k + 1) m = dig k m ++ [UInt8.ofNat (m / 2 ^ (8 * k))] := by
  rw [dig_append k 1 m]
  simp [dig]
theorem dig_num : ∀ bs : List UInt8, dig bs.length (num bs) = bs
  | [] => rfl
  | b :: r => by
    have hb : b.toNat < 256 := b.toNat_lt
    rw [List.length_cons, dig, num]
    have h1 : UInt8.ofNat (b.toNat + 256 * num r) = b := UInt8.toNat_inj.1 (by rw [UInt8.toNat_ofNat']; omega)
    have h2 : (b.toNat + 256 * num r) / 256 = num r := by omega
    rw [h1, h2, dig_num r]
theorem num_inj {a b : List UInt8} (hl : a.length = b.length) (h : num a = num b) : a = b := by
  rw [← dig_num a, ← dig_num b, hl, h]
/-- The first k of a code's n bits, the highest first. -/
def revTo (v n : Nat) : Nat → Nat
  | 0 => 0
  | k + 1 => revTo v n k + 2 ^ k * (v / 2 ^ (n - 1 - k) % 2)
theorem revTo_lt (v n : Nat) : ∀ k, revTo v n k < 2 ^ k
  | 0 => by simp [revTo]
  | k + 1 => by
    have h := revTo_lt v n k
    rw [revTo, Nat.pow_succ]
    have : v / 2 ^ (n - 1 - k) % 2 < 2 := Nat.mod_lt _ (by omega)
    have h2 : 2 ^ k * (v / 2 ^ (n - 1 - k) % 2) ≤ 2 ^ k * 1 := Nat.mul_le_mul_left _ (by omega)
    omega
theorem code_more (M L v n k : Nat) : M + 2 ^ L * revTo v n k + 2 ^ (L + k) * (v / 2 ^ (n - 1 - k) % 2) = M + 2 ^ L * revTo v n (k + 1) := by
  rw [revTo, Nat.mul_add, Nat.pow_add, Nat.mul_assoc, Nat.add_assoc]
theorem raw_dig (q M : Nat) (bs : List UInt8) (hM : M < 2 ^ (8 * q)) : dig (q + bs.length) (M + 2 ^ (8 * q) * num bs) = dig q M ++ bs := by
  rw [dig_append, dig_add, Nat.add_mul_div_left _ _ (Nat.two_pow_pos _), Nat.div_eq_of_lt hM, Nat.zero_add, dig_num]
theorem raw_lt (q M : Nat) (bs : List UInt8) (hM : M < 2 ^ (8 * q)) : M + 2 ^ (8 * q) * num bs < 2 ^ (8 * q + 8 * bs.length) := by
  have h := num_lt bs
  rw [Nat.pow_add]
  calc M + 2 ^ (8 * q) * num bs < 2 ^ (8 * q) + 2 ^ (8 * q) * num bs := by omega
    _ = 2 ^ (8 * q) * (num bs + 1) := by rw [Nat.mul_add, Nat.mul_one, Nat.add_comm]
    _ ≤ 2 ^ (8 * q) * 2 ^ (8 * bs.length) := Nat.mul_le_mul_left _ h
theorem lt_up {M L L' : Nat} (h : M < 2 ^ L) (hl : L ≤ L') : M < 2 ^ L' := Nat.lt_of_lt_of_le h (Nat.pow_le_pow_right (by omega) hl)
/-- The lowest k bits of a number turned round. -/
def turned (v : Nat) : Nat → Nat
  | 0 => 0
  | k + 1 => 2 * turned v k + v / 2 ^ k % 2
theorem turned_lt (v : Nat) : ∀ k, turned v k < 2 ^ k
  | 0 => by simp [turned]
  | k + 1 => by
    have h := turned_lt v k
    rw [turned, Nat.pow_succ]
    omega
theorem revTo_shift (v n : Nat) : ∀ k, revTo v (n + 1) (k + 1) = v / 2 ^ n % 2 + 2 * revTo v n k
  | 0 => by simp [revTo]
  | k + 1 => by
    rw [revTo, revTo_shift v n k, revTo, show n + 1 - 1 - (k + 1) = n - 1 - k from by omega, Nat.pow_succ, Nat.mul_add, Nat.mul_comm (2 ^ k) 2, Nat.mul_assoc, Nat.add_assoc]
theorem turned_eq (v : Nat) : ∀ n, turned v n = revTo v n n
  | 0 => rfl
  | n + 1 => by rw [turned, turned_eq v n, revTo_shift, Nat.add_comm]

end Go.Proofs.YtkmpfgpfbmeihaaGreatDoor.bm
/-
  What Go's operations on bits come to, as plain arithmetic.
-/
namespace Go.Proofs.YtkmpfgpfbmeihaaGreatDoor.bm
open Go

theorem pow_le (a b : Nat) (h : a ≤ b) : 2 ^ a ≤ 2 ^ b := Nat.pow_le_pow_right (by omega) h
theorem or_add (v m k : Nat) (hv : v < 2 ^ k) : v ||| m * 2 ^ k = v + 2 ^ k * m := by
  rw [Nat.or_comm, Nat.mul_comm m, ← Nat.two_pow_add_eq_or_of_lt hv, Nat.add_comm]
theorem cast_pow_sub (q : Nat) : ((2 : Int) ^ q - 1) = ((2 ^ q - 1 : Nat) : Int) := by
  have := Nat.two_pow_pos q
  rw [Int.natCast_sub (by omega), Int.natCast_pow]
  rfl
theorem cast_pow (q : Nat) : ((2 : Int) ^ q) = ((2 ^ q : Nat) : Int) := by
  rw [Int.natCast_pow]; rfl
theorem p32 : 2 ^ 32 = 4294967296 := by decide
theorem p64 : 2 ^ 64 = 18446744073709551616 := by decide
/-- 'x & (1<<q - 1)' on a uint32. -/
theorem u32_mask (x q : Nat) (hx : x < 4294967296) (hq : q ≤ 32) : bits .and .u32 (x : Int) (((2 : Int) ^ q - 1) % 4294967296) = ((x % 2 ^ q : Nat) : Int) := by
  have h1 := pow_le q 32 hq
  rw [p32] at h1
  have h2 := Nat.two_pow_pos q
  rw [cast_pow_sub, show ((2 ^ q - 1 : Nat) : Int) % 4294967296 = ((2 ^ q - 1 : Nat) : Int) from by omega,
    u32_and_nat x (2 ^ q - 1) hx (by omega), Nat.and_two_pow_sub_one_eq_mod]
theorem mul_lt {v m k q : Nat} (hm : m < 2 ^ q) (hkq : k + q ≤ 32) : m * 2 ^ k < 4294967296 := by
  have h1 := pow_le (k + q) 32 hkq
  rw [p32, Nat.pow_add] at h1
  have h2 : m * 2 ^ k < 2 ^ q * 2 ^ k := Nat.mul_lt_mul_of_pos_right hm (Nat.two_pow_pos k)
  rw [Nat.mul_comm (2 ^ q)] at h2
  omega
theorem u32_put (v m k q : Nat) (hv : v < 2 ^ k) (hm : m < 2 ^ q) (hkq : k + q ≤ 32) : bits .or .u32 (v : Int) ((m : Int) * 2 ^ k % 4294967296) = ((v + 2 ^ k * m : Nat) : Int) := by
  have h3 := mul_lt (v := v) hm hkq
  have hv2 : v < 4294967296 := by
    have := pow_le k 32 (by omega)
    rw [p32] at this
    omega
  rw [cast_pow, ← Int.natCast_mul, show ((m * 2 ^ k : Nat) : Int) % 4294967296 = ((m * 2 ^ k : Nat) : Int) from by omega,
    u32_or_nat v (m * 2 ^ k) hv2 h3, or_add v m k hv]
/-- A round of Take. -/
theorem take_step (bs : List UInt8) (a k q vn bn : Nat) (hlt : (a + k) / 8 < bs.length) (hq : (a + k) % 8 + q ≤ 8) (hkq : k + q ≤ 32)
    (hv : num bs / 2 ^ a % 2 ^ k = vn) (hb : (bs.getD ((a + k) / 8) 0).toNat = bn) :
    bits .or .u32 (vn : Int) (bits .and .u32 ((bn : Int) / 2 ^ ((a + k) % 8)) (((2 : Int) ^ q - 1) % 4294967296) * 2 ^ k % 4294967296) = ((num bs / 2 ^ a % 2 ^ (k + q) : Nat) : Int) := by
  have hbn : bn < 256 := by rw [← hb]; exact UInt8.toNat_lt _
  have hbd : bn / 2 ^ ((a + k) % 8) < 4294967296 := Nat.lt_of_le_of_lt (Nat.div_le_self _ _) (by omega)
  have hc := chunk bs (a + k) q hlt hq
  rw [hb] at hc
  rw [more, hv, hc, cast_pow ((a + k) % 8), ← Int.natCast_ediv, u32_mask _ q hbd (by omega),
    u32_put vn _ k q (by rw [← hv]; exact Nat.mod_lt _ (Nat.two_pow_pos _)) (Nat.mod_lt _ (Nat.two_pow_pos _)) hkq]
/-- 'x & (1<<m - 1)' on a uint64. -/
theorem u64_mask (x m : Nat) (hx : x < 18446744073709551616) (hm : m ≤ 32) : bits .and .u64 (x : Int) (IntKind.u64.wrap (IntKind.u64.wrap ((2 : Int) ^ m) - 1)) = ((x % 2 ^ m : Nat) : Int) := by
  have h1 := pow_le m 32 hm
  rw [p32] at h1
  have h2 := Nat.two_pow_pos m
  have e : IntKind.u64.wrap (IntKind.u64.wrap ((2 : Int) ^ m) - 1) = ((2 ^ m - 1 : Nat) : Int) := by
    rw [IntKind.wrap_u64, IntKind.wrap_u64, cast_pow]
    omega
  rw [e, u64_and_nat x (2 ^ m - 1) hx (by omega), Nat.and_two_pow_sub_one_eq_mod]
theorem word_lt (M L : Nat) (hM : M < 2 ^ L) : M / 2 ^ (8 * (L / 8)) < 2 ^ (L % 8) := by
  rw [Nat.div_lt_iff_lt_mul (Nat.two_pow_pos _), ← Nat.pow_add]
  rwa [show L % 8 + 8 * (L / 8) = L from by omega]
theorem put_div (M L y : Nat) : (M + 2 ^ L * y) / 2 ^ (8 * (L / 8)) = M / 2 ^ (8 * (L / 8)) + 2 ^ (L % 8) * y := by
  have e : 2 ^ L = 2 ^ (8 * (L / 8)) * 2 ^ (L % 8) := by rw [← Nat.pow_add, Nat.div_add_mod]
  rw [e, Nat.mul_assoc, Nat.add_mul_div_left _ _ (Nat.two_pow_pos _)]
theorem put_lt (M L x n : Nat) (hM : M < 2 ^ L) : M + 2 ^ L * (x % 2 ^ n) < 2 ^ (L + n) := by
  have h := Nat.mod_lt x (Nat.two_pow_pos n)
  rw [Nat.pow_add]
  calc M + 2 ^ L * (x % 2 ^ n) < 2 ^ L + 2 ^ L * (x % 2 ^ n) := by omega
    _ = 2 ^ L * (x % 2 ^ n + 1) := by rw [Nat.mul_add, Nat.mul_one, Nat.add_comm]
    _ ≤ 2 ^ L * 2 ^ n := Nat.mul_le_mul_left _ h
/-- The word behind 'w.word |= uint64(v) & (1<<n - 1) << w.n'. -/
theorem put_word (M L x m : Nat) (hM : M < 2 ^ L) (hx : x < 4294967296) (hm : m ≤ 32) :
    bits .or .u64 ((M / 2 ^ (8 * (L / 8)) : Nat) : Int) (IntKind.u64.wrap (bits .and .u64 (x : Int) (IntKind.u64.wrap (IntKind.u64.wrap ((2 : Int) ^ m) - 1)) * 2 ^ (L % 8))) =
      (((M + 2 ^ L * (x % 2 ^ m)) / 2 ^ (8 * (L / 8)) : Nat) : Int) := by
  have hw := word_lt M L hM
  have hy : x % 2 ^ m < 2 ^ m := Nat.mod_lt _ (Nat.two_pow_pos m)
  have hym : x % 2 ^ m < 4294967296 := Nat.lt_of_le_of_lt (Nat.mod_le _ _) hx
  have h8 := pow_le (L % 8) 8 (by omega)
  have hp : x % 2 ^ m * 2 ^ (L % 8) ≤ 4294967296 * 256 := Nat.mul_le_mul (by omega) h8
  rw [u64_mask x m (by omega) hm, put_div, cast_pow, ← Int.natCast_mul, IntKind.wrap_u64,
    show ((x % 2 ^ m * 2 ^ (L % 8) : Nat) : Int) % 18446744073709551616 = ((x % 2 ^ m * 2 ^ (L % 8) : Nat) : Int) from by omega,
    u64_or_nat _ _ (by omega) (by omega), or_add _ _ _ hw]
/-- 'x & (2^k - 1)' on an int. -/
theorem i64_mask (x : Int) (k : Nat) (hk : k ≤ 62) : bits .and .i64 x ((2 ^ k - 1 : Nat) : Int) = x % 2 ^ k := by
  have h1 := pow_le k 62 hk
  have h2 := Nat.two_pow_pos k
  have e62 : 2 ^ 62 = 4611686018427387904 := by decide
  rw [e62] at h1
  have hx : (BitVec.ofInt 64 x).toNat = (x % 18446744073709551616).toNat := by
    rw [BitVec.toNat_ofInt]; rfl
  have hm : (BitVec.ofInt 64 ((2 ^ k - 1 : Nat) : Int)).toNat = 2 ^ k - 1 := by
    rw [BitVec.ofInt_natCast, BitVec.toNat_ofNat]; exact Nat.mod_eq_of_lt (by omega)
  show IntKind.i64.wrap ((BitVec.ofInt 64 x &&& BitVec.ofInt 64 ((2 ^ k - 1 : Nat) : Int)).toNat : Int) = _
  rw [BitVec.toNat_and, hx, hm, Nat.and_two_pow_sub_one_eq_mod]
  have h3 : (x % 18446744073709551616).toNat % 2 ^ k < 2 ^ k := Nat.mod_lt _ h2
  have h4 : (0 : Int) ≤ x % 18446744073709551616 := Int.emod_nonneg _ (by decide)
  have h5 : (((x % 18446744073709551616).toNat % 2 ^ k : Nat) : Int) = x % 2 ^ k := by
    rw [Int.natCast_emod, Int.toNat_of_nonneg h4, Int.natCast_pow]
    have hd : ((2 ^ k : Nat) : Int) ∣ 18446744073709551616 := by
      refine ⟨((2 ^ (64 - k) : Nat) : Int), ?_⟩
      rw [← Int.natCast_mul, ← Nat.pow_add, show k + (64 - k) = 64 from by omega]
      decide
    rw [Int.natCast_pow] at hd
    exact Int.emod_emod_of_dvd x hd
  rw [h5, IntKind.wrap_i64]
  have h6 : (0 : Int) ≤ x % 2 ^ k := Int.emod_nonneg _ (by rw [cast_pow]; omega)
  have h7 : x % 2 ^ k < 2 ^ k := Int.emod_lt_of_pos _ (by rw [cast_pow]; omega)
  rw [cast_pow] at h7
  rw [cast_pow] at h6 ⊢
  omega
theorem and31 (x : Int) : bits .and .i64 x 31 = x % 32 := i64_mask x 5 (by decide)
theorem and7 (x : Int) : bits .and .i64 x 7 = x % 8 := i64_mask x 3 (by decide)
/-- 't<<1 | v>>i&1'. -/
theorem turn_step (v k : Nat) (hv : v < 4294967296) (hk : k < 32) : bits .or .u32 ((turned v k : Int) * 2 % 4294967296) (bits .and .u32 ((v : Int) / 2 ^ k) 1) = (turned v (k + 1) : Int) := by
  have h1 := turned_lt v k
  have h2 := pow_le k 31 (by omega)
  have e31 : 2 ^ 31 = 2147483648 := by decide
  rw [e31] at h2
  have h3 : v / 2 ^ k < 4294967296 := Nat.lt_of_le_of_lt (Nat.div_le_self _ _) hv
  have e1 : bits .and .u32 ((v : Int) / 2 ^ k) 1 = ((v / 2 ^ k % 2 : Nat) : Int) := by
    have h := u32_and_nat (v / 2 ^ k) 1 h3 (by decide)
    rw [Nat.and_one_is_mod] at h
    rw [cast_pow, ← Int.natCast_ediv]
    exact h
  have h4 : v / 2 ^ k % 2 < 2 ^ 1 := by omega
  rw [e1, show (turned v k : Int) * 2 % 4294967296 = ((turned v k * 2 : Nat) : Int) from by omega, u32_or_nat _ _ (by omega) (by omega), turned]
  have h5 := or_add (v / 2 ^ k % 2) (turned v k) 1 h4
  rw [Nat.or_comm, show turned v k * 2 = turned v k * 2 ^ 1 from rfl, h5]
  omega
end Go.Proofs.YtkmpfgpfbmeihaaGreatDoor.bm
/-
  '|' of two ints that are not negative.
-/
namespace Go.Proofs.YtkmpfgpfbmeihaaGreatDoor.bm
open Go Go.RowKit

theorem ofInt_i64 (a : Nat) (ha : a < 9223372036854775808) : (BitVec.ofInt 64 (a : Int)).toNat = a := by
  rw [BitVec.ofInt_natCast, BitVec.toNat_ofNat]
  exact Nat.mod_eq_of_lt (by omega)
theorem i64_or_nat (a b : Nat) (ha : a < 9223372036854775808) (hb : b < 9223372036854775808) : bits .or .i64 (a : Int) (b : Int) = ((a ||| b : Nat) : Int) := by
  have hx : a ||| b < 2 ^ 63 := Nat.or_lt_two_pow (by omega) (by omega)
  show IntKind.i64.wrap ((BitVec.ofInt 64 (a : Int) ||| BitVec.ofInt 64 (b : Int)).toNat : Int) = _
  rw [BitVec.toNat_or, ofInt_i64 a ha, ofInt_i64 b hb, IntKind.wrap_i64]
  omega
/-- 'n<<k | v'. -/
theorem i64_put (n v k : Nat) (hk : k ≤ 62) (hv : v < 2 ^ k) (hn : n * 2 ^ k < 9223372036854775808) : bits .or .i64 ((n : Int) * ((2 ^ k : Nat) : Int)) (v : Int) = ((n * 2 ^ k + v : Nat) : Int) := by
  have h1 := pow_le k 62 hk
  have e62 : 2 ^ 62 = 4611686018427387904 := by decide
  rw [e62] at h1
  rw [← Int.natCast_mul, i64_or_nat _ _ hn (by omega), Nat.or_comm, or_add v n k hv, Nat.mul_comm n, Nat.add_comm]
end Go.Proofs.YtkmpfgpfbmeihaaGreatDoor.bm
/-
  A region that draws its order, whose first n operations only read and whose last ones follow in one order: walked once, the first part by the kit's quiet walk.
-/
namespace Go.Proofs.YtkmpfgpfbmeihaaGreatDoor.lib
open Go

theorem still_of_quiet {P : Program} {ops : Array Oper} {w : World} {L : Act → Prop} : ∀ (l : List Oper) (a : Act), wpQuiet P ops (fun w' => w' = w) L l a → wpStill P ops w L l a
  | [], _, h => h
  | o :: rest, a, h => by
    unfold wpQuiet at h
    unfold wpStill
    by_cases hw : Region.wanted o (yielded ops a.tmps) = true
    · rw [if_pos hw] at h ⊢
      obtain ⟨v, h1, h2⟩ := h
      have h3 := h1 w rfl
      have h4 := still_of_quiet rest _ h2
      unfold Oper.quietAt at h3
      unfold Oper.still
      generalize (execOp a.eval o).run P w = r at *
      cases r with
      | ok n w' =>
        cases n <;> simp only [Oper.quietUpon] at h3 <;> simp only [Oper.stillUpon]
        case value u => exact ⟨h3.1, h3.2 ▸ h4⟩
        case skip => exact ⟨h3.1, h3.2 ▸ h4⟩
        case enter f args => exact ⟨h3.1, v, h3.2, h4⟩
      | halt x w' => simp only [Oper.quietUpon] at h3
    · rw [if_neg hw] at h ⊢
      exact still_of_quiet rest _ h
theorem region_tail {P : Program} {id : Nat} {Q : Exit → Act → World → Prop} {a : Act} {w : World} {l : List Oper} (n : Nat) (hm : P.follows .mixedOrders = true) (hB : Region.lexTailB .any l.toArray n = true)
    (h : wpQuiet P l.toArray (fun w' => w' = w.drew) (fun a' => wpList P l.toArray Q (l.drop n) a' w.drew) (l.take n) a) : (Code.region id l.toArray true).wp P Q a w :=
  wp_region_still_tail n hm hB (still_of_quiet _ _ h)
end Go.Proofs.YtkmpfgpfbmeihaaGreatDoor.lib
/-
  A region that draws its order, of operations that read beside operations that make or write memory (these one behind the other): walked once, in one order.
-/
namespace Go.Proofs.YtkmpfgpfbmeihaaGreatDoor.lib
open Go

/-! ### Operations that hand back a value and enter no function -/
def okKind : Op → Bool
  | .move _ | .assign _ | .pick .. | .load .. | .nilCheck _ | .binOp .. | .unOp .. | .convert .. | .slice .. | .fieldAddr .. | .field .. | .indexAddr .. | .index .. | .extract .. | .makeInterface .. => true
  | .call { callee := .builtin .len, .. } | .call { callee := .builtin .cap, .. } | .call { callee := .builtin .min, .. } | .call { callee := .builtin .max, .. } => true
  | _ => false
theorem no_enter_v {P : Program} {w w' : World} {s : Sem Value} {f : FuncId} {args : Array Value} : (do pure (Next.value (← s)) : Sem Next).run P w ≠ .ok (.enter f args) w' := by
  intro h
  rw [Sem.run_bind] at h
  cases hr : s.run P w with
  | ok v u => rw [hr] at h; simp [Result.andThen] at h
  | halt x u => rw [hr] at h; simp [Result.andThen] at h
theorem okKind_enter {P : Program} {w w' : World} {ρ : Operand → Value} {o : Oper} {f : FuncId} {args : Array Value} (h : okKind o.op = true) : (execOp ρ o).run P w ≠ .ok (.enter f args) w' := by
  obtain ⟨dst, op, ty, pos, after, guard⟩ := o
  cases op <;> simp only [okKind, Bool.false_eq_true] at h <;> try (exact no_enter_v)
  case move => simp [execOp]
  case assign => simp [execOp]
  case pick c a b =>
    intro h
    simp only [execOp, Sem.run_bind] at h
    cases hr : (asBool (ρ c)).run P w with
    | ok v u => rw [hr] at h; simp [Result.andThen] at h
    | halt x u => rw [hr] at h; simp [Result.andThen] at h
  case nilCheck x =>
    intro h
    simp only [execOp] at h
    split at h
    · simp [runtimePanic, goPanic] at h
    · simp [runtimePanic, goPanic] at h
    · simp [runtimePanic, goPanic] at h
    · split at h
      · simp [runtimePanic, goPanic] at h
      · simp [unsupported, Result.andThen] at h
        split at h
        · split at h <;> simp at h
        · simp at h
      · simp at h
    · simp at h
  case call c =>
    obtain ⟨callee, args, ts⟩ := c
    cases callee with
    | value f => simp [okKind] at h
    | invoke r m => simp [okKind] at h
    | builtin b =>
      cases b <;> simp [okKind] at h <;> (simp only [execOp, resolve, pure_bind, invoke, builtin]; exact no_enter_v)
/-- A quiet operation of such a kind hands back its value and leaves the world. -/
theorem runs_of_quiet {P : Program} {o : Oper} {a : Act} {C : World → Prop} {w : World} {v : Value} (hk : okKind o.op = true) (h : o.quietAt P a C w v) :
    (execOp a.eval o).run P w = .ok (.value v) w ∨ ((execOp a.eval o).run P w = .ok .skip w ∧ v = undef) := by
  unfold Oper.quietAt at h
  generalize hr : (execOp a.eval o).run P w = r at h
  cases r with
  | ok n w' =>
    cases n <;> simp only [Oper.quietUpon] at h
    case value u => left; rw [h.1, h.2]
    case skip => right; rw [h.1]; exact ⟨rfl, h.2⟩
    case enter f args => exact absurd hr (okKind_enter hk)
  | halt x w' => simp only [Oper.quietUpon] at h

/-! ### Worlds that a region's operations may come to -/
open Classical in
/-- Any world in which, of w's blocks, those of S alone may have turned. -/
noncomputable def sup (S : List Nat) (w x : World) : World := if Fr S w x then x else w
theorem sup_fr (S : List Nat) (w x : World) : Fr S w (sup S w x) := by
  unfold sup
  split
  · assumption
  · exact Fr.refl _ _
theorem sup_self {S : List Nat} {w x : World} (h : Fr S w x) : sup S w x = x := by unfold sup; rw [if_pos h]
@[go_sem] def Sup (S : List Nat) (w : World) : World → Prop := fun u => ∃ x, u = sup S w x
theorem Sup.of {S : List Nat} {w u : World} (h : Fr S w u) : Sup S w u := ⟨u, (sup_self h).symm⟩
theorem Sup.fr {S : List Nat} {w u : World} (h : Sup S w u) : Fr S w u := by obtain ⟨x, rfl⟩ := h; exact sup_fr S w x
theorem Sup.sub {S : List Nat} {w w' : World} (h : Fr S w w') : ∀ u, Sup S w' u → Sup S w u := fun u hu => Sup.of (h.trans hu.fr)
@[go_sem] theorem cell?_sup {S : List Nat} {w x : World} {a : Addr} (h : (w.cell? a).isSome = true) (hn : a.block ∉ S) : (sup S w x).cell? a = w.cell? a := by
  obtain ⟨v, hv⟩ := Option.isSome_iff_exists.1 h
  rw [hv, (sup_fr S w x).cell hv hn]

/-! ### The law -/
section
variable {P : Program} {ops : Array Oper} {Q : Exit → Act → World → Prop} {md : Region.Mode}

/-- In this state, in every world of C, the operation leaves v and the world. -/
def QY (P : Program) (ops : Array Oper) (C : World → Prop) (o : Oper) (v : Value) (a : Act) : Prop :=
  (Region.wanted o (yielded ops a.tmps) = true ∧ ∀ w, C w → (execOp a.eval o).run P w = .ok (.value v) w ∨ ((execOp a.eval o).run P w = .ok .skip w ∧ v = undef)) ∨
  (Region.wanted o (yielded ops a.tmps) = false ∧ v = undef)
theorem QY.of_same {C : World → Prop} {o : Oper} {v : Value} {a a' : Act} (hy : QY P ops C o v a) (he : execOp a'.eval o = execOp a.eval o)
    (hw : Region.wanted o (yielded ops a'.tmps) = Region.wanted o (yielded ops a.tmps)) : QY P ops C o v a' := by
  unfold QY at *
  rw [he, hw]
  exact hy
theorem QY.op {C : World → Prop} {i : Nat} {o : Oper} {v : Value} {a : Act} (hi : ops[i]? = some o) (hy : QY P ops C o v a) {K : Act → World → Prop} {w : World} (hC : C w) (h : K (a.put o.dst v) w) : wpOp P ops Q i K a w := by
  unfold wpOp
  simp only [hi]
  rcases hy with ⟨hw, hv⟩ | ⟨hw, rfl⟩
  · rcases hv w hC with hr | ⟨hr, rfl⟩
    · simp only [hw, if_true, Oper.wp, hr, Oper.upon]; exact .inl h
    · simp only [hw, if_true, Oper.wp, hr, Oper.upon]; exact .inl h
  · simp only [hw, Bool.false_eq_true, if_false]; exact h
theorem put_of_QY {C : World → Prop} {j : Nat} {oi oj : Oper} {v : Value} (hj : ops[j]? = some oj) (hap : oi.apart ops oj = true)
    (hsi : ∀ cs b, oi.op ≠ .select cs b) (hsj : ∀ cs b, oj.op ≠ .select cs b)
    (hQ : ∀ c a d v w, Q (.panic c) (Act.put a d v) w → Q (.panic c) a w) {K : Act → World → Prop} {a : Act} {w : World}
    (hy : QY P ops C oi v a) (h : wpOp P ops Q j K (a.put oi.dst v) w) :
    wpOp P ops Q j (fun a' w' => QY P ops C oi v a' ∧ K (a'.put oi.dst v) w') a w := by
  obtain ⟨h1, h2, h3⟩ := Oper.apart_spec hap
  have keep : ∀ (a : Act), QY P ops C oi v a → ∀ u, QY P ops C oi v (a.put oj.dst u) := fun a hy u =>
    hy.of_same (execOp_put oi hsi a oj.dst u h3) (wanted_put oi a oj.dst u h3)
  have keepD : ∀ d, QY P ops C oi v { a with defers := d :: a.defers } := fun d => hy.of_same rfl rfl
  unfold wpOp at *
  simp only [hj] at *
  rw [wanted_put oj a oi.dst v h1] at h
  by_cases hw : Region.wanted oj (yielded ops a.tmps) = true
  · simp only [hw, if_true] at h ⊢
    rcases h with h | ⟨hasks, hlets⟩
    · left
      unfold Oper.wp at *
      rw [execOp_put oj hsj a oi.dst v h1] at h
      generalize (execOp a.eval oj).run P w = r at *
      cases r with
      | ok n w' =>
        cases n <;> simp only [Oper.upon] at h ⊢
        case value u => exact ⟨keep a hy u, by rw [← Act.put_comm a v u h2]; exact h⟩
        case skip => exact ⟨keep a hy _, by rw [← Act.put_comm a v undef h2]; exact h⟩
        case defer d =>
          refine ⟨keep _ (keepD d) _, ?_⟩
          rw [← Act.put_comm _ v undef h2, ← Act.put_defers]
          exact h
        case enter f args =>
          refine Calls.mono h fun e w'' he => ?_
          cases e with
          | returned u => exact ⟨keep a hy u, by rw [← Act.put_comm a v u h2]; exact he⟩
          | panicked c => exact hQ _ _ _ _ _ he
          | outgrown => exact he
        case row row args => exact Rows.mono h fun u w'' he => ⟨keep a hy u, by rw [← Act.put_comm a v u h2]; exact he⟩
      | halt x w' =>
        cases x <;> simp only [Oper.upon] at h ⊢
        case panic u => exact hQ _ _ _ _ _ h
    · right
      refine ⟨?_, hlets⟩
      unfold Oper.asks at *
      rw [execOp_put oj hsj a oi.dst v h1] at hasks
      exact hasks
  · simp only [hw] at h ⊢
    exact ⟨keep a hy _, by rw [← Act.put_comm a v undef h2]; exact h⟩

/-- Whatever order is picked from here on; C holds behind each operation of the first n. -/
def wpMx (P : Program) (md : Region.Mode) (ops : Array Oper) (Q : Exit → Act → World → Prop) (n : Nat) (C : World → Prop) : Nat → Array Bool → Act → World → Prop
  | 0, listed, a, w => Region.ready md ops listed = [] ∧ Q .normal a w
  | f + 1, listed, a, w => (Region.ready md ops listed = [] → Q .normal a w) ∧
    ∀ i ∈ Region.ready md ops listed, wpOp P ops Q i (fun a' w' => (i < n → C w') ∧ wpMx P md ops Q n C f (listed.setIfInBounds i true) a' w') a w
theorem wpMx_mono {n : Nat} {C C' : World → Prop} (hC : ∀ u, C' u → C u) : ∀ (f : Nat) (listed : Array Bool) (a : Act) (w : World), wpMx P md ops Q n C' f listed a w → wpMx P md ops Q n C f listed a w
  | 0, _, _, _, h => h
  | f + 1, _, _, _, h => ⟨h.1, fun i hi => wpOp_mono (fun a' w' h' => ⟨fun hn => hC _ (h'.1 hn), wpMx_mono hC f _ a' w' h'.2⟩) (h.2 i hi)⟩
theorem wpAny_of_mx {n : Nat} {C : World → Prop} : ∀ (f : Nat) (listed : Array Bool) (a : Act) (w : World), wpMx P md ops Q n C f listed a w → wpAny P md ops Q f listed a w
  | 0, _, _, _, h => h
  | f + 1, _, _, _, h => ⟨h.1, fun i hi => wpOp_mono (fun a' w' h' => wpAny_of_mx f _ a' w' h'.2) (h.2 i hi)⟩
/-- A quiet operation of the first n may be taken first. -/
theorem wpMx_first {n i : Nat} {oi : Oper} {v : Value} {C : World → Prop} (hi : ops[i]? = some oi) (hsel : ∀ (j : Nat) (o : Oper) cs b, ops[j]? = some o → o.op ≠ .select cs b)
    (hQ : ∀ c a d v w, Q (.panic c) (Act.put a d v) w → Q (.panic c) a w) (hin : i < n)
    (hT : ∀ listed, HeadInv md ops n listed → listed.getD i true = false → ∀ t, n ≤ t → t ∉ Region.ready md ops listed) :
    ∀ (f : Nat) (listed : Array Bool) (a : Act) (w : World), HeadInv md ops n listed →
      (∀ j oj, ops[j]? = some oj → j ≠ i → listed.getD j true = false → (∀ e ∈ oj.after, Region.binds md e = true → e.on ≠ i) → oi.apart ops oj = true) →
      i ∈ Region.ready md ops listed → QY P ops C oi v a → C w →
      wpMx P md ops Q n C f (listed.setIfInBounds i true) (a.put oi.dst v) w → wpMx P md ops Q n C (f + 1) listed a w := by
  intro f
  induction f with
  | zero =>
    intro listed a w inv _ hr hy hC H
    refine ⟨fun h => (by rw [h] at hr; cases hr), fun j hj => ?_⟩
    by_cases hji : j = i
    · subst hji; exact hy.op hi hC ⟨fun _ => hC, H⟩
    · have := ready_mono hj hji
      rw [H.1] at this
      cases this
  | succ f ih =>
    intro listed a w inv hfree hr hy hC H
    have hun := (mem_ready.1 hr).1
    refine ⟨fun h => (by rw [h] at hr; cases hr), fun j hj => ?_⟩
    by_cases hji : j = i
    · subst hji; exact hy.op hi hC ⟨fun _ => hC, H⟩
    · have hjn : j < n := by
        rcases Nat.lt_or_ge j n with h | h
        · exact h
        · exact absurd hj (hT listed inv hun j h)
      have h1 := H.2 j (ready_mono hj hji)
      obtain ⟨hjun, oj, hoj, hall⟩ := mem_ready.1 hj
      have hnot : ∀ e ∈ oj.after, Region.binds md e = true → e.on ≠ i := fun e he hb heq => by
        have h1 := hall e he hb
        rw [heq, getD_both hun] at h1
        cases h1
      have h2 := put_of_QY hoj (hfree j oj hoj hji hjun hnot) (fun cs b => hsel i oi cs b hi) (fun cs b => hsel j oj cs b hoj) hQ hy h1
      have hfree' : ∀ k ok, ops[k]? = some ok → k ≠ i → (listed.setIfInBounds j true).getD k true = false →
          (∀ e ∈ ok.after, Region.binds md e = true → e.on ≠ i) → oi.apart ops ok = true := fun k ok hk hki hkun hno => by
        refine hfree k ok hk hki ?_ hno
        by_cases hjk : j = k
        · subst hjk; exact hjun
        · rw [getD_set_ne true hjk] at hkun; exact hkun
      refine wpOp_mono (fun a' w' h3 => ⟨h3.2.1, ?_⟩) h2
      refine ih (listed.setIfInBounds j true) a' w' (inv.set hj hjn) hfree' (ready_mono hr (Ne.symm hji)) h3.1 (h3.2.1 hjn) ?_
      rw [Array.setIfInBounds_comm _ _ hji]
      exact h3.2.2
theorem wpMx_of_seq {n : Nat} {C : World → Prop} : ∀ (l : List Oper) (k : Nat) (listed : Array Bool) (a : Act) (w : World), n ≤ k → (∀ j, l[j]? = ops[k + j]?) →
    Region.seqB md ops l.length k listed = true → wpList P ops Q l a w → wpMx P md ops Q n C l.length listed a w
  | [], _, _, _, _, _, _, hB, h => ⟨by simpa [Region.seqB] using hB, h⟩
  | o :: l, k, listed, a, w, hk, hl, hB, h => by
    have h0 : ops[k]? = some o := by simpa using (hl 0).symm
    simp only [List.length_cons, Region.seqB, Bool.and_eq_true, decide_eq_true_eq] at hB
    refine ⟨fun h1 => (by rw [hB.1] at h1; cases h1), fun i hi => ?_⟩
    rw [hB.1] at hi
    have hik : i = k := by simpa using hi
    subst hik
    have hw : wpOp P ops Q i (wpList P ops Q l) a w := by unfold wpOp; simp only [h0]; exact h
    exact wpOp_mono (fun a' w' h' => ⟨fun hlt => by omega, wpMx_of_seq l (i + 1) _ a' w' (by omega) (fun j => by have := hl (j + 1); simpa [Nat.add_assoc, Nat.add_comm 1 j] using this) hB.2 h'⟩) hw

/-- The one walk: 'false': the operation is quiet in all worlds that may come; 'true': it may turn blocks of S. Behind them the tail. -/
def mixQ (P : Program) (ops : Array Oper) (S : List Nat) (Q : Exit → Act → World → Prop) (tail : List Oper) : List (Bool × Oper) → Act → World → Prop
  | [], a, w => wpList P ops Q tail a w
  | (false, o) :: rest, a, w => if Region.wanted o (yielded ops a.tmps) then o.quiet P a (Sup S w) (fun a' => mixQ P ops S Q tail rest a' w) else mixQ P ops S Q tail rest (a.put o.dst undef) w
  | (true, o) :: rest, a, w => if Region.wanted o (yielded ops a.tmps) then o.wp P a w (fun a' w' => Fr S w w' ∧ mixQ P ops S Q tail rest a' w') Q else mixQ P ops S Q tail rest (a.put o.dst undef) w
def mixB (md : Region.Mode) (ops : Array Oper) (n : Nat) : List (Bool × Nat) → Array Bool → Bool
  | [], listed => Region.seqB md ops (ops.size - n) n listed
  | (e, i) :: rest, listed => decide (i < n) && (match e with
      | true => decide (Region.ready md ops listed = [i])
      | false => (Region.ready md ops listed).contains i && Region.free md ops listed i && (match ops[i]? with | some o => okKind o.op | none => false)) && mixB md ops n rest (listed.setIfInBounds i true)
def mixAll (md : Region.Mode) (ops : Array Oper) (n : Nat) (order : List (Bool × Nat)) : Bool :=
  Region.noSelect ops && (decide (n = ops.size) || (decide (n < ops.size) && Region.sinkB md ops n && Region.chainB md ops n)) && decide (order.length + (ops.size - n) = ops.size) && mixB md ops n order (Array.replicate ops.size false)

theorem mx_walk {n : Nat} {S : List Nat} {l : List Oper} (hl : ops = l.toArray) (hsel : Region.noSelect ops = true) (hQ : ∀ c a d v w, Q (.panic c) (Act.put a d v) w → Q (.panic c) a w)
    (hT : ∀ i, i < n → ∀ listed, HeadInv md ops n listed → listed.getD i true = false → ∀ t, n ≤ t → t ∉ Region.ready md ops listed) :
    ∀ (order : List (Bool × Nat)) (listed : Array Bool) (a : Act) (w : World), HeadInv md ops n listed → mixB md ops n order listed = true →
      mixQ P ops S Q (l.drop n) (order.map fun x => (x.1, l.getD x.2 default)) a w → wpMx P md ops Q n (Sup S w) (order.length + (ops.size - n)) listed a w
  | [], listed, a, w, _, hB, h => by
    have hlen : (l.drop n).length = ops.size - n := by rw [hl]; simp
    have := wpMx_of_seq (P := P) (Q := Q) (md := md) (ops := ops) (n := n) (C := Sup S w) (l.drop n) n listed a w (Nat.le_refl _) (fun j => by rw [hl]; simp [List.getElem?_drop]) (by rw [hlen]; exact hB) h
    simpa [hlen] using this
  | (e, i) :: rest, listed, a, w, inv, hB, h => by
    simp only [mixB, Bool.and_eq_true, decide_eq_true_eq] at hB
    obtain ⟨⟨hin, he⟩, hrest⟩ := hB
    have hlen : ((e, i) :: rest).length + (ops.size - n) = rest.length + (ops.size - n) + 1 := by simp; omega
    rw [hlen]
    cases e with
    | false =>
      simp only [Bool.and_eq_true] at he
      obtain ⟨⟨hr, hf⟩, hk⟩ := he
      have hr' : i ∈ Region.ready md ops listed := by simpa using hr
      obtain ⟨_, oi, hoi, _⟩ := mem_ready.1 hr'
      rw [hoi] at hk
      have hd : l.getD i default = oi := by
        rw [hl] at hoi
        simp at hoi
        simp [List.getD, hoi]
      simp only [List.map_cons, hd, mixQ] at h
      have hC : Sup S w w := Sup.of (Fr.refl _ _)
      by_cases hw : Region.wanted oi (yielded ops a.tmps) = true
      · rw [if_pos hw] at h
        obtain ⟨v, h1, h2⟩ := h
        have hy : QY P ops (Sup S w) oi v a := .inl ⟨hw, fun u hu => runs_of_quiet hk (h1 u hu)⟩
        exact wpMx_first hoi (Region.noSelect_spec hsel) hQ hin (hT i hin) _ listed a w inv (Region.free_spec hoi hf) hr' hy hC (mx_walk hl hsel hQ hT rest _ _ w (inv.set hr' hin) hrest h2)
      · rw [if_neg hw] at h
        have hy : QY P ops (Sup S w) oi undef a := .inr ⟨by simpa using hw, rfl⟩
        exact wpMx_first hoi (Region.noSelect_spec hsel) hQ hin (hT i hin) _ listed a w inv (Region.free_spec hoi hf) hr' hy hC (mx_walk hl hsel hQ hT rest _ _ w (inv.set hr' hin) hrest h)
    | true =>
      simp only [decide_eq_true_eq] at he
      have hr' : i ∈ Region.ready md ops listed := by rw [he]; simp
      obtain ⟨_, oi, hoi, _⟩ := mem_ready.1 hr'
      have hd : l.getD i default = oi := by
        rw [hl] at hoi
        simp at hoi
        simp [List.getD, hoi]
      simp only [List.map_cons, hd, mixQ] at h
      refine ⟨fun h0 => (by rw [h0] at hr'; cases hr'), fun j hj => ?_⟩
      rw [he] at hj
      have hji : j = i := by simpa using hj
      subst hji
      unfold wpOp
      simp only [hoi]
      by_cases hw : Region.wanted oi (yielded ops a.tmps) = true
      · rw [if_pos hw] at h
        rw [if_pos hw]
        left
        exact Oper.wp_mono (fun a' w' h' => ⟨fun _ => Sup.of h'.1, wpMx_mono (Sup.sub h'.1) _ _ _ _ (mx_walk hl hsel hQ hT rest _ a' w' (inv.set hr' hin) hrest h'.2)⟩) h
      · rw [if_neg hw] at h
        rw [if_neg hw]
        exact ⟨fun _ => Sup.of (Fr.refl _ _), mx_walk hl hsel hQ hT rest _ _ w (inv.set hr' hin) hrest h⟩

theorem region_mix {id : Nat} {a : Act} {w : World} {l : List Oper} (n : Nat) (order : List (Bool × Nat)) (S : List Nat) (hm : P.follows .mixedOrders = true) (hB : mixAll .any l.toArray n order = true)
    (hQ : ∀ c a d v w, Q (.panic c) (Act.put a d v) w → Q (.panic c) a w)
    (h : mixQ P l.toArray S Q (l.drop n) (order.map fun x => (x.1, l.getD x.2 default)) a w.drew) : (Code.region id l.toArray true).wp P Q a w := by
  simp only [mixAll, Bool.and_eq_true, decide_eq_true_eq, Bool.or_eq_true] at hB
  obtain ⟨⟨⟨hsel, hn⟩, hlen⟩, hmix⟩ := hB
  have inv0 : HeadInv .any l.toArray n (Array.replicate l.toArray.size false) :=
    ⟨by simp, fun j oj _ hl => (by rw [getD_replicate_false] at hl; cases hl), fun t _ ht => getD_in (by simpa using ht) (getD_replicate_false _ _)⟩
  have hT : ∀ i, i < n → ∀ listed, HeadInv .any l.toArray n listed → listed.getD i true = false → ∀ t, n ≤ t → t ∉ Region.ready .any l.toArray listed := by
    intro i hi listed inv hun t ht hr
    rcases hn with hn | ⟨⟨hn, hs⟩, hc⟩
    · obtain ⟨_, o, ho, _⟩ := mem_ready.1 hr
      have := (Array.getElem?_eq_some_iff.1 ho).1
      omega
    · exact tail_waits hs hc hn inv _ i rfl hi hun t ht hr
  refine wp_region_any hm (wpAny_of_mx (n := n) (C := Sup S w.drew) _ _ _ _ ?_)
  have := mx_walk (P := P) (Q := Q) (md := .any) (n := n) (S := S) rfl hsel hQ hT order _ a w.drew inv0 hmix h
  rw [hlen] at this
  exact this

theorem mix_seg {S : List Nat} {tail : List Oper} {items : List (Bool × Oper)} {a : Act} {w : World} (k : Nat) (h0 : ((items.take k).all fun x => !x.1) = true)
    (h : wpQuiet P ops (Sup S w) (fun a' => mixQ P ops S Q tail (items.drop k) a' w) ((items.take k).map (·.2)) a) : mixQ P ops S Q tail items a w := by
  induction k generalizing items a with
  | zero => exact h
  | succ k ih =>
    cases items with
    | nil => exact h
    | cons x rest =>
      obtain ⟨b, o⟩ := x
      simp only [List.take_succ_cons, List.all_cons, Bool.and_eq_true, Bool.not_eq_true'] at h0
      obtain ⟨rfl, h0⟩ := h0
      simp only [List.take_succ_cons, List.map_cons, List.drop_succ_cons, wpQuiet] at h
      unfold mixQ
      by_cases hw : Region.wanted o (yielded ops a.tmps) = true
      · rw [if_pos hw] at h ⊢
        obtain ⟨v, h1, h2⟩ := h
        exact ⟨v, h1, ih h0 h2⟩
      · rw [if_neg hw] at h ⊢
        exact ih h0 h
theorem mix_eff {S : List Nat} {tail : List Oper} {rest : List (Bool × Oper)} {o : Oper} {a : Act} {w : World} (hw : Region.wanted o (yielded ops a.tmps) = true)
    (h : ∀ K : Act → World → Prop, Go.RowKit.Hid (∀ a' w', Fr S w w' → mixQ P ops S Q tail rest a' w' → K a' w') → o.wp P a w K Q) : mixQ P ops S Q tail ((true, o) :: rest) a w := by
  unfold mixQ
  rw [if_pos hw]
  exact h _ fun _ _ h1 h2 => ⟨h1, h2⟩
theorem mix_off {S : List Nat} {tail : List Oper} {rest : List (Bool × Oper)} {o : Oper} {a : Act} {w : World} (hw : Region.wanted o (yielded ops a.tmps) = false)
    (h : mixQ P ops S Q tail rest (a.put o.dst undef) w) : mixQ P ops S Q tail ((true, o) :: rest) a w := by
  unfold mixQ
  rw [if_neg (by rw [hw]; exact Bool.false_ne_true)]
  exact h
theorem mix_nil {S : List Nat} {tail : List Oper} {a : Act} {w : World} (h : wpList P ops Q tail a w) : mixQ P ops S Q tail [] a w := h
end
theorem run_conv_sup {P : Program} (S : List Nat) (w : World) {src dst e : TypeId} (hs : P.underlying src = some (.slice e)) (he : P.underlying e = some (.int .u8)) (hd : P.underlying dst = some .string)
    {ao : Option Addr} {n : Nat} {bs : List UInt8} (hn : bs.length = n) (hcs : Cs w ao (bs.map bv)) (hb : ∀ x ∈ blk ao, x ∉ S) :
    ∀ x cap, (convert src dst (.slice ao n cap)).run P (sup S w x) = .ok (.string (str bs)) (sup S w x) :=
  fun x cap => run_conv (sup S w x) hs he hd hn (hcs.fr (sup_fr S w x) hb) cap
end Go.Proofs.YtkmpfgpfbmeihaaGreatDoor.lib
/-
  append onto a slice that has no room: always a new block.
-/
namespace Go.Proofs.YtkmpfgpfbmeihaaGreatDoor.lib
open Go Go.RowKit
section
variable {P : Program} {w : World} {t e : TypeId} {z : Value} {size bytes : Nat}
theorem cs_add {g o : Nat} {vs : List Value} (h : ∀ j v, vs[j]? = some v → w.cell? ⟨g, o + j, none⟩ = some v) : ∀ j v, vs[j]? = some v → w.cell? ((⟨g, o, none⟩ : Addr).add j) = some v := fun j v hv => by rw [addr_add]; exact h j v hv
theorem run_append_full (T : SliceTy P t e z size bytes) (ty : TypeId) (b : Option Addr) (n c : Nat) (olds : List Value) (hb : Cs w b olds) (hol : olds.length = n * size) (hnc : n ≤ c) (hbn : b = none → c = 0)
    (ao : Option Addr) (m c' : Nat) (news : List Value) (hc : Cs w ao news) (hl : news.length = m * size) (hfull : c < n + m)
    (hby : (n + m) * bytes ≤ 140737488355328) (h63 : n + m ≤ maxLen) :
    ∃ cap' w', (Builtin.append_ #[t, t] ty #[.slice b n c, .slice ao m c']).run P w = .ok (.slice (some ⟨w.heap.size, 0, none⟩) (n + m) cap') w' ∧ Appended w w' e size [] (some ⟨w.heap.size, 0, none⟩) (n + m) cap' (olds ++ news) := by
  obtain ⟨hu, ⟨i, hi, hz, hs, hbt⟩, hcz, hp⟩ := T
  have hsmall : n + m ≤ 9223372036854775807 := by simp only [maxLen] at h63; omega
  have hne : 0 < news.length := by rw [hl]; exact Nat.mul_pos (by omega) hp
  obtain ⟨g, o, rfl, hcn⟩ := hc.at hne
  have hn' := cs_add hcn
  have key : ∀ (old : Nat), old < n + m → Appended w (w.drew.alloc (.cells (olds.toArray ++ news.toArray ++ Builtin.zeroCells z.cells (grownCap w (n + m) old e - (n + m))) e)) e size []
      (some ⟨w.heap.size, 0, none⟩) (n + m) (grownCap w (n + m) old e) (olds ++ news) := by
    intro old ho
    have hge := grownCap_ge w (n + m) old e
    have hcm : grownCap w (n + m) old e ≤ maxLen := grownCap_le_maxLen w (n + m) old e h63
    refine ⟨⟨by rw [List.length_append, hol, hl, Nat.add_mul], .inr ⟨w.heap.size, _, _, rfl, Nat.zero_le _, heap_alloc_new w.drew _, hge, hcm, ?_, ?_⟩⟩, (Fr.drew1 [] w).alloc _, fun x hx => by right; simpa [blk] using hx, hge, hcm, fun h => by cases h⟩
    · simp only [Array.size_append, List.size_toArray, size_zeroCells, hcz, hol, hl]
      rw [← Nat.add_mul, ← Nat.add_mul]
      congr 1
      omega
    · simp only [Array.toList_append]
      rw [List.take_append_of_le_length (by simp [hol, hl, Nat.add_mul])]
      rw [List.take_of_length_le (by simp [hol, hl, Nat.add_mul])]
  cases b with
  | none =>
    have hc0 := hbn rfl
    subst hc0
    obtain rfl : n = 0 := by omega
    obtain rfl : olds = [] := List.eq_nil_of_length_eq_zero (by simpa using hol)
    have hr := run_append_nil (P := P) w t ty e i z hu hi hz ⟨g, o, none⟩ m c' news (by rw [hs]; exact hl) hn' (by omega) (by omega) (by rw [hbt]; simp at hby; omega)
    have hk := key 0 (by omega)
    simp only [Nat.zero_add, List.nil_append, Array.empty_append] at hk ⊢
    exact ⟨_, _, hr, hk⟩
  | some a =>
    have ho : ∀ j v, olds[j]? = some v → w.cell? (a.add j) = some v := by
      intro j v hv
      rcases hb with rfl | ⟨g', o', ha, hb⟩
      · simp at hv
      · obtain rfl := Option.some.inj ha
        rw [addr_add]
        exact hb j v hv
    have hfit : Builtin.nextslicecap (n + m) c * i.bytes ≤ 281474976710656 := by rw [hbt]; exact growslice_fits (by omega) (by omega)
    have hr := run_append_grow (P := P) w t ty e i z hu hi hz a n c olds (by rw [hs]; exact hol) ho ⟨g, o, none⟩ m c' news (by rw [hs]; exact hl) hn' hfull (by omega) hfit
    exact ⟨_, _, hr, key c hfull⟩
theorem wp_append_full (T : SliceTy P t e z size bytes) {o : Oper} {a : Act} {K : Act → World → Prop} {Q : Exit → Act → World → Prop} (s x : Operand)
    (ho : o.op = .call { callee := .builtin .append, args := #[s, x], argTypes := #[t, t] })
    (b : Option Addr) (n c : Nat) (olds : List Value) (hs : a.eval s = .slice b n c) (hb : Cs w b olds) (hol : olds.length = n * size) (hnc : n ≤ c) (hbn : b = none → c = 0)
    (ao : Option Addr) (m c' : Nat) (news : List Value) (hx : a.eval x = .slice ao m c') (hc : Cs w ao news) (hl : news.length = m * size) (hfull : c < n + m)
    (hby : (n + m) * bytes ≤ 140737488355328) (h63 : n + m ≤ maxLen)
    (h : ∀ cap' w', Appended w w' e size [] (some ⟨w.heap.size, 0, none⟩) (n + m) cap' (olds ++ news) → K (a.put o.dst (.slice (some ⟨w.heap.size, 0, none⟩) (n + m) cap')) w') : o.wp P a w K Q := by
  obtain ⟨cap', w', hr, h2⟩ := run_append_full (P := P) T o.type b n c olds hb hol hnc hbn ao m c' news hc hl hfull hby h63
  unfold Oper.wp execOp
  simp only [ho, resolve, invoke, builtin, Sem.run_bind, Sem.run_pure, Result.andThen_ok, List.map_toArray, List.map_cons, List.map_nil, hs, hx, hr]
  exact h cap' w' h2
theorem wpList_append_full (T : SliceTy P t e z size bytes) {ops : Array Oper} {rest : List Oper} {o : Oper} {a : Act} {Q : Exit → Act → World → Prop} (hgd : o.guard = none) (s x : Operand)
    (ho : o.op = .call { callee := .builtin .append, args := #[s, x], argTypes := #[t, t] })
    (b : Option Addr) (n c : Nat) (olds : List Value) (hs : a.eval s = .slice b n c) (hb : Cs w b olds) (hol : olds.length = n * size) (hnc : n ≤ c) (hbn : b = none → c = 0)
    (ao : Option Addr) (m c' : Nat) (news : List Value) (hx : a.eval x = .slice ao m c') (hc : Cs w ao news) (hl : news.length = m * size) (hfull : c < n + m)
    (hby : (n + m) * bytes ≤ 140737488355328) (h63 : n + m ≤ maxLen)
    (h : ∀ cap' w', Appended w w' e size [] (some ⟨w.heap.size, 0, none⟩) (n + m) cap' (olds ++ news) → wpList P ops Q rest (a.put o.dst (.slice (some ⟨w.heap.size, 0, none⟩) (n + m) cap')) w') : wpList P ops Q (o :: rest) a w :=
  wpList_plain hgd fun _ hK => wp_append_full T s x ho b n c olds hs hb hol hnc hbn ao m c' news hx hc hl hfull hby h63 fun cap' w' h2 => hK _ _ (h cap' w' h2)
end
end Go.Proofs.YtkmpfgpfbmeihaaGreatDoor.lib
/-
  pack.Head, stemmaref11.Head: an entry's head.
-/
namespace Go.Proofs.YtkmpfgpfbmeihaaGreatDoor.pk
open Go Go.RowKit Go.Proofs.YtkmpfgpfbmeihaaGreatDoor.lib Go.Proofs.YtkmpfgpfbmeihaaGreatDoor.bm

theorem sliceU8 : SliceTy Tryz.prog 23 5 (.int .u8 0) 1 1 := SliceTy.of Tryz.underlying23 (by kernel_rfl) rfl (by decide)
theorem bv_one (bs : List UInt8) : ∀ u ∈ bs.map bv, u.oneCell' = true := by
  intro u hu
  obtain ⟨b, _, rfl⟩ := List.mem_map.1 hu
  rfl
/-- Where the writing of bytes stands. -/
structure Wr (w wr : World) (a : Option Addr) (c : Nat) (out : List UInt8) : Prop where
  own : wr.ownsRow 0 5 1 (.slice a out.length c) out.length (out.map bv)
  fr : Fr [] w wr
  new : ∀ x ∈ blk a, w.heap.size ≤ x
theorem wr_start (w w' : World) (f : Fr [] w w') : Wr w w' none 0 [] := ⟨World.ownsRow_nil _ _ _ _, f, by simp [blk]⟩
theorem Wr.step {w wr w1 w2 : World} {a a2 : Option Addr} {c c2 : Nat} {out : List UInt8} {x : UInt8} (h : Wr w wr a c out) (f : Fr [] wr w1) (A : Appended w1 w2 5 1 (blk a) a2 (out.length + 1) c2 (out.map bv ++ [bv x])) : Wr w w2 a2 c2 (out ++ [x]) := by
  refine ⟨by rw [List.length_append, List.map_append]; exact A.own, (h.fr.trans f).step A.fr fun y hy => .inr (h.new y hy), fun y hy => ?_⟩
  rcases A.at_ y hy with h1 | h1
  · exact h.new y h1
  · have := (h.fr.trans f).size
    omega
theorem lead_byte (kind size : Nat) (hk : kind ≤ 7) : bits .or .u8 (bits .and .i64 (kind : Int) 7 % 256 * 16 % 256) (bits .and .i64 (size : Int) 15 % 256) = ((kind % 8 * 16 + size % 16 : Nat) : Int) := by
  rw [show bits .and .i64 (kind : Int) 7 = (kind : Int) % 8 from i64_mask _ 3 (by decide), show bits .and .i64 (size : Int) 15 = (size : Int) % 16 from i64_mask _ 4 (by decide)]
  have h : ∀ (x : Fin 8) (y : Fin 16), bits .or .u8 (((x.1 : Nat) : Int) * 16) ((y.1 : Nat) : Int) = ((x.1 * 16 + y.1 : Nat) : Int) := by decide +kernel
  have e := h ⟨kind % 8, by omega⟩ ⟨size % 16, by omega⟩
  simp only at e
  rw [show (kind : Int) % 8 % 256 * 16 % 256 = ((kind % 8 : Nat) : Int) * 16 by omega, show (size : Int) % 16 % 256 = ((size % 16 : Nat) : Int) by omega, e]
theorem or_mark (c : Nat) (h : c ≤ 127) : bits .or .u8 (c : Int) 128 = (((UInt8.ofNat (c + 128)).toNat : Nat) : Int) := by
  have h2 : ∀ x : Fin 128, bits .or .u8 (x.1 : Int) 128 = ((x.1 + 128 : Nat) : Int) := by decide +kernel
  have e := h2 ⟨c, by omega⟩
  simp only at e
  rw [e, toNat_byte (by omega)]
theorem low7 (n : Nat) : bits .and .i64 (n : Int) 127 = ((n % 128 : Nat) : Int) := by
  rw [show bits .and .i64 (n : Int) 127 = (n : Int) % 128 from i64_mask _ 7 (by decide)]
  omega
theorem hdF_zero (f c : Nat) : hdF f c 0 = [UInt8.ofNat c] := by cases f <;> simp [hdF]
theorem hdF_step {f c n : Nat} (h : 0 < n) (hf : n ≤ f) : hdF f c n = UInt8.ofNat (c + 128) :: hdF f (n % 128) (n / 128) := by
  cases f with
  | zero => omega
  | succ f => rw [hdF, if_neg (by omega), hdF_fuel (f := f) (g := f + 1) (by omega) (by omega)]
set_option maxRecDepth 100000 in
set_option maxHeartbeats 2000000 in
theorem head_any (kind size : Nat) (w : World) (hk : kind ≤ 7) (hs : size ≤ 9007199254740992) : Calls Tryz.prog 10 #[.int .i64 (kind : Nat), .int .i64 (size : Nat)] w (NewBytes w (hd kind size)) := by
  have hl := lead_byte kind size hk
  obtain ⟨c0, hc0⟩ : ∃ c, c = kind % 8 * 16 + size % 16 := ⟨_, rfl⟩
  obtain ⟨bs, hbs⟩ : ∃ bs, bs = hd kind size := ⟨_, rfl⟩
  have hb2 : bs = hdF size c0 (size / 16) := by rw [hbs, hc0]; rfl
  have hbl : bs.length ≤ 9 := by rw [hb2]; exact hdF_le (k := 8) (by omega) (by omega)
  have hc127 : c0 ≤ 127 := by omega
  rw [← hc0] at hl
  rw [← hbs]
  have HB := Lib.hid (And.intro hb2 hbl)
  clear hb2 hbl hc0 hbs
  go_enter Tryz.func10, Tryz.ntmps10
  go_upto_region 2 with (refine wpList_max2 (size : Int) rfl _ _ _ rfl (size : Int) 0 rfl rfl (by split <;> omega) ?_)
  go_upto_block 0 with fail
  go_cut [5, 6] from 17 to 30 (fun s5 s6 wz => ∃ c a cap out, s5 = .int .u8 ((c : Nat) : Int) ∧ s6 = .slice a out.length cap ∧ c ≤ 127 ∧ Wr w wz a cap out ∧ bs = out ++ [UInt8.ofNat c])
  case first =>
    go_wp2
    go_loopg [1, 5, 6] size (fun k s1 s5 s6 wr => ∃ n c a cap out, s1 = .int .i64 (n : Nat) ∧ s5 = .int .u8 ((c : Nat) : Int) ∧ s6 = .slice a out.length cap ∧ n ≤ k ∧ n ≤ size ∧ c ≤ 127 ∧ Wr w wr a cap out ∧ bs = out ++ hdF size c n)
    case atStart => exact ⟨size / 16, c0, none, 0, [], by go_num, rfl, rfl, by omega, by omega, hc127, wr_start w w (Fr.refl _ _), HB.out.1⟩
    case round =>
      obtain ⟨n, c, a, cap, out, rfl, rfl, rfl, hk1, hns, hc, h, hall⟩ := hrel
      have H := Lib.hid (And.intro h hall)
      have hol : out.length ≤ 9 := by
        have := congrArg List.length hall
        rw [List.length_append] at this
        have := HB.out.2
        omega
      clear h hall
      by_cases h0 : 0 < n
      · have ho := or_mark c hc
        have h7 := low7 n
        obtain ⟨x, hx⟩ : ∃ x, x = UInt8.ofNat (c + 128) := ⟨_, rfl⟩
        rw [← hx] at ho
        obtain ⟨S, hS⟩ : ∃ S, S = blk a := ⟨_, rfl⟩
        have HX := Lib.hid (And.intro hx hS)
        have f0 : Fr [] wr (wr.alloc (.cells #[.int .u8 (x.toNat : Nat)] 5)) := (Fr.refl [] wr).alloc _
        have ownA := ownsRow_fr H.out.1.own f0 (by simp)
        have cA : Cs (wr.alloc (.cells #[.int .u8 (x.toNat : Nat)] 5)) (some ⟨wr.heap.size, 0, none⟩) [bv x] := cs_one _ _ _ 5 (alloc_at wr _)
        have HA := Lib.hid (And.intro ownA (And.intro cA f0))
        clear ownA cA f0 hx hS
        go_wp2_with (refine wpList_append sliceU8 rfl _ _ rfl (.slice a out.length cap) out.length (out.map bv) S rfl (by rw [own_blk, HX.out.2]) HA.out.1 (some ⟨wr.heap.size, 0, none⟩) 1 1 [bv x] rfl (by decide) (by simp) HA.out.2.1 (by rfl) (bv_one [x]) (by omega) (by unfold maxLen; omega) ?_; intro a2 c2 w2 A1; have HA1 := Lib.hid A1; clear A1)
        go_roundg (n / 128)
        case measure => omega
        case rel =>
          have A1 := HA1.out
          rw [HX.out.2] at A1
          refine ⟨n / 128, n % 128, a2, c2, out ++ [x], by go_num, by go_num, by rw [List.length_append]; rfl, Nat.le_refl _, by omega, by omega, H.out.1.step HA.out.2.2 A1, ?_⟩
          rw [H.out.2, hdF_step h0 hns, HX.out.1, List.append_assoc]
          rfl
      · go_wp2
        go_meet
        obtain rfl : n = 0 := by omega
        exact ⟨c, a, cap, out, rfl, rfl, hc, H.out.1, by rw [H.out.2, hdF_zero]⟩
  case rest =>
  obtain ⟨c, a, cap, out, rfl, rfl, hc, h, hall⟩ := hcut
  have H := Lib.hid h
  have hol : out.length + 1 = bs.length := by rw [hall]; simp
  have hol9 : out.length ≤ 9 := by have := HB.out.2; omega
  have HALL := Lib.hid (And.intro hall hol)
  clear h hall hol
  obtain ⟨x, hx⟩ : ∃ x, x = UInt8.ofNat c := ⟨_, rfl⟩
  have hbx : [bv x] = [.int .u8 (c : Int)] := by unfold bv; rw [hx, toNat_byte (by omega)]
  obtain ⟨S, hS⟩ : ∃ S, S = blk a := ⟨_, rfl⟩
  have HX := Lib.hid (And.intro hx hS)
  have f0 : Fr [] wc (wc.alloc (.cells #[.int .u8 (c : Int)] 5)) := (Fr.refl [] wc).alloc _
  have ownA := ownsRow_fr H.out.own f0 (by simp)
  have cA : Cs (wc.alloc (.cells #[.int .u8 (c : Int)] 5)) (some ⟨wc.heap.size, 0, none⟩) [bv x] := by rw [hbx]; exact cs_one _ _ _ 5 (alloc_at wc _)
  have HA := Lib.hid (And.intro ownA (And.intro cA f0))
  clear ownA cA f0 hx hS hbx
  go_wp2_with (refine wpList_append sliceU8 rfl _ _ rfl (.slice a out.length cap) out.length (out.map bv) S rfl (by rw [own_blk, HX.out.2]) HA.out.1 (some ⟨wc.heap.size, 0, none⟩) 1 1 [bv x] rfl (by decide) (by simp) HA.out.2.1 (by rfl) (bv_one [x]) (by omega) (by unfold maxLen; omega) ?_; intro a2 c2 w2 A1; have hcap := A1.le; have hcm := A1.max; have HA1 := Lib.hid A1; clear A1)
  go_ret
  have A1 := HA1.out
  rw [HX.out.2] at A1
  have h4 := H.out.step HA.out.2.2 A1
  rw [HX.out.1, ← HALL.out.1] at h4
  obtain ⟨r1, _⟩ := rd_of_owns h4.own
  rw [HALL.out.2]
  exact ⟨a2, rfl, ⟨r1.cs, Nat.le_refl _, Nat.le_trans r1.le r1.max, fun e => by have := r1.nil e; have := r1.le; omega⟩, fun y hy => ⟨h4.new y hy, owns_lt h4.own (blk_own hy)⟩, h4.fr⟩
/-- New bytes, with room behind perhaps. -/
def NewRow (w : World) (bs : List UInt8) (e : Ending) (w' : World) : Prop :=
  ∃ a c, e = .returned (.slice a bs.length c) ∧ lib.Rd w' a c bs ∧ (∀ x ∈ blk a, w.heap.size ≤ x ∧ x < w'.heap.size) ∧ Fr [] w w'
set_option maxRecDepth 100000 in
set_option maxHeartbeats 2000000 in
theorem rhead_any (kind size : Nat) (w : World) (hk : kind ≤ 7) (hs : size ≤ 9007199254740992) : Calls Tryz.prog 11 #[.int .i64 (kind : Nat), .int .i64 (size : Nat)] w (NewRow w (hd kind size)) := by
  have hl := lead_byte kind size hk
  obtain ⟨c0, hc0⟩ : ∃ c, c = kind % 8 * 16 + size % 16 := ⟨_, rfl⟩
  obtain ⟨bs, hbs⟩ : ∃ bs, bs = hd kind size := ⟨_, rfl⟩
  have hb2 : bs = hdF size c0 (size / 16) := by rw [hbs, hc0]; rfl
  have hbl : bs.length ≤ 9 := by rw [hb2]; exact hdF_le (k := 8) (by omega) (by omega)
  have hc127 : c0 ≤ 127 := by omega
  rw [← hc0] at hl
  rw [← hbs]
  have HB := Lib.hid (And.intro hb2 hbl)
  clear hb2 hbl hc0 hbs
  go_enter Tryz.func11, Tryz.ntmps11
  go_upto_region 2 with (refine wpList_max2 (size : Int) rfl _ _ _ rfl (size : Int) 0 rfl rfl (by split <;> omega) ?_)
  go_upto_block 0 with fail
  go_cut [6, 7] from 18 to 32 (fun s5 s6 wz => ∃ c a cap out, s5 = .int .u8 ((c : Nat) : Int) ∧ s6 = .slice a out.length cap ∧ c ≤ 127 ∧ Wr w wz a cap out ∧ bs = out ++ [UInt8.ofNat c])
  case first =>
    go_wp2
    go_loopg [5, 6, 7] size (fun k s1 s5 s6 wr => ∃ n c a cap out, s1 = .int .i64 (n : Nat) ∧ s5 = .int .u8 ((c : Nat) : Int) ∧ s6 = .slice a out.length cap ∧ n ≤ k ∧ n ≤ size ∧ c ≤ 127 ∧ Wr w wr a cap out ∧ bs = out ++ hdF size c n)
    case atStart => exact ⟨size / 16, c0, none, 0, [], by go_num, rfl, rfl, by omega, by omega, hc127, wr_start w w (Fr.refl _ _), HB.out.1⟩
    case round =>
      obtain ⟨n, c, a, cap, out, rfl, rfl, rfl, hk1, hns, hc, h, hall⟩ := hrel
      have H := Lib.hid (And.intro h hall)
      have hol : out.length ≤ 9 := by
        have := congrArg List.length hall
        rw [List.length_append] at this
        have := HB.out.2
        omega
      clear h hall
      by_cases h0 : 0 < n
      · have ho := or_mark c hc
        have h7 := low7 n
        obtain ⟨x, hx⟩ : ∃ x, x = UInt8.ofNat (c + 128) := ⟨_, rfl⟩
        rw [← hx] at ho
        obtain ⟨S, hS⟩ : ∃ S, S = blk a := ⟨_, rfl⟩
        have HX := Lib.hid (And.intro hx hS)
        have f0 : Fr [] wr (wr.alloc (.cells #[.int .u8 (x.toNat : Nat)] 5)) := (Fr.refl [] wr).alloc _
        have ownA := ownsRow_fr H.out.1.own f0 (by simp)
        have cA : Cs (wr.alloc (.cells #[.int .u8 (x.toNat : Nat)] 5)) (some ⟨wr.heap.size, 0, none⟩) [bv x] := cs_one _ _ _ 5 (alloc_at wr _)
        have HA := Lib.hid (And.intro ownA (And.intro cA f0))
        clear ownA cA f0 hx hS
        go_wp2_with (refine wpList_append sliceU8 rfl _ _ rfl (.slice a out.length cap) out.length (out.map bv) S rfl (by rw [own_blk, HX.out.2]) HA.out.1 (some ⟨wr.heap.size, 0, none⟩) 1 1 [bv x] rfl (by decide) (by simp) HA.out.2.1 (by rfl) (bv_one [x]) (by omega) (by unfold maxLen; omega) ?_; intro a2 c2 w2 A1; have HA1 := Lib.hid A1; clear A1)
        go_roundg (n / 128)
        case measure => omega
        case rel =>
          have A1 := HA1.out
          rw [HX.out.2] at A1
          refine ⟨n / 128, n % 128, a2, c2, out ++ [x], by go_num, by go_num, by rw [List.length_append]; rfl, Nat.le_refl _, by omega, by omega, H.out.1.step HA.out.2.2 A1, ?_⟩
          rw [H.out.2, hdF_step h0 hns, HX.out.1, List.append_assoc]
          rfl
      · go_wp2
        go_meet
        obtain rfl : n = 0 := by omega
        exact ⟨c, a, cap, out, rfl, rfl, hc, H.out.1, by rw [H.out.2, hdF_zero]⟩
  case rest =>
  obtain ⟨c, a, cap, out, rfl, rfl, hc, h, hall⟩ := hcut
  have H := Lib.hid h
  have hol : out.length + 1 = bs.length := by rw [hall]; simp
  have hol9 : out.length ≤ 9 := by have := HB.out.2; omega
  have HALL := Lib.hid (And.intro hall hol)
  clear h hall hol
  obtain ⟨x, hx⟩ : ∃ x, x = UInt8.ofNat c := ⟨_, rfl⟩
  have hbx : [bv x] = [.int .u8 (c : Int)] := by unfold bv; rw [hx, toNat_byte (by omega)]
  obtain ⟨S, hS⟩ : ∃ S, S = blk a := ⟨_, rfl⟩
  have HX := Lib.hid (And.intro hx hS)
  have f0 : Fr [] wc (wc.alloc (.cells #[.int .u8 (c : Int)] 5)) := (Fr.refl [] wc).alloc _
  have ownA := ownsRow_fr H.out.own f0 (by simp)
  have cA : Cs (wc.alloc (.cells #[.int .u8 (c : Int)] 5)) (some ⟨wc.heap.size, 0, none⟩) [bv x] := by rw [hbx]; exact cs_one _ _ _ 5 (alloc_at wc _)
  have HA := Lib.hid (And.intro ownA (And.intro cA f0))
  clear ownA cA f0 hx hS hbx
  go_wp2_with (refine wpList_append sliceU8 rfl _ _ rfl (.slice a out.length cap) out.length (out.map bv) S rfl (by rw [own_blk, HX.out.2]) HA.out.1 (some ⟨wc.heap.size, 0, none⟩) 1 1 [bv x] rfl (by decide) (by simp) HA.out.2.1 (by rfl) (bv_one [x]) (by omega) (by unfold maxLen; omega) ?_; intro a2 c2 w2 A1; have hcap := A1.le; have hcm := A1.max; have HA1 := Lib.hid A1; clear A1)
  go_ret
  have A1 := HA1.out
  rw [HX.out.2] at A1
  have h4 := H.out.step HA.out.2.2 A1
  rw [HX.out.1, ← HALL.out.1] at h4
  obtain ⟨r1, _⟩ := rd_of_owns h4.own
  rw [HALL.out.2]
  exact ⟨a2, c2, rfl, r1, fun y hy => ⟨h4.new y hy, owns_lt h4.own (blk_own hy)⟩, h4.fr⟩
end Go.Proofs.YtkmpfgpfbmeihaaGreatDoor.pk
/-
  (*pack.reader).take: bytes off a pack's front.
-/
namespace Go.Proofs.YtkmpfgpfbmeihaaGreatDoor.pk
open Go Go.RowKit Go.Proofs.YtkmpfgpfbmeihaaGreatDoor.lib Go.Proofs.YtkmpfgpfbmeihaaGreatDoor.bm

/-- A pack's reader: its bytes, and how many are taken. -/
structure Rdr (w : World) (r : Nat) (a : Option Addr) (cap : Nat) (bs : List UInt8) (at_ : Nat) : Prop where
  box : w.heap[r]? = some (.cells #[.slice a bs.length cap, .int .i64 (at_ : Nat)] 85 (0, 0))
  rd : lib.Rd w a cap bs
  le : at_ ≤ bs.length
  off : ∀ x ∈ blk a, x ≠ r
theorem Rdr.fr {w w' : World} {r : Nat} {a : Option Addr} {cap at_ : Nat} {bs : List UInt8} (h : Rdr w r a cap bs at_) (f : Fr [] w w') : Rdr w' r a cap bs at_ :=
  ⟨f.blk h.box (by simp), h.rd.fr f, h.le, h.off⟩
set_option maxRecDepth 100000 in
set_option maxHeartbeats 1000000 in
theorem take_bad (r : Nat) (a : Option Addr) (cap : Nat) (bs : List UInt8) (at_ n : Nat) (w : World) (h : Rdr w r a cap bs at_) (hlen : bs.length ≤ 100000000) (hn : bs.length < at_ + n) :
    Calls Tryz.prog 43 #[.pointer (some ⟨r, 0, none⟩), .int .i64 (n : Nat)] w fun e w' => e = .returned (.tuple #[.slice none 0 0, .int .i64 4]) ∧ Fr [] w w' := by
  obtain ⟨L, hL⟩ : ∃ L, L = bs.length := ⟨_, rfl⟩
  have c0 : w.cell? ⟨r, 0, none⟩ = some (.slice a L cap) := by rw [cell_of h.box, hL]; rfl
  have c1 : w.cell? ⟨r, 1, none⟩ = some (.int .i64 (at_ : Nat)) := by rw [cell_of h.box]; rfl
  have hle := h.le
  rw [← hL] at hle hlen hn
  have d : decide ((n : Int) > (L : Int) - at_) = true := by simp; omega
  clear hL h
  go_enter Tryz.func43, Tryz.ntmps43
  go_upto_region 1 with fail
  go_quiet (fail)
  go_wp2
  go_ret2
  exact ⟨rfl, Fr.drewN _ _ _⟩
set_option maxRecDepth 100000 in
set_option maxHeartbeats 1000000 in
theorem take_good (r : Nat) (a : Option Addr) (cap : Nat) (bs : List UInt8) (at_ n : Nat) (w : World) (h : Rdr w r a cap bs at_) (hlen : bs.length ≤ 100000000) (hn : at_ + n ≤ bs.length) :
    Calls Tryz.prog 43 #[.pointer (some ⟨r, 0, none⟩), .int .i64 (n : Nat)] w fun e w' => e = .returned (.tuple #[.slice (cutAt a cap at_) n (cap - at_), .int .i64 0]) ∧ Rdr w' r a cap bs (at_ + n) ∧ Fr [r] w w' := by
  obtain ⟨L, hL⟩ : ∃ L, L = bs.length := ⟨_, rfl⟩
  have c0 : w.cell? ⟨r, 0, none⟩ = some (.slice a L cap) := by rw [cell_of h.box, hL]; rfl
  have c1 : w.cell? ⟨r, 1, none⟩ = some (.int .i64 (at_ : Nat)) := by rw [cell_of h.box]; rfl
  have z1 := frozen_of h.box 1
  have hle := h.le
  have hcap := h.rd.le
  have HH := Lib.hid (And.intro h hL)
  rw [← hL] at hle hlen hn hcap
  have d : decide ((n : Int) > (L : Int) - at_) = false := by simp; omega
  clear hL h
  go_enter Tryz.func43, Tryz.ntmps43
  go_upto_region 1 with fail
  go_quiet (fail)
  go_upto_region 4 with fail
  have hrun := fun w' => lib.run_slice_lh sliceU8 at_ n a L cap ((at_ : Int) + n - n) ((at_ : Int) + n) (by omega) rfl (by omega) w'
  rw [show (at_ : Int) + n - n = (at_ : Int) by omega] at hrun
  have e2 : wrap64 ((at_ : Int) + n - n) = (at_ : Int) := by unfold wrap64; omega
  have e3 : (at_ : Int) + n - n = (at_ : Int) := by omega
  obtain ⟨w2, hw2⟩ : ∃ w2, w2 = (w.drewN nq).setCell ⟨r, 1, none⟩ (.int .i64 ((at_ : Int) + n)) := ⟨_, rfl⟩
  rw [← hw2]
  have hb := setCell_of (w := w.drewN nq) (o := 1) (show (w.drewN nq).heap[r]? = _ from HH.out.1.box) (.int .i64 ((at_ : Int) + n))
  rw [← hw2] at hb
  have f2 : Fr [r] w w2 := by rw [hw2]; exact (Fr.drewN [r] w nq).setCell (by simp) _
  have c0' : w2.cell? ⟨r, 0, none⟩ = some (.slice a L cap) := by rw [cell_of hb, HH.out.2]; rfl
  have c1' : w2.cell? ⟨r, 1, none⟩ = some (.int .i64 ((at_ : Int) + n)) := by rw [cell_of hb]; rfl
  have H2 := Lib.hid (And.intro hb f2)
  clear hb f2 hw2 c0 c1 z1 d
  go_quiet (fail)
  go_wp2
  go_ret2
  refine ⟨rfl, ⟨?_, HH.out.1.rd.frS (H2.out.2.step (Fr.drewN [r] w2 _) (fun x hx => .inl hx)) (fun x hx hm => HH.out.1.off x hx (by simpa using hm)), by rw [← HH.out.2]; omega, HH.out.1.off⟩, H2.out.2.trans (Fr.drewN _ _ _)⟩
  have := H2.out.1
  simpa using this
end Go.Proofs.YtkmpfgpfbmeihaaGreatDoor.pk
/-
  A pack of no objects: what the library's functions and pack's own do with none.
-/
namespace Go.Proofs.YtkmpfgpfbmeihaaGreatDoor.pk
open Go Go.RowKit Go.Proofs.YtkmpfgpfbmeihaaGreatDoor.lib Go.Proofs.YtkmpfgpfbmeihaaGreatDoor.bm

theorem clone_nil (w : World) : Calls Tryz.prog 60 #[.slice none 0 0] w fun e w' => e = .returned (.slice none 0 0) ∧ w' = w := by
  have qT : ∀ (w : World) (a : Option Addr) (n c n' c' : Nat), (binOp .eql 27 (.slice a n c) (.slice none n' c')).run Tryz.prog w = .ok (.bool a.isNone) w := fun w a n c n' c' => Lib.run_eql_slice_nil w _ _ a n c n' c' Tryz.underlying27
  go_enter Tryz.func60, Tryz.ntmps60
  go_wp2
  go_ret
  exact ⟨rfl, rfl⟩
theorem index_nil (v : Value) (w : World) : Calls Tryz.prog 64 #[.slice none 0 0, v] w fun e w' => e = .returned (.int .i64 (-1)) ∧ w' = w := by
  go_enter Tryz.func64, Tryz.ntmps64
  go_wp2
  go_loopg [8] 0 (fun k s8 wr => s8 = .int .i64 0 ∧ wr = w)
  case atStart => exact ⟨rfl, rfl⟩
  case round =>
  obtain ⟨rfl, rfl⟩ := hrel
  go_wp2
  go_ret
  exact ⟨rfl, rfl⟩
theorem delete_nil (v : Value) (w : World) : Calls Tryz.prog 32 #[.slice none 0 0, v] w fun e w' => e = .returned (.slice none 0 0) ∧ w' = w := by
  go_enter Tryz.func32, Tryz.ntmps32
  go_wp2_with (go_at_call 64; refine (index_nil _ _).mono ?_; rintro e w2 ⟨rfl, hw⟩; obtain rfl := hw.symm)
  go_ret
  exact ⟨rfl, rfl⟩
theorem clip_nil (w : World) : Calls Tryz.prog 42 #[.slice none 0 0] w fun e w' => e = .returned (.slice none 0 0) ∧ w' = w := by
  go_enter Tryz.func42, Tryz.ntmps42
  go_wp2
  go_ret
  exact ⟨rfl, rfl⟩
theorem insert_nil (v : Value) (w : World) : Calls Tryz.prog 107 #[.slice none 0 0, .int .i64 0, .int .i64 0, v] w fun e w' => e = .returned (.tuple #[]) ∧ w' = w := by
  go_enter Tryz.func107, Tryz.ntmps107
  go_wp2
  go_loopg [8] 0 (fun k s8 wr => s8 = .int .i64 1 ∧ wr = w)
  case atStart => exact ⟨rfl, rfl⟩
  case round =>
  obtain ⟨rfl, rfl⟩ := hrel
  go_wp2
  exact bodyPost_end (results_none rfl _ _ _) rfl ⟨rfl, rfl⟩
theorem stable_nil (v : Value) (w : World) : Calls Tryz.prog 70 #[.slice none 0 0, .int .i64 0, v] w fun e w' => e = .returned (.tuple #[]) ∧ w' = w := by
  go_enter Tryz.func70, Tryz.ntmps70
  go_wp2
  go_loopg [7, 8] 0 (fun k s7 s8 wr => s7 = .int .i64 0 ∧ s8 = .int .i64 20 ∧ wr = w)
  case atStart => exact ⟨rfl, rfl, rfl⟩
  case round =>
  obtain ⟨rfl, rfl, rfl⟩ := hrel
  go_wp2_with (go_at_call 107; refine (insert_nil _ _).mono ?_; rintro e w2 ⟨rfl, hw⟩; obtain rfl := hw.symm)
  go_loopg [6] 0 (fun k s6 wr2 => s6 = .int .i64 20 ∧ wr2 = wr)
  case atStart => exact ⟨rfl, rfl⟩
  case round =>
  obtain ⟨rfl, rfl⟩ := hrel
  go_wp2
  exact bodyPost_end (results_none rfl _ _ _) rfl ⟨rfl, rfl⟩
theorem sort_nil (v : Value) (w : World) : Calls Tryz.prog 38 #[.slice none 0 0, v] w fun e w' => e = .returned (.tuple #[]) ∧ w' = w := by
  go_enter Tryz.func38, Tryz.ntmps38
  go_wp2_with (go_at_call 70; refine (stable_nil _ _).mono ?_; rintro e w2 ⟨rfl, hw⟩; obtain rfl := hw.symm)
  exact bodyPost_end (results_none rfl _ _ _) rfl ⟨rfl, rfl⟩
theorem right_nil (w : World) : Calls Tryz.prog 31 #[.slice none 0 0] w fun e w' => e = .returned (.slice none 0 0) ∧ w' = w := by
  go_enter Tryz.func31, Tryz.ntmps31
  go_wp2_with (first
    | (go_at_call 60; refine (clone_nil _).mono ?_; rintro e w2 ⟨rfl, hw⟩; obtain rfl := hw.symm)
    | (go_at_call 32; refine (delete_nil _ _).mono ?_; rintro e w2 ⟨rfl, hw⟩; obtain rfl := hw.symm))
  go_ret
  exact ⟨rfl, rfl⟩
set_option maxRecDepth 100000 in
theorem order_nil (w : World) : Calls Tryz.prog 17 #[.slice none 0 0] w fun e w' => e = .returned (.slice none 0 0) ∧ Fr [] w w' := by
  have hmm := fun w' => run_makeMap (P := Tryz.prog) 75 w'
  go_enter Tryz.func17, Tryz.ntmps17
  go_wp2_with (first
    | (go_at_call 38; refine (sort_nil _ _).mono ?_; rintro e w2 ⟨rfl, hw⟩; obtain rfl := hw.symm)
    | (go_at_call 42; refine (clip_nil _).mono ?_; rintro e w2 ⟨rfl, hw⟩; obtain rfl := hw.symm))
  go_loopg [5, 11] 0 (fun k s5 s11 wr => s5 = .slice none 0 0 ∧ s11 = .int .i64 0 ∧ Fr [] w wr)
  case atStart => exact ⟨rfl, rfl, ((Fr.refl [] w).alloc _).alloc _⟩
  case round =>
  obtain ⟨rfl, rfl, hf⟩ := hrel
  clear hmm
  go_wp2_with (first
    | (go_at_call 38; refine (sort_nil _ _).mono ?_; rintro e w2 ⟨rfl, hw⟩; obtain rfl := hw.symm)
    | (go_at_call 42; refine (clip_nil _).mono ?_; rintro e w2 ⟨rfl, hw⟩; obtain rfl := hw.symm))
  go_ret
  exact ⟨rfl, hf⟩
/-- The pack's first bytes, and no object. -/
def begin12 : List UInt8 := [80, 65, 67, 75, 0, 0, 0, 2, 0, 0, 0, 0]
end Go.Proofs.YtkmpfgpfbmeihaaGreatDoor.pk
/-
  As lib.region_mix, without a tail, with early readers: a quiet operation that every effect waits for is checked in the world at hand only.
-/
namespace Go.Proofs.YtkmpfgpfbmeihaaGreatDoor.lib
open Go
section
variable {P : Program} {ops : Array Oper} {Q : Exit → Act → World → Prop} {md : Region.Mode}
/-- Whatever order is picked; D holds between the worlds ahead of and behind each operation. -/
def wpMe (P : Program) (md : Region.Mode) (ops : Array Oper) (Q : Exit → Act → World → Prop) (D : Nat → World → World → Prop) : Nat → Array Bool → Act → World → Prop
  | 0, listed, a, w => Region.ready md ops listed = [] ∧ Q .normal a w
  | f + 1, listed, a, w => (Region.ready md ops listed = [] → Q .normal a w) ∧
    ∀ i ∈ Region.ready md ops listed, wpOp P ops Q i (fun a' w' => D i w w' ∧ wpMe P md ops Q D f (listed.setIfInBounds i true) a' w') a w
theorem wpAny_of_me {D : Nat → World → World → Prop} : ∀ (f : Nat) (listed : Array Bool) (a : Act) (w : World), wpMe P md ops Q D f listed a w → wpAny P md ops Q f listed a w
  | 0, _, _, _, h => h
  | f + 1, _, _, _, h => ⟨h.1, fun i hi => wpOp_mono (fun a' w' h' => wpAny_of_me f _ a' w' h'.2) (h.2 i hi)⟩
theorem wpMe_first {i : Nat} {oi : Oper} {v : Value} {C : World → Prop} {D : Nat → World → World → Prop} (hi : ops[i]? = some oi) (hsel : ∀ (j : Nat) (o : Oper) cs b, ops[j]? = some o → o.op ≠ .select cs b)
    (hQ : ∀ c a d v w, Q (.panic c) (Act.put a d v) w → Q (.panic c) a w) (hDi : ∀ w, D i w w)
    (hT : ∀ listed, listed.getD i true = false → ∀ t ∈ Region.ready md ops listed, t ≠ i → ∀ w w', C w → D t w w' → C w') :
    ∀ (f : Nat) (listed : Array Bool) (a : Act) (w : World),
      (∀ j oj, ops[j]? = some oj → j ≠ i → listed.getD j true = false → (∀ e ∈ oj.after, Region.binds md e = true → e.on ≠ i) → oi.apart ops oj = true) →
      i ∈ Region.ready md ops listed → QY P ops C oi v a → C w →
      wpMe P md ops Q D f (listed.setIfInBounds i true) (a.put oi.dst v) w → wpMe P md ops Q D (f + 1) listed a w := by
  intro f
  induction f with
  | zero =>
    intro listed a w _ hr hy hC H
    refine ⟨fun h => (by rw [h] at hr; cases hr), fun j hj => ?_⟩
    by_cases hji : j = i
    · subst hji; exact hy.op hi hC ⟨hDi w, H⟩
    · have := ready_mono hj hji
      rw [H.1] at this
      cases this
  | succ f ih =>
    intro listed a w hfree hr hy hC H
    have hun := (mem_ready.1 hr).1
    refine ⟨fun h => (by rw [h] at hr; cases hr), fun j hj => ?_⟩
    by_cases hji : j = i
    · subst hji; exact hy.op hi hC ⟨hDi w, H⟩
    · have h1 := H.2 j (ready_mono hj hji)
      obtain ⟨hjun, oj, hoj, hall⟩ := mem_ready.1 hj
      have hnot : ∀ e ∈ oj.after, Region.binds md e = true → e.on ≠ i := fun e he hb heq => by
        have h1 := hall e he hb
        rw [heq, getD_both hun] at h1
        cases h1
      have h2 := put_of_QY hoj (hfree j oj hoj hji hjun hnot) (fun cs b => hsel i oi cs b hi) (fun cs b => hsel j oj cs b hoj) hQ hy h1
      have hfree' : ∀ k ok, ops[k]? = some ok → k ≠ i → (listed.setIfInBounds j true).getD k true = false →
          (∀ e ∈ ok.after, Region.binds md e = true → e.on ≠ i) → oi.apart ops ok = true := fun k ok hk hki hkun hno => by
        refine hfree k ok hk hki ?_ hno
        by_cases hjk : j = k
        · subst hjk; exact hjun
        · rw [getD_set_ne true hjk] at hkun; exact hkun
      refine wpOp_mono (fun a' w' h3 => ⟨h3.2.1, ?_⟩) h2
      refine ih (listed.setIfInBounds j true) a' w' hfree' (ready_mono hr (Ne.symm hji)) h3.1 (hT listed hun j hj hji w w' hC h3.2.1) ?_
      rw [Array.setIfInBounds_comm _ _ hji]
      exact h3.2.2
/-- What each operation may do: the late ones turn blocks of S, the others nothing. -/
def DE (S : List Nat) (lates : List Nat) (j : Nat) (w w' : World) : Prop := if lates.contains j = true then Fr S w w' else w' = w
def mixE (P : Program) (ops : Array Oper) (S : List Nat) (Q : Exit → Act → World → Prop) : List (Nat × Oper) → Act → World → Prop
  | [], a, w => Q .normal a w
  | (0, o) :: rest, a, w => if Region.wanted o (yielded ops a.tmps) then o.quiet P a (Sup S w) (fun a' => mixE P ops S Q rest a' w) else mixE P ops S Q rest (a.put o.dst undef) w
  | (1, o) :: rest, a, w => if Region.wanted o (yielded ops a.tmps) then o.quiet P a (fun u => u = w) (fun a' => mixE P ops S Q rest a' w) else mixE P ops S Q rest (a.put o.dst undef) w
  | (_ + 2, o) :: rest, a, w => if Region.wanted o (yielded ops a.tmps) then o.wp P a w (fun a' w' => Fr S w w' ∧ mixE P ops S Q rest a' w') Q else mixE P ops S Q rest (a.put o.dst undef) w
def waitsFor (md : Region.Mode) (ops : Array Oper) (t i : Nat) : Bool := match ops[t]? with
  | some o => o.after.toList.any fun e => Region.binds md e && decide (e.on = i)
  | none => true
def quietB (md : Region.Mode) (ops : Array Oper) (lates : List Nat) (i : Nat) (listed : Array Bool) : Bool :=
  (Region.ready md ops listed).contains i && Region.free md ops listed i && (match ops[i]? with | some o => okKind o.op | none => false) && !lates.contains i
def mixEB (md : Region.Mode) (ops : Array Oper) (lates : List Nat) : List (Nat × Nat) → Array Bool → Bool
  | [], listed => decide (Region.ready md ops listed = [])
  | (0, i) :: rest, listed => quietB md ops lates i listed && mixEB md ops lates rest (listed.setIfInBounds i true)
  | (1, i) :: rest, listed => quietB md ops lates i listed && lates.all (fun t => waitsFor md ops t i) && mixEB md ops lates rest (listed.setIfInBounds i true)
  | (_ + 2, i) :: rest, listed => decide (Region.ready md ops listed = [i]) && lates.contains i && mixEB md ops lates rest (listed.setIfInBounds i true)
theorem late_waits {i t : Nat} {listed : Array Bool} (h : waitsFor md ops t i = true) (hun : listed.getD i true = false) (ht : t ∈ Region.ready md ops listed) : False := by
  obtain ⟨_, o, ho, hall⟩ := mem_ready.1 ht
  simp only [waitsFor, ho, List.any_eq_true, Bool.and_eq_true, decide_eq_true_eq] at h
  obtain ⟨e, he, hb, heq⟩ := h
  have h1 := hall e (by simpa using he) hb
  rw [heq, getD_both hun] at h1
  cases h1
theorem DE_sup {S lates : List Nat} {b : World} {t : Nat} {w w' : World} (hC : Sup S b w) (h : DE S lates t w w') : Sup S b w' := by
  unfold DE at h
  split at h
  · exact Sup.of (hC.fr.trans h)
  · rw [h]; exact hC
theorem me_walk {S lates : List Nat} {l : List Oper} (hl : ops = l.toArray) (hsel : Region.noSelect ops = true) (hQ : ∀ c a d v w, Q (.panic c) (Act.put a d v) w → Q (.panic c) a w) :
    ∀ (order : List (Nat × Nat)) (listed : Array Bool) (a : Act) (w : World), mixEB md ops lates order listed = true →
      mixE P ops S Q (order.map fun x => (x.1, l.getD x.2 default)) a w → wpMe P md ops Q (DE S lates) order.length listed a w
  | [], listed, a, w, hB, h => by
    simp only [mixEB, decide_eq_true_eq] at hB
    exact ⟨hB, h⟩
  | (0, i) :: rest, listed, a, w, hB, h => by
    simp only [mixEB, quietB, Bool.and_eq_true, Bool.not_eq_true'] at hB
    obtain ⟨⟨⟨⟨hr, hf⟩, hk⟩, hlt⟩, hrest⟩ := hB
    have hr' : i ∈ Region.ready md ops listed := by simpa using hr
    obtain ⟨_, oi, hoi, _⟩ := mem_ready.1 hr'
    rw [hoi] at hk
    have hd : l.getD i default = oi := by
      rw [hl] at hoi
      simp at hoi
      simp [List.getD, hoi]
    simp only [List.map_cons, hd, mixE] at h
    have hC : Sup S w w := Sup.of (Fr.refl _ _)
    have hDi : ∀ w, DE S lates i w w := fun w => by unfold DE; split; exact Fr.refl _ _; rfl
    have hT : ∀ listed : Array Bool, listed.getD i true = false → ∀ t ∈ Region.ready md ops listed, t ≠ i → ∀ w1 w', Sup S w w1 → DE S lates t w1 w' → Sup S w w' := fun _ _ t _ _ w1 w' h1 h2 => DE_sup h1 h2
    by_cases hw : Region.wanted oi (yielded ops a.tmps) = true
    · rw [if_pos hw] at h
      obtain ⟨v, h1, h2⟩ := h
      have hy : QY P ops (Sup S w) oi v a := .inl ⟨hw, fun u hu => runs_of_quiet hk (h1 u hu)⟩
      exact wpMe_first hoi (Region.noSelect_spec hsel) hQ hDi hT _ listed a w (Region.free_spec hoi hf) hr' hy hC (me_walk hl hsel hQ rest _ _ w hrest h2)
    · rw [if_neg hw] at h
      have hy : QY P ops (Sup S w) oi undef a := .inr ⟨by simpa using hw, rfl⟩
      exact wpMe_first hoi (Region.noSelect_spec hsel) hQ hDi hT _ listed a w (Region.free_spec hoi hf) hr' hy hC (me_walk hl hsel hQ rest _ _ w hrest h)
  | (1, i) :: rest, listed, a, w, hB, h => by
    simp only [mixEB, quietB, Bool.and_eq_true, Bool.not_eq_true'] at hB
    obtain ⟨⟨⟨⟨⟨hr, hf⟩, hk⟩, hlt⟩, hwait⟩, hrest⟩ := hB
    have hr' : i ∈ Region.ready md ops listed := by simpa using hr
    obtain ⟨_, oi, hoi, _⟩ := mem_ready.1 hr'
    rw [hoi] at hk
    have hd : l.getD i default = oi := by
      rw [hl] at hoi
      simp at hoi
      simp [List.getD, hoi]
    simp only [List.map_cons, hd, mixE] at h
    have hDi : ∀ w, DE S lates i w w := fun w => by unfold DE; split; exact Fr.refl _ _; rfl
    have hT : ∀ listed : Array Bool, listed.getD i true = false → ∀ t ∈ Region.ready md ops listed, t ≠ i → ∀ w1 w', w1 = w → DE S lates t w1 w' → w' = w := fun ls hun t ht _ w1 w' h1 h2 => by
      unfold DE at h2
      split at h2
      · rename_i hc
        exact (late_waits (List.all_eq_true.1 hwait t (by simpa using hc)) hun ht).elim
      · rw [h2, h1]
    by_cases hw : Region.wanted oi (yielded ops a.tmps) = true
    · rw [if_pos hw] at h
      obtain ⟨v, h1, h2⟩ := h
      have hy : QY P ops (fun u => u = w) oi v a := .inl ⟨hw, fun u hu => runs_of_quiet hk (h1 u hu)⟩
      exact wpMe_first hoi (Region.noSelect_spec hsel) hQ hDi hT _ listed a w (Region.free_spec hoi hf) hr' hy rfl (me_walk hl hsel hQ rest _ _ w hrest h2)
    · rw [if_neg hw] at h
      have hy : QY P ops (fun u => u = w) oi undef a := .inr ⟨by simpa using hw, rfl⟩
      exact wpMe_first hoi (Region.noSelect_spec hsel) hQ hDi hT _ listed a w (Region.free_spec hoi hf) hr' hy rfl (me_walk hl hsel hQ rest _ _ w hrest h)
  | (_ + 2, i) :: rest, listed, a, w, hB, h => by
    simp only [mixEB, Bool.and_eq_true, decide_eq_true_eq] at hB
    obtain ⟨⟨he, hlt⟩, hrest⟩ := hB
    have hr' : i ∈ Region.ready md ops listed := by rw [he]; simp
    obtain ⟨_, oi, hoi, _⟩ := mem_ready.1 hr'
    have hd : l.getD i default = oi := by
      rw [hl] at hoi
      simp at hoi
      simp [List.getD, hoi]
    simp only [List.map_cons, hd, mixE] at h
    refine ⟨fun h0 => (by rw [h0] at hr'; cases hr'), fun j hj => ?_⟩
    rw [he] at hj
    have hji : j = i := by simpa using hj
    subst hji
    unfold wpOp
    simp only [hoi]
    by_cases hw : Region.wanted oi (yielded ops a.tmps) = true
    · rw [if_pos hw] at h
      rw [if_pos hw]
      left
      exact Oper.wp_mono (fun a' w' h' => ⟨by unfold DE; rw [if_pos hlt]; exact h'.1, me_walk hl hsel hQ rest _ a' w' hrest h'.2⟩) h
    · rw [if_neg hw] at h
      rw [if_neg hw]
      exact ⟨by unfold DE; rw [if_pos hlt]; exact Fr.refl _ _, me_walk hl hsel hQ rest _ _ w hrest h⟩
theorem region_mixE {id : Nat} {a : Act} {w : World} {l : List Oper} (order : List (Nat × Nat)) (S lates : List Nat) (hm : P.follows .mixedOrders = true)
    (hB : (Region.noSelect l.toArray && decide (order.length = l.toArray.size) && mixEB .any l.toArray lates order (Array.replicate l.toArray.size false)) = true)
    (hQ : ∀ c a d v w, Q (.panic c) (Act.put a d v) w → Q (.panic c) a w)
    (h : mixE P l.toArray S Q (order.map fun x => (x.1, l.getD x.2 default)) a w.drew) : (Code.region id l.toArray true).wp P Q a w := by
  simp only [Bool.and_eq_true, decide_eq_true_eq] at hB
  obtain ⟨⟨hsel, hlen⟩, hmix⟩ := hB
  refine wp_region_any hm (wpAny_of_me (D := DE S lates) _ _ _ _ ?_)
  have := me_walk (P := P) (Q := Q) (md := .any) (S := S) (lates := lates) rfl hsel hQ order _ a w.drew hmix h
  rw [hlen] at this
  exact this
theorem mixE_early {S : List Nat} {items : List (Nat × Oper)} {a : Act} {w : World} (k : Nat) (h0 : ((items.take k).all fun x => decide (x.1 = 1)) = true)
    (h : wpQuiet P ops (fun u => u = w) (fun a' => mixE P ops S Q (items.drop k) a' w) ((items.take k).map (·.2)) a) : mixE P ops S Q items a w := by
  induction k generalizing items a with
  | zero => exact h
  | succ k ih =>
    cases items with
    | nil => exact h
    | cons x rest =>
      obtain ⟨e, o⟩ := x
      simp only [List.take_succ_cons, List.all_cons, Bool.and_eq_true, decide_eq_true_eq] at h0
      obtain ⟨rfl, h0⟩ := h0
      simp only [List.take_succ_cons, List.map_cons, List.drop_succ_cons, wpQuiet] at h
      unfold mixE
      by_cases hw : Region.wanted o (yielded ops a.tmps) = true
      · rw [if_pos hw] at h ⊢
        obtain ⟨v, h1, h2⟩ := h
        exact ⟨v, h1, ih h0 h2⟩
      · rw [if_neg hw] at h ⊢
        exact ih h0 h
theorem mixE_seg {S : List Nat} {items : List (Nat × Oper)} {a : Act} {w : World} (k : Nat) (h0 : ((items.take k).all fun x => decide (x.1 = 0)) = true)
    (h : wpQuiet P ops (Sup S w) (fun a' => mixE P ops S Q (items.drop k) a' w) ((items.take k).map (·.2)) a) : mixE P ops S Q items a w := by
  induction k generalizing items a with
  | zero => exact h
  | succ k ih =>
    cases items with
    | nil => exact h
    | cons x rest =>
      obtain ⟨e, o⟩ := x
      simp only [List.take_succ_cons, List.all_cons, Bool.and_eq_true, decide_eq_true_eq] at h0
      obtain ⟨rfl, h0⟩ := h0
      simp only [List.take_succ_cons, List.map_cons, List.drop_succ_cons, wpQuiet] at h
      unfold mixE
      by_cases hw : Region.wanted o (yielded ops a.tmps) = true
      · rw [if_pos hw] at h ⊢
        obtain ⟨v, h1, h2⟩ := h
        exact ⟨v, h1, ih h0 h2⟩
      · rw [if_neg hw] at h ⊢
        exact ih h0 h
theorem mixE_eff {S : List Nat} {rest : List (Nat × Oper)} {o : Oper} {a : Act} {w : World} (hw : Region.wanted o (yielded ops a.tmps) = true)
    (h : ∀ K : Act → World → Prop, Go.RowKit.Hid (∀ a' w', Fr S w w' → mixE P ops S Q rest a' w' → K a' w') → o.wp P a w K Q) : mixE P ops S Q ((2, o) :: rest) a w := by
  unfold mixE
  rw [if_pos hw]
  exact h _ fun _ _ h1 h2 => ⟨h1, h2⟩
theorem mixE_nil {S : List Nat} {a : Act} {w : World} (h : Q .normal a w) : mixE P ops S Q [] a w := h
end
end Go.Proofs.YtkmpfgpfbmeihaaGreatDoor.lib
