/-
  Texts of this proof, one behind the other: Lib, Append, Ops, Ops2, Args, Args2, Bytes, PackLaw, BitsMath, BitList, HuffLaw, HuffN, BitMore, InflLaw, AppFull, AppMid, RdMore, Tail, BitsOps, SumA, InfZL, CrcLaw, ObjName, BitsInt, AppStr, Digits, RHeader, Mix.
-/
import Derived.Test.YtkmpfgpfbmeihaaGreatDoorRows
import Derived.WalkKit
import Derived.ProofKit
import Derived.OpenShut
import Derived.BigQuiet
import Derived.Lib.Hide
import Derived.ShutString
import Derived.Maps.AppendAt
import Derived.Deep.RegionLaw
import Derived.SizedLaws
import Derived.Deep.CondSized
import Derived.JoinedCond
import Derived.ChangeOld
import Derived.StillTailTactics
import Derived.Deep.DeepCutAuto
import Derived.Deep.LoopGhost
import Derived.Deep.CutBlock
import Derived.WalkMore
import Derived.Laws.ResultCell
import Derived.Laws.Rows
import Derived.Lib.AppendStr
import Derived.Lib.ItoaNum
import Derived.OrdersHeld
set_option maxRecDepth 100000
set_option linter.unusedVariables false
set_option linter.unusedSimpArgs false
namespace Go.Proofs.YtkmpfgpfbmeihaaGreatDoor.lib
open Go Go.RowKit
structure Fr (S : List Nat) (w w' : World) : Prop where
 os : w'.os = w.os
 tape : w'.tape = w.tape
 output : w'.output = w.output
 size : w.heap.size ≤ w'.heap.size
 block : ∀ k, k < w.heap.size → k ∉ S → w'.heap[k]? = w.heap[k]?
theorem Fr.refl (S : List Nat) (w : World) : Fr S w w := ⟨rfl, rfl, rfl, Nat.le_refl _, fun _ _ _ => rfl⟩
theorem Fr.drewN (S : List Nat) (w : World) (n : Nat) : Fr S w (w.drewN n) := ⟨rfl, rfl, rfl, Nat.le_refl _, fun _ _ _ => rfl⟩
theorem Fr.drew1 (S : List Nat) (w : World) : Fr S w w.drew := ⟨rfl, rfl, rfl, Nat.le_refl _, fun _ _ _ => rfl⟩
theorem Fr.step {S T : List Nat} {a b c : World} (h : Fr S a b) (k : Fr T b c) (hT : ∀ x ∈ T, x ∈ S ∨ a.heap.size ≤ x) : Fr S a c :=
 ⟨k.os.trans h.os, k.tape.trans h.tape, k.output.trans h.output, Nat.le_trans h.size k.size, fun i hi hn => by
  rw [k.block i (Nat.lt_of_lt_of_le hi h.size) (fun hx => by rcases hT i hx with h1 | h1; exact hn h1; omega), h.block i hi hn]⟩
theorem Fr.trans {S : List Nat} {a b c : World} (h : Fr S a b) (k : Fr S b c) : Fr S a c := h.step k fun _ hx => .inl hx
theorem Fr.mono {S T : List Nat} {w w' : World} (h : Fr S w w') (hT : ∀ x ∈ S, x ∈ T ∨ w.heap.size ≤ x) : Fr T w w' :=
 (Fr.refl T w).step h hT
theorem Fr.alloc {S : List Nat} {a w : World} (h : Fr S a w) (o : Obj) : Fr S a (w.alloc o) :=
 h.step (T := []) ⟨rfl, rfl, rfl, by simp, fun k hk _ => Below.heap_alloc _ _ _ (by omega)⟩ (by simp)
theorem Fr.drew {S : List Nat} {a w : World} (h : Fr S a w) : Fr S a w.drew := h.step (Fr.drew1 [] w) (by simp)
theorem Fr.drewsN {S : List Nat} {a w : World} (h : Fr S a w) (n : Nat) : Fr S a (w.drewN n) := h.step (Fr.drewN [] w n) (by simp)
theorem Fr.setCell {S : List Nat} {a w : World} (h : Fr S a w) {p : Addr} (hp : p.block ∈ S ∨ a.heap.size ≤ p.block) (u : Value) : Fr S a (w.setCell p u) :=
 h.step (T := [p.block]) ⟨rfl, rfl, rfl, by simp [World.setCell], fun k hk hn => Below.heap_setCell _ _ _ _ (by simpa using hn)⟩ (by simpa using hp)
theorem Fr.grown {S : List Nat} {a w w' : World} {row : Option Nat} (h : Fr S a w) (hg : w.grownBy w' row) (hr : ∀ k, row = some k → k ∈ S ∨ a.heap.size ≤ k) : Fr S a w' :=
 h.step (T := row.toList) ⟨hg.os, hg.tape, hg.output, hg.size, fun k hk hn => hg.block k hk (fun e => hn (by simp [← e]))⟩ (fun x hx => hr x (by simpa using hx))
theorem Fr.below {S : List Nat} {w w' : World} {B : Nat} (h : Fr S w w') (hS : ∀ x ∈ S, B ≤ x) (hB : B ≤ w.heap.size) : Below B w w' :=
 ⟨h.os, h.tape, h.output, h.size, fun k hk => h.block k (by omega) (fun hx => by have := hS k hx; omega)⟩
theorem below_of_fr {w w' : World} (h : Fr [] w w') : Below w.heap.size w w' := h.below (by simp) (Nat.le_refl _)
theorem Fr.blk {S : List Nat} {w w' : World} (h : Fr S w w') {k : Nat} {o : Obj} (hk : w.heap[k]? = some o) (hn : k ∉ S) : w'.heap[k]? = some o := by
 rw [h.block k (lt_of_block hk) hn, hk]
theorem Fr.cell {S : List Nat} {w w' : World} (h : Fr S w w') {a : Addr} {v : Value} (hc : w.cell? a = some v) (hn : a.block ∉ S) : w'.cell? a = some v := by
 rw [World.cell?_of_block (w := w) (h.block a.block (World.block_lt_of_cell? w a hc) hn), hc]
theorem cell_of {w : World} {b : Nat} {c : Array Value} {t : TypeId} {f : Nat × Nat} (h : w.heap[b]? = some (.cells c t f)) (o : Nat) : w.cell? ⟨b, o, none⟩ = c[o]? := by
 simp [World.cell?, h]
theorem frozen_of {w : World} {b : Nat} {c : Array Value} {t : TypeId} (h : w.heap[b]? = some (.cells c t (0, 0))) (o : Nat) : w.frozen? ⟨b, o, none⟩ = false := by
 simp [World.frozen?, h]
theorem setCell_of {w : World} {b o : Nat} {c : Array Value} {t : TypeId} {f : Nat × Nat} (h : w.heap[b]? = some (.cells c t f)) (v : Value) :
  (w.setCell ⟨b, o, none⟩ v).heap[b]? = some (.cells (c.setIfInBounds o v) t f) := by
 have hlt := lt_of_block h
 have h' : w.heap[b] = .cells c t f := by simpa [Array.getElem?_eq_getElem hlt] using h
 show (w.heap.modify b _)[b]? = _
 rw [Array.getElem?_eq_getElem (by simpa using hlt), Array.getElem_modify_self, h']
 rfl
theorem alloc_at (w : World) (o : Obj) : (w.alloc o).heap[w.heap.size]? = some o := heap_alloc_new w o
theorem alloc_old {w : World} {b : Nat} {x : Obj} (o : Obj) (h : w.heap[b]? = some x) : (w.alloc o).heap[b]? = some x := by
 rw [Below.heap_alloc w o b (lt_of_block h), h]
def blk : Option Addr → List Nat
 | some a => [a.block]
 | none => []
def Cs (w : World) (ao : Option Addr) (vs : List Value) : Prop :=
 vs = [] ∨ ∃ g o, ao = some ⟨g, o, none⟩ ∧ ∀ j v, vs[j]? = some v → w.cell? ⟨g, o + j, none⟩ = some v
theorem Cs.nil (w : World) (ao : Option Addr) : Cs w ao [] := .inl rfl
theorem Cs.at {w : World} {ao : Option Addr} {vs : List Value} (h : Cs w ao vs) (hne : 0 < vs.length) : ∃ g o, ao = some ⟨g, o, none⟩ ∧ ∀ j v, vs[j]? = some v → w.cell? ⟨g, o + j, none⟩ = some v := by
 rcases h with rfl | h
 ·simp at hne
 ·exact h
theorem Cs.keep {w w' : World} {ao : Option Addr} {vs : List Value} (h : Cs w ao vs) (hk : ∀ a, ao = some a → w'.heap[a.block]? = w.heap[a.block]?) : Cs w' ao vs := by
 rcases h with h | ⟨g, o, rfl, h⟩
 ·exact .inl h
 ·refine .inr ⟨g, o, rfl, fun j v hv => ?_⟩
  rw [World.cell?_of_block (w := w) (a := ⟨g, o + j, none⟩) (hk ⟨g, o, none⟩ rfl), h j v hv]
theorem Cs.lt {w : World} {ao : Option Addr} {vs : List Value} (h : Cs w ao vs) (hne : vs ≠ []) : ∀ a, ao = some a → a.block < w.heap.size := by
 rcases h with h | ⟨g, o, rfl, h⟩
 ·exact absurd h hne
 ·intro a ha
  obtain rfl := Option.some.inj ha
  cases vs with
  | nil => exact absurd rfl hne
  | cons v vs => exact World.block_lt_of_cell? w _ (h 0 v rfl)
theorem Cs.fr {S : List Nat} {w w' : World} {ao : Option Addr} {vs : List Value} (h : Cs w ao vs) (hf : Fr S w w') (hn : ∀ x ∈ blk ao, x ∉ S) : Cs w' ao vs := by
 by_cases hne : vs = []
 ·exact .inl hne
 ·exact h.keep fun a ha => hf.block a.block (h.lt hne a ha) (hn _ (by simp [ha, blk]))
theorem Cs.below {B : Nat} {w w' : World} {ao : Option Addr} {vs : List Value} (h : Cs w ao vs) (hf : Below B w w') (hn : ∀ x ∈ blk ao, x < B) : Cs w' ao vs := by
 refine h.keep fun a ha => hf.block a.block (hn _ (by simp [ha, blk]))
theorem Cs.belowAll {w w' : World} {ao : Option Addr} {vs : List Value} (h : Cs w ao vs) (hf : Below w.heap.size w w') : Cs w' ao vs := by
 by_cases hne : vs = []
 ·exact .inl hne
 ·exact h.keep fun a ha => hf.block a.block (h.lt hne a ha)
theorem cs_of_owns {w : World} {base : Nat} {e : TypeId} {n : Nat} {xs : List Value} {ao : Option Addr} {len cap : Nat} (h : w.ownsRow base e 1 (.slice ao len cap) n xs) : Cs w ao xs := by
 rcases h.2 with ⟨h1, h2⟩ | ⟨g, cap', cur, h1, hb, hg, hn, hm, hs, ht⟩
 ·left
  have := h.1
  rw [h2] at this
  exact List.eq_nil_of_length_eq_zero (by simpa using this)
 ·simp only [Value.slice.injEq] at h1
  obtain ⟨rfl, rfl, rfl⟩ := h1
  refine .inr ⟨g, 0, rfl, fun j v hv => ?_⟩
  rw [cell_of hg, Nat.zero_add]
  rw [← ht, List.getElem?_take] at hv
  split at hv
  ·simpa using hv
  ·cases hv
theorem owns_shape {w : World} {base : Nat} {e : TypeId} {size : Nat} {v : Value} {n : Nat} {xs : List Value} (h : w.ownsRow base e size v n xs) :
  ∃ ao cap, v = .slice ao n cap ∧ n ≤ cap ∧ cap ≤ maxLen := by
 rcases h.2 with ⟨rfl, rfl⟩ | ⟨g, cap, cur, rfl, hb, hg, hn, hm, hs, ht⟩
 ·exact ⟨none, 0, rfl, Nat.le_refl _, Nat.zero_le _⟩
 ·exact ⟨_, cap, rfl, hn, hm⟩
theorem owns_form {w : World} {base : Nat} {e : TypeId} {size : Nat} {v : Value} {n : Nat} {xs : List Value} (h : w.ownsRow base e size v n xs) :
  ∃ ao cap, v = .slice ao n cap ∧ n ≤ cap ∧ cap ≤ maxLen ∧ (ao = none → cap = 0) := by
 rcases h.2 with ⟨rfl, rfl⟩ | ⟨g, cap, cur, rfl, hb, hg, hn, hm, hs, ht⟩
 ·exact ⟨none, 0, rfl, Nat.le_refl _, Nat.zero_le _, fun _ => rfl⟩
 ·exact ⟨_, cap, rfl, hn, hm, fun h => by cases h⟩
theorem ownsRow_fr {S : List Nat} {w w' : World} {base : Nat} {e : TypeId} {size : Nat} {v : Value} {n : Nat} {xs : List Value} (h : w.ownsRow base e size v n xs) (hf : Fr S w w') (hn : ∀ k, v.ownBlock = some k → k ∉ S) : w'.ownsRow base e size v n xs := by
 obtain ⟨h1, h2⟩ := h
 refine ⟨h1, ?_⟩
 rcases h2 with h2 | ⟨g, cap, cur, rfl, hb, hg, r⟩
 ·exact .inl h2
 ·exact .inr ⟨g, cap, cur, rfl, hb, hf.blk hg (hn g rfl), r⟩
def bv (b : UInt8) : Value := .int .u8 b.toNat
theorem ret_eq {u v : Value} (h : u = v) : Ending.returned u = Ending.returned v := by rw [h]
theorem int_eq {k : IntKind} {a b : Int} (h : a = b) : Value.int k a = Value.int k b := by rw [h]
theorem bool_eq {a b : Bool} (h : a = b) : Value.bool a = Value.bool b := by rw [h]
theorem own_blk (ao : Option Addr) (n cap : Nat) : (Value.slice ao n cap).ownBlock.toList = blk ao := by
 cases ao <;> rfl
theorem blk_own {ao : Option Addr} {n cap : Nat} {x : Nat} (h : x ∈ blk ao) : (Value.slice ao n cap).ownBlock = some x := by
 cases ao with
 | none => simp [blk] at h
 | some a => simp [blk] at h; simp [Value.ownBlock, h]
theorem owns_lt {w : World} {base : Nat} {e : TypeId} {size : Nat} {v : Value} {n : Nat} {xs : List Value} (h : w.ownsRow base e size v n xs) {k : Nat} (hk : v.ownBlock = some k) : k < w.heap.size := (h.lt k hk).2
def Fresh (w : World) (B : Nat) (e : TypeId) (ao : Option Addr) (xs : List Value) : Prop :=
 xs = [] ∨ ∃ g cur, ao = some ⟨g, 0, none⟩ ∧ B ≤ g ∧ w.heap[g]? = some (.cells cur e (0, 0)) ∧ cur.toList.take xs.length = xs
theorem Fresh.cs {w : World} {B : Nat} {e : TypeId} {ao : Option Addr} {xs : List Value} (h : Fresh w B e ao xs) : Cs w ao xs := by
 rcases h with h | ⟨g, cur, rfl, hB, hg, ht⟩
 ·exact .inl h
 ·refine .inr ⟨g, 0, rfl, fun j v hv => ?_⟩
  rw [Nat.zero_add, cell_of hg]
  rw [← ht, List.getElem?_take] at hv
  split at hv
  ·simpa using hv
  ·cases hv
theorem Fresh.mono {w : World} {B B' : Nat} {e : TypeId} {ao : Option Addr} {xs : List Value} (h : Fresh w B e ao xs) (hB : B' ≤ B) : Fresh w B' e ao xs := by
 rcases h with h | ⟨g, cur, rfl, hg, r⟩
 ·exact .inl h
 ·exact .inr ⟨g, cur, rfl, Nat.le_trans hB hg, r⟩
theorem Fresh.fr {S : List Nat} {w w' : World} {B : Nat} {e : TypeId} {ao : Option Addr} {xs : List Value} (h : Fresh w B e ao xs) (hf : Fr S w w') (hn : ∀ a, ao = some a → a.block ∉ S) : Fresh w' B e ao xs := by
 rcases h with h | ⟨g, cur, rfl, hB, hg, ht⟩
 ·exact .inl h
 ·exact .inr ⟨g, cur, rfl, hB, hf.blk hg (hn _ rfl), ht⟩
theorem fresh_of_owns {w : World} {base B : Nat} {e : TypeId} {n len cap : Nat} {xs : List Value} {ao : Option Addr} (h : w.ownsRow base e 1 (.slice ao len cap) n xs) (hB : ∀ k, (Value.slice ao len cap).ownBlock = some k → B ≤ k) : Fresh w B e ao xs := by
 obtain ⟨h1, h2⟩ := h
 rcases h2 with ⟨h2, rfl⟩ | ⟨g, cap', cur, h2, hb, hg, hn, hm, hs, ht⟩
 ·exact .inl (List.eq_nil_of_length_eq_zero (by simpa using h1))
 ·simp only [Value.slice.injEq] at h2
  obtain ⟨rfl, rfl, rfl⟩ := h2
  exact .inr ⟨g, cur, rfl, hB g rfl, hg, by rw [h1]; exact ht⟩
theorem fresh_of_cells {w : World} {e : TypeId} {n cap : Nat} {xs : List Value} {ao : Option Addr} {B : Nat} (h : w.ownsRow 0 e 1 (.slice ao n cap) n xs) (hB : ∀ x ∈ blk ao, B ≤ x) : Fresh w B e ao xs :=
 fresh_of_owns h fun k hk => hB k (by rw [← own_blk ao n cap, hk]; simp)
def cutAt (ao : Option Addr) (cap lo : Nat) : Option Addr := if cap = lo then ao else ao.map (·.add lo)
theorem cutAt_none {ao : Option Addr} {cap lo : Nat} (h : cutAt ao cap lo = none) : ao = none := by
 unfold cutAt at h
 split at h
 ·exact h
 ·simpa using h
theorem Cs.cut {w : World} {ao : Option Addr} {vs : List Value} (h : Cs w ao vs) (cap lo hi : Nat) (hl : lo ≤ hi) (hh : hi ≤ vs.length) (hc : vs.length ≤ cap) : Cs w (cutAt ao cap lo) ((vs.drop lo).take (hi - lo)) := by
 by_cases he : cap = lo
 ·left
  have : hi - lo = 0 := by omega
  rw [this]
  rfl
 ·rcases h with rfl | ⟨g, o, rfl, h⟩
  ·left; simp
  ·right
   refine ⟨g, o + lo, ?_, fun j v hv => ?_⟩
   ·unfold cutAt
    rw [if_neg he]
    simp only [Option.map_some, Addr.add]
    split <;> simp_all
   ·rw [List.getElem?_take] at hv
    split at hv
    ·rw [Nat.add_assoc]
     exact h _ _ (by simpa using hv)
    ·cases hv
end Go.Proofs.YtkmpfgpfbmeihaaGreatDoor.lib
namespace Go.Proofs.YtkmpfgpfbmeihaaGreatDoor.lib
open Go Go.RowKit
structure SliceTy (P : Program) (t e : TypeId) (z : Value) (size bytes : Nat) : Prop where
 under : P.underlying t = some (.slice e)
 info : ∃ i, P.info? e = some i ∧ i.zero = some z ∧ i.size = size ∧ i.bytes = bytes
 cells : z.cells.size = size
 pos : 0 < size
theorem SliceTy.of {P : Program} {t e : TypeId} {z : Value} {size bytes : Nat} (h : P.underlying t = some (.slice e))
  (hi : (P.info? e).map (fun i => (i.zero, i.size, i.bytes)) = some (some z, size, bytes)) (hz : z.cells.size = size) (hp : 0 < size) : SliceTy P t e z size bytes := by
 obtain ⟨i, h1, h2, h3, h4⟩ := info_parts hi
 exact ⟨h, ⟨i, h1, h2, h3, h4⟩, hz, hp⟩
structure Appended (w w' : World) (e : TypeId) (size : Nat) (S : List Nat) (ao : Option Addr) (len cap : Nat) (xs : List Value) : Prop where
 own : w'.ownsRow 0 e size (.slice ao len cap) len xs
 fr : Fr S w w'
 at_ : ∀ x ∈ blk ao, x ∈ S ∨ x = w.heap.size
 le : len ≤ cap
 max : cap ≤ maxLen
 nil : ao = none → cap = 0
theorem Appended.lt {w w' : World} {e : TypeId} {size : Nat} {S : List Nat} {ao : Option Addr} {len cap : Nat} {xs : List Value} (h : Appended w w' e size S ao len cap xs) : ∀ x ∈ blk ao, x < w'.heap.size :=
 fun _ hx => owns_lt h.own (blk_own hx)
section
variable {P : Program} {w : World} {t e : TypeId} {z : Value} {size bytes : Nat}
theorem addr_add (g o j : Nat) : (⟨g, o, none⟩ : Addr).add j = ⟨g, o + j, none⟩ := by unfold Addr.add; split <;> simp_all
theorem run_append (T : SliceTy P t e z size bytes) (ty : TypeId) (v : Value) (n : Nat) (xs : List Value) (S : List Nat) (hS : v.ownBlock.toList = S) (hown : w.ownsRow 0 e size v n xs)
  (ao : Option Addr) (m c : Nat) (news : List Value) (hmc : m ≤ c) (hnone : ao = none → c = 0) (hc : Cs w ao news) (hl : news.length = m * size) (h1 : ∀ u ∈ news, u.oneCell' = true)
  (hb : (n + m) * bytes ≤ 140737488355328) (h63 : n + m ≤ maxLen) :
  ∃ ao' cap' w', (Builtin.append_ #[t, t] ty #[v, .slice ao m c]).run P w = .ok (.slice ao' (n + m) cap') w' ∧ Appended w w' e size S ao' (n + m) cap' (xs ++ news) := by
 obtain ⟨hu, ⟨i, hi, hz, hs, hby⟩, hcz, hp⟩ := T
 subst hS
 have key : ∀ v' w', w'.ownsRow 0 e size v' (n + m) (xs ++ news) → w.grownBy w' v.ownBlock → (v'.ownBlock = v.ownBlock ∨ v'.ownBlock = some w.heap.size) → ∃ ao' cap', v' = .slice ao' (n + m) cap' ∧ Appended w w' e size v.ownBlock.toList ao' (n + m) cap' (xs ++ news) := by
  intro v' w' h2 h3 h4
  obtain ⟨ao', cap', rfl, h5, h6⟩ := owns_shape h2
  refine ⟨ao', cap', rfl, h2, (Fr.refl _ w).grown h3 (fun k hk => .inl (by simp [hk])), ?_, h5, h6, ?_⟩
  ·intro x hx
   have hx' := blk_own (n := n + m) (cap := cap') hx
   rcases h4 with h | h
   ·left; rw [← h, hx']; simp
   ·right; rw [h] at hx'; exact (Option.some.inj hx').symm
  ·rintro rfl
   rcases h2.2 with ⟨h, _⟩ | ⟨g, cap, cur, h, _⟩
   ·simp only [Value.slice.injEq] at h; exact h.2.2
   ·simp at h
 cases ao with
 | none =>
  have hc0 := hnone rfl
  obtain rfl : m = 0 := by omega
  subst hc0
  have hn : news = [] := List.eq_nil_of_length_eq_zero (by simpa using hl)
  subst hn
  have hr := run_append_owned_none (P := P) (w := w) 0 t ty e i size hu hi v n xs hown
  obtain ⟨ao', cap', rfl, hA⟩ := key v w (by simpa using hown) ⟨rfl, rfl, rfl, Nat.le_refl _, fun _ _ _ => rfl⟩ (.inl rfl)
  exact ⟨ao', cap', w, hr, hA⟩
 | some a =>
  have hcells : ∀ j u, news[j]? = some u → w.cell? (a.add j) = some u := by
   intro j u hj
   rcases hc with rfl | ⟨g, o, ha, hc⟩
   ·simp at hj
   ·obtain rfl := Option.some.inj ha
    rw [addr_add]
    exact hc j u hj
  obtain ⟨v', w', hr, h2, h3, h4, h5⟩ := run_append_own_at (P := P) w 0 t ty e i z size bytes hu hi hz hs hby hcz hp v n xs hown a m c news hl hcells h1 h63 hb (Nat.zero_le _)
  obtain ⟨ao', cap', rfl, hA⟩ := key v' w' h2 h3 h5
  exact ⟨ao', cap', w', hr, hA⟩
theorem wp_append (T : SliceTy P t e z size bytes) {o : Oper} {a : Act} {K : Act → World → Prop} {Q : Exit → Act → World → Prop} (s x : Operand)
  (ho : o.op = .call { callee := .builtin .append, args := #[s, x], argTypes := #[t, t] })
  (v : Value) (n : Nat) (xs : List Value) (S : List Nat) (hs : a.eval s = v) (hS : v.ownBlock.toList = S) (hown : w.ownsRow 0 e size v n xs)
  (ao : Option Addr) (m c : Nat) (news : List Value) (hx : a.eval x = .slice ao m c) (hmc : m ≤ c) (hnone : ao = none → c = 0) (hc : Cs w ao news) (hl : news.length = m * size) (h1 : ∀ u ∈ news, u.oneCell' = true)
  (hb : (n + m) * bytes ≤ 140737488355328) (h63 : n + m ≤ maxLen)
  (h : ∀ ao' cap' w', Appended w w' e size S ao' (n + m) cap' (xs ++ news) → K (a.put o.dst (.slice ao' (n + m) cap')) w') : o.wp P a w K Q := by
 obtain ⟨ao', cap', w', hr, h2⟩ := run_append (P := P) T o.type v n xs S hS hown ao m c news hmc hnone hc hl h1 hb h63
 unfold Oper.wp execOp
 simp only [ho, resolve, invoke, builtin, Sem.run_bind, Sem.run_pure, Result.andThen_ok, List.map_toArray, List.map_cons, List.map_nil, hs, hx, hr]
 exact h ao' cap' w' h2
theorem wpList_append (T : SliceTy P t e z size bytes) {ops : Array Oper} {rest : List Oper} {o : Oper} {a : Act} {Q : Exit → Act → World → Prop} (hgd : o.guard = none) (s x : Operand)
  (ho : o.op = .call { callee := .builtin .append, args := #[s, x], argTypes := #[t, t] })
  (v : Value) (n : Nat) (xs : List Value) (S : List Nat) (hs : a.eval s = v) (hS : v.ownBlock.toList = S) (hown : w.ownsRow 0 e size v n xs)
  (ao : Option Addr) (m c : Nat) (news : List Value) (hx : a.eval x = .slice ao m c) (hmc : m ≤ c) (hnone : ao = none → c = 0) (hc : Cs w ao news) (hl : news.length = m * size) (h1 : ∀ u ∈ news, u.oneCell' = true)
  (hb : (n + m) * bytes ≤ 140737488355328) (h63 : n + m ≤ maxLen)
  (h : ∀ ao' cap' w', Appended w w' e size S ao' (n + m) cap' (xs ++ news) → wpList P ops Q rest (a.put o.dst (.slice ao' (n + m) cap')) w') : wpList P ops Q (o :: rest) a w :=
 wpList_plain hgd fun _ hK => wp_append T s x ho v n xs S hs hS hown ao m c news hx hmc hnone hc hl h1 hb h63 fun ao' cap' w' h2 => hK _ _ (h ao' cap' w' h2)
theorem step_append (T : SliceTy P t e z size bytes) {ops : Array Oper} {o : Oper} {a : Act} {K : Act → World → Prop} {Q : Exit → Act → World → Prop} {E : Prop} (hgd : o.guard = none) (s x : Operand)
  (ho : o.op = .call { callee := .builtin .append, args := #[s, x], argTypes := #[t, t] })
  (v : Value) (n : Nat) (xs : List Value) (S : List Nat) (hs : a.eval s = v) (hS : v.ownBlock.toList = S) (hown : w.ownsRow 0 e size v n xs)
  (ao : Option Addr) (m c : Nat) (news : List Value) (hx : a.eval x = .slice ao m c) (hmc : m ≤ c) (hnone : ao = none → c = 0) (hc : Cs w ao news) (hl : news.length = m * size) (h1 : ∀ u ∈ news, u.oneCell' = true)
  (hb : (n + m) * bytes ≤ 140737488355328) (h63 : n + m ≤ maxLen)
  (h : ∀ ao' cap' w', Appended w w' e size S ao' (n + m) cap' (xs ++ news) → K (a.put o.dst (.slice ao' (n + m) cap')) w') :
  if Region.wanted o (yielded ops a.tmps) = true then Oper.wp P o a w K Q else E := by
 have hw : Region.wanted o (yielded ops a.tmps) = true := by simp [Region.wanted, hgd]
 rw [if_pos hw]
 exact wp_append T s x ho v n xs S hs hS hown ao m c news hx hmc hnone hc hl h1 hb h63 h
end
theorem cs_one (w : World) (B : Nat) (v : Value) (t : TypeId) (h : w.heap[B]? = some (.cells #[v] t (0, 0))) : Cs w (some ⟨B, 0, none⟩) [v] :=
 .inr ⟨B, 0, rfl, fun j u hj => by
  match j, hj with
  | 0, hj => rw [cell_of h]; simpa using hj⟩
end Go.Proofs.YtkmpfgpfbmeihaaGreatDoor.lib
namespace Go.Proofs.YtkmpfgpfbmeihaaGreatDoor.lib
open Go Go.RowKit
section
variable {P : Program} {w : World} {ops : Array Oper} {rest : List Oper} {o : Oper} {a : Act} {Q : Exit → Act → World → Prop}
theorem wpList_value (v : Value) (hgd : o.guard = none) (hr : (execOp a.eval o).run P w = .ok (.value v) w) (h : wpList P ops Q rest (a.put o.dst v) w) : wpList P ops Q (o :: rest) a w :=
 wpList_plain hgd fun K hK => by
  unfold Oper.wp
  rw [hr]
  exact hK _ _ h
theorem wpList_min2 (m : Int) (hgd : o.guard = none) (x y : Operand) (ts : Array TypeId) (ho : o.op = .call { callee := .builtin .min, args := #[x, y], argTypes := ts }) (i j : Int)
  (hx : a.eval x = .int .i64 i) (hy : a.eval y = .int .i64 j) (hm : m = if j < i then j else i) (h : wpList P ops Q rest (a.put o.dst (.int .i64 m)) w) : wpList P ops Q (o :: rest) a w := by
 subst hm
 refine wpList_value _ hgd ?_ h
 simp [execOp, ho, resolve, invoke, builtin, hx, hy, Builtin.min_, Builtin.min2]
theorem wpList_max2 (m : Int) (hgd : o.guard = none) (x y : Operand) (ts : Array TypeId) (ho : o.op = .call { callee := .builtin .max, args := #[x, y], argTypes := ts }) (i j : Int)
  (hx : a.eval x = .int .i64 i) (hy : a.eval y = .int .i64 j) (hm : m = if j > i then j else i) (h : wpList P ops Q rest (a.put o.dst (.int .i64 m)) w) : wpList P ops Q (o :: rest) a w := by
 subst hm
 refine wpList_value _ hgd ?_ h
 simp [execOp, ho, resolve, invoke, builtin, hx, hy, Builtin.max_, Builtin.max2]
end
section
variable {P : Program} {w : World} {ops : Array Oper} {rest : List Oper} {o : Oper} {a : Act} {Q : Exit → Act → World → Prop} {t e : TypeId} {z : Value} {bytes : Nat}
theorem wpList_slice_lh (T : SliceTy P t e z 1 bytes) (l m : Nat) (hgd : o.guard = none) (x lo hi : Operand) (ho : o.op = .slice t x (some lo) (some hi) none) (ao : Option Addr) (len cap : Nat) (il ih : Int)
  (hx : a.eval x = .slice ao len cap) (hlo : a.eval lo = .int .i64 il) (hhi : a.eval hi = .int .i64 ih) (hl : il = l) (hh : ih = l + m) (hc : l + m ≤ cap)
  (h : wpList P ops Q rest (a.put o.dst (.slice (cutAt ao cap l) m (cap - l))) w) : wpList P ops Q (o :: rest) a w := by
 obtain ⟨hu, ⟨i, hi', _, hs, _⟩, _, _⟩ := T
 subst hl
 obtain rfl : ih = ((l + m : Nat) : Int) := by omega
 refine wpList_value _ hgd ?_ h
 have c1 : (0 : Int) ≤ (l : Int) + m ∧ (l : Int) + m ≤ (cap : Int) := by omega
 have e2 : ((l : Int) + m).toNat = l + m := by omega
 have e1 : l + m - l = m := by omega
 simp [execOp, ho, Instr.sliceAt, run_underlying hu, hx, hlo, hhi, Instr.slice, Instr.sliceBounds, Instr.sliceBound, asIntOf, c1, e2, sizeOf, typeInfo, hi', hs, cutAt, e1, Result.andThen]
end
def str (bs : List UInt8) : ByteArray := ⟨bs.toArray⟩
theorem str_toList (bs : List UInt8) : (str bs).toList = bs := by rw [ByteArray.toList_eq]; rfl
theorem str_beq (a b : List UInt8) : (str a == str b) = (a == b) := by
 have h : (str a == str b) = (a.toArray == b.toArray) := rfl
 rw [h, Bool.eq_iff_iff, beq_iff_eq, beq_iff_eq]
 exact ⟨fun h => by simpa using h, fun h => by rw [h]⟩
theorem run_conv {P : Program} (w : World) {src dst e : TypeId} (hs : P.underlying src = some (.slice e)) (he : P.underlying e = some (.int .u8)) (hd : P.underlying dst = some .string)
  {ao : Option Addr} {n : Nat} {bs : List UInt8} (hn : bs.length = n) (hcs : Cs w ao (bs.map bv)) :
  ∀ cap, (convert src dst (.slice ao n cap)).run P w = .ok (.string (str bs)) w := by
 intro cap
 have hnil : ∀ (ao : Option Addr), bs = [] → (convert src dst (.slice ao n cap)).run P w = .ok (.string (str bs)) w := by
  intro ao hb
  subst hb
  obtain rfl : n = 0 := by simpa using hn.symm
  rw [run_convert_bytes_string w src dst e ao 0 cap hs he hd]
  cases ao with
  | none => rfl
  | some a => rfl
 rcases hcs with h | ⟨g, o, rfl, h⟩
 ·exact hnil ao (by simpa using h)
 ·have hr := run_convert_bytes_arg (P := P) w src e hs he g o n cap (bs.map fun b => (b.toNat : Int)) (by simpa using hn) (fun i hi => by
   have h2 := h i (bv (bs.getD i 0)) (by simp [List.getD, show i < bs.length by omega])
   rw [h2]
   have hi' : i < bs.length := by omega
   simp [bv, List.getD, hi']) dst hd
  rw [hr]
  congr 2
  unfold strOfNums str
  congr 1
  rw [List.map_map]
  have : ((fun n : Int => UInt8.ofNat n.toNat) ∘ fun b : UInt8 => (b.toNat : Int)) = id := by
   funext b
   simp
  rw [this, List.map_id]
end Go.Proofs.YtkmpfgpfbmeihaaGreatDoor.lib
namespace Go.Proofs.YtkmpfgpfbmeihaaGreatDoor.lib
open Go Go.RowKit
def cutAtN (ao : Option Addr) (cap lo size : Nat) : Option Addr := if cap = lo then ao else ao.map (·.add (lo * size))
theorem cutAtN_none {ao : Option Addr} {cap lo size : Nat} (h : cutAtN ao cap lo size = none) : ao = none := by
 unfold cutAtN at h
 split at h
 ·exact h
 ·simpa using h
theorem cutAtN_blk (ao : Option Addr) (cap lo size : Nat) : blk (cutAtN ao cap lo size) = blk ao := by
 unfold cutAtN
 split
 ·rfl
 ·cases ao with
  | none => rfl
  | some a => simp only [Option.map_some, blk, Addr.add]; split <;> rfl
theorem cutAtN_one (ao : Option Addr) (cap lo : Nat) : cutAtN ao cap lo 1 = cutAt ao cap lo := by unfold cutAtN cutAt; rw [Nat.mul_one]
section
variable {P : Program} {w : World} {ops : Array Oper} {rest : List Oper} {o : Oper} {a : Act} {Q : Exit → Act → World → Prop} {t e : TypeId} {z : Value} {size bytes : Nat}
theorem wpList_slice_to (T : SliceTy P t e z size bytes) (m : Nat) (hgd : o.guard = none) (x hi : Operand) (ho : o.op = .slice t x none (some hi) none) (ao : Option Addr) (len cap : Nat) (ih : Int)
  (hx : a.eval x = .slice ao len cap) (hhi : a.eval hi = .int .i64 ih) (hh : ih = m) (hc : m ≤ cap)
  (h : wpList P ops Q rest (a.put o.dst (.slice ao m cap)) w) : wpList P ops Q (o :: rest) a w := by
 obtain ⟨hu, ⟨i, hi', _, hs, _⟩, _, _⟩ := T
 subst hh
 refine wpList_value _ hgd ?_ h
 have c1 : (0 : Int) ≤ (m : Int) ∧ (m : Int) ≤ (cap : Int) := by omega
 have ad0 : ∀ x : Addr, x.add 0 = x := fun x => rfl
 cases ao <;> simp [execOp, ho, Instr.sliceAt, run_underlying hu, hx, hhi, Instr.slice, Instr.sliceBounds, Instr.sliceBound, asIntOf, c1, hc, sizeOf, typeInfo, hi', hs, Result.andThen, ad0]
theorem wpList_slice_from (T : SliceTy P t e z size bytes) (l : Nat) (hgd : o.guard = none) (x lo : Operand) (ho : o.op = .slice t x (some lo) none none) (ao : Option Addr) (len cap : Nat) (il : Int)
  (hx : a.eval x = .slice ao len cap) (hlo : a.eval lo = .int .i64 il) (hl : il = l) (hc : l ≤ len) (hlc : len ≤ cap)
  (h : wpList P ops Q rest (a.put o.dst (.slice (cutAtN ao cap l size) (len - l) (cap - l))) w) : wpList P ops Q (o :: rest) a w := by
 obtain ⟨hu, ⟨i, hi', _, hs, _⟩, _, _⟩ := T
 subst hl
 refine wpList_value _ hgd ?_ h
 have c1 : (0 : Int) ≤ (l : Int) ∧ (l : Int) ≤ (len : Int) := by omega
 have c2 : (len : Int) ≤ (cap : Int) := by omega
 simp [execOp, ho, Instr.sliceAt, run_underlying hu, hx, hlo, Instr.slice, Instr.sliceBounds, Instr.sliceBound, asIntOf, c1, c2, hc, hlc, sizeOf, typeInfo, hi', hs, cutAtN, Result.andThen]
end
end Go.Proofs.YtkmpfgpfbmeihaaGreatDoor.lib
namespace Go.Proofs.YtkmpfgpfbmeihaaGreatDoor.lib
open Go Go.RowKit Go.ChangeShapes Go.WideShapes
theorem wf_u8 {n : Int} (h : (Lit.int .u8 n).wf = true) : 0 ≤ n ∧ n ≤ 255 := by
 simpa [Lit.wf, IntKind.min, IntKind.max, IntKind.signed, IntKind.bits] using h
structure IntsArg (k : IntKind) (w : World) (a : Option Addr) (len cap : Nat) (xs : List Int) : Prop where
 le : len ≤ cap
 max : cap ≤ maxLen
 nil : a = none → cap = 0
 length : xs.length = len
 cs : Cs w a (xs.map (Value.int k))
 wf : ∀ x ∈ xs, (Lit.int k x).wf = true
 lt : ∀ x ∈ blk a, cap ≠ 0 → x < w.heap.size
theorem add_at {x : Addr} (h : x.spot = none) (j : Nat) : x.add j = ⟨x.block, x.off + j, none⟩ := by
 obtain ⟨b, o, s⟩ := x
 simp only at h
 subst h
 unfold Addr.add
 split <;> simp_all
section
variable {H : Type} {enc : TypeId × Value → H} {P : Program} {w : World}
theorem ints_arg {t e : TypeId} {k : IntKind} {a : Option Addr} {len cap : Nat} {d : DataW H} {p : List MemPlace} (ht : P.underlying t = some (.slice e)) (he : P.underlying e = some (.int k)) (hc : P.cellsOf e = 1)
  (h : DataW.Trod enc P w 0 (fun _ => true) true t (.slice a len cap) d p) :
  ∃ xs sp : List Int, IntsArg k w a len cap xs ∧ sp.length = cap - len ∧ (d = .nil ∧ cap = 0 ∨ d = .slice (lits k xs) (lits k sp)) := by
 obtain ⟨fuel, hf⟩ := h
 rcases open_ints ht he hc hf with ⟨hcs, hx⟩ | ⟨x, l, c, zs, hcs, _, hl, hm, hz, hx, hcell, hwz⟩
 ·simp [Value.cells] at hcs
  obtain ⟨rfl, rfl, rfl⟩ := hcs
  simp at hx
  exact ⟨[], [], ⟨Nat.le_refl _, Nat.zero_le _, fun _ => rfl, rfl, .inl rfl, by simp, by simp [blk]⟩, rfl, .inl ⟨hx.1, rfl⟩⟩
 ·simp [Value.cells] at hcs
  obtain ⟨rfl, rfl, rfl⟩ := hcs
  simp only [if_true] at hz
  simp at hx
  have hcl : ∀ i v, (zs.map (Value.int k))[i]? = some v → w.cell? (x.add i) = some v := by
   intro i v hv
   have hi : i < zs.length := by have := (List.getElem?_eq_some_iff.1 hv).1; simpa using this
   rw [hcell i hi]
   simp [hi] at hv
   simp [List.getD, hi, hv]
  have spot : 0 < zs.length → x.spot = none := by
   intro h0
   have h1 := hcell 0 h0
   have h2 : x.add 0 = x := by simp [Addr.add]
   rw [h2] at h1
   cases hs : x.spot with
   | none => rfl
   | some s =>
    simp only [World.cell?, hs, Option.isSome_some, if_true] at h1
    split at h1 <;> cases h1
  have hcsx : Cs w (some x) (zs.map (Value.int k)) := by
   by_cases h0 : zs = []
   ·left; simp [h0]
   ·right
    have hp : 0 < zs.length := List.length_pos_iff.2 h0
    have hs := spot hp
    refine ⟨x.block, x.off, by rw [← hs], fun j v hv => ?_⟩
    have h3 := hcl j v hv
    have h4 : x.add j = ⟨x.block, x.off + j, none⟩ := by exact add_at hs j
    rwa [h4] at h3
  refine ⟨zs.take len, zs.drop len, ⟨hl, hm, (fun h => by cases h), (by simp; omega), ?_, fun y hy => hwz y (List.mem_of_mem_take hy), ?_⟩, (by simp; omega), .inr hx.1⟩
  ·rcases hcsx with h0 | ⟨g, o, ha, h0⟩
   ·left
    have : zs = [] := by simpa using h0
    simp [this]
   ·refine .inr ⟨g, o, ha, fun j v hv => h0 j v ?_⟩
    rw [List.map_take, List.getElem?_take] at hv
    split at hv
    ·exact hv
    ·cases hv
  ·intro y hy hne
   simp [blk] at hy
   subst hy
   have h0 : 0 < zs.length := by omega
   exact World.block_lt_of_cell? w _ (by have := hcell 0 h0; simpa [Addr.add] using this)
theorem trodAll_below (hl : laidOutB P = true) {W W' : World} (hb : Below W.heap.size W W') : ∀ {ts : List TypeId} {vs : List Value} {ds : List (DataW H)} {ps : List MemPlace},
  (ts.all fun t => P.readableRec t && decide (t < P.types.size)) = true → (∀ x ∈ ps, x.block < W.heap.size) → DataW.TrodAll enc P W 0 (fun _ => true) true ts vs ds ps → DataW.TrodAll enc P W' 0 (fun b => decide (b < W.heap.size)) true ts vs ds ps
 | [], [], [], _, _, _, h => h
 | t :: ts, v :: vs, d :: ds, ps, hr, hlt, h => by
  simp only [List.all_cons, Bool.and_eq_true, decide_eq_true_eq] at hr
  obtain ⟨v', vs', d', ds', p, q, hv, hd, rfl, h1, h2⟩ := trodAll_cons h
  obtain ⟨rfl, rfl⟩ := List.cons.inj hv
  obtain ⟨rfl, rfl⟩ := List.cons.inj hd
  exact trodAll_cons_mk (Below.trod hl hr.1.1 hr.1.2 h1 hb (fun x hx => hlt x (by simp [hx]))) (trodAll_below hl hb hr.2 (fun x hx => hlt x (by simp [hx])) h2)
 | [], _ :: _, _, _, _, _, h => by simp [DataW.TrodAll] at h
 | [], [], _ :: _, _, _, _, h => by simp [DataW.TrodAll] at h
 | _ :: _, [], _, _, _, _, h => by simp [DataW.TrodAll] at h
 | _ :: _, _ :: _, [], _, _, _, h => by simp [DataW.TrodAll] at h
theorem law_of_calls {s : ChangeSpec} {f : FuncId} {fn : Func} {W : World} {args : Array Value} {ds gs : List (DataW H)} {before : List MemPlace} {tb : TypeId}
  (hl : laidOutB P = true) (hread : (fn.params.toList.all fun t => P.readableRec t && decide (t < P.types.size)) = true) (hvars : s.vars = []) (hres : fn.resultTypes = #[tb]) (htb : P.underlying tb = some .bool)
  (hW : DataW.Whole enc P fn.params.toList s.vars false W args.toList ds gs before) (hfn : ∀ gs, s.vars = [] → gs = [] → s.fn H (ds ++ gs) = { results := [.lit (.bool true)], args := ds })
  (hc : Calls P f args W fun e W' => e = .returned (.bool true) ∧ Below W.heap.size W W') :
  Calls P f args W fun e W' => ∃ v, e = .returned v ∧ s.post enc P fn false true false false W args v W' := by
 have hW' := hW
 obtain ⟨p, q, hA, hV, rfl, hfz, hnd⟩ := hW
 have hV' := hV
 rw [hvars] at hV'
 obtain ⟨rfl, rfl⟩ := trodVars_none hV'
 have hlt : ∀ x ∈ p, x.block < W.heap.size := fun x hx => by simpa using hW'.lt x (by simpa using hx)
 refine hc.mono fun e W' ⟨he, hb⟩ => ⟨_, he, _, _, _, [], p, [], hW', ?_, ?_, ?_, hb.frame _, fun h => by cases h⟩
 ·rw [hfn [] hvars rfl, hres]
  exact trodAll_mk1 (shut_bool htb _)
 ·rw [hfn [] hvars rfl]
  exact trodAll_below hl hb hread hlt hA
 ·rw [hvars, hfn [] hvars rfl]
  rfl
end
end Go.Proofs.YtkmpfgpfbmeihaaGreatDoor.lib
namespace Go.Proofs.YtkmpfgpfbmeihaaGreatDoor.lib
open Go Go.RowKit Go.ChangeShapes Go.WideShapes
section
variable {H : Type} {enc : TypeId × Value → H} {P : Program} {w : World}
def Light (P : Program) (t : TypeId) (d : DataW H) : Prop := (DataW.weights P t d).all (· ≤ reachBytes) = true
theorem light_all {e : TypeId} : ∀ {ds : List (DataW H)}, (DataW.weightsAll P e ds).all (· ≤ reachBytes) = true → ∀ d ∈ ds, Light P e d
 | [], _, d, hd => by cases hd
 | x :: r, h, d, hd => by
  rw [DataW.weightsAll, List.all_append, Bool.and_eq_true] at h
  rcases List.mem_cons.1 hd with rfl | hd
  ·exact h.1
  ·exact light_all h.2 d hd
theorem light_each {ts : List TypeId} {ds : List (DataW H)} (h : (DataW.weightsEach P ts ds).all (· ≤ reachBytes) = true) {j : Nat} {t : TypeId} {d : DataW H} (ht : ts[j]? = some t) (hd : ds[j]? = some d) : Light P t d :=
 List.all_eq_true.2 fun n hn => List.all_eq_true.1 h n (DataW.weights_mem_each ht hd n hn)
theorem light_slice {t e : TypeId} {elems spare : List (DataW H)} (ht : P.underlying t = some (.slice e)) (h : Light P t (.slice elems spare)) :
  (elems.length + spare.length) * P.bytesOf e ≤ reachBytes ∧ (∀ d ∈ elems, Light P e d) ∧ ∀ d ∈ spare, Light P e d := by
 unfold Light at h
 rw [DataW.weights, ht] at h
 simp only [List.all_cons, List.all_append, Bool.and_eq_true, decide_eq_true_eq] at h
 exact ⟨h.1, light_all h.2.1, light_all h.2.2⟩
theorem light_struct {t : TypeId} {fs : Array Field} {parts : List (DataW H)} (ht : P.underlying t = some (.struct fs)) (h : Light P t (.agg parts)) {j : Nat} {u : TypeId} {d : DataW H} (hu : (fs.toList.map (·.type))[j]? = some u) (hd : parts[j]? = some d) : Light P u d := by
 unfold Light at h
 rw [DataW.weights, ht] at h
 exact light_each h hu hd
theorem light_string {t : TypeId} {bytes : List UInt8} (h : Light (H := H) P t (.lit (.string bytes))) : bytes.length ≤ 140737488351232 := by
 unfold Light at h
 rw [DataW.weights] at h
 simp only [List.all_cons, List.all_nil, Bool.and_true, decide_eq_true_eq] at h
 have e : reachBytes = 140737488351232 := by decide
 omega
theorem bulk_one (d : DataW H) : 1 ≤ Rows.uptoBulk d := by
 cases d with
 | lit l => cases l <;> simp [Rows.uptoBulk]
 | nil => simp [Rows.uptoBulk]
 | ptr d => simp [Rows.uptoBulk]
 | slice elems spare => simp [Rows.uptoBulk]
 | agg parts => simp [Rows.uptoBulk]
 | iface t d => simp [Rows.uptoBulk]
 | map entries => simp [Rows.uptoBulk]
 | held h => simp [Rows.uptoBulk]
theorem bulk_part {d : DataW H} {l : List (DataW H)} (h : d ∈ l) : Rows.uptoBulk d ≤ Rows.uptoBulkAll l := by
 induction l with
 | nil => cases h
 | cons x r ih =>
  simp only [Rows.uptoBulkAll]
  cases List.mem_cons.1 h with
  | inl e => subst e; omega
  | inr e => have := ih e; omega
theorem bulk_length (l : List (DataW H)) : l.length ≤ Rows.uptoBulkAll l := by
 induction l with
 | nil => simp [Rows.uptoBulkAll]
 | cons x r ih => have := bulk_one x; simp only [Rows.uptoBulkAll, List.length_cons]; omega
theorem bulk_elem {d : DataW H} {elems spare : List (DataW H)} (h : d ∈ elems) : Rows.uptoBulk d ≤ Rows.uptoBulk (.slice elems spare) := by
 have := bulk_part h
 simp only [Rows.uptoBulk]
 omega
theorem bulk_slice (elems spare : List (DataW H)) : elems.length ≤ Rows.uptoBulk (.slice elems spare) := by
 have := bulk_length elems
 simp only [Rows.uptoBulk]
 omega
theorem slice_arg {t e : TypeId} {a : Option Addr} {len cap s : Nat} {d : DataW H} {p : List MemPlace} (ht : P.underlying t = some (.slice e)) (hs : P.cellsOf e = s) (h0 : 0 < s)
  (h : DataW.Trod enc P w 0 (fun _ => true) true t (.slice a len cap) d p) (hL : Light P t d) :
  len ≤ cap ∧ cap ≤ maxLen ∧ (a = none → cap = 0) ∧ len * P.bytesOf e ≤ 140737488351232 ∧ len ≤ Rows.uptoBulk d ∧ (len = 0 ∨ ∃ g o, a = some ⟨g, o, none⟩ ∧ ∀ i, i < len → ∃ (cs : List Value) (y : DataW H × List MemPlace) (n : Nat),
   cs.length = s ∧ (∀ j v, cs[j]? = some v → w.cell? ⟨g, o + i * s + j, none⟩ = some v) ∧ DataW.trod enc P w 0 (fun _ => true) true n e cs = some y ∧ Light P e y.1 ∧ Rows.uptoBulk y.1 ≤ Rows.uptoBulk d) := by
 have er : reachBytes = 140737488351232 := by decide
 obtain ⟨fuel, hf⟩ := h
 rcases DataW.trod_slice ht hf with ⟨hcs, hx⟩ | ⟨x, l, c, elems, rest, n, _, hcs, hx, _, hl, hm, hlen, hel, _⟩
 ·simp [Value.cells] at hcs
  obtain ⟨rfl, rfl, rfl⟩ := hcs
  exact ⟨Nat.le_refl _, Nat.zero_le _, fun _ => rfl, by simp, Nat.zero_le _, .inl rfl⟩
 ·simp [Value.cells] at hcs
  obtain ⟨rfl, rfl, rfl⟩ := hcs
  simp only [Prod.mk.injEq] at hx
  obtain ⟨rfl, _⟩ := hx
  obtain ⟨hw, hle, _⟩ := light_slice ht hL
  simp only [List.length_map] at hw
  refine ⟨hl, hm, (fun h => by cases h), ?_, by have := bulk_slice (elems.map (·.1)) (rest.map (·.1)); simp at this; omega, ?_⟩
  ·have h1 : len * P.bytesOf e ≤ (elems.length + rest.length) * P.bytesOf e := Nat.mul_le_mul_right _ (by omega)
   omega
  ·by_cases hz : len = 0
   ·exact .inl hz
   ·right
    have get : ∀ i, i < len → ∃ (cs : List Value) (y : DataW H × List MemPlace), cs.length = s ∧ (∀ j v, cs[j]? = some v → w.cell? ((x.add (i * s)).add j) = some v) ∧ DataW.trod enc P w 0 (fun _ => true) true n e cs = some y ∧ Light P e y.1 ∧ Rows.uptoBulk y.1 ≤ Rows.uptoBulk (.slice (elems.map (·.1)) (rest.map (·.1))) := by
     intro i hi
     have h1 := hel i hi
     rw [hs] at h1
     have hie : i < elems.length := by omega
     rw [List.getElem?_eq_getElem hie] at h1
     obtain ⟨cs, hc1, hc2⟩ := Option.bind_eq_some_iff.1 h1
     obtain ⟨_, hc3, hc4⟩ := World.cells?_some hc1
     exact ⟨cs, elems[i], hc3, fun j v hv => by rw [hc4 j (by have := (List.getElem?_eq_some_iff.1 hv).1; omega), hv], hc2, hle _ (List.mem_map.2 ⟨_, List.getElem_mem hie, rfl⟩), bulk_elem (List.mem_map.2 ⟨_, List.getElem_mem hie, rfl⟩)⟩
    have spot : x.spot = none := by
     obtain ⟨cs, y, h1, h2, _⟩ := get 0 (by omega)
     have h3 : 0 < cs.length := by omega
     have h4 := h2 0 cs[0] (by simp [h3])
     simp only [Nat.zero_mul] at h4
     have h5 : (x.add 0).add 0 = x := by simp [Addr.add]
     rw [h5] at h4
     cases hs : x.spot with
     | none => rfl
     | some s =>
      simp only [World.cell?, hs, Option.isSome_some, if_true] at h4
      split at h4 <;> cases h4
    refine ⟨x.block, x.off, by rw [← spot], fun i hi => ?_⟩
    obtain ⟨cs, y, h1, h2, h3, h4⟩ := get i hi
    refine ⟨cs, y, n, h1, fun j v hv => ?_, h3, h4⟩
    have h5 := h2 j v hv
    rw [add_at spot, add_at rfl] at h5
    exact h5
structure BytesArg (w : World) (a : Option Addr) (len cap : Nat) (bs : List UInt8) : Prop where
 le : len ≤ cap
 max : cap ≤ maxLen
 nil : a = none → cap = 0
 length : bs.length = len
 cs : Cs w a (bs.map bv)
 lim : len ≤ 140737488351232
 lt : ∀ x ∈ blk a, bs ≠ [] → x < w.heap.size
theorem bytes_arg {t e : TypeId} {a : Option Addr} {len cap : Nat} {d : DataW H} {p : List MemPlace} (ht : P.underlying t = some (.slice e)) (he : P.underlying e = some (.int .u8)) (hc : P.cellsOf e = 1) (hby : P.bytesOf e = 1)
  (h : DataW.Trod enc P w 0 (fun _ => true) true t (.slice a len cap) d p) (hL : Light P t d) : ∃ bs, BytesArg w a len cap bs ∧ len ≤ Rows.uptoBulk d := by
 obtain ⟨xs, _, A, _⟩ := ints_arg ht he hc h
 obtain ⟨_, _, _, hlim, hbk, _⟩ := slice_arg ht hc (by decide) h hL
 have key : Cs w a ((xs.map fun x => UInt8.ofNat x.toNat).map bv) := by
  have e : (xs.map fun x => UInt8.ofNat x.toNat).map bv = xs.map (Value.int .u8) := by
   rw [List.map_map]
   apply List.map_congr_left
   intro x hx
   have := wf_u8 (A.wf x hx)
   simp only [Function.comp, bv, UInt8.toNat_ofNat']
   exact int_eq (by omega)
  rw [e]
  exact A.cs
 refine ⟨xs.map fun x => UInt8.ofNat x.toNat, ⟨A.le, A.max, A.nil, by simp [A.length], key, by rw [hby] at hlim; omega, fun x hx hne => ?_⟩, hbk⟩
 cases a with
 | none => simp [blk] at hx
 | some a =>
  simp [blk] at hx
  subst hx
  exact key.lt (by simpa using hne) a rfl
end
end Go.Proofs.YtkmpfgpfbmeihaaGreatDoor.lib
namespace Go.Proofs.YtkmpfgpfbmeihaaGreatDoor.lib
open Go Go.RowKit
structure Rd (w : World) (a : Option Addr) (cap : Nat) (bs : List UInt8) : Prop where
 cs : Cs w a (bs.map bv)
 le : bs.length ≤ cap
 max : cap ≤ maxLen
 nil : a = none → cap = 0
theorem Rd.fr {w w' : World} {a : Option Addr} {cap : Nat} {bs : List UInt8} (h : Rd w a cap bs) (f : Fr [] w w') : Rd w' a cap bs := ⟨h.cs.fr f (by simp), h.le, h.max, h.nil⟩
theorem Rd.frS {S : List Nat} {w w' : World} {a : Option Addr} {cap : Nat} {bs : List UInt8} (h : Rd w a cap bs) (f : Fr S w w') (hn : ∀ x ∈ blk a, x ∉ S) : Rd w' a cap bs := ⟨h.cs.fr f hn, h.le, h.max, h.nil⟩
theorem Rd.none (w : World) : Rd w none 0 [] := ⟨.inl rfl, Nat.le_refl _, Nat.zero_le _, fun _ => rfl⟩
theorem Rd.of_arg {w : World} {a : Option Addr} {len cap : Nat} {bs : List UInt8} (h : BytesArg w a len cap bs) : Rd w a cap bs := ⟨h.cs, by rw [h.length]; exact h.le, h.max, h.nil⟩
theorem cs_drop {w : World} {a : Option Addr} {cap : Nat} {vs : List Value} (h : Cs w a vs) (k : Nat) (hk : k ≤ vs.length) (hc : vs.length ≤ cap) : Cs w (cutAtN a cap k 1) (vs.drop k) := by
 have := h.cut cap k vs.length hk (Nat.le_refl _) hc
 rw [List.take_of_length_le (by simp), ← cutAtN_one] at this
 exact this
theorem cs_takev {w : World} {a : Option Addr} {vs : List Value} (h : Cs w a vs) (k : Nat) : Cs w a (vs.take k) := by
 rcases h with rfl | ⟨g, o, rfl, h⟩
 ·left; simp
 ·refine .inr ⟨g, o, rfl, fun j v hv => h j v ?_⟩
  rw [List.getElem?_take] at hv
  split at hv
  ·exact hv
  ·cases hv
theorem Rd.drop {w : World} {a : Option Addr} {cap : Nat} {bs : List UInt8} (h : Rd w a cap bs) (k : Nat) (hk : k ≤ bs.length) : Rd w (cutAtN a cap k 1) (cap - k) (bs.drop k) := by
 have h1 := h.le
 have h2 := h.max
 refine ⟨?_, by rw [List.length_drop]; omega, by omega, fun e => by have := h.nil (cutAtN_none e); omega⟩
 rw [List.map_drop]
 exact cs_drop h.cs k (by simpa using hk) (by simpa using h1)
theorem Rd.take {w : World} {a : Option Addr} {cap : Nat} {bs : List UInt8} (h : Rd w a cap bs) (k : Nat) : Rd w a cap (bs.take k) := by
 have h1 := h.le
 refine ⟨?_, by rw [List.length_take]; omega, h.max, h.nil⟩
 rw [List.map_take]
 exact cs_takev h.cs k
theorem Rd.mid {w : World} {a : Option Addr} {cap : Nat} {bs : List UInt8} (h : Rd w a cap bs) (l m : Nat) (hk : l + m ≤ bs.length) : Rd w (cutAt a cap l) (cap - l) ((bs.drop l).take m) := by
 have h1 := (h.drop l (by omega)).take m
 rw [cutAtN_one] at h1
 exact h1
theorem Rd.at {w : World} {a : Option Addr} {cap : Nat} {bs : List UInt8} (h : Rd w a cap bs) {i : Nat} (hi : i < bs.length) : ∃ g o, a = some ⟨g, o, Option.none⟩ ∧ w.cell? ⟨g, o + i, Option.none⟩ = some (.int .u8 ((bs[i].toNat : Nat) : Int)) := by
 obtain ⟨g, o, rfl, hc⟩ := h.cs.at (by simp; omega)
 exact ⟨g, o, rfl, hc i _ (by simp [hi, bv])⟩
theorem rd_of_owns {w : World} {base : Nat} {e : TypeId} {len cap : Nat} {bs : List UInt8} {a : Option Addr} (h : w.ownsRow base e 1 (.slice a len cap) len (bs.map bv)) : Rd w a cap bs ∧ bs.length = len := by
 have hl : bs.length = len := by simpa using h.1
 obtain ⟨_, _, he, h1, h2, h3⟩ := owns_form h
 simp only [Value.slice.injEq] at he
 obtain ⟨rfl, _, rfl⟩ := he
 exact ⟨⟨cs_of_owns h, by omega, h2, h3⟩, hl⟩
section
variable {P : Program} {t e : TypeId} {z : Value} {size bytes : Nat}
theorem run_slice_from (T : SliceTy P t e z size bytes) (l : Nat) (a : Option Addr) (len cap : Nat) (il : Int) (hl : il = l) (hc : l ≤ len) (hlc : len ≤ cap) (w : World) :
  (Instr.slice t (.slice a len cap) (some (.int .i64 il)) Option.none Option.none).run P w = .ok (.slice (cutAtN a cap l size) (len - l) (cap - l)) w := by
 obtain ⟨hu, ⟨i, hi', _, hs, _⟩, _, _⟩ := T
 subst hl
 have c1 : (0 : Int) ≤ (l : Int) ∧ (l : Int) ≤ (len : Int) := by omega
 have c2 : (len : Int) ≤ (cap : Int) := by omega
 simp [run_underlying hu, Instr.slice, Instr.sliceBounds, Instr.sliceBound, asIntOf, c1, c2, hc, hlc, sizeOf, typeInfo, hi', hs, cutAtN, Result.andThen]
theorem run_slice_to (T : SliceTy P t e z size bytes) (m : Nat) (a : Option Addr) (len cap : Nat) (ih : Int) (hh : ih = m) (hc : m ≤ cap) (w : World) :
  (Instr.slice t (.slice a len cap) Option.none (some (.int .i64 ih)) Option.none).run P w = .ok (.slice a m cap) w := by
 obtain ⟨hu, ⟨i, hi', _, hs, _⟩, _, _⟩ := T
 subst hh
 have c1 : (0 : Int) ≤ (m : Int) ∧ (m : Int) ≤ (cap : Int) := by omega
 have ad0 : ∀ x : Addr, x.add 0 = x := fun x => rfl
 cases a <;> simp [run_underlying hu, Instr.slice, Instr.sliceBounds, Instr.sliceBound, asIntOf, c1, hc, sizeOf, typeInfo, hi', hs, Result.andThen, ad0]
theorem run_slice_lh (T : SliceTy P t e z 1 bytes) (l m : Nat) (a : Option Addr) (len cap : Nat) (il ih : Int) (hl : il = l) (hh : ih = l + m) (hc : l + m ≤ cap) (w : World) :
  (Instr.slice t (.slice a len cap) (some (.int .i64 il)) (some (.int .i64 ih)) Option.none).run P w = .ok (.slice (cutAt a cap l) m (cap - l)) w := by
 obtain ⟨hu, ⟨i, hi', _, hs, _⟩, _, _⟩ := T
 subst hl
 obtain rfl : ih = ((l + m : Nat) : Int) := by omega
 have c1 : (0 : Int) ≤ (l : Int) + m ∧ (l : Int) + m ≤ (cap : Int) := by omega
 have e2 : ((l : Int) + m).toNat = l + m := by omega
 have e1 : l + m - l = m := by omega
 simp [run_underlying hu, Instr.slice, Instr.sliceBounds, Instr.sliceBound, asIntOf, c1, e2, sizeOf, typeInfo, hi', hs, cutAt, e1, Result.andThen]
end
def NewBytes (w : World) (bs : List UInt8) (e : Ending) (w' : World) : Prop :=
 ∃ a, e = .returned (.slice a bs.length bs.length) ∧ Rd w' a bs.length bs ∧ (∀ x ∈ blk a, w.heap.size ≤ x ∧ x < w'.heap.size) ∧ Fr [] w w'
end Go.Proofs.YtkmpfgpfbmeihaaGreatDoor.lib
namespace Go.Proofs.YtkmpfgpfbmeihaaGreatDoor.pk
open Go
def hdF : Nat → Nat → Nat → List UInt8
 | 0, c, _ => [UInt8.ofNat c]
 | f + 1, c, n => if n = 0 then [UInt8.ofNat c] else UInt8.ofNat (c + 128) :: hdF f (n % 128) (n / 128)
def hd (kind size : Nat) : List UInt8 := hdF size (kind % 8 * 16 + size % 16) (size / 16)
theorem hdF_fuel {f g : Nat} : ∀ {c n : Nat}, n ≤ f → n ≤ g → hdF f c n = hdF g c n := by
 induction f generalizing g with
 | zero =>
  intro c n h1 h2
  have : n = 0 := by omega
  subst this
  cases g <;> simp [hdF]
 | succ f ih =>
  intro c n h1 h2
  by_cases h0 : n = 0
  ·subst h0
   cases g <;> simp [hdF]
  ·cases g with
   | zero => omega
   | succ g =>
    unfold hdF
    rw [if_neg h0, if_neg h0, ih (g := g) (by omega) (by omega)]
theorem hdF_le {k : Nat} : ∀ {f c n : Nat}, n < 128 ^ k → n ≤ f → (hdF f c n).length ≤ k + 1 := by
 induction k with
 | zero =>
  intro f c n h _
  have : n = 0 := by omega
  subst this
  cases f <;> simp [hdF]
 | succ k ih =>
  intro f c n h hf
  cases f with
  | zero => simp [hdF]
  | succ f =>
   unfold hdF
   split
   ·simp
   ·have h2 : n / 128 < 128 ^ k := by rw [Nat.pow_succ] at h; exact Nat.div_lt_of_lt_mul (by omega)
    have := ih (f := f) (c := n % 128) h2 (by omega)
    simp only [List.length_cons]
    omega
def bkF : Nat → Nat → List UInt8
 | 0, _ => []
 | f + 1, m => if m = 0 then [] else UInt8.ofNat ((m - 1) % 128 + 128) :: bkF f ((m - 1) / 128)
def bk (n : Nat) : List UInt8 := UInt8.ofNat (n % 128) :: bkF n (n / 128)
theorem bkF_fuel {f g : Nat} : ∀ {m : Nat}, m ≤ f → m ≤ g → bkF f m = bkF g m := by
 induction f generalizing g with
 | zero =>
  intro m h1 h2
  have : m = 0 := by omega
  subst this
  cases g <;> simp [bkF]
 | succ f ih =>
  intro m h1 h2
  by_cases h0 : m = 0
  ·subst h0
   cases g <;> simp [bkF]
  ·cases g with
   | zero => omega
   | succ g =>
    unfold bkF
    rw [if_neg h0, if_neg h0, ih (g := g) (by omega) (by omega)]
theorem bkF_len {k : Nat} : ∀ {f m : Nat}, m < 128 ^ k → (bkF f m).length ≤ k := by
 induction k with
 | zero =>
  intro f m h
  have : m = 0 := by omega
  subst this
  cases f <;> simp [bkF]
 | succ k ih =>
  intro f m h
  cases f with
  | zero => simp [bkF]
  | succ f =>
   unfold bkF
   split
   ·simp
   ·have h2 : (m - 1) / 128 < 128 ^ k := by rw [Nat.pow_succ] at h; exact Nat.div_lt_of_lt_mul (by omega)
    have := ih (f := f) h2
    simp only [List.length_cons]
    omega
theorem toNat_byte {n : Nat} (h : n < 256) : (UInt8.ofNat n).toNat = n := by simp [UInt8.toNat_ofNat']; omega
end Go.Proofs.YtkmpfgpfbmeihaaGreatDoor.pk
namespace Go.Proofs.YtkmpfgpfbmeihaaGreatDoor.bm
def num : List UInt8 → Nat
 | [] => 0
 | b :: r => b.toNat + 256 * num r
theorem num_lt : ∀ bs : List UInt8, num bs < 2 ^ (8 * bs.length)
 | [] => by simp [num]
 | b :: r => by
  have h := num_lt r
  have hb : b.toNat < 256 := b.toNat_lt
  have e : 2 ^ (8 * (b :: r).length) = 256 * 2 ^ (8 * r.length) := by
   rw [List.length_cons, Nat.mul_add, Nat.pow_add, Nat.mul_comm]
  rw [e]
  simp only [num]
  omega
theorem num_append : ∀ a b : List UInt8, num (a ++ b) = num a + 2 ^ (8 * a.length) * num b
 | [], b => by simp [num]
 | x :: a, b => by
  have e : 2 ^ (8 * (x :: a).length) = 256 * 2 ^ (8 * a.length) := by
   rw [List.length_cons, Nat.mul_add, Nat.pow_add, Nat.mul_comm]
  rw [List.cons_append, num, num, num_append a b, e, Nat.mul_assoc, Nat.mul_add, Nat.add_assoc]
theorem num_drop (bs : List UInt8) (i : Nat) (h : i ≤ bs.length) : num bs / 2 ^ (8 * i) = num (bs.drop i) := by
 have e := num_append (bs.take i) (bs.drop i)
 rw [List.take_append_drop] at e
 have hl := num_lt (bs.take i)
 rw [List.length_take, Nat.min_eq_left h] at e hl
 rw [e, Nat.add_mul_div_left _ _ (Nat.two_pow_pos _), Nat.div_eq_of_lt hl, Nat.zero_add]
theorem chunk (bs : List UInt8) (a k : Nat) (h : a / 8 < bs.length) (hk : a % 8 + k ≤ 8) :
  num bs / 2 ^ a % 2 ^ k = (bs.getD (a / 8) 0).toNat / 2 ^ (a % 8) % 2 ^ k := by
 have e : num bs / 2 ^ a = num (bs.drop (a / 8)) / 2 ^ (a % 8) := by
  rw [← num_drop bs (a / 8) (by omega), Nat.div_div_eq_div_mul, ← Nat.pow_add, Nat.div_add_mod]
 have hd : bs.drop (a / 8) = bs[a / 8] :: bs.drop (a / 8 + 1) := List.drop_eq_getElem_cons h
 have hg : bs.getD (a / 8) 0 = bs[a / 8] := by simp [List.getD, h]
 rw [e, hd, hg, num]
 generalize num (bs.drop (a / 8 + 1)) = r
 generalize (bs[a / 8]).toNat = b
 have e256 : 256 * r = 2 ^ (a % 8) * (2 ^ k * (2 ^ (8 - a % 8 - k) * r)) := by
  rw [← Nat.mul_assoc, ← Nat.mul_assoc, ← Nat.pow_add, ← Nat.pow_add, show a % 8 + k + (8 - a % 8 - k) = 8 from by omega]
 rw [e256, Nat.add_mul_div_left _ _ (Nat.two_pow_pos _), Nat.add_mul_mod_self_left]
theorem more (x a i k : Nat) : x / 2 ^ a % 2 ^ (i + k) = x / 2 ^ a % 2 ^ i + 2 ^ i * (x / 2 ^ (a + i) % 2 ^ k) := by
 rw [Nat.pow_add 2 i k, Nat.mod_mul, Nat.div_div_eq_div_mul, ← Nat.pow_add]
def dig : Nat → Nat → List UInt8
 | 0, _ => []
 | k + 1, m => UInt8.ofNat m :: dig k (m / 256)
theorem two8 (k : Nat) : 2 ^ (8 * (k + 1)) = 256 * 2 ^ (8 * k) := by
 rw [Nat.mul_add, Nat.pow_add, Nat.mul_comm]
theorem dig_add : ∀ k m x : Nat, dig k (m + 2 ^ (8 * k) * x) = dig k m
 | 0, m, x => rfl
 | k + 1, m, x => by
  rw [dig, dig, two8, Nat.mul_assoc]
  have h1 : UInt8.ofNat (m + 256 * (2 ^ (8 * k) * x)) = UInt8.ofNat m := UInt8.toNat_inj.1 (by simp [UInt8.toNat_ofNat'])
  have h2 : (m + 256 * (2 ^ (8 * k) * x)) / 256 = m / 256 + 2 ^ (8 * k) * x := by omega
  rw [h1, h2, dig_add k]
theorem dig_append : ∀ k j m : Nat, dig (k + j) m = dig k m ++ dig j (m / 2 ^ (8 * k))
 | 0, j, m => by simp [dig]
 | k + 1, j, m => by
  rw [Nat.add_right_comm, dig, dig, dig_append k j, List.cons_append, Nat.div_div_eq_div_mul, two8]
theorem dig_snoc (k m : Nat) : dig (k + 1) m = dig k m ++ [UInt8.ofNat (m / 2 ^ (8 * k))] := by
 rw [dig_append k 1 m]
 simp [dig]
theorem dig_num : ∀ bs : List UInt8, dig bs.length (num bs) = bs
 | [] => rfl
 | b :: r => by
  have hb : b.toNat < 256 := b.toNat_lt
  rw [List.length_cons, dig, num]
  have h1 : UInt8.ofNat (b.toNat + 256 * num r) = b := UInt8.toNat_inj.1 (by rw [UInt8.toNat_ofNat']; omega)
  have h2 : (b.toNat + 256 * num r) / 256 = num r := by omega
  rw [h1, h2, dig_num r]
theorem raw_dig (q M : Nat) (bs : List UInt8) (hM : M < 2 ^ (8 * q)) : dig (q + bs.length) (M + 2 ^ (8 * q) * num bs) = dig q M ++ bs := by
 rw [dig_append, dig_add, Nat.add_mul_div_left _ _ (Nat.two_pow_pos _), Nat.div_eq_of_lt hM, Nat.zero_add, dig_num]
theorem raw_lt (q M : Nat) (bs : List UInt8) (hM : M < 2 ^ (8 * q)) : M + 2 ^ (8 * q) * num bs < 2 ^ (8 * q + 8 * bs.length) := by
 have h := num_lt bs
 rw [Nat.pow_add]
 calc M + 2 ^ (8 * q) * num bs < 2 ^ (8 * q) + 2 ^ (8 * q) * num bs := by omega
  _ = 2 ^ (8 * q) * (num bs + 1) := by rw [Nat.mul_add, Nat.mul_one, Nat.add_comm]
  _ ≤ 2 ^ (8 * q) * 2 ^ (8 * bs.length) := Nat.mul_le_mul_left _ h
end Go.Proofs.YtkmpfgpfbmeihaaGreatDoor.bm
namespace Go.Proofs.YtkmpfgpfbmeihaaGreatDoor.bl
open Go bm
def b2n (b : Bool) : Nat := if b then 1 else 0
def bval : List Bool → Nat
 | [] => 0
 | b :: t => b2n b + 2 * bval t
theorem b2n_lt (b : Bool) : b2n b < 2 := by cases b <;> decide
theorem bval_append : ∀ a b : List Bool, bval (a ++ b) = bval a + 2 ^ a.length * bval b
 | [], b => by simp [bval]
 | x :: a, b => by
  rw [List.cons_append, bval, bval, bval_append a b, List.length_cons, Nat.pow_succ]
  generalize 2 ^ a.length = p
  rw [Nat.mul_comm p 2, Nat.mul_assoc]
  generalize p * bval b = q
  omega
theorem bval_lt : ∀ l : List Bool, bval l < 2 ^ l.length
 | [] => by simp [bval]
 | x :: l => by
  have := bval_lt l
  have := b2n_lt x
  rw [bval, List.length_cons, Nat.pow_succ]
  omega
def lsb : Nat → Nat → List Bool
 | 0, _ => []
 | n + 1, x => (x % 2 == 1) :: lsb n (x / 2)
theorem lsb_length : ∀ n x : Nat, (lsb n x).length = n
 | 0, _ => rfl
 | n + 1, x => by rw [lsb, List.length_cons, lsb_length]
theorem b2n_mod (x : Nat) : b2n (x % 2 == 1) = x % 2 := by
 rcases Nat.mod_two_eq_zero_or_one x with h | h <;> rw [h] <;> rfl
theorem bval_lsb : ∀ n x : Nat, bval (lsb n x) = x % 2 ^ n
 | 0, x => by simp [lsb, bval, Nat.mod_one]
 | n + 1, x => by
  rw [lsb, bval, bval_lsb n, b2n_mod, Nat.pow_succ, Nat.mul_comm (2 ^ n), Nat.mod_mul]
def bytesBits (bs : List UInt8) : List Bool := bs.flatMap fun c => lsb 8 c.toNat
theorem bytesBits_cons (c : UInt8) (bs : List UInt8) : bytesBits (c :: bs) = lsb 8 c.toNat ++ bytesBits bs := rfl
theorem bytesBits_length : ∀ bs : List UInt8, (bytesBits bs).length = 8 * bs.length
 | [] => rfl
 | c :: bs => by rw [bytesBits_cons, List.length_append, lsb_length, bytesBits_length bs, List.length_cons]; omega
theorem bval_bytes : ∀ bs : List UInt8, bval (bytesBits bs) = num bs
 | [] => rfl
 | c :: bs => by
  have := UInt8.toNat_lt c
  rw [bytesBits_cons, bval_append, lsb_length, bval_bytes bs, bval_lsb, num, Nat.mod_eq_of_lt (by omega)]
def bytesOf (l : List Bool) : List UInt8 := dig ((l.length + 7) / 8) (bval l)
end Go.Proofs.YtkmpfgpfbmeihaaGreatDoor.bl
namespace Go.Proofs.YtkmpfgpfbmeihaaGreatDoor.huf
open Go bm bl
def lenAt (ls : List Nat) (i : Nat) : Nat := ls[i]?.getD 0
def nxt (ls : List Nat) : Nat → Nat
 | 0 => 0
 | l + 1 => 2 * (nxt ls l + if l = 0 then 0 else ls.count l)
def code (ls : List Nat) (i : Nat) : Nat := nxt ls (lenAt ls i) + (ls.take i).count (lenAt ls i)
def share (ls : List Nat) : Nat → Nat
 | 0 => 0
 | l + 1 => share ls l + if l = 0 then 0 else ls.count l * 2 ^ (15 - l)
def weight : List Nat → Nat
 | [] => 0
 | l :: t => (if l = 0 then 0 else 2 ^ (15 - l)) + weight t
theorem nxt_share (ls : List Nat) : ∀ l, l ≤ 15 → nxt ls l * 2 ^ (15 - l) = share ls l
 | 0, _ => by simp [nxt, share]
 | l + 1, h => by
  have ih := nxt_share ls l (by omega)
  have e : 2 ^ (15 - l) = 2 * 2 ^ (15 - (l + 1)) := by rw [show 15 - l = 15 - (l + 1) + 1 from by omega, Nat.pow_succ, Nat.mul_comm]
  rw [nxt, share, ← ih, e]
  generalize 2 ^ (15 - (l + 1)) = p
  split <;> simp only [Nat.mul_add, Nat.add_mul, Nat.add_zero, Nat.mul_assoc, Nat.mul_left_comm]
theorem share_cons (x : Nat) (t : List Nat) : ∀ m, share (x :: t) m = share t m + if 0 < x ∧ x < m then 2 ^ (15 - x) else 0
 | 0 => by simp [share]
 | m + 1 => by
  rw [share, share, share_cons x t m, List.count_cons]
  by_cases h0 : m = 0
  ·subst h0
   simp only [if_true]
   rw [if_neg (by omega), if_neg (by omega)]
  ·rw [if_neg h0, if_neg h0]
   by_cases hx : x = m
   ·subst hx
    simp only [beq_self_eq_true, if_true]
    rw [if_neg (by omega), if_pos (by omega), Nat.add_mul, Nat.one_mul]
    omega
   ·have hb : (x == m) = false := by simpa using hx
    rw [hb]
    simp only [Bool.false_eq_true, if_false, Nat.add_zero]
    by_cases hc : 0 < x ∧ x < m
    ·rw [if_pos hc, if_pos (by omega)]
     omega
    ·rw [if_neg hc, if_neg (by omega)]
     omega
theorem share_nil : ∀ m, share [] m = 0
 | 0 => rfl
 | m + 1 => by rw [share, share_nil m]; simp
theorem share_weight : ∀ ls : List Nat, (∀ l ∈ ls, l ≤ 15) → share ls 16 = weight ls
 | [], _ => share_nil 16
 | x :: t, h => by
  have hx := h x (by simp)
  rw [share_cons, weight, share_weight t fun l hl => h l (by simp [hl])]
  by_cases h0 : x = 0
  ·rw [if_neg (by omega), if_pos h0]; omega
  ·rw [if_pos (by omega), if_neg h0]; omega
theorem share_mono (ls : List Nat) : ∀ (k l : Nat), share ls l ≤ share ls (l + k)
 | 0, _ => Nat.le_refl _
 | k + 1, l => by
  have := share_mono ls k l
  rw [← Nat.add_assoc, share]
  omega
theorem share_le (ls : List Nat) {l m : Nat} (h : l ≤ m) : share ls l ≤ share ls m := by
 obtain ⟨k, rfl⟩ : ∃ k, m = l + k := ⟨m - l, by omega⟩
 exact share_mono ls k l
theorem lenAt_lt {ls : List Nat} {i : Nat} (h : 0 < lenAt ls i) : i < ls.length := by
 unfold lenAt at h
 rcases Nat.lt_or_ge i ls.length with k | k
 ·exact k
 ·rw [List.getElem?_eq_none k] at h
  simp at h
theorem lenAt_mem {ls : List Nat} {i : Nat} (h : i < ls.length) : lenAt ls i ∈ ls := by
 unfold lenAt
 rw [List.getElem?_eq_getElem h]
 exact List.getElem_mem h
theorem count_take_succ (ls : List Nat) (i x : Nat) (h : i < ls.length) : (ls.take (i + 1)).count x = (ls.take i).count x + if lenAt ls i = x then 1 else 0 := by
 rw [List.take_succ_eq_append_getElem h, List.count_append, List.count_singleton]
 unfold lenAt
 rw [List.getElem?_eq_getElem h]
 simp only [Option.getD_some, beq_iff_eq]
theorem count_take_le (ls : List Nat) (i x : Nat) : (ls.take i).count x ≤ ls.count x := (List.take_sublist i ls).count_le x
theorem count_take_mono (ls : List Nat) (x : Nat) {i j : Nat} (h : i ≤ j) : (ls.take i).count x ≤ (ls.take j).count x := by
 have : ls.take i = (ls.take j).take i := by rw [List.take_take, Nat.min_eq_left h]
 rw [this]
 exact (List.take_sublist i (ls.take j)).count_le x
def lo (ls : List Nat) (i : Nat) : Nat := code ls i * 2 ^ (15 - lenAt ls i)
theorem lo_eq (ls : List Nat) (i : Nat) (h : lenAt ls i ≤ 15) : lo ls i = share ls (lenAt ls i) + (ls.take i).count (lenAt ls i) * 2 ^ (15 - lenAt ls i) := by
 rw [lo, code, Nat.add_mul, nxt_share ls _ h]
theorem hi_le (ls : List Nat) (i : Nat) (h0 : 0 < lenAt ls i) (h : lenAt ls i ≤ 15) : lo ls i + 2 ^ (15 - lenAt ls i) ≤ share ls (lenAt ls i + 1) := by
 have hi := lenAt_lt h0
 have h1 := count_take_succ ls i (lenAt ls i) hi
 rw [if_pos rfl] at h1
 have h2 := count_take_le ls (i + 1) (lenAt ls i)
 rw [lo_eq ls i h, share, if_neg (by omega)]
 have h3 : ((ls.take i).count (lenAt ls i) + 1) * 2 ^ (15 - lenAt ls i) ≤ ls.count (lenAt ls i) * 2 ^ (15 - lenAt ls i) := Nat.mul_le_mul_right _ (by omega)
 rw [Nat.add_mul, Nat.one_mul] at h3
 omega
theorem code_inj (ls : List Nat) {i j : Nat} (h0 : 0 < lenAt ls i) (h : lenAt ls i = lenAt ls j) (hc : code ls i = code ls j) : i = j := by
 have key : ∀ {i j : Nat}, 0 < lenAt ls i → lenAt ls i = lenAt ls j → code ls i = code ls j → ¬ i < j := fun {i j} h0 h hc hij => by
  have h1 := count_take_succ ls i (lenAt ls i) (lenAt_lt h0)
  rw [if_pos rfl] at h1
  have h2 := count_take_mono ls (lenAt ls i) (show i + 1 ≤ j from hij)
  unfold code at hc
  rw [← h] at hc
  omega
 rcases Nat.lt_trichotomy i j with k | k | k
 ·exact absurd k (key h0 h hc)
 ·exact k
 ·exact absurd k (key (by omega) h.symm hc.symm)
theorem code_lt (ls : List Nat) (i : Nat) (hle : ∀ l ∈ ls, l ≤ 15) (hw : weight ls ≤ 32768) (h0 : 0 < lenAt ls i) : code ls i < 2 ^ lenAt ls i := by
 have h15 := hle _ (lenAt_mem (lenAt_lt h0))
 have h1 := hi_le ls i h0 h15
 have h2 := share_le ls (show lenAt ls i + 1 ≤ 16 by omega)
 rw [share_weight ls hle] at h2
 unfold lo at h1
 have e : 2 ^ 15 = 2 ^ lenAt ls i * 2 ^ (15 - lenAt ls i) := by rw [← Nat.pow_add]; congr 1; omega
 have h3 : (code ls i + 1) * 2 ^ (15 - lenAt ls i) ≤ 2 ^ lenAt ls i * 2 ^ (15 - lenAt ls i) := by
  rw [← e, Nat.add_mul, Nat.one_mul]
  exact Nat.le_trans (Nat.le_trans h1 h2) hw
 have := Nat.le_of_mul_le_mul_right h3 (Nat.two_pow_pos _)
 omega
def hsym (ls : List Nat) (n v : Nat) : Option Nat := (List.range ls.length).find? fun i => decide (0 < n) && (lenAt ls i == n && code ls i == v)
def hmore (ls : List Nat) (n v : Nat) : Bool := (List.range ls.length).any fun i => decide (n < lenAt ls i) && code ls i / 2 ^ (lenAt ls i - n) == v
def hread (ls : List Nat) : Nat → Nat → Nat → List Bool → Nat × Nat × Nat
 | 0, n, v, _ => match hsym ls n v with
  | some s => (s, n, 0)
  | none => (0, n, 3)
 | f + 1, n, v, bits => match hsym ls n v with
  | some s => (s, n, 0)
  | none => if hmore ls n v then (match bits with
   | [] => (0, n, 4)
   | b :: t => hread ls f (n + 1) (2 * v + b2n b) t) else (0, n, 3)
theorem hread_hit {ls : List Nat} {f n v s : Nat} {bits : List Bool} (h : hsym ls n v = some s) : hread ls f n v bits = (s, n, 0) := by cases f <;> simp [hread, h]
theorem hread_step {ls : List Nat} {f n v : Nat} {b : Bool} {t : List Bool} (h : hsym ls n v = none) (hm : hmore ls n v = true) : hread ls (f + 1) n v (b :: t) = hread ls f (n + 1) (2 * v + b2n b) t := by simp [hread, h, hm]
theorem hread_torn {ls : List Nat} {f n v : Nat} (h : hsym ls n v = none) (hm : hmore ls n v = true) : hread ls (f + 1) n v [] = (0, n, 4) := by simp [hread, h, hm]
theorem hread_form {ls : List Nat} {f n v : Nat} {bits : List Bool} (h : hsym ls n v = none) (hm : hmore ls n v = false) : hread ls f n v bits = (0, n, 3) := by cases f <;> simp [hread, h, hm]
theorem hread_end {ls : List Nat} {n v : Nat} {bits : List Bool} (h : hsym ls n v = none) : hread ls 0 n v bits = (0, n, 3) := by simp [hread, h]
theorem hsym_at (ls : List Nat) (s : Nat) (h0 : 0 < lenAt ls s) : hsym ls (lenAt ls s) (code ls s) = some s := by
 unfold hsym
 cases hf : (List.range ls.length).find? fun i => decide (0 < lenAt ls s) && (lenAt ls i == lenAt ls s && code ls i == code ls s) with
 | none =>
  have := List.find?_eq_none.1 hf s (List.mem_range.2 (lenAt_lt h0))
  simp [h0] at this
 | some i =>
  have h1 := List.find?_some hf
  simp only [Bool.and_eq_true, decide_eq_true_eq, beq_iff_eq] at h1
  rw [code_inj ls (by omega) h1.2.1 h1.2.2]
end Go.Proofs.YtkmpfgpfbmeihaaGreatDoor.huf
namespace Go.Proofs.YtkmpfgpfbmeihaaGreatDoor.huf
open Go
def syms (ls : List Nat) (l i : Nat) : List Nat := (List.range i).filter fun j => lenAt ls j == l
theorem syms_zero (ls : List Nat) (l : Nat) : syms ls l 0 = [] := rfl
theorem syms_succ (ls : List Nat) (l i : Nat) : syms ls l (i + 1) = syms ls l i ++ if lenAt ls i = l then [i] else [] := by
 unfold syms
 rw [List.range_succ, List.filter_append]
 by_cases h : lenAt ls i = l
 ·simp [h]
 ·simp [h]
theorem syms_length (ls : List Nat) (l : Nat) : ∀ i, i ≤ ls.length → (syms ls l i).length = (ls.take i).count l
 | 0, _ => by simp [syms_zero]
 | i + 1, h => by
  rw [syms_succ, List.length_append, syms_length ls l i (by omega), count_take_succ ls i l (by omega)]
  split <;> simp
theorem syms_get (ls : List Nat) (l : Nat) : ∀ (i : Nat), i ≤ ls.length → ∀ (t s : Nat), (syms ls l i)[t]? = some s → lenAt ls s = l ∧ (ls.take s).count l = t ∧ s < i
 | 0, _, t, s, h => by simp [syms_zero] at h
 | i + 1, hi, t, s, h => by
  rw [syms_succ, List.getElem?_append] at h
  split at h
  ·have := syms_get ls l i (by omega) t s h
   exact ⟨this.1, this.2.1, by omega⟩
  ·rename_i hlt
   split at h
   ·rename_i hl
    have ht : t - (syms ls l i).length = 0 := by
     have := (List.getElem?_eq_some_iff.1 h).1
     simp at this
     omega
    rw [ht] at h
    simp at h
    subst h
    have := syms_length ls l i (by omega)
    exact ⟨hl, by omega, by omega⟩
   ·simp at h
theorem syms_code {ls : List Nat} {l t s : Nat} (h : (syms ls l ls.length)[t]? = some s) : lenAt ls s = l ∧ code ls s = nxt ls l + t ∧ s < ls.length := by
 obtain ⟨h1, h2, h3⟩ := syms_get ls l ls.length (Nat.le_refl _) t s h
 exact ⟨h1, by unfold code; rw [h1, h2], h3⟩
theorem syms_has {ls : List Nat} {s : Nat} (hs : s < ls.length) : (syms ls (lenAt ls s) ls.length)[(ls.take s).count (lenAt ls s)]? = some s := by
 have hin : s ∈ syms ls (lenAt ls s) ls.length := by simp [syms, hs]
 obtain ⟨t, ht, e⟩ := List.getElem_of_mem hin
 have h2 := (syms_get ls _ ls.length (Nat.le_refl _) t s (by rw [List.getElem?_eq_getElem ht, e])).2.1
 rw [h2, List.getElem?_eq_getElem ht, e]
theorem hsym_some {ls : List Nat} {n v s : Nat} (hn : 0 < n) (hv : nxt ls n ≤ v) (h : (syms ls n ls.length)[v - nxt ls n]? = some s) : hsym ls n v = some s := by
 obtain ⟨h1, h2, h3⟩ := syms_code h
 have hc : code ls s = v := by omega
 have := hsym_at ls s (by omega)
 rw [h1, hc] at this
 exact this
theorem hsym_none {ls : List Nat} {n v : Nat} (h : n = 0 ∨ v < nxt ls n ∨ (syms ls n ls.length).length ≤ v - nxt ls n) : hsym ls n v = none := by
 unfold hsym
 rw [List.find?_eq_none]
 intro s hs hp
 simp only [List.mem_range] at hs
 simp only [Bool.and_eq_true, decide_eq_true_eq, beq_iff_eq] at hp
 obtain ⟨h0, h1, h2⟩ := hp
 have hg := syms_has hs
 rw [h1] at hg
 have hlt := (List.getElem?_eq_some_iff.1 hg).1
 have hc : code ls s = nxt ls n + (ls.take s).count n := by unfold code; rw [h1]
 omega
def meets (ls : List Nat) (n v l : Nat) : Bool := decide (0 < (syms ls l ls.length).length) && (decide (nxt ls l < (v + 1) * 2 ^ (l - n)) && decide (v * 2 ^ (l - n) < nxt ls l + (syms ls l ls.length).length))
theorem meets_true {ls : List Nat} {n v l : Nat} (hl : n < l) (h : meets ls n v l = true) : hmore ls n v = true := by
 simp only [meets, Bool.and_eq_true, decide_eq_true_eq] at h
 obtain ⟨h0, h1, h2⟩ := h
 have hp : 0 < 2 ^ (l - n) := Nat.two_pow_pos _
 obtain ⟨t, ht, htl⟩ : ∃ t, t < (syms ls l ls.length).length ∧ (nxt ls l + t) / 2 ^ (l - n) = v := by
  by_cases hc : v * 2 ^ (l - n) ≤ nxt ls l
  ·exact ⟨0, h0, by rw [Nat.add_zero]; exact Nat.div_eq_of_lt_le hc h1⟩
  ·refine ⟨v * 2 ^ (l - n) - nxt ls l, by omega, ?_⟩
   rw [show nxt ls l + (v * 2 ^ (l - n) - nxt ls l) = v * 2 ^ (l - n) by omega]
   exact Nat.mul_div_cancel _ hp
 obtain ⟨s, hs⟩ : ∃ s, (syms ls l ls.length)[t]? = some s := ⟨_, List.getElem?_eq_getElem ht⟩
 obtain ⟨k1, k2, k3⟩ := syms_code hs
 unfold hmore
 rw [List.any_eq_true]
 refine ⟨s, List.mem_range.2 k3, ?_⟩
 simp only [Bool.and_eq_true, decide_eq_true_eq, beq_iff_eq]
 rw [k1, k2]
 exact ⟨hl, htl⟩
theorem meets_false {ls : List Nat} {n v : Nat} {m : Nat} (hm : ∀ s, s < ls.length → lenAt ls s ≤ m) (h : ∀ l, n < l → l ≤ m → meets ls n v l = false) : hmore ls n v = false := by
 unfold hmore
 rw [List.any_eq_false]
 intro s hs hp
 simp only [List.mem_range] at hs
 simp only [Bool.and_eq_true, decide_eq_true_eq, beq_iff_eq] at hp
 obtain ⟨h1, h2⟩ := hp
 have hx := h (lenAt ls s) h1 (hm s hs)
 have hg := syms_has hs
 have hlt := (List.getElem?_eq_some_iff.1 hg).1
 have hc : code ls s = nxt ls (lenAt ls s) + (ls.take s).count (lenAt ls s) := rfl
 have hp : 0 < 2 ^ (lenAt ls s - n) := Nat.two_pow_pos _
 have hlo : v * 2 ^ (lenAt ls s - n) ≤ code ls s := by rw [← h2]; exact Nat.div_mul_le_self _ _
 have hhi : code ls s < (v + 1) * 2 ^ (lenAt ls s - n) := (Nat.div_lt_iff_lt_mul hp).1 (by rw [h2]; exact Nat.lt_succ_self v)
 have : meets ls n v (lenAt ls s) = true := by
  simp only [meets, Bool.and_eq_true, decide_eq_true_eq]
  exact ⟨by omega, by omega, by omega⟩
 rw [this] at hx
 cases hx
end Go.Proofs.YtkmpfgpfbmeihaaGreatDoor.huf
namespace Go.Proofs.YtkmpfgpfbmeihaaGreatDoor.bl
open Go bm
theorem bval_split (l : List Bool) (k : Nat) (h : k ≤ l.length) : bval l = bval (l.take k) + 2 ^ k * bval (l.drop k) := by
 have h1 := bval_append (l.take k) (l.drop k)
 rw [List.take_append_drop, List.length_take, Nat.min_eq_left h] at h1
 exact h1
theorem bval_take_lt (l : List Bool) (k : Nat) : bval (l.take k) < 2 ^ k := by
 have h1 := bval_lt (l.take k)
 have h2 : 2 ^ (l.take k).length ≤ 2 ^ k := Nat.pow_le_pow_right (by decide) (by rw [List.length_take]; omega)
 omega
theorem bval_drop (l : List Bool) (k : Nat) (h : k ≤ l.length) : bval l / 2 ^ k = bval (l.drop k) := by
 rw [bval_split l k h, Nat.add_mul_div_left _ _ (Nat.two_pow_pos k), Nat.div_eq_of_lt (bval_take_lt l k), Nat.zero_add]
theorem bval_take (l : List Bool) (k : Nat) (h : k ≤ l.length) : bval l % 2 ^ k = bval (l.take k) := by
 rw [bval_split l k h, Nat.add_mul_mod_self_left, Nat.mod_eq_of_lt (bval_take_lt l k)]
theorem num_bits (bs : List UInt8) (a n : Nat) (h : a + n ≤ 8 * bs.length) : num bs / 2 ^ a % 2 ^ n = bval (((bytesBits bs).drop a).take n) := by
 rw [← bval_bytes, bval_drop _ _ (by rw [bytesBits_length]; omega), bval_take _ _ (by rw [List.length_drop, bytesBits_length]; omega)]
theorem bytes_drop (bs : List UInt8) (q n : Nat) : bytesBits ((bs.drop q).take n) = ((bytesBits bs).drop (8 * q)).take (8 * n) := by
 have hd : ∀ (q : Nat) (bs : List UInt8), bytesBits (bs.drop q) = (bytesBits bs).drop (8 * q) := fun q => by
  induction q with
  | zero => intro bs; rfl
  | succ q ih =>
   intro bs
   cases bs with
   | nil => simp [bytesBits]
   | cons c t =>
    have e : (lsb 8 c.toNat ++ bytesBits t).drop 8 = bytesBits t := List.drop_left' (lsb_length 8 c.toNat)
    rw [List.drop_succ_cons, ih, bytesBits_cons, show 8 * (q + 1) = 8 + 8 * q from by omega, ← List.drop_drop, e]
 have ht : ∀ (n : Nat) (bs : List UInt8), bytesBits (bs.take n) = (bytesBits bs).take (8 * n) := fun n => by
  induction n with
  | zero => intro bs; simp [bytesBits]
  | succ n ih =>
   intro bs
   cases bs with
   | nil => simp [bytesBits]
   | cons c t =>
    rw [List.take_succ_cons, bytesBits_cons, bytesBits_cons, ih, show 8 * (n + 1) = (lsb 8 c.toNat).length + 8 * n from by rw [lsb_length]; omega, List.take_length_add_append]
 rw [ht, hd]
end Go.Proofs.YtkmpfgpfbmeihaaGreatDoor.bl
namespace Go.Proofs.YtkmpfgpfbmeihaaGreatDoor.inf
open Go bm bl huf
def itake (bs : List UInt8) (a n : Nat) : Except Nat (Nat × Nat) :=
 if a + n ≤ 8 * bs.length then .ok (bval (((bytesBits bs).drop a).take n), a + n) else .error 4
def iput (most : Nat) (out : List UInt8) (c : UInt8) : Except Nat (List UInt8) :=
 if most ≤ out.length then .error 5 else .ok (out ++ [c])
def isym (bs : List UInt8) (ls : List Nat) (a : Nat) : Except Nat (Nat × Nat) :=
 if (hread ls 15 0 0 ((bytesBits bs).drop a)).2.2 = 0 then .ok ((hread ls 15 0 0 ((bytesBits bs).drop a)).1, a + (hread ls 15 0 0 ((bytesBits bs).drop a)).2.1)
 else .error (hread ls 15 0 0 ((bytesBits bs).drop a)).2.2
def byteAt (bs : List UInt8) (i : Nat) : Nat := (bs[i]?.getD 0).toNat
def ibytes (bs : List UInt8) (most : Nat) : Nat → List UInt8 → Nat → Except Nat (List UInt8 × Nat)
 | 0, out, q => .ok (out, 8 * q)
 | n + 1, out, q => if q < bs.length then
   match iput most out (bs[q]?.getD 0) with
   | .error e => .error e
   | .ok o => ibytes bs most n o (q + 1)
  else .error 4
def istored (bs : List UInt8) (most : Nat) (out : List UInt8) (a : Nat) : Except Nat (List UInt8 × Nat) :=
 if (a + 7) / 8 + 4 ≤ bs.length then
  if byteAt bs ((a + 7) / 8) + byteAt bs ((a + 7) / 8 + 2) = 255 ∧ byteAt bs ((a + 7) / 8 + 1) + byteAt bs ((a + 7) / 8 + 3) = 255 then
   ibytes bs most (byteAt bs ((a + 7) / 8) + 256 * byteAt bs ((a + 7) / 8 + 1)) out ((a + 7) / 8 + 4)
  else .error 3
 else .error 4
def ilength (bs : List UInt8) (s a : Nat) : Except Nat (Nat × Nat) :=
 if s < 265 then .ok (s - 254, a) else if s = 285 then .ok (258, a) else
  match itake bs a ((s - 261) / 4) with
  | .error e => .error e
  | .ok (v, a1) => .ok (3 + (4 + (s - 265) % 4) * 2 ^ ((s - 261) / 4) + v, a1)
def idist (bs : List UInt8) (s a : Nat) : Except Nat (Nat × Nat) :=
 if s < 4 then .ok (s + 1, a) else
  match itake bs a ((s - 2) / 2) with
  | .error e => .error e
  | .ok (v, a1) => .ok (1 + (2 + s % 2) * 2 ^ ((s - 2) / 2) + v, a1)
def icopy (most back : Nat) : Nat → List UInt8 → Except Nat (List UInt8)
 | 0, out => .ok out
 | n + 1, out => match iput most out (out[out.length - back]?.getD 0) with
  | .error e => .error e
  | .ok o => icopy most back n o
def imatch (bs : List UInt8) (most : Nat) (dl : List Nat) (s : Nat) (out : List UInt8) (a : Nat) : Except Nat (List UInt8 × Nat) :=
 match ilength bs s a with
 | .error e => .error e
 | .ok (n, a1) => match isym bs dl a1 with
  | .error e => .error e
  | .ok (d, a2) => if 30 ≤ d then .error 3 else match idist bs d a2 with
   | .error e => .error e
   | .ok (back, a3) => if out.length < back then .error 3 else match icopy most back n out with
    | .error e => .error e
    | .ok o => .ok (o, a3)
def isyms (bs : List UInt8) (most : Nat) (ll dl : List Nat) : Nat → List UInt8 → Nat → Except Nat (List UInt8 × Nat)
 | 0, _, _ => .error 0
 | f + 1, out, a => match isym bs ll a with
  | .error e => .error e
  | .ok (s, a1) => if s < 256 then
    match iput most out (UInt8.ofNat s) with
    | .error e => .error e
    | .ok o => isyms bs most ll dl f o a1
   else if s = 256 then .ok (out, a1) else if 286 ≤ s then .error 3 else
    match imatch bs most dl s out a1 with
    | .error e => .error e
    | .ok (o, a2) => isyms bs most ll dl f o a2
def fuel (bs : List UInt8) : Nat := 8 * bs.length + 1
def ifix (i : Nat) : Nat := if i < 144 then 8 else if i < 256 then 9 else if i < 280 then 7 else 8
def fixed (n : Nat) : List Nat := (List.range n).map ifix
def ifixed (bs : List UInt8) (most : Nat) (out : List UInt8) (a : Nat) : Except Nat (List UInt8 × Nat) := isyms bs most (fixed 288) (List.replicate 32 5) (fuel bs) out a
def some_ (ls : List Nat) : Nat := (ls.filter fun l => decide (0 < l)).length
def ones (ls : List Nat) : Bool := ls.all fun l => decide (l ≤ 1)
def iwhole (ls : List Nat) (few : Bool) : Bool := decide (weight ls ≤ 32768) && (decide (weight ls = 32768) || (few && (decide (some_ ls < 2) && ones ls)))
def places : List Nat := [16, 17, 18, 0, 8, 7, 9, 6, 10, 5, 11, 4, 12, 3, 13, 2, 14, 1, 15]
def ifirst (bs : List UInt8) : List Nat → List Nat → Nat → Except Nat (List Nat × Nat)
 | [], fs, a => .ok (fs, a)
 | i :: t, fs, a => match itake bs a 3 with
  | .error e => .error e
  | .ok (v, a1) => ifirst bs t (fs.set i v) a1
def least (s : Nat) : Nat := if s = 18 then 11 else 3
def wide (s : Nat) : Nat := if s = 17 then 3 else if s = 18 then 7 else 2
def ilens (bs : List UInt8) (ls : List Nat) (n : Nat) : Nat → List Nat → Nat → Except Nat (List Nat × Nat)
 | 0, _, _ => .error 0
 | f + 1, out, a => if n ≤ out.length then .ok (out, a) else match isym bs ls a with
  | .error e => .error e
  | .ok (s, a1) => if s < 16 then ilens bs ls n f (out ++ [s]) a1 else
   match itake bs a1 (wide s) with
   | .error e => .error e
   | .ok (v, a2) => if (s = 16 ∧ out = []) ∨ n - out.length < least s + v then .error 3 else
    ilens bs ls n f (out ++ List.replicate (least s + v) (if s = 16 then out.getLast?.getD 0 else 0)) a2
def idyn3 (bs : List UInt8) (most : Nat) (out : List UInt8) (lit dist : Nat) (fs : List Nat) (a : Nat) : Except Nat (List UInt8 × Nat) :=
 match ilens bs fs (lit + 257 + dist + 1) (lit + 257 + dist + 1 + 1) [] a with
 | .error e => .error e
 | .ok (ls, a5) => if lenAt ls 256 = 0 then .error 3 else if iwhole (ls.take (lit + 257)) false = false then .error 3 else if iwhole (ls.drop (lit + 257)) true = false then .error 3 else
  isyms bs most (ls.take (lit + 257)) (ls.drop (lit + 257)) (fuel bs) out a5
def idyn2 (bs : List UInt8) (most : Nat) (out : List UInt8) (lit dist n a : Nat) : Except Nat (List UInt8 × Nat) :=
 match ifirst bs (places.take (n + 4)) (List.replicate 19 0) a with
 | .error e => .error e
 | .ok (fs, a4) => if iwhole fs false = false then .error 3 else idyn3 bs most out lit dist fs a4
def idyn (bs : List UInt8) (most : Nat) (out : List UInt8) (a : Nat) : Except Nat (List UInt8 × Nat) :=
 match itake bs a 5 with
 | .error e => .error e
 | .ok (lit, a1) => if 29 < lit then .error 3 else match itake bs a1 5 with
  | .error e => .error e
  | .ok (dist, a2) => if 29 < dist then .error 3 else match itake bs a2 4 with
   | .error e => .error e
   | .ok (n, a3) => idyn2 bs most out lit dist n a3
def iblock (bs : List UInt8) (most h : Nat) (out : List UInt8) (a : Nat) : Except Nat (List UInt8 × Nat) :=
 if h = 0 then istored bs most out a else if h = 1 then ifixed bs most out a else idyn bs most out a
def irawF (bs : List UInt8) (most : Nat) : Nat → List UInt8 → Nat → Except Nat (List UInt8 × Nat)
 | 0, _, _ => .error 0
 | f + 1, out, a => match itake bs a 1 with
  | .error e => .error e
  | .ok (last, a1) => match itake bs a1 2 with
   | .error e => .error e
   | .ok (h, a2) => if h = 3 then .error 3 else match iblock bs most h out a2 with
    | .error e => .error e
    | .ok (o, a3) => if last = 0 then irawF bs most f o a3 else .ok (o, a3)
def iraw (bs : List UInt8) (most : Nat) : Except Nat (List UInt8 × Nat) :=
 match irawF bs most (fuel bs) [] 0 with
 | .error e => .error e
 | .ok (o, a) => .ok (o, (a + 7) / 8)
end Go.Proofs.YtkmpfgpfbmeihaaGreatDoor.inf
namespace Go.Proofs.YtkmpfgpfbmeihaaGreatDoor.lib
open Go Go.RowKit
section
variable {P : Program} {w : World} {t e : TypeId} {z : Value} {size bytes : Nat}
theorem cs_add {g o : Nat} {vs : List Value} (h : ∀ j v, vs[j]? = some v → w.cell? ⟨g, o + j, none⟩ = some v) : ∀ j v, vs[j]? = some v → w.cell? ((⟨g, o, none⟩ : Addr).add j) = some v := fun j v hv => by rw [addr_add]; exact h j v hv
theorem run_append_full (T : SliceTy P t e z size bytes) (ty : TypeId) (b : Option Addr) (n c : Nat) (olds : List Value) (hb : Cs w b olds) (hol : olds.length = n * size) (hnc : n ≤ c) (hbn : b = none → c = 0)
  (ao : Option Addr) (m c' : Nat) (news : List Value) (hc : Cs w ao news) (hl : news.length = m * size) (hfull : c < n + m)
  (hby : (n + m) * bytes ≤ 140737488355328) (h63 : n + m ≤ maxLen) :
  ∃ cap' w', (Builtin.append_ #[t, t] ty #[.slice b n c, .slice ao m c']).run P w = .ok (.slice (some ⟨w.heap.size, 0, none⟩) (n + m) cap') w' ∧ Appended w w' e size [] (some ⟨w.heap.size, 0, none⟩) (n + m) cap' (olds ++ news) := by
 obtain ⟨hu, ⟨i, hi, hz, hs, hbt⟩, hcz, hp⟩ := T
 have hsmall : n + m ≤ 9223372036854775807 := by simp only [maxLen] at h63; omega
 have hne : 0 < news.length := by rw [hl]; exact Nat.mul_pos (by omega) hp
 obtain ⟨g, o, rfl, hcn⟩ := hc.at hne
 have hn' := cs_add hcn
 have key : ∀ (old : Nat), old < n + m → Appended w (w.drew.alloc (.cells (olds.toArray ++ news.toArray ++ Builtin.zeroCells z.cells (grownCap w (n + m) old e - (n + m))) e)) e size []
   (some ⟨w.heap.size, 0, none⟩) (n + m) (grownCap w (n + m) old e) (olds ++ news) := by
  intro old ho
  have hge := grownCap_ge w (n + m) old e
  have hcm : grownCap w (n + m) old e ≤ maxLen := grownCap_le_maxLen w (n + m) old e h63
  refine ⟨⟨by rw [List.length_append, hol, hl, Nat.add_mul], .inr ⟨w.heap.size, _, _, rfl, Nat.zero_le _, heap_alloc_new w.drew _, hge, hcm, ?_, ?_⟩⟩, (Fr.drew1 [] w).alloc _, fun x hx => by right; simpa [blk] using hx, hge, hcm, fun h => by cases h⟩
  ·simp only [Array.size_append, List.size_toArray, size_zeroCells, hcz, hol, hl]
   rw [← Nat.add_mul, ← Nat.add_mul]
   congr 1
   omega
  ·simp only [Array.toList_append]
   rw [List.take_append_of_le_length (by simp [hol, hl, Nat.add_mul])]
   rw [List.take_of_length_le (by simp [hol, hl, Nat.add_mul])]
 cases b with
 | none =>
  have hc0 := hbn rfl
  subst hc0
  obtain rfl : n = 0 := by omega
  obtain rfl : olds = [] := List.eq_nil_of_length_eq_zero (by simpa using hol)
  have hr := run_append_nil (P := P) w t ty e i z hu hi hz ⟨g, o, none⟩ m c' news (by rw [hs]; exact hl) hn' (by omega) (by omega) (by rw [hbt]; simp at hby; omega)
  have hk := key 0 (by omega)
  simp only [Nat.zero_add, List.nil_append, Array.empty_append] at hk ⊢
  exact ⟨_, _, hr, hk⟩
 | some a =>
  have ho : ∀ j v, olds[j]? = some v → w.cell? (a.add j) = some v := by
   intro j v hv
   rcases hb with rfl | ⟨g', o', ha, hb⟩
   ·simp at hv
   ·obtain rfl := Option.some.inj ha
    rw [addr_add]
    exact hb j v hv
  have hfit : Builtin.nextslicecap (n + m) c * i.bytes ≤ 281474976710656 := by rw [hbt]; exact growslice_fits (by omega) (by omega)
  have hr := run_append_grow (P := P) w t ty e i z hu hi hz a n c olds (by rw [hs]; exact hol) ho ⟨g, o, none⟩ m c' news (by rw [hs]; exact hl) hn' hfull (by omega) hfit
  exact ⟨_, _, hr, key c hfull⟩
theorem wp_append_full (T : SliceTy P t e z size bytes) {o : Oper} {a : Act} {K : Act → World → Prop} {Q : Exit → Act → World → Prop} (s x : Operand)
  (ho : o.op = .call { callee := .builtin .append, args := #[s, x], argTypes := #[t, t] })
  (b : Option Addr) (n c : Nat) (olds : List Value) (hs : a.eval s = .slice b n c) (hb : Cs w b olds) (hol : olds.length = n * size) (hnc : n ≤ c) (hbn : b = none → c = 0)
  (ao : Option Addr) (m c' : Nat) (news : List Value) (hx : a.eval x = .slice ao m c') (hc : Cs w ao news) (hl : news.length = m * size) (hfull : c < n + m)
  (hby : (n + m) * bytes ≤ 140737488355328) (h63 : n + m ≤ maxLen)
  (h : ∀ cap' w', Appended w w' e size [] (some ⟨w.heap.size, 0, none⟩) (n + m) cap' (olds ++ news) → K (a.put o.dst (.slice (some ⟨w.heap.size, 0, none⟩) (n + m) cap')) w') : o.wp P a w K Q := by
 obtain ⟨cap', w', hr, h2⟩ := run_append_full (P := P) T o.type b n c olds hb hol hnc hbn ao m c' news hc hl hfull hby h63
 unfold Oper.wp execOp
 simp only [ho, resolve, invoke, builtin, Sem.run_bind, Sem.run_pure, Result.andThen_ok, List.map_toArray, List.map_cons, List.map_nil, hs, hx, hr]
 exact h cap' w' h2
theorem wpList_append_full (T : SliceTy P t e z size bytes) {ops : Array Oper} {rest : List Oper} {o : Oper} {a : Act} {Q : Exit → Act → World → Prop} (hgd : o.guard = none) (s x : Operand)
  (ho : o.op = .call { callee := .builtin .append, args := #[s, x], argTypes := #[t, t] })
  (b : Option Addr) (n c : Nat) (olds : List Value) (hs : a.eval s = .slice b n c) (hb : Cs w b olds) (hol : olds.length = n * size) (hnc : n ≤ c) (hbn : b = none → c = 0)
  (ao : Option Addr) (m c' : Nat) (news : List Value) (hx : a.eval x = .slice ao m c') (hc : Cs w ao news) (hl : news.length = m * size) (hfull : c < n + m)
  (hby : (n + m) * bytes ≤ 140737488355328) (h63 : n + m ≤ maxLen)
  (h : ∀ cap' w', Appended w w' e size [] (some ⟨w.heap.size, 0, none⟩) (n + m) cap' (olds ++ news) → wpList P ops Q rest (a.put o.dst (.slice (some ⟨w.heap.size, 0, none⟩) (n + m) cap')) w') : wpList P ops Q (o :: rest) a w :=
 wpList_plain hgd fun _ hK => wp_append_full T s x ho b n c olds hs hb hol hnc hbn ao m c' news hx hc hl hfull hby h63 fun cap' w' h2 => hK _ _ (h cap' w' h2)
end
end Go.Proofs.YtkmpfgpfbmeihaaGreatDoor.lib
namespace Go.Proofs.YtkmpfgpfbmeihaaGreatDoor.lib
open Go Go.RowKit
def Own (w : World) (e : TypeId) (a : Option Addr) (cap : Nat) (xs : List Value) : Prop :=
 (a = none ∧ cap = 0 ∧ xs = []) ∨ ∃ g o cur, a = some ⟨g, o, none⟩ ∧ w.heap[g]? = some (.cells cur e (0, 0)) ∧ xs.length ≤ cap ∧ cap ≤ maxLen ∧ o + cap ≤ cur.size ∧ (cur.toList.drop o).take xs.length = xs
theorem Own.nil (w : World) (e : TypeId) : Own w e none 0 [] := .inl ⟨rfl, rfl, rfl⟩
theorem Own.shape {w : World} {e : TypeId} {a : Option Addr} {cap : Nat} {xs : List Value} (h : Own w e a cap xs) : xs.length ≤ cap ∧ cap ≤ maxLen ∧ (a = none → cap = 0) := by
 rcases h with ⟨_, rfl, rfl⟩ | ⟨g, o, cur, rfl, _, h1, h2, _⟩
 ·exact ⟨Nat.le_refl _, Nat.zero_le _, fun _ => rfl⟩
 ·exact ⟨h1, h2, fun h => by cases h⟩
theorem Own.cs {w : World} {e : TypeId} {a : Option Addr} {cap : Nat} {xs : List Value} (h : Own w e a cap xs) : Cs w a xs := by
 rcases h with ⟨_, _, rfl⟩ | ⟨g, o, cur, rfl, hg, h1, h2, h3, h4⟩
 ·exact .inl rfl
 ·refine .inr ⟨g, o, rfl, fun j v hv => ?_⟩
  rw [cell_of hg, ← Array.getElem?_toList]
  rw [← h4, List.getElem?_take] at hv
  split at hv
  ·simpa using hv
  ·cases hv
theorem Own.fr {S : List Nat} {w w' : World} {e : TypeId} {a : Option Addr} {cap : Nat} {xs : List Value} (h : Own w e a cap xs) (f : Fr S w w') (hn : ∀ x ∈ blk a, x ∉ S) : Own w' e a cap xs := by
 rcases h with h | ⟨g, o, cur, rfl, hg, r⟩
 ·exact .inl h
 ·exact .inr ⟨g, o, cur, rfl, f.blk hg (hn g (by simp [blk])), r⟩
theorem Own.lt {w : World} {e : TypeId} {a : Option Addr} {cap : Nat} {xs : List Value} (h : Own w e a cap xs) : ∀ x ∈ blk a, x < w.heap.size := by
 rcases h with ⟨rfl, _⟩ | ⟨g, o, cur, rfl, hg, r⟩
 ·simp [blk]
 ·intro x hx
  simp [blk] at hx
  rw [hx]
  exact lt_of_block hg
theorem Own.rd {w : World} {e : TypeId} {a : Option Addr} {cap : Nat} {bs : List UInt8} (h : Own w e a cap (bs.map bv)) : Rd w a cap bs := by
 obtain ⟨h1, h2, h3⟩ := h.shape
 exact ⟨h.cs, by simpa using h1, h2, h3⟩
theorem own_of_row {w : World} {e : TypeId} {a : Option Addr} {n cap : Nat} {xs : List Value} (h : w.ownsRow 0 e 1 (.slice a n cap) n xs) : Own w e a cap xs ∧ xs.length = n := by
 have hl : xs.length = n := by simpa using h.1
 refine ⟨?_, hl⟩
 rcases h.2 with ⟨h1, h2⟩ | ⟨g, cap', cur, h1, hb, hg, hn, hm, hs, ht⟩
 ·simp only [Value.slice.injEq] at h1
  obtain ⟨rfl, h3, rfl⟩ := h1
  exact .inl ⟨rfl, rfl, List.eq_nil_of_length_eq_zero (by omega)⟩
 ·simp only [Value.slice.injEq] at h1
  obtain ⟨rfl, _, rfl⟩ := h1
  refine .inr ⟨g, 0, cur, rfl, hg, by omega, hm, by omega, ?_⟩
  rw [List.drop_zero, hl]
  simpa using ht
theorem Own.take {w : World} {e : TypeId} {a : Option Addr} {cap : Nat} {xs : List Value} (h : Own w e a cap xs) (k : Nat) : Own w e a cap (xs.take k) := by
 rcases h with ⟨h1, h2, rfl⟩ | ⟨g, o, cur, rfl, hg, h1, h2, h3, h4⟩
 ·exact .inl ⟨h1, h2, by simp⟩
 ·refine .inr ⟨g, o, cur, rfl, hg, by rw [List.length_take]; omega, h2, h3, ?_⟩
  have e1 : xs.take k = ((cur.toList.drop o).take xs.length).take k := by rw [h4]
  rw [e1, List.take_take, List.length_take]
  congr 1
  have := congrArg List.length h4
  rw [List.length_take] at this
  omega
theorem Own.drop {w : World} {e : TypeId} {a : Option Addr} {cap : Nat} {xs : List Value} (h : Own w e a cap xs) (k : Nat) (hk : k ≤ xs.length) : Own w e (cutAtN a cap k 1) (cap - k) (xs.drop k) := by
 rcases h with ⟨rfl, rfl, rfl⟩ | ⟨g, o, cur, rfl, hg, h1, h2, h3, h4⟩
 ·obtain rfl : k = 0 := by simpa using hk
  exact .inl ⟨rfl, rfl, rfl⟩
 ·unfold cutAtN
  by_cases hc : cap = k
  ·rw [if_pos hc]
   have hx : xs.drop k = [] := List.drop_eq_nil_of_le (by omega)
   rw [hx]
   exact .inr ⟨g, o, cur, rfl, hg, by simp, by omega, by omega, rfl⟩
  ·rw [if_neg hc]
   refine .inr ⟨g, o + k, cur, by simp only [Option.map_some, addr_add, Nat.mul_one], hg, by rw [List.length_drop]; omega, by omega, by omega, ?_⟩
   have e1 : xs.drop k = ((cur.toList.drop o).take xs.length).drop k := by rw [h4]
   rw [e1, List.drop_take, List.drop_drop, List.length_take, List.length_drop]
   congr 1
   have := congrArg List.length h4
   rw [List.length_take, List.length_drop] at this
   simp only [Array.length_toList] at *
   omega
section
variable {P : Program} {w : World} {t e : TypeId} {z : Value} {bytes : Nat}
structure OwnMore (w w' : World) (e : TypeId) (a a' : Option Addr) (cap' : Nat) (xs : List Value) : Prop where
 own : Own w' e a' cap' xs
 fr : Fr (blk a) w w'
 at_ : ∀ x ∈ blk a', x ∈ blk a ∨ w.heap.size ≤ x
theorem run_append_mid (T : SliceTy P t e z 1 bytes) (ty : TypeId) (a : Option Addr) (n cap : Nat) (xs : List Value) (hown : Own w e a cap xs) (hn : xs.length = n)
  (ao : Option Addr) (m c : Nat) (news : List Value) (hmc : m ≤ c) (hnone : ao = none → c = 0) (hc : Cs w ao news) (hl : news.length = m) (h1 : ∀ u ∈ news, u.oneCell' = true)
  (hby : (n + m) * bytes ≤ 140737488355328) (h63 : n + m ≤ maxLen) :
  ∃ a' cap' w', (Builtin.append_ #[t, t] ty #[.slice a n cap, .slice ao m c]).run P w = .ok (.slice a' (n + m) cap') w' ∧ OwnMore w w' e a a' cap' (xs ++ news) := by
 subst hn
 rcases hown with ⟨rfl, rfl, rfl⟩ | ⟨g, o, cur, rfl, hg, k1, k2, k3, k4⟩
 ·obtain ⟨a', cap', w', hr, A⟩ := run_append (P := P) T ty (.slice none 0 0) 0 [] [] rfl (World.ownsRow_nil w 0 e 1) ao m c news hmc hnone hc (by omega) h1 (by simpa using hby) (by simpa using h63)
  obtain ⟨o1, _⟩ := own_of_row A.own
  exact ⟨a', cap', w', by simpa using hr, o1, A.fr, fun x hx => .inr (Nat.le_of_eq (by have := A.at_ x hx; simp at this; exact this.symm))⟩
 ·have hsz : xs.length ≤ cur.size - o := by
   have := congrArg List.length k4
   rw [List.length_take, List.length_drop] at this
   simp only [Array.length_toList] at this
   omega
  by_cases hm0 : m = 0
  ·subst hm0
   obtain rfl : news = [] := List.eq_nil_of_length_eq_zero hl
   obtain ⟨hu, ⟨i, hi, hz, hs, hbt⟩, hcz, hp⟩ := T
   refine ⟨some ⟨g, o, none⟩, cap, w, ?_, by rw [List.append_nil]; exact .inr ⟨g, o, cur, rfl, hg, k1, k2, k3, k4⟩, Fr.refl _ _, fun x hx => .inl hx⟩
   cases ao with
   | none =>
    have hc0 := hnone rfl
    simp [Builtin.append_, run_underlying hu, sizeOf, typeInfo, hi, Builtin.lenOf, k1, Builtin.firstCells, storeCells]
   | some b =>
    have hf := run_firstCells_some (P := P) w i.size 0 b 0 c [] (by simp) (by simp)
    simp [Builtin.append_, run_underlying hu, sizeOf, typeInfo, hi, Builtin.lenOf, k1, hf, storeCells]
  ·by_cases hroom : xs.length + m ≤ cap
   ·obtain ⟨hu, ⟨i, hi, hz, hs, hbt⟩, hcz, hp⟩ := T
    obtain ⟨g', o', rfl, hcn⟩ := hc.at (by omega)
    have hn' := cs_add hcn
    have hf := run_firstCells_some (P := P) w i.size m ⟨g', o', none⟩ m c news (by rw [hs]; omega) hn'
    have hst := run_storeCells_at P g (o + xs.length * i.size) e news 0 cur w hg (by rw [hs]; omega) h1
    simp only [Nat.add_zero] at hst
    refine ⟨some ⟨g, o, none⟩, cap, _, ?_, ⟨.inr ⟨g, o, _, rfl, setRow_heap w g cur (cur.toList.take (o + xs.length * i.size) ++ news ++ cur.toList.drop (o + xs.length * i.size + news.length)).toArray e (0, 0) hg, by rw [List.length_append, hl]; exact hroom, k2, ?_, ?_⟩, ⟨rfl, rfl, rfl, by simp, fun k _ hk => setRow_other w g k _ (fun e => hk (by simp [blk, e]))⟩, fun x hx => .inl hx⟩⟩
    ·simp [Builtin.append_, run_underlying hu, sizeOf, typeInfo, hi, Builtin.lenOf, hroom, hf, Addr.add_lit, hst]
    ·simp only [List.size_toArray, List.length_append, List.length_take, List.length_drop, Array.length_toList, hs]
     omega
    ·simp only [hs, Nat.mul_one]
     rw [List.drop_append_of_le_length (by simp; omega), List.drop_append_of_le_length (by simp; omega), List.drop_take, Nat.add_sub_cancel_left, k4, List.length_append, hl]
     rw [List.take_append_of_le_length (by simp [hl]), List.take_of_length_le (by simp [hl])]
   ·have hcs : Cs w (some ⟨g, o, none⟩) xs := Own.cs (.inr ⟨g, o, cur, rfl, hg, k1, k2, k3, k4⟩)
    obtain ⟨cap', w', hr, A⟩ := run_append_full (P := P) T ty (some ⟨g, o, none⟩) xs.length cap xs hcs (by omega) k1 (by simp) ao m c news hc (by omega) (by omega) hby h63
    obtain ⟨o1, _⟩ := own_of_row A.own
    exact ⟨_, cap', w', hr, o1, A.fr.mono (by simp), fun x hx => .inr (Nat.le_of_eq (by have := A.at_ x hx; simp at this; exact this.symm))⟩
theorem wp_append_mid (T : SliceTy P t e z 1 bytes) {o : Oper} {A : Act} {K : Act → World → Prop} {Q : Exit → Act → World → Prop} (s x : Operand)
  (ho : o.op = .call { callee := .builtin .append, args := #[s, x], argTypes := #[t, t] })
  (a : Option Addr) (n cap : Nat) (xs : List Value) (hs : A.eval s = .slice a n cap) (hown : Own w e a cap xs) (hn : xs.length = n)
  (ao : Option Addr) (m c : Nat) (news : List Value) (hx : A.eval x = .slice ao m c) (hmc : m ≤ c) (hnone : ao = none → c = 0) (hc : Cs w ao news) (hl : news.length = m) (h1 : ∀ u ∈ news, u.oneCell' = true)
  (hby : (n + m) * bytes ≤ 140737488355328) (h63 : n + m ≤ maxLen)
  (h : ∀ a' cap' w', OwnMore w w' e a a' cap' (xs ++ news) → K (A.put o.dst (.slice a' (n + m) cap')) w') : o.wp P A w K Q := by
 obtain ⟨a', cap', w', hr, h2⟩ := run_append_mid (P := P) T o.type a n cap xs hown hn ao m c news hmc hnone hc hl h1 hby h63
 unfold Oper.wp execOp
 simp only [ho, resolve, invoke, builtin, Sem.run_bind, Sem.run_pure, Result.andThen_ok, List.map_toArray, List.map_cons, List.map_nil, hs, hx, hr]
 exact h a' cap' w' h2
theorem wpList_append_mid (T : SliceTy P t e z 1 bytes) {ops : Array Oper} {rest : List Oper} {o : Oper} {A : Act} {Q : Exit → Act → World → Prop} (hgd : o.guard = none) (s x : Operand)
  (ho : o.op = .call { callee := .builtin .append, args := #[s, x], argTypes := #[t, t] })
  (a : Option Addr) (n cap : Nat) (xs : List Value) (hs : A.eval s = .slice a n cap) (hown : Own w e a cap xs) (hn : xs.length = n)
  (ao : Option Addr) (m c : Nat) (news : List Value) (hx : A.eval x = .slice ao m c) (hmc : m ≤ c) (hnone : ao = none → c = 0) (hc : Cs w ao news) (hl : news.length = m) (h1 : ∀ u ∈ news, u.oneCell' = true)
  (hby : (n + m) * bytes ≤ 140737488355328) (h63 : n + m ≤ maxLen)
  (h : ∀ a' cap' w', OwnMore w w' e a a' cap' (xs ++ news) → wpList P ops Q rest (A.put o.dst (.slice a' (n + m) cap')) w') : wpList P ops Q (o :: rest) A w :=
 wpList_plain hgd fun _ hK => wp_append_mid T s x ho a n cap xs hs hown hn ao m c news hx hmc hnone hc hl h1 hby h63 fun a' cap' w' h2 => hK _ _ (h a' cap' w' h2)
end
end Go.Proofs.YtkmpfgpfbmeihaaGreatDoor.lib
namespace Go.Proofs.YtkmpfgpfbmeihaaGreatDoor.lib
open Go Go.RowKit
theorem rd_frE {S : List Nat} {w w' : World} {a : Option Addr} {cap : Nat} {bs : List UInt8} (h : Rd w a cap bs) (f : Fr S w w') (hn : bs ≠ [] → ∀ x ∈ blk a, x ∉ S) : Rd w' a cap bs := by
 by_cases hb : bs = []
 ·exact ⟨.inl (by rw [hb]; rfl), h.le, h.max, h.nil⟩
 ·exact h.frS f (hn hb)
theorem rd_lt {w : World} {a : Option Addr} {cap : Nat} {bs : List UInt8} (h : Rd w a cap bs) (hb : bs ≠ []) : ∀ x ∈ blk a, x < w.heap.size := by
 intro x hx
 cases a with
 | none => simp [blk] at hx
 | some a => simp [blk] at hx; rw [hx]; exact h.cs.lt (by simpa using hb) a rfl
theorem run_slice_cut3 {P : Program} {t e : TypeId} {z : Value} {size bytes : Nat} (T : SliceTy P t e z size bytes) (n : Nat) (a : Option Addr) (cap : Nat) (hc : n ≤ cap) (w : World) :
  (Instr.slice t (.slice a n cap) Option.none (some (.int .i64 (n : Nat))) (some (.int .i64 (n : Nat)))).run P w = .ok (.slice a n n) w := by
 obtain ⟨hu, ⟨i, hi', _, hs, _⟩, _, _⟩ := T
 have c1 : (0 : Int) ≤ (n : Int) ∧ (n : Int) ≤ (cap : Int) := by omega
 have ad0 : ∀ x : Addr, x.add 0 = x := fun x => rfl
 cases a <;> simp [run_underlying hu, Instr.slice, Instr.sliceBounds, Instr.sliceBound, asIntOf, c1, hc, sizeOf, typeInfo, hi', hs, Result.andThen, ad0]
theorem cs_owns {w : World} {base : Nat} {e : TypeId} {size n : Nat} {xs : List Value} {ao : Option Addr} {len cap : Nat} (h : w.ownsRow base e size (.slice ao len cap) n xs) : Cs w ao xs := by
 rcases h.2 with ⟨h1, h2⟩ | ⟨g, cap', cur, h1, hb, hg, hn, hm, hs, ht⟩
 ·left
  have := h.1
  rw [h2] at this
  exact List.eq_nil_of_length_eq_zero (by simpa using this)
 ·simp only [Value.slice.injEq] at h1
  obtain ⟨rfl, rfl, rfl⟩ := h1
  refine .inr ⟨g, 0, rfl, fun j v hv => ?_⟩
  rw [cell_of hg, Nat.zero_add]
  rw [← ht, List.getElem?_take] at hv
  split at hv
  ·simpa using hv
  ·cases hv
theorem cs_new (w : World) (C : Array Value) (t : TypeId) (fr : Nat × Nat) : Cs (w.alloc (.cells C t fr)) (some ⟨w.heap.size, 0, none⟩) C.toList :=
 .inr ⟨w.heap.size, 0, rfl, fun j v hv => by rw [cell_of (alloc_at w _), Nat.zero_add, ← Array.getElem?_toList]; exact hv⟩
end Go.Proofs.YtkmpfgpfbmeihaaGreatDoor.lib
namespace Go.Proofs.YtkmpfgpfbmeihaaGreatDoor.lib
open Go
theorem still_of_quiet {P : Program} {ops : Array Oper} {w : World} {L : Act → Prop} : ∀ (l : List Oper) (a : Act), wpQuiet P ops (fun w' => w' = w) L l a → wpStill P ops w L l a
 | [], _, h => h
 | o :: rest, a, h => by
  unfold wpQuiet at h
  unfold wpStill
  by_cases hw : Region.wanted o (yielded ops a.tmps) = true
  ·rw [if_pos hw] at h ⊢
   obtain ⟨v, h1, h2⟩ := h
   have h3 := h1 w rfl
   have h4 := still_of_quiet rest _ h2
   unfold Oper.quietAt at h3
   unfold Oper.still
   generalize (execOp a.eval o).run P w = r at *
   cases r with
   | ok n w' =>
    cases n <;> simp only [Oper.quietUpon] at h3 <;> simp only [Oper.stillUpon]
    case value u => exact ⟨h3.1, h3.2 ▸ h4⟩
    case skip => exact ⟨h3.1, h3.2 ▸ h4⟩
    case enter f args => exact ⟨h3.1, v, h3.2, h4⟩
   | halt x w' => simp only [Oper.quietUpon] at h3
  ·rw [if_neg hw] at h ⊢
   exact still_of_quiet rest _ h
theorem region_tail {P : Program} {id : Nat} {Q : Exit → Act → World → Prop} {a : Act} {w : World} {l : List Oper} (n : Nat) (hm : P.follows .mixedOrders = true) (hB : Region.lexTailB .any l.toArray n = true)
  (h : wpQuiet P l.toArray (fun w' => w' = w.drew) (fun a' => wpList P l.toArray Q (l.drop n) a' w.drew) (l.take n) a) : (Code.region id l.toArray true).wp P Q a w :=
 wp_region_still_tail n hm hB (still_of_quiet _ _ h)
end Go.Proofs.YtkmpfgpfbmeihaaGreatDoor.lib
namespace Go.Proofs.YtkmpfgpfbmeihaaGreatDoor.bm
open Go
theorem pow_le (a b : Nat) (h : a ≤ b) : 2 ^ a ≤ 2 ^ b := Nat.pow_le_pow_right (by omega) h
theorem or_add (v m k : Nat) (hv : v < 2 ^ k) : v ||| m * 2 ^ k = v + 2 ^ k * m := by
 rw [Nat.or_comm, Nat.mul_comm m, ← Nat.two_pow_add_eq_or_of_lt hv, Nat.add_comm]
theorem cast_pow_sub (q : Nat) : ((2 : Int) ^ q - 1) = ((2 ^ q - 1 : Nat) : Int) := by
 have := Nat.two_pow_pos q
 rw [Int.natCast_sub (by omega), Int.natCast_pow]
 rfl
theorem cast_pow (q : Nat) : ((2 : Int) ^ q) = ((2 ^ q : Nat) : Int) := by
 rw [Int.natCast_pow]; rfl
theorem p32 : 2 ^ 32 = 4294967296 := by decide
theorem u32_mask (x q : Nat) (hx : x < 4294967296) (hq : q ≤ 32) : bits .and .u32 (x : Int) (((2 : Int) ^ q - 1) % 4294967296) = ((x % 2 ^ q : Nat) : Int) := by
 have h1 := pow_le q 32 hq
 rw [p32] at h1
 have h2 := Nat.two_pow_pos q
 rw [cast_pow_sub, show ((2 ^ q - 1 : Nat) : Int) % 4294967296 = ((2 ^ q - 1 : Nat) : Int) from by omega,
  u32_and_nat x (2 ^ q - 1) hx (by omega), Nat.and_two_pow_sub_one_eq_mod]
theorem mul_lt {v m k q : Nat} (hm : m < 2 ^ q) (hkq : k + q ≤ 32) : m * 2 ^ k < 4294967296 := by
 have h1 := pow_le (k + q) 32 hkq
 rw [p32, Nat.pow_add] at h1
 have h2 : m * 2 ^ k < 2 ^ q * 2 ^ k := Nat.mul_lt_mul_of_pos_right hm (Nat.two_pow_pos k)
 rw [Nat.mul_comm (2 ^ q)] at h2
 omega
theorem u32_put (v m k q : Nat) (hv : v < 2 ^ k) (hm : m < 2 ^ q) (hkq : k + q ≤ 32) : bits .or .u32 (v : Int) ((m : Int) * 2 ^ k % 4294967296) = ((v + 2 ^ k * m : Nat) : Int) := by
 have h3 := mul_lt (v := v) hm hkq
 have hv2 : v < 4294967296 := by
  have := pow_le k 32 (by omega)
  rw [p32] at this
  omega
 rw [cast_pow, ← Int.natCast_mul, show ((m * 2 ^ k : Nat) : Int) % 4294967296 = ((m * 2 ^ k : Nat) : Int) from by omega,
  u32_or_nat v (m * 2 ^ k) hv2 h3, or_add v m k hv]
theorem take_step (bs : List UInt8) (a k q vn bn : Nat) (hlt : (a + k) / 8 < bs.length) (hq : (a + k) % 8 + q ≤ 8) (hkq : k + q ≤ 32)
  (hv : num bs / 2 ^ a % 2 ^ k = vn) (hb : (bs.getD ((a + k) / 8) 0).toNat = bn) :
  bits .or .u32 (vn : Int) (bits .and .u32 ((bn : Int) / 2 ^ ((a + k) % 8)) (((2 : Int) ^ q - 1) % 4294967296) * 2 ^ k % 4294967296) = ((num bs / 2 ^ a % 2 ^ (k + q) : Nat) : Int) := by
 have hbn : bn < 256 := by rw [← hb]; exact UInt8.toNat_lt _
 have hbd : bn / 2 ^ ((a + k) % 8) < 4294967296 := Nat.lt_of_le_of_lt (Nat.div_le_self _ _) (by omega)
 have hc := chunk bs (a + k) q hlt hq
 rw [hb] at hc
 rw [more, hv, hc, cast_pow ((a + k) % 8), ← Int.natCast_ediv, u32_mask _ q hbd (by omega),
  u32_put vn _ k q (by rw [← hv]; exact Nat.mod_lt _ (Nat.two_pow_pos _)) (Nat.mod_lt _ (Nat.two_pow_pos _)) hkq]
theorem u64_mask (x m : Nat) (hx : x < 18446744073709551616) (hm : m ≤ 32) : bits .and .u64 (x : Int) (IntKind.u64.wrap (IntKind.u64.wrap ((2 : Int) ^ m) - 1)) = ((x % 2 ^ m : Nat) : Int) := by
 have h1 := pow_le m 32 hm
 rw [p32] at h1
 have h2 := Nat.two_pow_pos m
 have e : IntKind.u64.wrap (IntKind.u64.wrap ((2 : Int) ^ m) - 1) = ((2 ^ m - 1 : Nat) : Int) := by
  rw [IntKind.wrap_u64, IntKind.wrap_u64, cast_pow]
  omega
 rw [e, u64_and_nat x (2 ^ m - 1) hx (by omega), Nat.and_two_pow_sub_one_eq_mod]
theorem word_lt (M L : Nat) (hM : M < 2 ^ L) : M / 2 ^ (8 * (L / 8)) < 2 ^ (L % 8) := by
 rw [Nat.div_lt_iff_lt_mul (Nat.two_pow_pos _), ← Nat.pow_add]
 rwa [show L % 8 + 8 * (L / 8) = L from by omega]
theorem put_div (M L y : Nat) : (M + 2 ^ L * y) / 2 ^ (8 * (L / 8)) = M / 2 ^ (8 * (L / 8)) + 2 ^ (L % 8) * y := by
 have e : 2 ^ L = 2 ^ (8 * (L / 8)) * 2 ^ (L % 8) := by rw [← Nat.pow_add, Nat.div_add_mod]
 rw [e, Nat.mul_assoc, Nat.add_mul_div_left _ _ (Nat.two_pow_pos _)]
theorem put_lt (M L x n : Nat) (hM : M < 2 ^ L) : M + 2 ^ L * (x % 2 ^ n) < 2 ^ (L + n) := by
 have h := Nat.mod_lt x (Nat.two_pow_pos n)
 rw [Nat.pow_add]
 calc M + 2 ^ L * (x % 2 ^ n) < 2 ^ L + 2 ^ L * (x % 2 ^ n) := by omega
  _ = 2 ^ L * (x % 2 ^ n + 1) := by rw [Nat.mul_add, Nat.mul_one, Nat.add_comm]
  _ ≤ 2 ^ L * 2 ^ n := Nat.mul_le_mul_left _ h
theorem put_word (M L x m : Nat) (hM : M < 2 ^ L) (hx : x < 4294967296) (hm : m ≤ 32) :
  bits .or .u64 ((M / 2 ^ (8 * (L / 8)) : Nat) : Int) (IntKind.u64.wrap (bits .and .u64 (x : Int) (IntKind.u64.wrap (IntKind.u64.wrap ((2 : Int) ^ m) - 1)) * 2 ^ (L % 8))) =
   (((M + 2 ^ L * (x % 2 ^ m)) / 2 ^ (8 * (L / 8)) : Nat) : Int) := by
 have hw := word_lt M L hM
 have hy : x % 2 ^ m < 2 ^ m := Nat.mod_lt _ (Nat.two_pow_pos m)
 have hym : x % 2 ^ m < 4294967296 := Nat.lt_of_le_of_lt (Nat.mod_le _ _) hx
 have h8 := pow_le (L % 8) 8 (by omega)
 have hp : x % 2 ^ m * 2 ^ (L % 8) ≤ 4294967296 * 256 := Nat.mul_le_mul (by omega) h8
 rw [u64_mask x m (by omega) hm, put_div, cast_pow, ← Int.natCast_mul, IntKind.wrap_u64,
  show ((x % 2 ^ m * 2 ^ (L % 8) : Nat) : Int) % 18446744073709551616 = ((x % 2 ^ m * 2 ^ (L % 8) : Nat) : Int) from by omega,
  u64_or_nat _ _ (by omega) (by omega), or_add _ _ _ hw]
theorem i64_mask (x : Int) (k : Nat) (hk : k ≤ 62) : bits .and .i64 x ((2 ^ k - 1 : Nat) : Int) = x % 2 ^ k := by
 have h1 := pow_le k 62 hk
 have h2 := Nat.two_pow_pos k
 have e62 : 2 ^ 62 = 4611686018427387904 := by decide
 rw [e62] at h1
 have hx : (BitVec.ofInt 64 x).toNat = (x % 18446744073709551616).toNat := by
  rw [BitVec.toNat_ofInt]; rfl
 have hm : (BitVec.ofInt 64 ((2 ^ k - 1 : Nat) : Int)).toNat = 2 ^ k - 1 := by
  rw [BitVec.ofInt_natCast, BitVec.toNat_ofNat]; exact Nat.mod_eq_of_lt (by omega)
 show IntKind.i64.wrap ((BitVec.ofInt 64 x &&& BitVec.ofInt 64 ((2 ^ k - 1 : Nat) : Int)).toNat : Int) = _
 rw [BitVec.toNat_and, hx, hm, Nat.and_two_pow_sub_one_eq_mod]
 have h3 : (x % 18446744073709551616).toNat % 2 ^ k < 2 ^ k := Nat.mod_lt _ h2
 have h4 : (0 : Int) ≤ x % 18446744073709551616 := Int.emod_nonneg _ (by decide)
 have h5 : (((x % 18446744073709551616).toNat % 2 ^ k : Nat) : Int) = x % 2 ^ k := by
  rw [Int.natCast_emod, Int.toNat_of_nonneg h4, Int.natCast_pow]
  have hd : ((2 ^ k : Nat) : Int) ∣ 18446744073709551616 := by
   refine ⟨((2 ^ (64 - k) : Nat) : Int), ?_⟩
   rw [← Int.natCast_mul, ← Nat.pow_add, show k + (64 - k) = 64 from by omega]
   decide
  rw [Int.natCast_pow] at hd
  exact Int.emod_emod_of_dvd x hd
 rw [h5, IntKind.wrap_i64]
 have h6 : (0 : Int) ≤ x % 2 ^ k := Int.emod_nonneg _ (by rw [cast_pow]; omega)
 have h7 : x % 2 ^ k < 2 ^ k := Int.emod_lt_of_pos _ (by rw [cast_pow]; omega)
 rw [cast_pow] at h7
 rw [cast_pow] at h6 ⊢
 omega
end Go.Proofs.YtkmpfgpfbmeihaaGreatDoor.bm
namespace Go.Proofs.YtkmpfgpfbmeihaaGreatDoor.sums
open Go Go.RowKit lib bm
theorem sliceU8 : SliceTy Tryz.prog 23 5 (.int .u8 0) 1 1 := SliceTy.of Tryz.underlying23 (by kernel_rfl) rfl (by decide)
theorem bv_one (bs : List UInt8) : ∀ u ∈ bs.map bv, u.oneCell' = true := by
 intro u hu
 obtain ⟨b, _, rfl⟩ := List.mem_map.1 hu
 rfl
def ad : Nat → Nat → List UInt8 → Nat × Nat
 | a, b, [] => (a, b)
 | a, b, c :: t => ad ((a + c.toNat) % 65521) ((b + (a + c.toNat) % 65521) % 65521) t
theorem ad_lt : ∀ (a b : Nat) (l : List UInt8), a < 65521 → b < 65521 → (ad a b l).1 < 65521 ∧ (ad a b l).2 < 65521
 | _, _, [], ha, hb => ⟨ha, hb⟩
 | a, b, c :: t, _, _ => ad_lt _ _ t (Nat.mod_lt _ (by decide)) (Nat.mod_lt _ (by decide))
def adler (l : List UInt8) : Nat := (ad 1 0 l).2 * 65536 + (ad 1 0 l).1
theorem adler_lt (l : List UInt8) : adler l < 4294967296 := by
 have := ad_lt 1 0 l (by decide) (by decide)
 unfold adler
 omega
def Ad (w : World) (g a b : Nat) : Prop :=
 ∃ C, w.heap[g]? = some (.cells C 188 (0, 0)) ∧ C.size = 267 ∧ C[0]? = some (.int .i64 3) ∧ C[265]? = some (.int .u32 a) ∧ C[266]? = some (.int .u32 b) ∧ a < 65521 ∧ b < 65521
set_option maxHeartbeats 1000000 in
theorem begun_three (w : World) : Calls Tryz.prog 106 #[.int .i64 3] w fun e w' => e = .returned (.pointer (some ⟨w.heap.size, 0, none⟩)) ∧ Ad w' w.heap.size 1 0 ∧ Fr [] w w' := by
 go_enter Tryz.func106, Tryz.ntmps106
 go_wp2
 go_ret
 exact ⟨rfl, ⟨_, alloc_at w _, rfl, rfl, rfl, rfl, by decide, by decide⟩, (Fr.refl [] w).alloc _⟩
set_option maxHeartbeats 1000000 in
theorem write_adler (g a0 b0 cap : Nat) (ao : Option Addr) (bs : List UInt8) (w : World) (h : Ad w g a0 b0) (hr : Rd w ao cap bs) (hng : bs ≠ [] → ∀ x ∈ blk ao, x ≠ g) :
  Calls Tryz.prog 94 #[.pointer (some ⟨g, 0, none⟩), .slice ao bs.length cap] w fun e w' => e = .returned (.tuple #[]) ∧ Fr [g] w w' ∧ Ad w' g (ad a0 b0 bs).1 (ad a0 b0 bs).2 := by
 obtain ⟨C, hC, hsz, hc0, _⟩ := h
 have c0 := cell_of hC 0
 rw [hc0] at c0
 obtain ⟨L, hL⟩ : ∃ L, L = bs.length := ⟨_, rfl⟩
 have hle := hr.le
 have hmax := hr.max
 unfold maxLen at hmax
 rw [← hL] at hle ⊢
 have H := Lib.hid (And.intro (show Ad w g a0 b0 from ⟨C, hC, hsz, hc0, ‹_›⟩) (And.intro hr (And.intro hng hL)))
 clear hr hng hL hC hsz hc0
 go_enter Tryz.func94, Tryz.ntmps94
 go_upto_block 5 with fail
 clear c0
 go_wp2
 go_loopg [7, 93] L (fun k s7 s93 wr => ∃ i a b : Nat, s93 = .int .i64 (i : Nat) ∧ i + k = L ∧ Ad wr g a b ∧ Fr [g] w wr ∧ ad a b (bs.drop i) = ad a0 b0 bs)
 case atStart => exact ⟨0, a0, b0, rfl, by omega, H.out.1, Fr.refl _ _, rfl⟩
 case round =>
  obtain ⟨i, a, b, rfl, hik, hA, hf, had⟩ := hrel
  by_cases hi : i < L
  ·obtain ⟨k, rfl⟩ : ∃ k, gk = k + 1 := ⟨gk - 1, by omega⟩
   have hib : i < bs.length := by rw [← H.out.2.2.2]; exact hi
   have hbn : bs ≠ [] := by intro e; rw [e] at hib; simp at hib
   have hrr := rd_frE H.out.2.1 hf (fun hb x hx hm => H.out.2.2.1 hb x hx (by simpa using hm))
   obtain ⟨g1, o1, rfl, cc⟩ := hrr.at hib
   have hdr : bs.drop i = bs[i] :: bs.drop (i + 1) := List.drop_eq_getElem_cons hib
   rw [hdr, ad] at had
   have hc256 := UInt8.toNat_lt bs[i]
   generalize bs[i].toNat = c at *
   obtain ⟨C, hC, hsz, hc0, ha1, hb1, hla, hlb⟩ := hA
   have ca := cell_of hC 265
   rw [ha1] at ca
   have za := frozen_of hC 265
   obtain ⟨a2, ha2⟩ : ∃ a2, a2 = (a + c) % 65521 := ⟨_, rfl⟩
   obtain ⟨b2, hb2⟩ : ∃ b2, b2 = (b + a2) % 65521 := ⟨_, rfl⟩
   rw [← ha2, ← hb2] at had
   have e1 : ((a : Int) + (c : Int)) % 65521 = (a2 : Int) := by omega
   have e2 : ((b : Int) + (a2 : Int)) % 65521 = (b2 : Int) := by omega
   have hla2 : a2 < 65521 := by omega
   have hlb2 : b2 < 65521 := by omega
   have HC := Lib.hid (And.intro hC (And.intro hsz (And.intro hc0 (And.intro hb1 (And.intro hf had)))))
   clear hC hsz hc0 hb1 hf had ha1 ha2 hb2 hdr hrr hib
   go_upto_region 18 with fail
   have f2 : Fr [g] wr (wr.setCell ⟨g, 265, none⟩ (.int .u32 (a2 : Nat))) := (Fr.refl [g] wr).setCell (by simp) _
   have hC2 := setCell_of (o := 265) HC.out.1 (.int .u32 (a2 : Nat))
   generalize wr.setCell ⟨g, 265, none⟩ (.int .u32 (a2 : Nat)) = w2 at *
   have ca2 := cell_of hC2 265
   have cb2 := cell_of hC2 266
   have zb := frozen_of hC2 266
   rw [Array.getElem?_setIfInBounds_self_of_lt (by rw [HC.out.2.1]; decide)] at ca2
   rw [Array.getElem?_setIfInBounds_ne (by decide), HC.out.2.2.2.1] at cb2
   have HC2 := Lib.hid (And.intro hC2 f2)
   clear ca za cc hC2 f2
   refine region_tail 13 (by kernel_rfl) (by kernel_rfl) ?_
   simp only [List.take_succ_cons, List.take_zero, List.drop_succ_cons, List.drop_zero]
   repeat (go_big_quiet_step (fail))
   refine wpQuiet_nil ?_
   go_wp2
   go_roundg k
   case measure => omega
   case rel =>
    have f3 : Fr [g] w2 w2.drew := Fr.drew1 [g] w2
    have hC3 := f3.block g (lt_of_block HC2.out.1)
    have hC4 : (w2.drew).heap[g]? = _ := HC2.out.1
    have hC5 := setCell_of (o := 266) hC4 (.int .u32 (b2 : Nat))
    refine ⟨i + 1, a2, b2, by go_num, by omega, ⟨_, hC5, by simp [HC.out.2.1], ?_, ?_, ?_, hla2, hlb2⟩, ((HC.out.2.2.2.2.1.trans HC2.out.2).trans f3).setCell (by simp) _, HC.out.2.2.2.2.2⟩
    ·rw [Array.getElem?_setIfInBounds_ne (by decide), Array.getElem?_setIfInBounds_ne (by decide), HC.out.2.2.1]
    ·rw [Array.getElem?_setIfInBounds_ne (by decide), Array.getElem?_setIfInBounds_self_of_lt (by rw [HC.out.2.1]; decide)]
    ·rw [Array.getElem?_setIfInBounds_self_of_lt (by rw [Array.size_setIfInBounds, HC.out.2.1]; decide)]
  ·obtain rfl : gk = 0 := by omega
   obtain rfl : i = L := by omega
   have hd : bs.drop i = [] := List.drop_eq_nil_of_le (by rw [← H.out.2.2.2]; exact Nat.le_refl _)
   rw [hd, ad] at had
   have HA := Lib.hid (And.intro hA (And.intro hf had))
   clear hA hf had hd
   go_wp2
   go_end0
   exact ⟨rfl, HA.out.2.1, by rw [← HA.out.2.2]; exact HA.out.1⟩
end Go.Proofs.YtkmpfgpfbmeihaaGreatDoor.sums
namespace Go.Proofs.YtkmpfgpfbmeihaaGreatDoor.inf
open Go Go.RowKit lib bm bl huf
def zhead (x0 x1 : Nat) : Bool := (x0 % 16 == 8) && (decide (x0 / 16 ≤ 7) && (((x0 * 256 + x1) % 31 == 0) && (x1 / 32 % 2 == 0)))
def be32 (bs : List UInt8) (q : Nat) : Nat := byteAt bs q * 16777216 + byteAt bs (q + 1) * 65536 + byteAt bs (q + 2) * 256 + byteAt bs (q + 3)
def izlib (bs : List UInt8) (m : Nat) : Except Nat (List UInt8 × Nat) :=
 if bs.length < 2 then .error 4 else if zhead (byteAt bs 0) (byteAt bs 1) = false then .error 3 else
 match iraw (bs.drop 2) m with
 | .error e => .error e
 | .ok (out, n) => if bs.length - (n + 2) < 4 then .error 4 else if be32 bs (n + 2) = sums.adler out then .ok (out, n + 6) else .error 6
theorem u8_and15 (x : Nat) (h : x < 256) : bits .and .u8 ((x : Nat) : Int) 15 = ((x % 16 : Nat) : Int) := by
 have hall : ∀ y : Fin 256, bits .and .u8 ((y.val : Nat) : Int) 15 = ((y.val % 16 : Nat) : Int) := by decide +kernel
 exact hall ⟨x, h⟩
theorem u8_and32 (x : Nat) (h : x < 256) : bits .and .u8 ((x : Nat) : Int) 32 = ((x / 32 % 2 * 32 : Nat) : Int) := by
 have hall : ∀ y : Fin 256, bits .and .u8 ((y.val : Nat) : Int) 32 = ((y.val / 32 % 2 * 32 : Nat) : Int) := by decide +kernel
 exact hall ⟨x, h⟩
end Go.Proofs.YtkmpfgpfbmeihaaGreatDoor.inf
namespace Go.Proofs.YtkmpfgpfbmeihaaGreatDoor.crc
open Go
def poly : Nat := 3988292384
def st (c : Nat) : Nat := if c % 2 = 1 then (c / 2) ^^^ poly else c / 2
def stN : Nat → Nat → Nat
 | 0, c => c
 | k + 1, c => stN k (st c)
theorem xor_lt {a b : Nat} (h1 : a < 4294967296) (h2 : b < 4294967296) : a ^^^ b < 4294967296 := Nat.xor_lt_two_pow (n := 32) h1 h2
theorem st_lt {c : Nat} (h : c < 4294967296) : st c < 4294967296 := by
 unfold st
 split
 ·exact xor_lt (by omega) (by decide)
 ·omega
theorem stN_lt (k : Nat) : ∀ {c : Nat}, c < 4294967296 → stN k c < 4294967296 := by
 induction k with
 | zero => intro c h; exact h
 | succ k ih => intro c h; exact ih (st_lt h)
theorem xor_half (a b : Nat) : (a ^^^ b) / 2 = a / 2 ^^^ b / 2 := Nat.xor_div_two
theorem xor_odd (a b : Nat) : (a ^^^ b) % 2 = (a % 2 + b % 2) % 2 := by
 have := Nat.xor_mod_two_pow (a := a) (b := b) (n := 1)
 simp only [Nat.pow_one] at this
 rw [this]
 rcases Nat.mod_two_eq_zero_or_one a with h | h <;> rcases Nat.mod_two_eq_zero_or_one b with k | k <;> rw [h, k] <;> rfl
theorem st_xor (a b : Nat) : st (a ^^^ b) = st a ^^^ st b := by
 unfold st
 rw [xor_half, xor_odd]
 rcases Nat.mod_two_eq_zero_or_one a with h | h <;> rcases Nat.mod_two_eq_zero_or_one b with k | k <;> rw [h, k] <;> simp
 ·rw [Nat.xor_assoc]
 ·rw [Nat.xor_assoc, Nat.xor_comm (b / 2) poly, ← Nat.xor_assoc]
 ·rw [Nat.xor_assoc, ← Nat.xor_assoc poly, Nat.xor_comm poly, Nat.xor_assoc (b / 2), Nat.xor_self, Nat.xor_zero]
theorem stN_xor (k : Nat) : ∀ (a b : Nat), stN k (a ^^^ b) = stN k a ^^^ stN k b := by
 induction k with
 | zero => intro a b; rfl
 | succ k ih => intro a b; show stN k (st (a ^^^ b)) = _; rw [st_xor, ih]; rfl
theorem stN_even (k : Nat) : ∀ (h : Nat), stN k (2 ^ k * h) = h := by
 induction k with
 | zero => intro h; simp [stN]
 | succ k ih =>
  intro h
  show stN k (st (2 ^ (k + 1) * h)) = h
  have e : 2 ^ (k + 1) * h = 2 * (2 ^ k * h) := by rw [Nat.pow_succ, Nat.mul_comm (2 ^ k) 2, Nat.mul_assoc]
  unfold st
  rw [e, if_neg (by omega), Nat.mul_div_cancel_left _ (by decide), ih]
theorem split8 (x : Nat) : x = (2 ^ 8 * (x / 256)) ^^^ (x % 256) := by
 have h1 : 2 ^ 8 * (x / 256) + x % 256 = x := by omega
 have h2 := Nat.two_pow_add_eq_or_of_lt (i := 8) (b := x % 256) (by omega) (x / 256)
 apply Nat.eq_of_testBit_eq
 intro i
 rw [Nat.testBit_xor]
 conv => lhs; rw [← h1, h2]
 rw [Nat.testBit_or, Nat.testBit_two_pow_mul]
 by_cases hi : 8 ≤ i
 ·have : (x % 256).testBit i = false := Nat.testBit_lt_two_pow (Nat.lt_of_lt_of_le (Nat.mod_lt x (by decide)) (Nat.pow_le_pow_right (n := 2) (by decide) hi))
  rw [this]; simp
 ·simp [hi]
def tb (i : Nat) : Nat := stN 8 i
def inb (c : Nat) (b : UInt8) : Nat := stN 8 (c ^^^ b.toNat)
theorem xor_div256 (a b : Nat) : (a ^^^ b) / 256 = a / 256 ^^^ b / 256 := by
 have := Nat.xor_div_two_pow (a := a) (b := b) (n := 8)
 simpa using this
theorem inb_tab (c : Nat) (b : UInt8) : inb c b = c / 256 ^^^ tb (c % 256 ^^^ b.toNat) := by
 have hb : b.toNat < 256 := b.toNat_lt
 unfold inb tb
 conv => lhs; rw [split8 (c ^^^ b.toNat)]
 rw [stN_xor, stN_even, xor_div256, Nat.div_eq_of_lt hb, Nat.xor_zero]
 have := Nat.xor_mod_two_pow (a := c) (b := b.toNat) (n := 8)
 rw [show (2 : Nat) ^ 8 = 256 from rfl] at this
 rw [this, Nat.mod_eq_of_lt hb]
theorem inb_lt {c : Nat} (h : c < 4294967296) (b : UInt8) : inb c b < 4294967296 := stN_lt 8 (xor_lt h (by have := b.toNat_lt; omega))
theorem tb_lt {i : Nat} (h : i < 256) : tb i < 4294967296 := stN_lt 8 (by omega)
def crcs (bs : List UInt8) : Nat := bs.foldl inb 4294967295
def crc (bs : List UInt8) : Nat := 4294967295 - crcs bs
end Go.Proofs.YtkmpfgpfbmeihaaGreatDoor.crc
namespace Go.Proofs.YtkmpfgpfbmeihaaGreatDoor.obj
open Go Go.RowKit lib
def kname (k : Int) : List UInt8 := if k = 1 then [99, 111, 109, 109, 105, 116] else if k = 2 then [116, 114, 101, 101] else if k = 3 then [98, 108, 111, 98] else if k = 4 then [116, 97, 103] else []
def names5 : Array Value := #[.string ⟨#[]⟩, .string ⟨#[99, 111, 109, 109, 105, 116]⟩, .string ⟨#[116, 114, 101, 101]⟩, .string ⟨#[98, 108, 111, 98]⟩, .string ⟨#[116, 97, 103]⟩]
theorem infoN : (Tryz.prog.info? 160).map (·.size) = some 5 := by kernel_rfl
theorem results_five {fn : Func} {p : Tmp} (h : fn.results = #[.cell p 160]) (tmps : Array Value) (w : World) (g : Nat) (cs : Array Value) (fr : Nat × Nat)
  (hp : tmps.getD p undef = .pointer (some ⟨g, 0, none⟩)) (hg : w.heap[g]? = some (.cells cs 160 fr)) (hs : cs.size = 5) : (results fn tmps).run Tryz.prog w = .ok (.agg cs) w :=
 results_cell_row h tmps w g 160 cs fr _ hp hg Tryz.underlying160 rfl (by rw [infoN, hs])
theorem names_any (w : World) : Calls Tryz.prog 92 #[] w fun e w' => e = .returned (.agg names5) ∧ Fr [] w w' := by
 go_enter Tryz.func92, Tryz.ntmps92
 go_wp2
 exact bodyPost_ret (results_five rfl _ _ w.heap.size _ (0, 0) rfl (alloc_at w _) rfl) rfl ⟨rfl, (Fr.refl [] w).alloc _⟩
theorem name_any (k : Int) (w : World) : Calls Tryz.prog 62 #[.int .i64 k] w fun e w' => e = .returned (.string (str (kname k))) ∧ Fr [] w w' := by
 by_cases h0 : k < 0
 ·have hn : kname k = [] := by unfold kname; rw [if_neg (by omega), if_neg (by omega), if_neg (by omega), if_neg (by omega)]
  rw [hn]
  go_enter Tryz.func62, Tryz.ntmps62
  go_wp2
  go_ret
  exact ⟨rfl, Fr.refl _ _⟩
 ·by_cases h4 : 4 < k
  ·have hn : kname k = [] := by unfold kname; rw [if_neg (by omega), if_neg (by omega), if_neg (by omega), if_neg (by omega)]
   rw [hn]
   go_enter Tryz.func62, Tryz.ntmps62
   go_wp2
   go_ret
   exact ⟨rfl, Fr.refl _ _⟩
  ·have hk : k = 0 ∨ k = 1 ∨ k = 2 ∨ k = 3 ∨ k = 4 := by omega
   have i0 : ∀ w : World, (Instr.index 160 (.agg names5) (.int .i64 0)).run Tryz.prog w = .ok (.string ⟨#[]⟩) w := fun w => by kernel_rfl
   have i1 : ∀ w : World, (Instr.index 160 (.agg names5) (.int .i64 1)).run Tryz.prog w = .ok (.string ⟨#[99, 111, 109, 109, 105, 116]⟩) w := fun w => by kernel_rfl
   have i2 : ∀ w : World, (Instr.index 160 (.agg names5) (.int .i64 2)).run Tryz.prog w = .ok (.string ⟨#[116, 114, 101, 101]⟩) w := fun w => by kernel_rfl
   have i3 : ∀ w : World, (Instr.index 160 (.agg names5) (.int .i64 3)).run Tryz.prog w = .ok (.string ⟨#[98, 108, 111, 98]⟩) w := fun w => by kernel_rfl
   have i4 : ∀ w : World, (Instr.index 160 (.agg names5) (.int .i64 4)).run Tryz.prog w = .ok (.string ⟨#[116, 97, 103]⟩) w := fun w => by kernel_rfl
   clear h0 h4
   rcases hk with rfl | rfl | rfl | rfl | rfl
   all_goals
    go_enter Tryz.func62, Tryz.ntmps62
    go_wp2_with (go_at_call 92; refine (names_any _).mono ?_; rintro e w1 ⟨rfl, f1⟩)
    go_ret
    exact ⟨rfl, f1⟩
theorem rname_any (k : Int) (w : World) : Calls Tryz.prog 84 #[.int .i64 k] w fun e w' => e = .returned (.string (str (kname k))) ∧ Fr [] w w' := by
 by_cases h0 : k < 0
 ·have hn : kname k = [] := by unfold kname; rw [if_neg (by omega), if_neg (by omega), if_neg (by omega), if_neg (by omega)]
  rw [hn]
  go_enter Tryz.func84, Tryz.ntmps84
  go_wp2
  go_ret
  exact ⟨rfl, (Fr.refl [] w).alloc _⟩
 ·by_cases h4 : 4 < k
  ·have hn : kname k = [] := by unfold kname; rw [if_neg (by omega), if_neg (by omega), if_neg (by omega), if_neg (by omega)]
   rw [hn]
   go_enter Tryz.func84, Tryz.ntmps84
   go_wp2
   go_ret
   exact ⟨rfl, (Fr.refl [] w).alloc _⟩
  ·have hk : k = 0 ∨ k = 1 ∨ k = 2 ∨ k = 3 ∨ k = 4 := by omega
   clear h0 h4
   rcases hk with rfl | rfl | rfl | rfl | rfl
   all_goals
    go_enter Tryz.func84, Tryz.ntmps84
    go_wp2
    go_ret
    exact ⟨rfl, (Fr.refl [] w).alloc _⟩
end Go.Proofs.YtkmpfgpfbmeihaaGreatDoor.obj
namespace Go.Proofs.YtkmpfgpfbmeihaaGreatDoor.bm
open Go Go.RowKit
theorem ofInt_i64 (a : Nat) (ha : a < 9223372036854775808) : (BitVec.ofInt 64 (a : Int)).toNat = a := by
 rw [BitVec.ofInt_natCast, BitVec.toNat_ofNat]
 exact Nat.mod_eq_of_lt (by omega)
theorem i64_or_nat (a b : Nat) (ha : a < 9223372036854775808) (hb : b < 9223372036854775808) : bits .or .i64 (a : Int) (b : Int) = ((a ||| b : Nat) : Int) := by
 have hx : a ||| b < 2 ^ 63 := Nat.or_lt_two_pow (by omega) (by omega)
 show IntKind.i64.wrap ((BitVec.ofInt 64 (a : Int) ||| BitVec.ofInt 64 (b : Int)).toNat : Int) = _
 rw [BitVec.toNat_or, ofInt_i64 a ha, ofInt_i64 b hb, IntKind.wrap_i64]
 omega
theorem i64_put (n v k : Nat) (hk : k ≤ 62) (hv : v < 2 ^ k) (hn : n * 2 ^ k < 9223372036854775808) : bits .or .i64 ((n : Int) * ((2 ^ k : Nat) : Int)) (v : Int) = ((n * 2 ^ k + v : Nat) : Int) := by
 have h1 := pow_le k 62 hk
 have e62 : 2 ^ 62 = 4611686018427387904 := by decide
 rw [e62] at h1
 rw [← Int.natCast_mul, i64_or_nat _ _ hn (by omega), Nat.or_comm, or_add v n k hv, Nat.mul_comm n, Nat.add_comm]
end Go.Proofs.YtkmpfgpfbmeihaaGreatDoor.bm
namespace Go.Proofs.YtkmpfgpfbmeihaaGreatDoor.lib
open Go Go.RowKit
theorem str_size (bs : List UInt8) : (str bs).size = bs.length := by simp [str, ByteArray.size]
section
variable {P : Program} {w : World} {t u e : TypeId}
end
section
variable {P : Program} {w : World} {ops : Array Oper} {rest : List Oper} {o : Oper} {a : Act} {Q : Exit → Act → World → Prop} {t : TypeId}
theorem str_append (a b : List UInt8) : str a ++ str b = str (a ++ b) := by
 apply ByteArray.ext
 simp [str, ByteArray.data_append]
end
end Go.Proofs.YtkmpfgpfbmeihaaGreatDoor.lib
namespace Go.Proofs.YtkmpfgpfbmeihaaGreatDoor.obj
open Go Go.RowKit lib
theorem dig_big {m : Nat} (h : 9 < m) : Lib.decDigits m = Lib.decDigits (m / 10) ++ [UInt8.ofNat (48 + m % 10)] := by
 rw [Lib.decDigits, dif_neg (by omega)]
theorem dig_small {m : Nat} (h : ¬ 9 < m) : Lib.decDigits m = [UInt8.ofNat (48 + m)] := by
 rw [Lib.decDigits, dif_pos (by omega)]
theorem digb (x : Nat) (h : x < 10) : ((UInt8.ofNat (48 + x)).toNat : Nat) = 48 + x := by
 rw [UInt8.toNat_ofNat']; omega
set_option maxHeartbeats 2000000 in
theorem digits_any (N : Nat) (w : World) (hN : N ≤ 140737488355328) : Calls Tryz.prog 85 #[.int .i64 (N : Nat)] w fun e w' => e = .returned (.string (str (Lib.decDigits N))) ∧ Fr [] w w' := by
 go_enter Tryz.func85, Tryz.ntmps85
 go_wp2
 go_loopg [0, 3] N (fun k s0 s3 wr => ∃ (m : Nat) (t : List UInt8), s0 = .int .i64 (m : Nat) ∧ s3 = .string (str t) ∧ m ≤ k ∧ t.length + m ≤ N ∧ Lib.decDigits m ++ t = Lib.decDigits N ∧ Fr [] w wr)
 case atStart => exact ⟨N, [], rfl, rfl, Nat.le_refl _, by simp, by simp, Fr.refl _ _⟩
 case round =>
  obtain ⟨m, t, rfl, rfl, hk, hm, he, hf⟩ := hrel
  have H := Lib.hid (And.intro he hf)
  clear he hf
  have htz : (str t).size = t.length := by simp [str, ByteArray.size]
  have HN := Lib.hid hm
  have htb : t.length ≤ 140737488355328 := by omega
  have hmb : m ≤ 140737488355328 := by omega
  obtain ⟨T, hT⟩ : ∃ T, T = str t := ⟨_, rfl⟩
  rw [← hT] at htz ⊢
  have hTs : T.size ≤ 140737488355328 := by omega
  have HTT := Lib.hid hT
  clear htz hm hT htb
  by_cases h9 : 9 < m
  ·obtain ⟨z, hz⟩ : ∃ z, z = str [UInt8.ofNat (48 + m % 10)] := ⟨_, rfl⟩
   have hzs : z.size = 1 := by rw [hz]; rfl
   have cv : ∀ c, (convert 23 9 (.slice (some ⟨wr.heap.size, 0, none⟩) 1 c)).run Tryz.prog (wr.alloc (.cells #[.int .u8 (48 + (m : Int) % 10)] 5)) = .ok (.string z) (wr.alloc (.cells #[.int .u8 (48 + (m : Int) % 10)] 5)) := by
    rw [hz]
    exact run_conv _ Tryz.underlying23 Tryz.underlying5 Tryz.underlying9 (ao := some ⟨wr.heap.size, 0, none⟩) (n := 1) rfl (.inr ⟨wr.heap.size, 0, rfl, fun j u hj => by
     rw [cell_of (alloc_at wr _)]
     cases j with
     | zero => simp only [List.map_cons, List.map_nil, List.getElem?_cons_zero, bv, digb _ (show m % 10 < 10 by omega)] at hj; rw [← hj]; simp
     | succ j => simp at hj⟩)
   have HZ := Lib.hid hz
   clear hz
   go_wp2
   go_roundg (m / 10)
   case measure => omega
   case rel => exact ⟨m / 10, [UInt8.ofNat (48 + m % 10)] ++ t, by go_num, by rw [HZ.out, HTT.out, str_append], Nat.le_refl _, by have := HN.out; simp; omega, by rw [← List.append_assoc, ← dig_big h9]; exact H.out.1, H.out.2.alloc _⟩
  ·obtain ⟨z, hz⟩ : ∃ z, z = str [UInt8.ofNat (48 + m)] := ⟨_, rfl⟩
   have hzs : z.size = 1 := by rw [hz]; rfl
   have cv : ∀ c, (convert 23 9 (.slice (some ⟨wr.heap.size, 0, none⟩) 1 c)).run Tryz.prog (wr.alloc (.cells #[.int .u8 (48 + (m : Int))] 5)) = .ok (.string z) (wr.alloc (.cells #[.int .u8 (48 + (m : Int))] 5)) := by
    rw [hz]
    exact run_conv _ Tryz.underlying23 Tryz.underlying5 Tryz.underlying9 (ao := some ⟨wr.heap.size, 0, none⟩) (n := 1) rfl (.inr ⟨wr.heap.size, 0, rfl, fun j u hj => by
     rw [cell_of (alloc_at wr _)]
     cases j with
     | zero => simp only [List.map_cons, List.map_nil, List.getElem?_cons_zero, bv, digb _ (show m < 10 by omega)] at hj; rw [← hj]; simp
     | succ j => simp at hj⟩)
   have HZ := Lib.hid hz
   clear hz
   go_wp2
   go_ret
   exact ⟨by rw [← H.out.1, dig_small h9, ← str_append, ← HZ.out, ← HTT.out]; rfl, H.out.2.alloc _⟩
end Go.Proofs.YtkmpfgpfbmeihaaGreatDoor.obj
namespace Go.Proofs.YtkmpfgpfbmeihaaGreatDoor.obj
open Go Go.RowKit lib
def header (k : Int) (n : Nat) : List UInt8 := kname k ++ [32] ++ Lib.decDigits n ++ [0]
theorem kname_le (k : Int) : (kname k).length ≤ 6 := by
 unfold kname
 repeat (split <;> first | decide | skip)
theorem dec_le (n : Nat) : (Lib.decDigits n).length ≤ n + 1 := by
 induction n using Nat.strongRecOn with
 | _ n ih =>
  by_cases h : 9 < n
  ·rw [dig_big h, List.length_append]
   have := ih (n / 10) (by omega)
   simp only [List.length_cons, List.length_nil]
   omega
  ·rw [dig_small h]; simp
theorem dec_len : ∀ (k n : Nat), 0 < k → n < 10 ^ k → (Lib.decDigits n).length ≤ k
 | 0, n, h, _ => by omega
 | k + 1, n, _, hn => by
  by_cases h : 9 < n
  ·rw [dig_big h, List.length_append]
   have h1 : n / 10 < 10 ^ k := by rw [Nat.pow_succ] at hn; omega
   have hk : 0 < k := by
    rcases Nat.eq_zero_or_pos k with rfl | hk
    ·simp at h1; omega
    ·exact hk
   have := dec_len k (n / 10) hk h1
   simp only [List.length_cons, List.length_nil]
   omega
  ·rw [dig_small h]; simp
theorem header_len (k : Int) (n : Nat) (hn : n ≤ 140737488355328) : (header k n).length ≤ 24 := by
 have h1 := kname_le k
 have h2 := dec_len 16 n (by decide) (by have : 10 ^ 16 = 10000000000000000 := by decide
                                         omega)
 unfold header
 simp only [List.length_append, List.length_cons, List.length_nil]
 omega
set_option maxHeartbeats 2000000 in
theorem rheader_any (k : Int) (n : Nat) (w : World) (hn : n ≤ 140737488355328) : Calls Tryz.prog 52 #[.int .i64 k, .int .i64 (n : Nat)] w fun e w' => e = .returned (.string (str (header k n))) ∧ Fr [] w w' := by
 obtain ⟨A, hA⟩ : ∃ A, A = str (kname k) := ⟨_, rfl⟩
 obtain ⟨D, hD⟩ : ∃ D, D = str (Lib.decDigits n) := ⟨_, rfl⟩
 have hAs : A.size ≤ 6 := by have := kname_le k; rw [hA]; simpa [str, ByteArray.size] using this
 have hDs : D.size ≤ 140737488355329 := by
  have := dec_le n
  have e : (str (Lib.decDigits n)).size = (Lib.decDigits n).length := by simp [str, ByteArray.size]
  rw [hD, e]; omega
 have h1 := fun w' => rname_any k w'
 have h2 := fun w' => digits_any n w' (by omega)
 rw [← hA] at h1
 rw [← hD] at h2
 have H := Lib.hid (And.intro h1 (And.intro h2 (And.intro hA hD)))
 clear h1 h2 hA hD
 go_enter Tryz.func52, Tryz.ntmps52
 go_wp2_with (first
  | (go_at_call 84; refine (H.out.1 _).mono ?_; rintro e w1 ⟨rfl, f1⟩)
  | (go_at_call 85; refine (H.out.2.1 _).mono ?_; rintro e w2 ⟨rfl, f2⟩)
  | (refine wpList_max2 (n : Int) rfl _ _ _ rfl (n : Int) 0 rfl rfl (by split <;> omega) ?_))
 go_ret
 have e1 : ({ data := #[32] } : ByteArray) = str [32] := rfl
 have e0 : ({ data := #[0] } : ByteArray) = str [0] := rfl
 exact ⟨by unfold header; rw [← str_append, ← str_append, ← str_append, ← H.out.2.2.1, ← H.out.2.2.2, ← e1, ← e0]; rfl, f1.trans f2⟩
end Go.Proofs.YtkmpfgpfbmeihaaGreatDoor.obj
namespace Go.Proofs.YtkmpfgpfbmeihaaGreatDoor.lib
open Go
def okKind : Op → Bool
 | .move _ | .assign _ | .pick .. | .load .. | .nilCheck _ | .binOp .. | .unOp .. | .convert .. | .slice .. | .fieldAddr .. | .field .. | .indexAddr .. | .index .. | .extract .. | .makeInterface .. => true
 | .call { callee := .builtin .len, .. } | .call { callee := .builtin .cap, .. } | .call { callee := .builtin .min, .. } | .call { callee := .builtin .max, .. } => true
 | _ => false
theorem no_enter_v {P : Program} {w w' : World} {s : Sem Value} {f : FuncId} {args : Array Value} : (do pure (Next.value (← s)) : Sem Next).run P w ≠ .ok (.enter f args) w' := by
 intro h
 rw [Sem.run_bind] at h
 cases hr : s.run P w with
 | ok v u => rw [hr] at h; simp [Result.andThen] at h
 | halt x u => rw [hr] at h; simp [Result.andThen] at h
theorem okKind_enter {P : Program} {w w' : World} {ρ : Operand → Value} {o : Oper} {f : FuncId} {args : Array Value} (h : okKind o.op = true) : (execOp ρ o).run P w ≠ .ok (.enter f args) w' := by
 obtain ⟨dst, op, ty, pos, after, guard⟩ := o
 cases op <;> simp only [okKind, Bool.false_eq_true] at h <;> try (exact no_enter_v)
 case move => simp [execOp]
 case assign => simp [execOp]
 case pick c a b =>
  intro h
  simp only [execOp, Sem.run_bind] at h
  cases hr : (asBool (ρ c)).run P w with
  | ok v u => rw [hr] at h; simp [Result.andThen] at h
  | halt x u => rw [hr] at h; simp [Result.andThen] at h
 case nilCheck x =>
  intro h
  simp only [execOp] at h
  split at h
  ·simp [runtimePanic, goPanic] at h
  ·simp [runtimePanic, goPanic] at h
  ·simp [runtimePanic, goPanic] at h
  ·split at h
   ·simp [runtimePanic, goPanic] at h
   ·simp [unsupported, Result.andThen] at h
    split at h
    ·split at h <;> simp at h
    ·simp at h
   ·simp at h
  ·simp at h
 case call c =>
  obtain ⟨callee, args, ts⟩ := c
  cases callee with
  | value f => simp [okKind] at h
  | invoke r m => simp [okKind] at h
  | builtin b =>
   cases b <;> simp [okKind] at h <;> (simp only [execOp, resolve, pure_bind, invoke, builtin]; exact no_enter_v)
theorem runs_of_quiet {P : Program} {o : Oper} {a : Act} {C : World → Prop} {w : World} {v : Value} (hk : okKind o.op = true) (h : o.quietAt P a C w v) :
  (execOp a.eval o).run P w = .ok (.value v) w ∨ ((execOp a.eval o).run P w = .ok .skip w ∧ v = undef) := by
 unfold Oper.quietAt at h
 generalize hr : (execOp a.eval o).run P w = r at h
 cases r with
 | ok n w' =>
  cases n <;> simp only [Oper.quietUpon] at h
  case value u => left; rw [h.1, h.2]
  case skip => right; rw [h.1]; exact ⟨rfl, h.2⟩
  case enter f args => exact absurd hr (okKind_enter hk)
 | halt x w' => simp only [Oper.quietUpon] at h
open Classical in
noncomputable def sup (S : List Nat) (w x : World) : World := if Fr S w x then x else w
theorem sup_fr (S : List Nat) (w x : World) : Fr S w (sup S w x) := by
 unfold sup
 split
 ·assumption
 ·exact Fr.refl _ _
theorem sup_self {S : List Nat} {w x : World} (h : Fr S w x) : sup S w x = x := by unfold sup; rw [if_pos h]
@[go_sem] def Sup (S : List Nat) (w : World) : World → Prop := fun u => ∃ x, u = sup S w x
theorem Sup.of {S : List Nat} {w u : World} (h : Fr S w u) : Sup S w u := ⟨u, (sup_self h).symm⟩
theorem Sup.fr {S : List Nat} {w u : World} (h : Sup S w u) : Fr S w u := by obtain ⟨x, rfl⟩ := h; exact sup_fr S w x
theorem Sup.sub {S : List Nat} {w w' : World} (h : Fr S w w') : ∀ u, Sup S w' u → Sup S w u := fun u hu => Sup.of (h.trans hu.fr)
@[go_sem] theorem cell?_sup {S : List Nat} {w x : World} {a : Addr} (h : (w.cell? a).isSome = true) (hn : a.block ∉ S) : (sup S w x).cell? a = w.cell? a := by
 obtain ⟨v, hv⟩ := Option.isSome_iff_exists.1 h
 rw [hv, (sup_fr S w x).cell hv hn]
section
variable {P : Program} {ops : Array Oper} {Q : Exit → Act → World → Prop} {md : Region.Mode}
def QY (P : Program) (ops : Array Oper) (C : World → Prop) (o : Oper) (v : Value) (a : Act) : Prop :=
 (Region.wanted o (yielded ops a.tmps) = true ∧ ∀ w, C w → (execOp a.eval o).run P w = .ok (.value v) w ∨ ((execOp a.eval o).run P w = .ok .skip w ∧ v = undef)) ∨
 (Region.wanted o (yielded ops a.tmps) = false ∧ v = undef)
theorem QY.of_same {C : World → Prop} {o : Oper} {v : Value} {a a' : Act} (hy : QY P ops C o v a) (he : execOp a'.eval o = execOp a.eval o)
  (hw : Region.wanted o (yielded ops a'.tmps) = Region.wanted o (yielded ops a.tmps)) : QY P ops C o v a' := by
 unfold QY at *
 rw [he, hw]
 exact hy
theorem QY.op {C : World → Prop} {i : Nat} {o : Oper} {v : Value} {a : Act} (hi : ops[i]? = some o) (hy : QY P ops C o v a) {K : Act → World → Prop} {w : World} (hC : C w) (h : K (a.put o.dst v) w) : wpOp P ops Q i K a w := by
 unfold wpOp
 simp only [hi]
 rcases hy with ⟨hw, hv⟩ | ⟨hw, rfl⟩
 ·rcases hv w hC with hr | ⟨hr, rfl⟩
  ·simp only [hw, if_true, Oper.wp, hr, Oper.upon]; exact .inl h
  ·simp only [hw, if_true, Oper.wp, hr, Oper.upon]; exact .inl h
 ·simp only [hw, Bool.false_eq_true, if_false]; exact h
theorem put_of_QY {C : World → Prop} {j : Nat} {oi oj : Oper} {v : Value} (hj : ops[j]? = some oj) (hap : oi.apart ops oj = true)
  (hsi : ∀ cs b, oi.op ≠ .select cs b) (hsj : ∀ cs b, oj.op ≠ .select cs b)
  (hQ : ∀ c a d v w, Q (.panic c) (Act.put a d v) w → Q (.panic c) a w) {K : Act → World → Prop} {a : Act} {w : World}
  (hy : QY P ops C oi v a) (h : wpOp P ops Q j K (a.put oi.dst v) w) :
  wpOp P ops Q j (fun a' w' => QY P ops C oi v a' ∧ K (a'.put oi.dst v) w') a w := by
 obtain ⟨h1, h2, h3⟩ := Oper.apart_spec hap
 have keep : ∀ (a : Act), QY P ops C oi v a → ∀ u, QY P ops C oi v (a.put oj.dst u) := fun a hy u =>
  hy.of_same (execOp_put oi hsi a oj.dst u h3) (wanted_put oi a oj.dst u h3)
 have keepD : ∀ d, QY P ops C oi v { a with defers := d :: a.defers } := fun d => hy.of_same rfl rfl
 unfold wpOp at *
 simp only [hj] at *
 rw [wanted_put oj a oi.dst v h1] at h
 by_cases hw : Region.wanted oj (yielded ops a.tmps) = true
 ·simp only [hw, if_true] at h ⊢
  rcases h with h | ⟨hasks, hlets⟩
  ·left
   unfold Oper.wp at *
   rw [execOp_put oj hsj a oi.dst v h1] at h
   generalize (execOp a.eval oj).run P w = r at *
   cases r with
   | ok n w' =>
    cases n <;> simp only [Oper.upon] at h ⊢
    case value u => exact ⟨keep a hy u, by rw [← Act.put_comm a v u h2]; exact h⟩
    case skip => exact ⟨keep a hy _, by rw [← Act.put_comm a v undef h2]; exact h⟩
    case defer d =>
     refine ⟨keep _ (keepD d) _, ?_⟩
     rw [← Act.put_comm _ v undef h2, ← Act.put_defers]
     exact h
    case enter f args =>
     refine Calls.mono h fun e w'' he => ?_
     cases e with
     | returned u => exact ⟨keep a hy u, by rw [← Act.put_comm a v u h2]; exact he⟩
     | panicked c => exact hQ _ _ _ _ _ he
     | outgrown => exact he
    case row row args => exact Rows.mono h fun u w'' he => ⟨keep a hy u, by rw [← Act.put_comm a v u h2]; exact he⟩
   | halt x w' =>
    cases x <;> simp only [Oper.upon] at h ⊢
    case panic u => exact hQ _ _ _ _ _ h
  ·right
   refine ⟨?_, hlets⟩
   unfold Oper.asks at *
   rw [execOp_put oj hsj a oi.dst v h1] at hasks
   exact hasks
 ·simp only [hw] at h ⊢
  exact ⟨keep a hy _, by rw [← Act.put_comm a v undef h2]; exact h⟩
def wpMx (P : Program) (md : Region.Mode) (ops : Array Oper) (Q : Exit → Act → World → Prop) (n : Nat) (C : World → Prop) : Nat → Array Bool → Act → World → Prop
 | 0, listed, a, w => Region.ready md ops listed = [] ∧ Q .normal a w
 | f + 1, listed, a, w => (Region.ready md ops listed = [] → Q .normal a w) ∧
  ∀ i ∈ Region.ready md ops listed, wpOp P ops Q i (fun a' w' => (i < n → C w') ∧ wpMx P md ops Q n C f (listed.setIfInBounds i true) a' w') a w
theorem wpMx_mono {n : Nat} {C C' : World → Prop} (hC : ∀ u, C' u → C u) : ∀ (f : Nat) (listed : Array Bool) (a : Act) (w : World), wpMx P md ops Q n C' f listed a w → wpMx P md ops Q n C f listed a w
 | 0, _, _, _, h => h
 | f + 1, _, _, _, h => ⟨h.1, fun i hi => wpOp_mono (fun a' w' h' => ⟨fun hn => hC _ (h'.1 hn), wpMx_mono hC f _ a' w' h'.2⟩) (h.2 i hi)⟩
theorem wpAny_of_mx {n : Nat} {C : World → Prop} : ∀ (f : Nat) (listed : Array Bool) (a : Act) (w : World), wpMx P md ops Q n C f listed a w → wpAny P md ops Q f listed a w
 | 0, _, _, _, h => h
 | f + 1, _, _, _, h => ⟨h.1, fun i hi => wpOp_mono (fun a' w' h' => wpAny_of_mx f _ a' w' h'.2) (h.2 i hi)⟩
theorem wpMx_first {n i : Nat} {oi : Oper} {v : Value} {C : World → Prop} (hi : ops[i]? = some oi) (hsel : ∀ (j : Nat) (o : Oper) cs b, ops[j]? = some o → o.op ≠ .select cs b)
  (hQ : ∀ c a d v w, Q (.panic c) (Act.put a d v) w → Q (.panic c) a w) (hin : i < n)
  (hT : ∀ listed, HeadInv md ops n listed → listed.getD i true = false → ∀ t, n ≤ t → t ∉ Region.ready md ops listed) :
  ∀ (f : Nat) (listed : Array Bool) (a : Act) (w : World), HeadInv md ops n listed →
   (∀ j oj, ops[j]? = some oj → j ≠ i → listed.getD j true = false → (∀ e ∈ oj.after, Region.binds md e = true → e.on ≠ i) → oi.apart ops oj = true) →
   i ∈ Region.ready md ops listed → QY P ops C oi v a → C w →
   wpMx P md ops Q n C f (listed.setIfInBounds i true) (a.put oi.dst v) w → wpMx P md ops Q n C (f + 1) listed a w := by
 intro f
 induction f with
 | zero =>
  intro listed a w inv _ hr hy hC H
  refine ⟨fun h => (by rw [h] at hr; cases hr), fun j hj => ?_⟩
  by_cases hji : j = i
  ·subst hji; exact hy.op hi hC ⟨fun _ => hC, H⟩
  ·have := ready_mono hj hji
   rw [H.1] at this
   cases this
 | succ f ih =>
  intro listed a w inv hfree hr hy hC H
  have hun := (mem_ready.1 hr).1
  refine ⟨fun h => (by rw [h] at hr; cases hr), fun j hj => ?_⟩
  by_cases hji : j = i
  ·subst hji; exact hy.op hi hC ⟨fun _ => hC, H⟩
  ·have hjn : j < n := by
    rcases Nat.lt_or_ge j n with h | h
    ·exact h
    ·exact absurd hj (hT listed inv hun j h)
   have h1 := H.2 j (ready_mono hj hji)
   obtain ⟨hjun, oj, hoj, hall⟩ := mem_ready.1 hj
   have hnot : ∀ e ∈ oj.after, Region.binds md e = true → e.on ≠ i := fun e he hb heq => by
    have h1 := hall e he hb
    rw [heq, getD_both hun] at h1
    cases h1
   have h2 := put_of_QY hoj (hfree j oj hoj hji hjun hnot) (fun cs b => hsel i oi cs b hi) (fun cs b => hsel j oj cs b hoj) hQ hy h1
   have hfree' : ∀ k ok, ops[k]? = some ok → k ≠ i → (listed.setIfInBounds j true).getD k true = false →
     (∀ e ∈ ok.after, Region.binds md e = true → e.on ≠ i) → oi.apart ops ok = true := fun k ok hk hki hkun hno => by
    refine hfree k ok hk hki ?_ hno
    by_cases hjk : j = k
    ·subst hjk; exact hjun
    ·rw [getD_set_ne true hjk] at hkun; exact hkun
   refine wpOp_mono (fun a' w' h3 => ⟨h3.2.1, ?_⟩) h2
   refine ih (listed.setIfInBounds j true) a' w' (inv.set hj hjn) hfree' (ready_mono hr (Ne.symm hji)) h3.1 (h3.2.1 hjn) ?_
   rw [Array.setIfInBounds_comm _ _ hji]
   exact h3.2.2
theorem wpMx_of_seq {n : Nat} {C : World → Prop} : ∀ (l : List Oper) (k : Nat) (listed : Array Bool) (a : Act) (w : World), n ≤ k → (∀ j, l[j]? = ops[k + j]?) →
  Region.seqB md ops l.length k listed = true → wpList P ops Q l a w → wpMx P md ops Q n C l.length listed a w
 | [], _, _, _, _, _, _, hB, h => ⟨by simpa [Region.seqB] using hB, h⟩
 | o :: l, k, listed, a, w, hk, hl, hB, h => by
  have h0 : ops[k]? = some o := by simpa using (hl 0).symm
  simp only [List.length_cons, Region.seqB, Bool.and_eq_true, decide_eq_true_eq] at hB
  refine ⟨fun h1 => (by rw [hB.1] at h1; cases h1), fun i hi => ?_⟩
  rw [hB.1] at hi
  have hik : i = k := by simpa using hi
  subst hik
  have hw : wpOp P ops Q i (wpList P ops Q l) a w := by unfold wpOp; simp only [h0]; exact h
  exact wpOp_mono (fun a' w' h' => ⟨fun hlt => by omega, wpMx_of_seq l (i + 1) _ a' w' (by omega) (fun j => by have := hl (j + 1); simpa [Nat.add_assoc, Nat.add_comm 1 j] using this) hB.2 h'⟩) hw
def mixQ (P : Program) (ops : Array Oper) (S : List Nat) (Q : Exit → Act → World → Prop) (tail : List Oper) : List (Bool × Oper) → Act → World → Prop
 | [], a, w => wpList P ops Q tail a w
 | (false, o) :: rest, a, w => if Region.wanted o (yielded ops a.tmps) then o.quiet P a (Sup S w) (fun a' => mixQ P ops S Q tail rest a' w) else mixQ P ops S Q tail rest (a.put o.dst undef) w
 | (true, o) :: rest, a, w => if Region.wanted o (yielded ops a.tmps) then o.wp P a w (fun a' w' => Fr S w w' ∧ mixQ P ops S Q tail rest a' w') Q else mixQ P ops S Q tail rest (a.put o.dst undef) w
def mixB (md : Region.Mode) (ops : Array Oper) (n : Nat) : List (Bool × Nat) → Array Bool → Bool
 | [], listed => Region.seqB md ops (ops.size - n) n listed
 | (e, i) :: rest, listed => decide (i < n) && (match e with
   | true => decide (Region.ready md ops listed = [i])
   | false => (Region.ready md ops listed).contains i && Region.free md ops listed i && (match ops[i]? with | some o => okKind o.op | none => false)) && mixB md ops n rest (listed.setIfInBounds i true)
def mixAll (md : Region.Mode) (ops : Array Oper) (n : Nat) (order : List (Bool × Nat)) : Bool :=
 Region.noSelect ops && (decide (n = ops.size) || (decide (n < ops.size) && Region.sinkB md ops n && Region.chainB md ops n)) && decide (order.length + (ops.size - n) = ops.size) && mixB md ops n order (Array.replicate ops.size false)
theorem mx_walk {n : Nat} {S : List Nat} {l : List Oper} (hl : ops = l.toArray) (hsel : Region.noSelect ops = true) (hQ : ∀ c a d v w, Q (.panic c) (Act.put a d v) w → Q (.panic c) a w)
  (hT : ∀ i, i < n → ∀ listed, HeadInv md ops n listed → listed.getD i true = false → ∀ t, n ≤ t → t ∉ Region.ready md ops listed) :
  ∀ (order : List (Bool × Nat)) (listed : Array Bool) (a : Act) (w : World), HeadInv md ops n listed → mixB md ops n order listed = true →
   mixQ P ops S Q (l.drop n) (order.map fun x => (x.1, l.getD x.2 default)) a w → wpMx P md ops Q n (Sup S w) (order.length + (ops.size - n)) listed a w
 | [], listed, a, w, _, hB, h => by
  have hlen : (l.drop n).length = ops.size - n := by rw [hl]; simp
  have := wpMx_of_seq (P := P) (Q := Q) (md := md) (ops := ops) (n := n) (C := Sup S w) (l.drop n) n listed a w (Nat.le_refl _) (fun j => by rw [hl]; simp [List.getElem?_drop]) (by rw [hlen]; exact hB) h
  simpa [hlen] using this
 | (e, i) :: rest, listed, a, w, inv, hB, h => by
  simp only [mixB, Bool.and_eq_true, decide_eq_true_eq] at hB
  obtain ⟨⟨hin, he⟩, hrest⟩ := hB
  have hlen : ((e, i) :: rest).length + (ops.size - n) = rest.length + (ops.size - n) + 1 := by simp; omega
  rw [hlen]
  cases e with
  | false =>
   simp only [Bool.and_eq_true] at he
   obtain ⟨⟨hr, hf⟩, hk⟩ := he
   have hr' : i ∈ Region.ready md ops listed := by simpa using hr
   obtain ⟨_, oi, hoi, _⟩ := mem_ready.1 hr'
   rw [hoi] at hk
   have hd : l.getD i default = oi := by
    rw [hl] at hoi
    simp at hoi
    simp [List.getD, hoi]
   simp only [List.map_cons, hd, mixQ] at h
   have hC : Sup S w w := Sup.of (Fr.refl _ _)
   by_cases hw : Region.wanted oi (yielded ops a.tmps) = true
   ·rw [if_pos hw] at h
    obtain ⟨v, h1, h2⟩ := h
    have hy : QY P ops (Sup S w) oi v a := .inl ⟨hw, fun u hu => runs_of_quiet hk (h1 u hu)⟩
    exact wpMx_first hoi (Region.noSelect_spec hsel) hQ hin (hT i hin) _ listed a w inv (Region.free_spec hoi hf) hr' hy hC (mx_walk hl hsel hQ hT rest _ _ w (inv.set hr' hin) hrest h2)
   ·rw [if_neg hw] at h
    have hy : QY P ops (Sup S w) oi undef a := .inr ⟨by simpa using hw, rfl⟩
    exact wpMx_first hoi (Region.noSelect_spec hsel) hQ hin (hT i hin) _ listed a w inv (Region.free_spec hoi hf) hr' hy hC (mx_walk hl hsel hQ hT rest _ _ w (inv.set hr' hin) hrest h)
  | true =>
   simp only [decide_eq_true_eq] at he
   have hr' : i ∈ Region.ready md ops listed := by rw [he]; simp
   obtain ⟨_, oi, hoi, _⟩ := mem_ready.1 hr'
   have hd : l.getD i default = oi := by
    rw [hl] at hoi
    simp at hoi
    simp [List.getD, hoi]
   simp only [List.map_cons, hd, mixQ] at h
   refine ⟨fun h0 => (by rw [h0] at hr'; cases hr'), fun j hj => ?_⟩
   rw [he] at hj
   have hji : j = i := by simpa using hj
   subst hji
   unfold wpOp
   simp only [hoi]
   by_cases hw : Region.wanted oi (yielded ops a.tmps) = true
   ·rw [if_pos hw] at h
    rw [if_pos hw]
    left
    exact Oper.wp_mono (fun a' w' h' => ⟨fun _ => Sup.of h'.1, wpMx_mono (Sup.sub h'.1) _ _ _ _ (mx_walk hl hsel hQ hT rest _ a' w' (inv.set hr' hin) hrest h'.2)⟩) h
   ·rw [if_neg hw] at h
    rw [if_neg hw]
    exact ⟨fun _ => Sup.of (Fr.refl _ _), mx_walk hl hsel hQ hT rest _ _ w (inv.set hr' hin) hrest h⟩
theorem region_mix {id : Nat} {a : Act} {w : World} {l : List Oper} (n : Nat) (order : List (Bool × Nat)) (S : List Nat) (hm : P.follows .mixedOrders = true) (hB : mixAll .any l.toArray n order = true)
  (hQ : ∀ c a d v w, Q (.panic c) (Act.put a d v) w → Q (.panic c) a w)
  (h : mixQ P l.toArray S Q (l.drop n) (order.map fun x => (x.1, l.getD x.2 default)) a w.drew) : (Code.region id l.toArray true).wp P Q a w := by
 simp only [mixAll, Bool.and_eq_true, decide_eq_true_eq, Bool.or_eq_true] at hB
 obtain ⟨⟨⟨hsel, hn⟩, hlen⟩, hmix⟩ := hB
 have inv0 : HeadInv .any l.toArray n (Array.replicate l.toArray.size false) :=
  ⟨by simp, fun j oj _ hl => (by rw [getD_replicate_false] at hl; cases hl), fun t _ ht => getD_in (by simpa using ht) (getD_replicate_false _ _)⟩
 have hT : ∀ i, i < n → ∀ listed, HeadInv .any l.toArray n listed → listed.getD i true = false → ∀ t, n ≤ t → t ∉ Region.ready .any l.toArray listed := by
  intro i hi listed inv hun t ht hr
  rcases hn with hn | ⟨⟨hn, hs⟩, hc⟩
  ·obtain ⟨_, o, ho, _⟩ := mem_ready.1 hr
   have := (Array.getElem?_eq_some_iff.1 ho).1
   omega
  ·exact tail_waits hs hc hn inv _ i rfl hi hun t ht hr
 refine wp_region_any hm (wpAny_of_mx (n := n) (C := Sup S w.drew) _ _ _ _ ?_)
 have := mx_walk (P := P) (Q := Q) (md := .any) (n := n) (S := S) rfl hsel hQ hT order _ a w.drew inv0 hmix h
 rw [hlen] at this
 exact this
theorem mix_seg {S : List Nat} {tail : List Oper} {items : List (Bool × Oper)} {a : Act} {w : World} (k : Nat) (h0 : ((items.take k).all fun x => !x.1) = true)
  (h : wpQuiet P ops (Sup S w) (fun a' => mixQ P ops S Q tail (items.drop k) a' w) ((items.take k).map (·.2)) a) : mixQ P ops S Q tail items a w := by
 induction k generalizing items a with
 | zero => exact h
 | succ k ih =>
  cases items with
  | nil => exact h
  | cons x rest =>
   obtain ⟨b, o⟩ := x
   simp only [List.take_succ_cons, List.all_cons, Bool.and_eq_true, Bool.not_eq_true'] at h0
   obtain ⟨rfl, h0⟩ := h0
   simp only [List.take_succ_cons, List.map_cons, List.drop_succ_cons, wpQuiet] at h
   unfold mixQ
   by_cases hw : Region.wanted o (yielded ops a.tmps) = true
   ·rw [if_pos hw] at h ⊢
    obtain ⟨v, h1, h2⟩ := h
    exact ⟨v, h1, ih h0 h2⟩
   ·rw [if_neg hw] at h ⊢
    exact ih h0 h
theorem mix_eff {S : List Nat} {tail : List Oper} {rest : List (Bool × Oper)} {o : Oper} {a : Act} {w : World} (hw : Region.wanted o (yielded ops a.tmps) = true)
  (h : ∀ K : Act → World → Prop, Go.RowKit.Hid (∀ a' w', Fr S w w' → mixQ P ops S Q tail rest a' w' → K a' w') → o.wp P a w K Q) : mixQ P ops S Q tail ((true, o) :: rest) a w := by
 unfold mixQ
 rw [if_pos hw]
 exact h _ fun _ _ h1 h2 => ⟨h1, h2⟩
theorem mix_nil {S : List Nat} {tail : List Oper} {a : Act} {w : World} (h : wpList P ops Q tail a w) : mixQ P ops S Q tail [] a w := h
end
theorem run_conv_sup {P : Program} (S : List Nat) (w : World) {src dst e : TypeId} (hs : P.underlying src = some (.slice e)) (he : P.underlying e = some (.int .u8)) (hd : P.underlying dst = some .string)
  {ao : Option Addr} {n : Nat} {bs : List UInt8} (hn : bs.length = n) (hcs : Cs w ao (bs.map bv)) (hb : ∀ x ∈ blk ao, x ∉ S) :
  ∀ x cap, (convert src dst (.slice ao n cap)).run P (sup S w x) = .ok (.string (str bs)) (sup S w x) :=
 fun x cap => run_conv (sup S w x) hs he hd hn (hcs.fr (sup_fr S w x) hb) cap
end Go.Proofs.YtkmpfgpfbmeihaaGreatDoor.lib
