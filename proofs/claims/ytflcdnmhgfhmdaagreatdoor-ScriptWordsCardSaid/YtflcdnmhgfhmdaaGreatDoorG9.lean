/-
  Texts of this proof, one behind the other: ScriptD, MapP, FsMap, RdMore, Flat, FsA.
-/
import Derived.Test.YtflcdnmhgfhmdaaGreatDoorG1
import Derived.Test.YtflcdnmhgfhmdaaGreatDoorG3
import Derived.Test.YtflcdnmhgfhmdaaGreatDoorG5
import Derived.Test.YtflcdnmhgfhmdaaGreatDoorG7
import Derived.Test.YtflcdnmhgfhmdaaGreatDoorG8
import Derived.Maps.OwnSet
set_option linter.unusedVariables false
set_option linter.unusedSimpArgs false
/-
  script: made, of what may not be.
-/
namespace Go.Proofs.YtflcdnmhgfhmdaaGreatDoor.wd
open Go Go.RowKit Go.Proofs.YtflcdnmhgfhmdaaGreatDoor.lib

set_option maxRecDepth 100000
theorem world_bad (w : World) : Calls Tryz.prog 7 #[.int .i64 0, .int .i64 5, .bool true] w fun e w' => e = .returned (.tuple #[.pointer none, .int .i64 1]) ∧ w' = w := by
  go_enter Tryz.func7, Tryz.ntmps7
  go_wp2
  go_ret2
  exact ⟨rfl, rfl⟩
def denyS : List UInt8 := [100, 101, 110, 121]
def maybeS : List UInt8 := [109, 97, 121, 98, 101]
theorem cs_at3 {w : World} {g : Nat} {a b c : Value} (h : Cs w (some ⟨g, 1, none⟩) [a, b, c]) : w.cell? ⟨g, 1, none⟩ = some a ∧ w.cell? ⟨g, 2, none⟩ = some b ∧ w.cell? ⟨g, 3, none⟩ = some c := by
  rcases h with h | ⟨g2, o, e, h⟩
  · cases h
  · cases e
    exact ⟨h 0 _ rfl, h 1 _ rfl, h 2 _ rfl⟩
theorem cs_two {w : World} {g : Nat} {a b c : Value} (h : Cs w (some ⟨g, 1, none⟩) [a, b, c]) : Cs w (some ⟨g, 1, none⟩) [a, b] := by
  have := cs_at3 h
  refine .inr ⟨g, 1, rfl, fun j v hv => ?_⟩
  match j, hv with
  | 0, hv => simp at hv; subst hv; exact this.1
  | 1, hv => simp at hv; subst hv; exact this.2.1
theorem made_maybe (D g : Nat) (a b : Value) (w : World) (h : Cs w (some ⟨g, 1, none⟩) [a, b, .string (str maybeS)]) : Calls Tryz.prog 15 #[.pointer (some ⟨D, 0, none⟩), .slice (some ⟨g, 1, none⟩) 3 3] w fun e w' => e = .returned (.string errS) ∧ Fr [] w w' := by
  have c3 : w.cell? ⟨g, 3, none⟩ = some (.string ⟨#[109, 97, 121, 98, 101]⟩) := (cs_at3 h).2.2
  clear h
  go_enter Tryz.func15, Tryz.ntmps15
  go_wp2_with (go_at_call 12; refine (answer_err _).mono ?_; rintro e w' ⟨rfl, rfl⟩)
  go_ret
  exact ⟨rfl, Fr.refl _ _⟩
theorem made_bad (D g : Nat) (a b : List UInt8) (os : List (Option Nat)) (hn : NumsAre [a, b] os) (hg : goodN os = none) (w : World) (h : Cs w (some ⟨g, 1, none⟩) [.string (str a), .string (str b), .string (str denyS)]) : Calls Tryz.prog 15 #[.pointer (some ⟨D, 0, none⟩), .slice (some ⟨g, 1, none⟩) 3 3] w fun e w' => e = .returned (.string errS) ∧ Fr [] w w' := by
  have c3 : w.cell? ⟨g, 3, none⟩ = some (.string ⟨#[100, 101, 110, 121]⟩) := (cs_at3 h).2.2
  have hN := numbers_any hn (some ⟨g, 1, none⟩) 3 2 rfl (by simp) 2 (by decide) w (cs_two h)
  rw [hg] at hN
  have HN := Lib.hid hN
  clear h hN hn hg
  go_enter Tryz.func15, Tryz.ntmps15
  go_wp2_with (first
    | (go_at_call 12; refine (answer_err _).mono ?_; rintro e w' ⟨rfl, rfl⟩)
    | (go_at_call 9; refine HN.out.mono ?_; rintro e w1 ⟨rfl, f1⟩; have H1 := Lib.hid f1; clear f1))
  go_ret
  exact ⟨rfl, H1.out⟩
theorem made_zero (D g : Nat) (w : World) (h : Cs w (some ⟨g, 1, none⟩) [.string (str [48]), .string (str [53]), .string (str denyS)]) : Calls Tryz.prog 15 #[.pointer (some ⟨D, 0, none⟩), .slice (some ⟨g, 1, none⟩) 3 3] w fun e w' => e = .returned (.string errS) ∧ Fr [] w w' := by
  have c3 : w.cell? ⟨g, 3, none⟩ = some (.string ⟨#[100, 101, 110, 121]⟩) := (cs_at3 h).2.2
  have hN := numbers_any (l := [[48], [53]]) (os := [some 0, some 5]) (.cons (.one 0 (by decide)) (.cons (.one 5 (by decide)) .nil)) (some ⟨g, 1, none⟩) 3 2 rfl (by decide) 2 (by decide) w (cs_two h)
  rw [show goodN [some 0, some 5] = some [0, 5] from rfl] at hN
  have hN2 : Calls Tryz.prog 9 #[.slice (some ⟨g, 1, none⟩) 2 3, .int .i64 2] w fun e w1 => ∃ ao cp, e = .returned (.tuple #[.slice ao 2 cp, .bool true]) ∧ Cs w1 ao [.int .i64 0, .int .i64 5] ∧ 2 ≤ cp ∧ Fr [] w w1 := hN.mono (by
    rintro e w1 ⟨ao, cp, he, hcs, hle, f⟩
    exact ⟨ao, cp, he, hcs, hle, f⟩)
  have HN := Lib.hid (And.intro hN2 c3)
  clear h hN hN2
  go_enter Tryz.func15, Tryz.ntmps15
  go_upto_region 6 with (first
    | (go_at_call 9; refine HN.out.1.mono ?_; rintro e w1 ⟨ao, cp, rfl, hcs, hle, f1⟩; have H1 := Lib.hid (And.intro hcs (And.intro hle f1)); clear f1 hcs hle))
  obtain ⟨q, o, hao, hc⟩ := H1.out.1.at (by simp)
  have hcp := H1.out.2.1
  have d0 : ∀ x, (sup [] w1.drew x).cell? ⟨q, o, none⟩ = some (.int .i64 0) := fun x => (sup_fr [] w1.drew x).cell (show w1.drew.cell? _ = _ from hc 0 _ rfl) (by simp)
  have d1 : ∀ x, (sup [] w1.drew x).cell? ⟨q, o + 1, none⟩ = some (.int .i64 5) := fun x => (sup_fr [] w1.drew x).cell (show w1.drew.cell? _ = _ from hc 1 _ rfl) (by simp)
  have d3 : ∀ x, (sup [] w1.drew x).cell? ⟨g, 3, none⟩ = some (.string ⟨#[100, 101, 110, 121]⟩) := fun x => (sup_fr [] w1.drew x).cell (show w1.drew.cell? _ = _ from H1.out.2.2.cell HN.out.2 (by simp)) (by simp)
  subst hao
  clear hc c3
  refine region_mix 16 [(false, 0), (false, 1), (false, 2), (false, 3), (false, 4), (false, 5), (false, 6), (false, 7), (false, 8), (false, 9), (true, 10), (false, 11), (false, 12), (false, 13), (false, 14), (false, 15)] [] (by kernel_rfl) (by kernel_rfl) (fun _ _ d _ _ h => by cases d <;> exact h) ?_
  simp only [List.map_cons, List.map_nil, List.getD_cons_zero, List.getD_cons_succ, List.drop_succ_cons, List.drop_zero, List.drop_nil]
  refine mix_seg 10 rfl ?_
  simp only [List.take_succ_cons, List.take_zero, List.drop_succ_cons, List.drop_zero, List.map_cons, List.map_nil]
  repeat (go_big_quiet_step (fail))
  refine wpQuiet_nil ?_
  refine mix_eff rfl ?_
  intro K hK
  go_wp2_with (go_at_call 7; refine (world_bad _).mono ?_; rintro e w2 ⟨rfl, hw⟩; obtain rfl := hw.symm)
  refine hK.out _ _ (Fr.refl _ _) ?_
  clear hK K
  refine mix_seg 5 rfl ?_
  simp only [List.take_succ_cons, List.take_zero, List.drop_succ_cons, List.drop_zero, List.map_cons, List.map_nil]
  repeat (go_big_quiet_step (fail))
  refine wpQuiet_nil ?_
  refine mix_nil ?_
  go_wp2_with (go_at_call 12; refine (answer_err _).mono ?_; rintro e w' ⟨rfl, rfl⟩)
  go_ret
  exact ⟨rfl, H1.out.2.2.trans (Fr.drew1 [] _)⟩
end Go.Proofs.YtflcdnmhgfhmdaaGreatDoor.wd
/-
  A map of names to pointers: what its values read as; what leaves it as it is.
-/
namespace Go.Proofs.YtflcdnmhgfhmdaaGreatDoor.pk
open Go Go.RowKit Go.Proofs.YtflcdnmhgfhmdaaGreatDoor.lib

/-! ### Pointers as a map's elements -/
def pV (q : Option Nat) : Value := .pointer (q.map fun b => ⟨b, 0, none⟩)
def pD : Option Nat → DataW Unit
  | none => .nil
  | some b => .lit (.int .i64 (b : Nat))
def pR : Value → Option (DataW Unit × List MemPlace)
  | .pointer none => some (.nil, [])
  | .pointer (some a) => if a = ⟨a.block, 0, none⟩ then some (.lit (.int .i64 (a.block : Nat)), []) else none
  | _ => none
theorem pR_mk (q : Option Nat) : pR (pV q) = some (pD q, []) := by
  cases q with
  | none => rfl
  | some b => simp [pR, pV, pD]
theorem pR_inv {v : Value} {z : DataW Unit × List MemPlace} (h : pR v = some z) : ∃ q, v = pV q ∧ z = (pD q, []) := by
  unfold pR at h
  split at h
  · exact ⟨none, rfl, (Option.some.inj h).symm⟩
  · rename_i a
    split at h
    · rename_i he
      refine ⟨some a.block, ?_, (Option.some.inj h).symm⟩
      unfold pV
      rw [he]
      rfl
    · cases h
  · cases h
theorem pD_inj {a b : Option Nat} (h : pD a = pD b) : a = b := by
  cases a with
  | none => cases b with
    | none => rfl
    | some b => cases h
  | some a => cases b with
    | none => cases h
    | some b =>
      simp only [pD, DataW.lit.injEq, Lit.int.injEq, true_and] at h
      rw [Int.ofNat.inj h]

/-! ### A map's block is no block of cells -/
def MapAt (w : World) (b : Nat) : Prop := ∃ es c, w.heap[b]? = some (.map es c)
theorem MapAt.ne {w : World} {b x : Nat} {c : Array Value} {t : TypeId} {f : Nat × Nat} (h : MapAt w b) (hx : w.heap[x]? = some (.cells c t f)) : x ≠ b := by
  rintro rfl
  obtain ⟨es, c, h⟩ := h
  rw [h] at hx
  cases hx
theorem _root_.Go.Proofs.YtflcdnmhgfhmdaaGreatDoor.lib.Cs.frM {w w' : World} {b : Nat} {a : Option Addr} {vs : List Value} (h : Cs w a vs) (hb : MapAt w b) (f : Fr [b] w w') : Cs w' a vs := by
  rcases h with h | ⟨g, o, rfl, h⟩
  · exact .inl h
  · refine .inr ⟨g, o, rfl, fun j v hv => ?_⟩
    have hc := h j v hv
    refine f.cell hc ?_
    simp only [List.mem_singleton]
    rintro rfl
    obtain ⟨es, c, hm⟩ := hb
    simp [World.cell?, hm] at hc
theorem _root_.Go.Proofs.YtflcdnmhgfhmdaaGreatDoor.lib.Rd.frM {w w' : World} {b : Nat} {a : Option Addr} {c : Nat} {bs : List UInt8} (h : lib.Rd w a c bs) (hb : MapAt w b) (f : Fr [b] w w') : lib.Rd w' a c bs := ⟨h.cs.frM hb f, h.le, h.max, h.nil⟩
theorem str_keyed : Maps.Keyed Tryz.prog 9 := Maps.string_keyed Tryz.underlying9
theorem ownsMap_fr {w w' : World} {S : List Nat} {P : Program} {k : TypeId} {R : Value → Option (DataW Unit × List MemPlace)} {b n : Nat} {D : DataW Unit} (h : w.ownsMap P k R b n D) (f : Fr S w w') (hb : b ∉ S) : w'.ownsMap P k R b n D := by
  obtain ⟨es, clock, h1, h2⟩ := h
  exact ⟨es, clock, f.blk h1 hb, h2⟩
theorem key_str (id : List UInt8) (h : id.length ≤ 1000000) : keyOf Tryz.prog 9 (.string (str id)) = some (.string id) := by
  have := WideMaps.keyOf_string_mk (P := Tryz.prog) Tryz.underlying9 (s := str id) (by rw [show (str id).size = id.length by simp [str, ByteArray.size]]; unfold maxLen; omega)
  exact this
end Go.Proofs.YtflcdnmhgfhmdaaGreatDoor.pk
/-
  fs: a map of names to files, looked at by name.
-/
namespace Go.Proofs.YtflcdnmhgfhmdaaGreatDoor.fs
open Go Go.RowKit Go.Proofs.YtflcdnmhgfhmdaaGreatDoor.lib Go.Proofs.YtflcdnmhgfhmdaaGreatDoor.pk

set_option maxRecDepth 100000
abbrev Nm := List UInt8
theorem und_names : Tryz.prog.underlying 124 = some (.map 9 183) := by kernel_rfl
theorem zero_file (w : World) : (zeroValue 183).run Tryz.prog w = .ok (.pointer none) w := by kernel_rfl
def MView (D : DataW Unit) (g : Nm → Option Nat) : Prop := ∀ k : Nm, (g k = none → Maps.has D (.string k) = false) ∧ ∀ p, g k = some p → Maps.has D (.string k) = true ∧ D.atKey (.string k) .nil = pD (some p)
/-- The map at block B, of at most n names, as a function. -/
def Names (w : World) (B n : Nat) (g : Nm → Option Nat) : Prop := ∃ D, w.ownsMap Tryz.prog 9 pR B n D ∧ MView D g
theorem Names.fr {S : List Nat} {w w' : World} {B n : Nat} {g : Nm → Option Nat} (h : Names w B n g) (f : Fr S w w') (hB : B ∉ S) : Names w' B n g := by
  obtain ⟨D, h1, h2⟩ := h
  exact ⟨D, ownsMap_fr h1 f hB, h2⟩
theorem Names.at_ {w : World} {B n : Nat} {g : Nm → Option Nat} (h : Names w B n g) : MapAt w B := by
  obtain ⟨D, ⟨es, clock, h1, _⟩, _⟩ := h
  exact ⟨es, clock, h1⟩
theorem Names.made (w : World) : Names (w.alloc (.map #[] 0)) w.heap.size 0 (fun _ => none) :=
  ⟨.map [], World.ownsMap_made w _ _ _, fun k => ⟨fun _ => rfl, fun p h => by cases h⟩⟩
theorem Names.look {w : World} {B n : Nat} {g : Nm → Option Nat} (h : Names w B n g) (k : Nm) (hk : k.length ≤ 1000000) : (Instr.lookup 124 (.map (some B)) (.string (str k)) false).run Tryz.prog w = .ok (pV (g k)) w := by
  obtain ⟨D, h1, h2⟩ := h
  obtain ⟨v, ps, hrun, hv⟩ := h1.lookup str_keyed und_names (zero_file w) (pR_mk none) (key_str k hk)
  obtain ⟨q, rfl, hq⟩ := pR_inv hv
  obtain ⟨v1, v2⟩ := h2 k
  cases hg : g k with
  | none =>
    rw [Maps.atKey_of_not_has (v1 hg)] at hq
    simp only [Prod.mk.injEq] at hq
    rw [hrun, pD_inj hq.1]
  | some p =>
    have hq1 := congrArg Prod.fst hq
    simp only at hq1
    rw [show pD none = (.nil : DataW Unit) from rfl, (v2 p hg).2] at hq1
    rw [hrun, pD_inj hq1]
def set (g : Nm → Option Nat) (k : Nm) (v : Option Nat) : Nm → Option Nat := fun x => if x = k then v else g x
theorem turned_fr {w w' : World} {B : Nat} (h : w.mapTurned w' B) : Fr [B] w w' := by
  obtain ⟨h1, h2, h3, h4, h5⟩ := h.grown
  exact ⟨h1, h2, h3, h4, fun k hk hB => h5 k hk (fun e => hB (by rw [← Option.some.inj e]; simp))⟩
theorem Names.store {w : World} {B n : Nat} {g : Nm → Option Nat} (h : Names w B n g) (hn : n < 1000) (k : Nm) (hk : k.length ≤ 1000000) (p : Nat) :
    ∃ w', (Instr.mapUpdate 124 (.map (some B)) (.string (str k)) (pV (some p))).run Tryz.prog w = .ok () w' ∧ Names w' B (n + 1) (set g k (some p)) ∧ Fr [B] w w' := by
  obtain ⟨D, h1, h2⟩ := h
  obtain ⟨w', hrun, h3, h4⟩ := h1.store str_keyed und_names (by unfold maxLen; omega) (key_str k hk) (pR_mk (some p))
  refine ⟨w', hrun, ⟨_, h3, fun x => ?_⟩, turned_fr h4⟩
  have hm := h1.isMap
  by_cases hx : x = k
  · subst hx
    unfold set
    rw [if_pos rfl]
    refine ⟨fun e => (by cases e), fun q e => ?_⟩
    obtain rfl := Option.some.inj e
    exact ⟨Maps.has_put_same hm (by simp [WideAt.IsKeyLit]) _, Maps.atKey_put_same hm (by simp [WideAt.IsKeyLit]) _ _⟩
  · have hne : Lit.string x ≠ Lit.string k := by simp [hx]
    unfold set
    rw [if_neg hx, Maps.has_put_other hne, Maps.atKey_put_other hne]
    exact h2 x
theorem Names.drop {w : World} {B n : Nat} {g : Nm → Option Nat} (h : Names w B n g) (k : Nm) (hk : k.length ≤ 1000000) (ty : TypeId) :
    ∃ w', (Builtin.delete_ #[124, 9] ty #[.map (some B), .string (str k)]).run Tryz.prog w = .ok (.tuple #[]) w' ∧ Names w' B n (set g k none) ∧ Fr [B] w w' := by
  obtain ⟨D, h1, h2⟩ := h
  obtain ⟨w', hrun, h3, h4⟩ := h1.drop str_keyed und_names (key_str k hk) ty
  refine ⟨w', hrun, ⟨_, h3, fun x => ?_⟩, turned_fr h4⟩
  by_cases hx : x = k
  · subst hx
    unfold set
    rw [if_pos rfl]
    exact ⟨fun _ => Maps.has_del_same, fun q e => by cases e⟩
  · have hne : Lit.string x ≠ Lit.string k := by simp [hx]
    unfold set
    rw [if_neg hx, Maps.has_del_other hne, Maps.atKey_del_other hne]
    exact h2 x
end Go.Proofs.YtflcdnmhgfhmdaaGreatDoor.fs
/-
  More of a slice of bytes that is read; a slice expression with three indexes.
-/
namespace Go.Proofs.YtflcdnmhgfhmdaaGreatDoor.lib
open Go Go.RowKit
theorem rd_frE {S : List Nat} {w w' : World} {a : Option Addr} {cap : Nat} {bs : List UInt8} (h : Rd w a cap bs) (f : Fr S w w') (hn : bs ≠ [] → ∀ x ∈ blk a, x ∉ S) : Rd w' a cap bs := by
  by_cases hb : bs = []
  · exact ⟨.inl (by rw [hb]; rfl), h.le, h.max, h.nil⟩
  · exact h.frS f (hn hb)
theorem rd_lt {w : World} {a : Option Addr} {cap : Nat} {bs : List UInt8} (h : Rd w a cap bs) (hb : bs ≠ []) : ∀ x ∈ blk a, x < w.heap.size := by
  intro x hx
  cases a with
  | none => simp [blk] at hx
  | some a => simp [blk] at hx; rw [hx]; exact h.cs.lt (by simpa using hb) a rfl
theorem run_slice_cut3 {P : Program} {t e : TypeId} {z : Value} {size bytes : Nat} (T : SliceTy P t e z size bytes) (n : Nat) (a : Option Addr) (cap : Nat) (hc : n ≤ cap) (w : World) :
    (Instr.slice t (.slice a n cap) Option.none (some (.int .i64 (n : Nat))) (some (.int .i64 (n : Nat)))).run P w = .ok (.slice a n n) w := by
  obtain ⟨hu, ⟨i, hi', _, hs, _⟩, _, _⟩ := T
  have c1 : (0 : Int) ≤ (n : Int) ∧ (n : Int) ≤ (cap : Int) := by omega
  have ad0 : ∀ x : Addr, x.add 0 = x := fun x => rfl
  cases a <;> simp [run_underlying hu, Instr.slice, Instr.sliceBounds, Instr.sliceBound, asIntOf, c1, hc, sizeOf, typeInfo, hi', hs, Result.andThen, ad0]
theorem cs_owns {w : World} {base : Nat} {e : TypeId} {size n : Nat} {xs : List Value} {ao : Option Addr} {len cap : Nat} (h : w.ownsRow base e size (.slice ao len cap) n xs) : Cs w ao xs := by
  rcases h.2 with ⟨h1, h2⟩ | ⟨g, cap', cur, h1, hb, hg, hn, hm, hs, ht⟩
  · left
    have := h.1
    rw [h2] at this
    exact List.eq_nil_of_length_eq_zero (by simpa using this)
  · simp only [Value.slice.injEq] at h1
    obtain ⟨rfl, rfl, rfl⟩ := h1
    refine .inr ⟨g, 0, rfl, fun j v hv => ?_⟩
    rw [cell_of hg, Nat.zero_add]
    rw [← ht, List.getElem?_take] at hv
    split at hv
    · simpa using hv
    · cases hv
theorem cs_new (w : World) (C : Array Value) (t : TypeId) (fr : Nat × Nat) : Cs (w.alloc (.cells C t fr)) (some ⟨w.heap.size, 0, none⟩) C.toList :=
  .inr ⟨w.heap.size, 0, rfl, fun j v hv => by rw [cell_of (alloc_at w _), Nat.zero_add, ← Array.getElem?_toList]; exact hv⟩
end Go.Proofs.YtflcdnmhgfhmdaaGreatDoor.lib
/-
  Rows of several cells each: one cell of one of them; rows that a call owns, as cells to be read.
-/
namespace Go.Proofs.YtflcdnmhgfhmdaaGreatDoor.lib
open Go Go.RowKit

theorem flat_len {α : Type} (f : α → List Value) (c : Nat) (hf : ∀ x, (f x).length = c) : ∀ l : List α, (l.flatMap f).length = l.length * c
  | [] => by simp
  | x :: l => by rw [List.flatMap_cons, List.length_append, flat_len f c hf l, hf, List.length_cons, Nat.succ_mul]; omega
theorem flat_get {α : Type} (f : α → List Value) (c : Nat) (hf : ∀ x, (f x).length = c) : ∀ (l : List α) (i : Nat) (x : α) (j : Nat), l[i]? = some x → j < c → (l.flatMap f)[i * c + j]? = (f x)[j]?
  | [], i, x, j, h, _ => by simp at h
  | y :: l, 0, x, j, h, hj => by
    simp only [List.getElem?_cons_zero, Option.some.injEq] at h
    subst h
    rw [List.flatMap_cons, Nat.zero_mul, Nat.zero_add, List.getElem?_append_left (by rw [hf]; exact hj)]
  | y :: l, i + 1, x, j, h, hj => by
    rw [List.flatMap_cons, List.getElem?_append_right (by rw [hf, Nat.succ_mul]; omega), hf, Nat.succ_mul, show i * c + c + j - c = i * c + j by omega]
    exact flat_get f c hf l i x j (by simpa using h) hj
theorem flat_one {α : Type} (f : α → List Value) (hf : ∀ x, ∀ u ∈ f x, u.oneCell' = true) (l : List α) : ∀ u ∈ l.flatMap f, u.oneCell' = true := by
  intro u hu
  obtain ⟨x, _, hx⟩ := List.mem_flatMap.1 hu
  exact hf x u hx
end Go.Proofs.YtflcdnmhgfhmdaaGreatDoor.lib
/-
  fs: names that may be; a fuse that does not burn.
-/
namespace Go.Proofs.YtflcdnmhgfhmdaaGreatDoor.fs
open Go Go.RowKit Go.Proofs.YtflcdnmhgfhmdaaGreatDoor.lib Go.Proofs.YtflcdnmhgfhmdaaGreatDoor.pk

set_option maxRecDepth 100000
/-- A name that may be. -/
def NOk (k : Nm) : Prop := 1 ≤ k.length ∧ k.length ≤ 200 ∧ ∀ c ∈ k, c ≠ 0
theorem index_none : ∀ (k : Nm), (∀ c ∈ k, c ≠ 0) → Lib.indexByte k 0 = -1
  | [], _ => rfl
  | b :: l, h => by
    have hb : (b == 0) = false := by simpa using h b (by simp)
    have := index_none l (fun c hc => h c (List.mem_cons_of_mem _ hc))
    unfold Lib.indexByte
    rw [hb, this]
    rfl
/-- A file system's cells: it lives, its fuse does not burn. -/
def FsC (q B : Nat) (las chg : Value) : Array Value := #[.int .i64 (q : Nat), .map (some B), las, chg, .int .i64 (-1), .bool false]
def FsB (w : World) (F q B : Nat) (las chg : Value) : Prop := w.heap[F]? = some (.cells (FsC q B las chg) 127 (0, 0))
set_option maxHeartbeats 4000000 in
theorem named_ok (F q B : Nat) (las chg : Value) (g c : Nat) (l : List Nm) (w : World) (hF : FsB w F q B las chg) (hl : ∀ i k, l[i]? = some k → w.cell? ⟨g, i, none⟩ = some (.string (str k))) (hok : ∀ k ∈ l, NOk k) (hlen : l.length ≤ 2) :
    Calls Tryz.prog 269 #[.pointer (some ⟨F, 0, none⟩), .slice (some ⟨g, 0, none⟩) l.length c] w fun e w' => e = .returned (.int .i64 0) ∧ w' = w := by
  have c5 : w.cell? ⟨F, 5, none⟩ = some (.bool false) := by rw [cell_of hF]; rfl
  obtain ⟨N, hN⟩ : ∃ N, N = l.length := ⟨_, rfl⟩
  have H := Lib.hid (And.intro hl (And.intro hok hN))
  rw [← hN] at hlen ⊢
  clear hF hl hok hN
  go_enter Tryz.func269, Tryz.ntmps269
  go_wp2
  clear c5
  go_loopg [13] N (fun k s13 wr => ∃ i : Nat, s13 = .int .i64 (i : Nat) ∧ i + k = N ∧ wr = w)
  case atStart => exact ⟨0, rfl, by omega, rfl⟩
  case round =>
    obtain ⟨i, rfl, hik, rfl⟩ := hrel
    by_cases hi : i < N
    · obtain ⟨k, rfl⟩ : ∃ k, gk = k + 1 := ⟨gk - 1, by omega⟩
      have hil : i < l.length := by rw [← H.out.2.2]; exact hi
      have hci := H.out.1 i l[i] (List.getElem?_eq_getElem hil)
      obtain ⟨n1, n2, n3⟩ := H.out.2.1 l[i] (List.getElem_mem hil)
      have hx := fun w' => Tryz.strings_IndexByte (str l[i]) 0 w'
      have ex : (str l[i]).data.toList = l[i] := rfl
      rw [ex, show ((0 : Int).toNat.toUInt8) = 0 from rfl, index_none _ n3] at hx
      have hsz : (str l[i]).size = l[i].length := by simp [str, ByteArray.size]
      obtain ⟨z, hz⟩ : ∃ z, z = str l[i] := ⟨_, rfl⟩
      rw [← hz] at hci hx hsz
      have g1 : 1 ≤ z.size := by omega
      have g2 : z.size ≤ 200 := by omega
      have HX := Lib.hid hx
      clear hx ex hz n1 n2 n3 hsz
      go_wp2_with (go_at_call 279; refine (HX.out _).mono ?_; rintro e w2 ⟨rfl, hw⟩; obtain rfl := hw.symm)
      go_roundg k
      case measure => omega
      case rel => exact ⟨i + 1, by go_num, by omega, rfl⟩
    · go_wp2
      go_ret
      exact ⟨rfl, rfl⟩
theorem burn_ok (F q B : Nat) (las chg : Value) (w : World) (hF : FsB w F q B las chg) :
    Calls Tryz.prog 268 #[.pointer (some ⟨F, 0, none⟩)] w fun e w' => e = .returned (.int .i64 0) ∧ FsB w' F q B las chg ∧ Fr [F] w w' := by
  have c4 : w.cell? ⟨F, 4, none⟩ = some (.int .i64 (-1)) := by rw [cell_of hF]; rfl
  have z4 := frozen_of hF 4
  have H := Lib.hid hF
  clear hF
  go_enter Tryz.func268, Tryz.ntmps268
  go_wp2
  rw [show (-min 2 1 : Int) = -1 by decide]
  go_ret
  exact ⟨rfl, (setCell_of (o := 4) H.out _).trans rfl, (Fr.refl [F] w).setCell (by simp) _⟩
/-- A file under a name, or what is wrong. -/
def OfP (w : World) (q : Option Nat) (e : Ending) (w' : World) : Prop := (match q with
  | none => e = .returned (.tuple #[.pointer none, .int .i64 61])
  | some p => e = .returned (.tuple #[.pointer (some ⟨p, 0, none⟩), .int .i64 0])) ∧ Fr [] w w'
set_option maxHeartbeats 4000000 in
theorem of_any (F q B n : Nat) (las chg : Value) (g : Nm → Option Nat) (k : Nm) (w : World) (hF : FsB w F q B las chg) (hN : Names w B n g) (hk : NOk k) :
    Calls Tryz.prog 179 #[.pointer (some ⟨F, 0, none⟩), .string (str k)] w (OfP w (g k)) := by
  have f1 : Fr [] w (w.alloc (.cells #[.string (str k)] 9)) := (Fr.refl [] w).alloc _
  have hb := alloc_at w (.cells #[.string (str k)] 9)
  obtain ⟨w1, hw1⟩ : ∃ w1, w1 = w.alloc (.cells #[.string (str k)] 9) := ⟨_, rfl⟩
  rw [← hw1] at f1 hb
  obtain ⟨X, hX⟩ : ∃ X, X = w.heap.size := ⟨_, rfl⟩
  rw [← hX] at hb
  have hnm := named_ok F q B las chg X 1 [k] w1 (f1.blk hF (by simp)) (fun i x hi => by
    match i, hi with
    | 0, hi =>
      obtain rfl := Option.some.inj hi
      rw [cell_of hb]
      rfl) (fun x hx => by simp only [List.mem_singleton] at hx; rw [hx]; exact hk) (by show (1 : Nat) ≤ 2; decide)
  rw [show [k].length = 1 from rfl] at hnm
  have c1 : w1.cell? ⟨F, 1, none⟩ = some (.map (some B)) := by rw [cell_of (f1.blk hF (by simp))]; rfl
  have hlk := (hN.fr f1 (by simp)).look k (by have := hk.2.1; omega)
  have H := Lib.hid (And.intro hnm f1)
  obtain ⟨z, hz⟩ : ∃ z, z = str k := ⟨_, rfl⟩
  rw [← hz] at hlk hw1 ⊢
  have HW := Lib.hid (And.intro hX hw1)
  clear hnm f1 hb hF hN hk hz hX hw1
  go_enter Tryz.func179, Tryz.ntmps179
  go_upto_region 2 with (go_at_call 269; rw [← HW.out.1, ← HW.out.2]; refine H.out.1.mono ?_; rintro e w2 ⟨rfl, hw⟩; obtain rfl := hw.symm)
  cases hg : g k with
  | none =>
    rw [hg] at hlk
    have hlk' : (Instr.lookup 124 (.map (some B)) (.string z) false).run Tryz.prog w1 = .ok (.pointer none) w1 := hlk
    clear hlk
    go_wp2
    go_ret2
    rw [hg]
    exact ⟨rfl, H.out.2⟩
  | some p =>
    rw [hg] at hlk
    have hlk' : (Instr.lookup 124 (.map (some B)) (.string z) false).run Tryz.prog w1 = .ok (.pointer (some ⟨p, 0, none⟩)) w1 := hlk
    clear hlk
    go_wp2
    go_ret2
    rw [hg]
    exact ⟨rfl, H.out.2⟩
end Go.Proofs.YtflcdnmhgfhmdaaGreatDoor.fs
