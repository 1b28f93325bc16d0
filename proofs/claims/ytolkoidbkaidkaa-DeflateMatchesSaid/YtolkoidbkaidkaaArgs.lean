/-
  How a law's arguments, as they came in, are opened for a walk; that they read behind the call as before.
-/
import Derived.Test.YtolkoidbkaidkaaLib
import Derived.SizedLaws
import Derived.Deep.CondSized
import Derived.JoinedCond
import Derived.ChangeOld
namespace Go.Proofs.Ytolkoidbkaidkaa.lib
open Go Go.RowKit Go.ChangeShapes Go.WideShapes

theorem wf_u8 {n : Int} (h : (Lit.int .u8 n).wf = true) : 0 ≤ n ∧ n ≤ 255 := by
  simpa [Lit.wf, IntKind.min, IntKind.max, IntKind.signed, IntKind.bits] using h
theorem wf_u32 {n : Int} (h : (Lit.int .u32 n).wf = true) : 0 ≤ n ∧ n ≤ 4294967295 := by
  simpa [Lit.wf, IntKind.min, IntKind.max, IntKind.signed, IntKind.bits] using h
theorem wf_i64 {n : Int} (h : (Lit.int .i64 n).wf = true) : -9223372036854775808 ≤ n ∧ n ≤ 9223372036854775807 := by
  simpa [Lit.wf, IntKind.min, IntKind.max, IntKind.signed, IntKind.bits] using h
/-- What a walk is told of a slice of integers that came in. -/
structure IntsArg (k : IntKind) (w : World) (a : Option Addr) (len cap : Nat) (xs : List Int) : Prop where
  le : len ≤ cap
  max : cap ≤ maxLen
  nil : a = none → cap = 0
  length : xs.length = len
  cs : Cs w a (xs.map (Value.int k))
  wf : ∀ x ∈ xs, (Lit.int k x).wf = true
  lt : ∀ x ∈ blk a, cap ≠ 0 → x < w.heap.size

theorem add_at {x : Addr} (h : x.spot = none) (j : Nat) : x.add j = ⟨x.block, x.off + j, none⟩ := by
  obtain ⟨b, o, s⟩ := x
  simp only at h
  subst h
  unfold Addr.add
  split <;> simp_all

section
variable {H : Type} {enc : TypeId × Value → H} {P : Program} {w : World}
theorem ints_arg {t e : TypeId} {k : IntKind} {a : Option Addr} {len cap : Nat} {d : DataW H} {p : List MemPlace} (ht : P.underlying t = some (.slice e)) (he : P.underlying e = some (.int k)) (hc : P.cellsOf e = 1)
    (h : DataW.Trod enc P w 0 (fun _ => true) true t (.slice a len cap) d p) :
    ∃ xs sp : List Int, IntsArg k w a len cap xs ∧ sp.length = cap - len ∧ (d = .nil ∧ cap = 0 ∨ d = .slice (lits k xs) (lits k sp)) := by
  obtain ⟨fuel, hf⟩ := h
  rcases open_ints ht he hc hf with ⟨hcs, hx⟩ | ⟨x, l, c, zs, hcs, _, hl, hm, hz, hx, hcell, hwz⟩
  · simp [Value.cells] at hcs
    obtain ⟨rfl, rfl, rfl⟩ := hcs
    simp at hx
    exact ⟨[], [], ⟨Nat.le_refl _, Nat.zero_le _, fun _ => rfl, rfl, .inl rfl, by simp, by simp [blk]⟩, rfl, .inl ⟨hx.1, rfl⟩⟩
  · simp [Value.cells] at hcs
    obtain ⟨rfl, rfl, rfl⟩ := hcs
    simp only [if_true] at hz
    simp at hx
    have hcl : ∀ i v, (zs.map (Value.int k))[i]? = some v → w.cell? (x.add i) = some v := by
      intro i v hv
      have hi : i < zs.length := by have := (List.getElem?_eq_some_iff.1 hv).1; simpa using this
      rw [hcell i hi]
      simp [hi] at hv
      simp [List.getD, hi, hv]
    have spot : 0 < zs.length → x.spot = none := by
      intro h0
      have h1 := hcell 0 h0
      have h2 : x.add 0 = x := by simp [Addr.add]
      rw [h2] at h1
      cases hs : x.spot with
      | none => rfl
      | some s =>
        simp only [World.cell?, hs, Option.isSome_some, if_true] at h1
        split at h1 <;> cases h1
    have hcsx : Cs w (some x) (zs.map (Value.int k)) := by
      by_cases h0 : zs = []
      · left; simp [h0]
      · right
        have hp : 0 < zs.length := List.length_pos_iff.2 h0
        have hs := spot hp
        refine ⟨x.block, x.off, by rw [← hs], fun j v hv => ?_⟩
        have h3 := hcl j v hv
        have h4 : x.add j = ⟨x.block, x.off + j, none⟩ := by exact add_at hs j
        rwa [h4] at h3
    refine ⟨zs.take len, zs.drop len, ⟨hl, hm, (fun h => by cases h), (by simp; omega), ?_, fun y hy => hwz y (List.mem_of_mem_take hy), ?_⟩, (by simp; omega), .inr hx.1⟩
    · rcases hcsx with h0 | ⟨g, o, ha, h0⟩
      · left
        have : zs = [] := by simpa using h0
        simp [this]
      · refine .inr ⟨g, o, ha, fun j v hv => h0 j v ?_⟩
        rw [List.map_take, List.getElem?_take] at hv
        split at hv
        · exact hv
        · cases hv
    · intro y hy hne
      simp [blk] at hy
      subst hy
      have h0 : 0 < zs.length := by omega
      exact World.block_lt_of_cell? w _ (by have := hcell 0 h0; simpa [Addr.add] using this)
/-- Each argument reads behind the call as before, where below the heap's old size nothing has turned. -/
theorem trodAll_below (hl : laidOutB P = true) {W W' : World} (hb : Below W.heap.size W W') : ∀ {ts : List TypeId} {vs : List Value} {ds : List (DataW H)} {ps : List MemPlace},
    (ts.all fun t => P.readableRec t && decide (t < P.types.size)) = true → (∀ x ∈ ps, x.block < W.heap.size) → DataW.TrodAll enc P W 0 (fun _ => true) true ts vs ds ps → DataW.TrodAll enc P W' 0 (fun b => decide (b < W.heap.size)) true ts vs ds ps
  | [], [], [], _, _, _, h => h
  | t :: ts, v :: vs, d :: ds, ps, hr, hlt, h => by
    simp only [List.all_cons, Bool.and_eq_true, decide_eq_true_eq] at hr
    obtain ⟨v', vs', d', ds', p, q, hv, hd, rfl, h1, h2⟩ := trodAll_cons h
    obtain ⟨rfl, rfl⟩ := List.cons.inj hv
    obtain ⟨rfl, rfl⟩ := List.cons.inj hd
    exact trodAll_cons_mk (Below.trod hl hr.1.1 hr.1.2 h1 hb (fun x hx => hlt x (by simp [hx]))) (trodAll_below hl hb hr.2 (fun x hx => hlt x (by simp [hx])) h2)
  | [], _ :: _, _, _, _, _, h => by simp [DataW.TrodAll] at h
  | [], [], _ :: _, _, _, _, h => by simp [DataW.TrodAll] at h
  | _ :: _, [], _, _, _, _, h => by simp [DataW.TrodAll] at h
  | _ :: _, _ :: _, [], _, _, _, h => by simp [DataW.TrodAll] at h
/-- A law's call that returns true and turns nothing that was there meets the law's specification. -/
theorem law_of_calls {s : ChangeSpec} {f : FuncId} {fn : Func} {W : World} {args : Array Value} {ds gs : List (DataW H)} {before : List MemPlace} {tb : TypeId}
    (hl : laidOutB P = true) (hread : (fn.params.toList.all fun t => P.readableRec t && decide (t < P.types.size)) = true) (hvars : s.vars = []) (hres : fn.resultTypes = #[tb]) (htb : P.underlying tb = some .bool)
    (hW : DataW.Whole enc P fn.params.toList s.vars false W args.toList ds gs before) (hfn : ∀ gs, s.vars = [] → gs = [] → s.fn H (ds ++ gs) = { results := [.lit (.bool true)], args := ds })
    (hc : Calls P f args W fun e W' => e = .returned (.bool true) ∧ Below W.heap.size W W') :
    Calls P f args W fun e W' => ∃ v, e = .returned v ∧ s.post enc P fn false true false false W args v W' := by
  have hW' := hW
  obtain ⟨p, q, hA, hV, rfl, hfz, hnd⟩ := hW
  have hV' := hV
  rw [hvars] at hV'
  obtain ⟨rfl, rfl⟩ := trodVars_none hV'
  have hlt : ∀ x ∈ p, x.block < W.heap.size := fun x hx => by simpa using hW'.lt x (by simpa using hx)
  refine hc.mono fun e W' ⟨he, hb⟩ => ⟨_, he, _, _, _, [], p, [], hW', ?_, ?_, ?_, hb.frame _, fun h => by cases h⟩
  · rw [hfn [] hvars rfl, hres]
    exact trodAll_mk1 (shut_bool htb _)
  · rw [hfn [] hvars rfl]
    exact trodAll_below hl hb hread hlt hA
  · rw [hvars, hfn [] hvars rfl]
    rfl
end
end Go.Proofs.Ytolkoidbkaidkaa.lib
