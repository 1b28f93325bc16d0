/-
  Make's map: words to the places of the base where they stand.
-/
import Derived.Test.YtoplgcikcanagaaDeltaFind
import Derived.Maps.OwnRows
import Derived.Maps.GroupsBeside
namespace Go.Proofs.Ytoplgcikcanagaa.delta
open Go Go.RowKit Go.Proofs.Ytoplgcikcanagaa.lib Go.Proofs.Ytoplgcikcanagaa.bm

/-- The old blocks from lo on stand as they stood. -/
structure Kept (lo : Nat) (w w' : World) : Prop where
  size : w.heap.size ≤ w'.heap.size
  block : ∀ i, lo ≤ i → i < w.heap.size → w'.heap[i]? = w.heap[i]?
theorem Kept.refl (lo : Nat) (w : World) : Kept lo w w := ⟨Nat.le_refl _, fun _ _ _ => rfl⟩
theorem Kept.fr {S : List Nat} {lo : Nat} {w w1 w2 : World} (h : Kept lo w w1) (f : Fr S w1 w2) (hS : ∀ x ∈ S, x < lo ∨ w.heap.size ≤ x) : Kept lo w w2 := by
  refine ⟨Nat.le_trans h.size f.size, fun i hi hl => ?_⟩
  rw [← h.block i hi hl]
  have h1 := h.size
  exact f.block i (by omega) fun hm => by rcases hS i hm with k | k <;> omega
section
variable {H : Type} {P : Program} {k e : TypeId} {q : IntKind} {w w' : World} {lo base b n : Nat} {D : DataW H}
theorem ints_kept {v : Value} {zs : List Int} (h : w.ownsInts base e q v zs) (hk : Kept lo w w') (hlo : lo ≤ base) : w'.ownsInts base e q v zs := by
  refine ⟨⟨h.1.1, ?_⟩, h.2⟩
  rcases h.1.2 with h1 | ⟨g, cap, cur, hv, hg, hb, r⟩
  · exact .inl h1
  · exact .inr ⟨g, cap, cur, hv, hg, (hk.block g (by omega) (lt_of_block hb)).trans hb, r⟩
theorem groups_kept (h : w.ownsGroups P k base e q b n D) (hk : Kept lo w w') (hlo : lo ≤ b) : w'.ownsGroups P k base e q b n D := by
  obtain ⟨es, clock, hb, F, hs, rfl, hbb, hlen, hap⟩ := h
  have hst : ∀ x ∈ es.toList, ∀ z, rowElem (H := H) w base e q x.val = some z → rowElem w' base e q x.val = some z := fun x hx z hz => by
    obtain ⟨zs, ho, rfl⟩ := rowElem_inv hz
    exact rowElem_mk (ints_kept ho hk (by omega))
  obtain ⟨F1, hmap, _⟩ := F.stay hst
  refine ⟨es, clock, (hk.block b hlo (lt_of_block hb)).trans hb, F1, hs, by rw [hmap], hbb, fun x hx zs ho => ?_, hap⟩
  obtain ⟨y, hy⟩ := F.reads x hx
  obtain ⟨z, hz, _⟩ := WideElems.rd_val hy
  obtain ⟨zs0, ho0, _⟩ := rowElem_inv hz
  rw [ho.unique (ints_kept ho0 hk (by omega))]
  exact hlen x hx zs0 ho0
end

/-- Every row holds places of the base alone. -/
def GoodD (L : Nat) (D : DataW Unit) : Prop := Maps.IsMap D ∧ ∀ kl zs, WideAt.IsKeyLit kl → D.atKey kl .nil = .slice (_root_.Go.ChangeShapes.lits .i64 zs) [] → ∀ z ∈ zs, 0 ≤ z ∧ z ≤ (L : Int)
theorem lits_inj {q : IntKind} {xs ys : List Int} (h : (.slice (_root_.Go.ChangeShapes.lits q xs : List (DataW Unit)) [] : DataW Unit) = .slice (_root_.Go.ChangeShapes.lits q ys) []) : xs = ys := by
  simp only [DataW.slice.injEq, and_true] at h
  unfold _root_.Go.ChangeShapes.lits at h
  exact (List.map_inj_right (fun a b hab => by cases hab; rfl)).1 h
theorem good_made (L : Nat) : GoodD L (.map []) := ⟨Maps.isMap_empty, fun kl zs _ h => by cases h⟩
/-- The map. -/
structure Gm (L : Nat) (w : World) (bm n : Nat) (D : DataW Unit) : Prop where
  own : w.ownsGroups Try.prog 54 (bm + 1) 3 .i64 bm n D
  good : GoodD L D
theorem gm_made (L : Nat) (w : World) : Gm L (w.alloc (.map #[] 0)) w.heap.size 0 (.map []) := ⟨World.ownsGroups_made w _ _ _ _, good_made L⟩
theorem Gm.kept {L lo bm n : Nat} {w w' : World} {D : DataW Unit} (h : Gm L w bm n D) (k : Kept lo w w') (hlo : lo ≤ bm) : Gm L w' bm n D := ⟨groups_kept h.own k hlo, h.good⟩
theorem info_int : (Try.prog.info? 3).map (fun i => (i.zero, i.size, i.bytes)) = some (some (.int .i64 0), 1, 8) := by kernel_rfl
theorem zero_ints (w : World) : (zeroValue 56).run Try.prog w = .ok (.slice none 0 0) w := by kernel_rfl
theorem und_u64 : Try.prog.underlying 54 = some (.int .u64) := by kernel_rfl
theorem und_ints : Try.prog.underlying 56 = some (.slice 3) := by kernel_rfl
theorem und_map : Try.prog.underlying 53 = some (.map 54 56) := by kernel_rfl
theorem key_u64 {x : Int} (h : (Lit.int .u64 x).wf = true) : keyOf Try.prog 54 (.int .u64 x) = some (.int .u64 x) := Maps.keyOf_int_mk und_u64 h
theorem keyed_u64 : Maps.Keyed Try.prog 54 := Maps.int_keyed und_u64
theorem GoodD.put {L : Nat} {D : DataW Unit} (h : GoodD L D) {x : Int} {v v' : Value} {zs : List Int} {i : Nat} (hat : D.atKey (.int .u64 x) .nil = rowDatum .i64 v zs) (hd : (rowDatum (H := Unit) .i64 v zs = .nil ∧ zs = []) ∨ rowDatum (H := Unit) .i64 v zs = .slice (_root_.Go.ChangeShapes.lits .i64 zs) [])
    (hi : i ≤ L) : GoodD L (D.put (.int .u64 x) (rowDatum .i64 v' (zs ++ [(i : Int)]))) := by
  refine ⟨h.1.put _ _, fun kl ys hk e z hz => ?_⟩
  by_cases hkl : kl = .int .u64 x
  · subst hkl
    rw [Maps.atKey_put_same h.1 hk] at e
    have ey : ys = zs ++ [(i : Int)] := by
      unfold rowDatum at e
      split at e
      · cases e
      · exact (lits_inj e).symm
    rw [ey] at hz
    rcases List.mem_append.1 hz with hz | hz
    · rcases hd with ⟨_, h0⟩ | h1
      · rw [h0] at hz; cases hz
      · exact h.2 _ zs hk (hat.trans h1) z hz
    · simp only [List.mem_singleton] at hz
      rw [hz]
      omega
  · rw [Maps.atKey_put_other hkl] at e
    exact h.2 kl ys hk e z hz
theorem wp_gm_look {L bm n : Nat} {w : World} {D : DataW Unit} (h : Gm L w bm n D) (hn : n < maxLen) {o : Oper} {a : Act} {K : Act → World → Prop} {Q : Exit → Act → World → Prop} (m x : Operand) (hop : o.op = Op.lookup 53 m x false)
    (hm : a.eval m = .map (some bm)) (k : Int) (hx : a.eval x = .int .u64 k) (hk : (Lit.int .u64 k).wf = true)
    (hK : ∀ (pa : Option Addr) (ps : List Nat) (pc : Nat), Cs w pa (ps.map fun p => .int .i64 (p : Nat)) → ps.length ≤ pc → (∀ p ∈ ps, p ≤ L) → ps.length ≤ n → K (a.put o.dst (.slice pa ps.length pc)) w) : o.wp Try.prog a w K Q := by
  obtain ⟨v, zs, hrun, hat, hoi, hzl, _⟩ := h.own.at keyed_u64 und_map (zero_ints w) hn (key_u64 hk)
  obtain ⟨va, vc, rfl, v1, v2, v3⟩ := owns_form hoi.1
  have hcs := cs_of_owns hoi.1
  have hg : ∀ z ∈ zs, 0 ≤ z ∧ z ≤ (L : Int) := by
    rcases hoi.datum (H := Unit) with ⟨_, h0⟩ | h1
    · intro z hz; rw [h0] at hz; cases hz
    · exact h.good.2 _ zs (by first | trivial | exact hk | simp [WideAt.IsKeyLit]) (hat.trans h1)
  have hz : zs.map (Value.int .i64) = (zs.map Int.toNat).map fun p => Value.int .i64 (p : Nat) := by
    rw [List.map_map]
    refine List.map_congr_left fun z hz => ?_
    have := (hg z hz).1
    show Value.int .i64 z = Value.int .i64 ((z.toNat : Nat) : Int)
    rw [Int.toNat_of_nonneg this]
  rw [hz] at hcs
  unfold Oper.wp
  simp [execOp, hop, hm, hx, hrun, Result.andThen]
  have := hK va (zs.map Int.toNat) vc hcs (by simpa using v1) (fun p hp => by
    obtain ⟨z, hz, rfl⟩ := List.mem_map.1 hp
    have := hg z hz
    omega) (by simpa using hzl)
  rw [List.length_map] at this
  exact this
end Go.Proofs.Ytoplgcikcanagaa.delta
