/-
  Texts of this proof, one behind the other: OwnB, FsB.
-/
import Derived.Test.YtflcdnmhgfhmdaaGreatDoorG9
import Derived.Test.YtflcdnmhgfhmdaaGreatDoorG10
import Derived.Laws.CopyRow
set_option linter.unusedVariables false
set_option linter.unusedSimpArgs false
/-
  A slice that is one's own, perhaps made of a string: its block may be marked behind its end. append onto it.
-/
namespace Go.Proofs.YtflcdnmhgfhmdaaGreatDoor.lib
open Go Go.RowKit

theorem frozen_free {w : World} {b : Nat} {c : Array Value} {t : TypeId} {f : Nat × Nat} (h : w.heap[b]? = some (.cells c t f)) (hf : f = (0, 0) ∨ c.size ≤ f.1) (o : Nat) (ho : o < c.size) : w.frozen? ⟨b, o, none⟩ = false := by
  rcases hf with rfl | hf
  · exact frozen_of h o
  · simp [World.frozen?, h]
    intro h1
    omega
section
variable {P : Program}
theorem run_storeCells_free (g o : Nat) (t : TypeId) (f : Nat × Nat) : ∀ (vs : List Value) (i : Nat) (cur : Array Value) (w : World), w.heap[g]? = some (.cells cur t f) → (f = (0, 0) ∨ cur.size ≤ f.1) → o + i + vs.length ≤ cur.size → (∀ v ∈ vs, v.oneCell' = true) →
    (storeCells ⟨g, o, none⟩ vs i).run P w = .ok () (w.setRow g (cur.toList.take (o + i) ++ vs ++ cur.toList.drop (o + i + vs.length)).toArray)
  | [], i, cur, w, hg, _, _, _ => by
    simp only [storeCells, List.append_nil, List.length_nil, Nat.add_zero, List.take_append_drop, Array.toArray_toList]
    rw [setRow_self w g cur t f hg]
    rfl
  | v :: rest, i, cur, w, hg, hf, hl, h1 => by
    have hi : o + i < cur.size := by simp at hl; omega
    have hadd : (⟨g, o, none⟩ : Addr).add i = ⟨g, o + i, none⟩ := by unfold Addr.add; split <;> simp_all
    have hcell : w.cell? ⟨g, o + i, none⟩ = some cur[o + i] := by simp [World.cell?, hg, hi]
    have hfro : w.frozen? ⟨g, o + i, none⟩ = false := frozen_free hg hf _ hi
    have hst : (store ((⟨g, o, none⟩ : Addr).add i) v).run P w = .ok () (w.setRow g (cur.setIfInBounds (o + i) v)) := by
      rw [hadd, run_store P w _ v _ (h1 v (by simp)), hcell]
      simp [hfro, setCell_eq_setRow w g (o + i) cur t f v hg]
    have ih := run_storeCells_free g o t f rest (i + 1) (cur.setIfInBounds (o + i) v) (w.setRow g (cur.setIfInBounds (o + i) v)) (setRow_heap w g cur _ t _ hg) (by rw [Array.size_setIfInBounds]; exact hf) (by simp at hl ⊢; omega) (fun x hx => h1 x (by simp [hx]))
    simp only [storeCells, Sem.run_bind, hst, Result.andThen_ok, ih, setRow_setRow]
    congr 3
    have e := list_seg_step cur.toList (o + i) v rest (by simp at hl ⊢; omega)
    simpa [Array.toList_setIfInBounds, Nat.add_assoc] using e
end
/-- The slice (a, xs.length, cap) is one's own and reads as xs; its block may be marked behind its end. -/
def OwnB (w : World) (e : TypeId) (a : Option Addr) (cap : Nat) (xs : List Value) : Prop :=
  (a = none ∧ cap = 0 ∧ xs = []) ∨ ∃ g o cur f, a = some ⟨g, o, none⟩ ∧ w.heap[g]? = some (.cells cur e f) ∧ (f = (0, 0) ∨ cur.size ≤ f.1) ∧ xs.length ≤ cap ∧ cap ≤ maxLen ∧ o + cap ≤ cur.size ∧ (cur.toList.drop o).take xs.length = xs
theorem Own.b {w : World} {e : TypeId} {a : Option Addr} {cap : Nat} {xs : List Value} (h : Own w e a cap xs) : OwnB w e a cap xs := by
  rcases h with h | ⟨g, o, cur, rfl, hg, r⟩
  · exact .inl h
  · exact .inr ⟨g, o, cur, _, rfl, hg, .inl rfl, r⟩
theorem OwnB.shape {w : World} {e : TypeId} {a : Option Addr} {cap : Nat} {xs : List Value} (h : OwnB w e a cap xs) : xs.length ≤ cap ∧ cap ≤ maxLen ∧ (a = none → cap = 0) := by
  rcases h with ⟨_, rfl, rfl⟩ | ⟨g, o, cur, f, rfl, _, _, h1, h2, _⟩
  · exact ⟨Nat.le_refl _, Nat.zero_le _, fun _ => rfl⟩
  · exact ⟨h1, h2, fun h => by cases h⟩
theorem OwnB.cs {w : World} {e : TypeId} {a : Option Addr} {cap : Nat} {xs : List Value} (h : OwnB w e a cap xs) : Cs w a xs := by
  rcases h with ⟨_, _, rfl⟩ | ⟨g, o, cur, f, rfl, hg, _, h1, h2, h3, h4⟩
  · exact .inl rfl
  · refine .inr ⟨g, o, rfl, fun j v hv => ?_⟩
    rw [cell_of hg, ← Array.getElem?_toList]
    rw [← h4, List.getElem?_take] at hv
    split at hv
    · simpa using hv
    · cases hv
theorem OwnB.fr {S : List Nat} {w w' : World} {e : TypeId} {a : Option Addr} {cap : Nat} {xs : List Value} (h : OwnB w e a cap xs) (f : Fr S w w') (hn : ∀ x ∈ blk a, x ∉ S) : OwnB w' e a cap xs := by
  rcases h with h | ⟨g, o, cur, z, rfl, hg, r⟩
  · exact .inl h
  · exact .inr ⟨g, o, cur, z, rfl, f.blk hg (hn g (by simp [blk])), r⟩
theorem OwnB.lt {w : World} {e : TypeId} {a : Option Addr} {cap : Nat} {xs : List Value} (h : OwnB w e a cap xs) : ∀ x ∈ blk a, x < w.heap.size := by
  rcases h with ⟨rfl, _⟩ | ⟨g, o, cur, f, rfl, hg, r⟩
  · simp [blk]
  · intro x hx
    simp [blk] at hx
    rw [hx]
    exact lt_of_block hg
theorem OwnB.rd {w : World} {e : TypeId} {a : Option Addr} {cap : Nat} {bs : List UInt8} (h : OwnB w e a cap (bs.map bv)) : Rd w a cap bs := by
  obtain ⟨h1, h2, h3⟩ := h.shape
  exact ⟨h.cs, by simpa using h1, h2, h3⟩
section
variable {P : Program} {w : World} {t e : TypeId} {z : Value} {bytes : Nat}
/-- What an append leaves. -/
structure MoreB (w w' : World) (e : TypeId) (a a' : Option Addr) (cap' : Nat) (xs : List Value) : Prop where
  own : OwnB w' e a' cap' xs
  fr : Fr (blk a) w w'
  at_ : ∀ x ∈ blk a', x ∈ blk a ∨ w.heap.size ≤ x
theorem run_append_b (T : SliceTy P t e z 1 bytes) (ty : TypeId) (a : Option Addr) (n cap : Nat) (xs : List Value) (hown : OwnB w e a cap xs) (hn : xs.length = n)
    (ao : Option Addr) (m c : Nat) (news : List Value) (hmc : m ≤ c) (hnone : ao = none → c = 0) (hc : Cs w ao news) (hl : news.length = m) (h1 : ∀ u ∈ news, u.oneCell' = true)
    (hby : (n + m) * bytes ≤ 140737488355328) (h63 : n + m ≤ maxLen) :
    ∃ a' cap' w', (Builtin.append_ #[t, t] ty #[.slice a n cap, .slice ao m c]).run P w = .ok (.slice a' (n + m) cap') w' ∧ MoreB w w' e a a' cap' (xs ++ news) := by
  subst hn
  have hcs := hown.cs
  rcases hown with ⟨rfl, rfl, rfl⟩ | ⟨g, o, cur, f, rfl, hg, kf, k1, k2, k3, k4⟩
  · obtain ⟨a', cap', w', hr, A⟩ := run_append_mid (P := P) T ty none 0 0 [] (Own.nil w e) rfl ao m c news hmc hnone hc hl h1 (by simpa using hby) (by simpa using h63)
    exact ⟨a', cap', w', hr, A.own.b, A.fr, A.at_⟩
  · by_cases hm0 : m = 0
    · subst hm0
      obtain rfl : news = [] := List.eq_nil_of_length_eq_zero hl
      obtain ⟨hu, ⟨i, hi, hz, hs, hbt⟩, hcz, hp⟩ := T
      refine ⟨some ⟨g, o, none⟩, cap, w, ?_, by rw [List.append_nil]; exact .inr ⟨g, o, cur, f, rfl, hg, kf, k1, k2, k3, k4⟩, Fr.refl _ _, fun x hx => .inl hx⟩
      cases ao with
      | none =>
        have hc0 := hnone rfl
        simp [Builtin.append_, run_underlying hu, sizeOf, typeInfo, hi, Builtin.lenOf, k1, Builtin.firstCells, storeCells]
      | some b =>
        have hf := run_firstCells_some (P := P) w i.size 0 b 0 c [] (by simp) (by simp)
        simp [Builtin.append_, run_underlying hu, sizeOf, typeInfo, hi, Builtin.lenOf, k1, hf, storeCells]
    · by_cases hroom : xs.length + m ≤ cap
      · obtain ⟨hu, ⟨i, hi, hz, hs, hbt⟩, hcz, hp⟩ := T
        obtain ⟨g', o', rfl, hcn⟩ := hc.at (by omega)
        have hn' := cs_add hcn
        have hf := run_firstCells_some (P := P) w i.size m ⟨g', o', none⟩ m c news (by rw [hs]; omega) hn'
        have hst := run_storeCells_free (P := P) g (o + xs.length * i.size) e f news 0 cur w hg kf (by rw [hs]; omega) h1
        simp only [Nat.add_zero] at hst
        refine ⟨some ⟨g, o, none⟩, cap, _, ?_, ⟨.inr ⟨g, o, _, f, rfl, setRow_heap w g cur (cur.toList.take (o + xs.length * i.size) ++ news ++ cur.toList.drop (o + xs.length * i.size + news.length)).toArray e f hg, ?_, by rw [List.length_append, hl]; exact hroom, k2, ?_, ?_⟩, ⟨rfl, rfl, rfl, by simp, fun k _ hk => setRow_other w g k _ (fun e => hk (by simp [blk, e]))⟩, fun x hx => .inl hx⟩⟩
        · simp [Builtin.append_, run_underlying hu, sizeOf, typeInfo, hi, Builtin.lenOf, hroom, hf, Addr.add_lit, hst]
        · refine kf.imp id fun k => ?_
          simp only [List.size_toArray, List.length_append, List.length_take, List.length_drop, Array.length_toList, hs]
          omega
        · simp only [List.size_toArray, List.length_append, List.length_take, List.length_drop, Array.length_toList, hs]
          omega
        · simp only [hs, Nat.mul_one]
          rw [List.drop_append_of_le_length (by simp; omega), List.drop_append_of_le_length (by simp; omega), List.drop_take, Nat.add_sub_cancel_left, k4, List.length_append, hl]
          rw [List.take_append_of_le_length (by simp [hl]), List.take_of_length_le (by simp [hl])]
      · obtain ⟨cap', w', hr, A⟩ := run_append_full (P := P) T ty (some ⟨g, o, none⟩) xs.length cap xs hcs (by omega) k1 (by simp) ao m c news hc (by omega) (by omega) hby h63
        obtain ⟨o1, _⟩ := own_of_row A.own
        exact ⟨_, cap', w', hr, o1.b, A.fr.mono (by simp), fun x hx => .inr (Nat.le_of_eq (by have := A.at_ x hx; simp at this; exact this.symm))⟩
theorem wpList_append_b (T : SliceTy P t e z 1 bytes) {ops : Array Oper} {rest : List Oper} {o : Oper} {A : Act} {Q : Exit → Act → World → Prop} (hgd : o.guard = none) (s x : Operand)
    (ho : o.op = .call { callee := .builtin .append, args := #[s, x], argTypes := #[t, t] })
    (a : Option Addr) (n cap : Nat) (xs : List Value) (hs : A.eval s = .slice a n cap) (hown : OwnB w e a cap xs) (hn : xs.length = n)
    (ao : Option Addr) (m c : Nat) (news : List Value) (hx : A.eval x = .slice ao m c) (hmc : m ≤ c) (hnone : ao = none → c = 0) (hc : Cs w ao news) (hl : news.length = m) (h1 : ∀ u ∈ news, u.oneCell' = true)
    (hby : (n + m) * bytes ≤ 140737488355328) (h63 : n + m ≤ maxLen)
    (h : ∀ a' cap' w', MoreB w w' e a a' cap' (xs ++ news) → wpList P ops Q rest (A.put o.dst (.slice a' (n + m) cap')) w') : wpList P ops Q (o :: rest) A w :=
  wpList_plain hgd fun _ hK => by
    obtain ⟨a', cap', w', hr, h2⟩ := run_append_b (P := P) T o.type a n cap xs hown hn ao m c news hmc hnone hc hl h1 hby h63
    unfold Oper.wp execOp
    simp only [ho, resolve, invoke, builtin, Sem.run_bind, Sem.run_pure, Result.andThen_ok, List.map_toArray, List.map_cons, List.map_nil, hs, hx, hr]
    exact hK _ _ (h a' cap' w' h2)
/-- []byte(s), as a slice of one's own. -/
theorem wpList_bytes_own {ops : Array Oper} {rest : List Oper} {o : Oper} {a : Act} {Q : Exit → Act → World → Prop} {src dst : TypeId} (hs : P.underlying src = some .string) (hd : P.underlying dst = some (.slice e)) (he : P.underlying e = some (.int .u8))
    (hgd : o.guard = none) (x : Operand) (ho : o.op = .convert src dst x) (bs : List UInt8) (hx : a.eval x = .string (str bs)) (hm : bs.length ≤ maxLen)
    (h : ∀ cap w', bs.length ≤ cap → OwnB w' e (some ⟨w.heap.size, 0, none⟩) cap (bs.map bv) → Fr [] w w' → w.heap.size < w'.heap.size → wpList P ops Q rest (a.put o.dst (.slice (some ⟨w.heap.size, 0, none⟩) bs.length cap)) w') : wpList P ops Q (o :: rest) a w := by
  have hr := run_bytes_of_string (P := P) w src dst e (str bs) hs hd he
  have hsz : (str bs).size = bs.length := by simp [str, ByteArray.size]
  rw [hsz] at hr
  have h1 := grownCap_ge w bs.length 0 e
  have h2 := grownCap_le_maxLen w bs.length 0 e hm
  generalize grownCap w bs.length 0 e = cap at *
  refine wpList_plain hgd fun K hK => ?_
  unfold Oper.wp execOp
  simp only [ho, hx, Sem.run_bind, Result.andThen_ok, Sem.run_pure, hr]
  have hb := alloc_at w.drew (.cells (bytesRow (str bs) cap) e ((bytesRow (str bs) cap).size, (bytesRow (str bs) cap).size + 1))
  have hrow : (bytesRow (str bs) cap).toList.take bs.length = bs.map bv ∧ (bytesRow (str bs) cap).size = cap := by
    constructor
    · unfold bytesRow
      rw [Array.toList_append, List.take_append_of_le_length (by simp [str]), List.take_of_length_le (by simp [str])]
      simp [str, bv]
    · unfold bytesRow
      simp
      omega
  refine hK _ _ (h cap _ h1 (.inr ⟨w.heap.size, 0, _, _, rfl, hb, .inr (Nat.le_refl _), by simpa using h1, h2, by rw [hrow.2]; omega, ?_⟩) ((Fr.drew1 [] w).alloc _) (by rw [World.size_alloc]; exact Nat.lt_succ_self _))
  rw [List.drop_zero, List.length_map]
  exact hrow.1
end
end Go.Proofs.YtflcdnmhgfhmdaaGreatDoor.lib
/-
  fs: files in memory; a new file system.
-/
namespace Go.Proofs.YtflcdnmhgfhmdaaGreatDoor.fs
open Go Go.RowKit Go.Proofs.YtflcdnmhgfhmdaaGreatDoor.lib Go.Proofs.YtflcdnmhgfhmdaaGreatDoor.pk

set_option maxRecDepth 100000
/-- Whose a block is: the file system's, its names', its changes', a file's, the bytes' of the file at a block. -/
inductive Lb | fs | names | chg | file | data (p : Nat)
def FileB (w : World) (p : Nat) (a : Option Addr) (c : Nat) (syn : Int) (bs : List UInt8) : Prop := w.heap[p]? = some (.cells #[.slice a bs.length c, .int .i64 syn] 189 (0, 0)) ∧ OwnB w 5 a c (bs.map bv)
theorem sliceChg : SliceTy Tryz.prog 125 185 .nilIface 1 16 := SliceTy.of Tryz.underlying125 (by kernel_rfl) rfl (by decide)
/-- A file system: at most n names, each file's bytes at most M. -/
structure Fs (w : World) (F n M : Nat) (t : Nm → Option (List UInt8)) (lab : Nat → Option Lb) : Prop where
  st : ∃ q B las chg m vs g, (1048576 ≤ q ∧ q ≤ 16777216) ∧ FsB w F q B las chg ∧ Names w B n g ∧ w.ownsRow 0 185 1 chg m vs ∧ m ≤ n ∧ lab F = some .fs ∧ lab B = some .names ∧ (∀ x, chg.ownBlock = some x → lab x = some .chg) ∧
    (∀ k, t k = none → g k = none) ∧ (∀ k bs, t k = some bs → bs.length ≤ M ∧ ∃ p a c syn, g k = some p ∧ FileB w p a c syn bs ∧ lab p = some .file ∧ ∀ x ∈ blk a, lab x = some (.data p)) ∧ ∀ k k' p, g k = some p → g k' = some p → k = k'
  few : n ≤ 900
  most : M ≤ 100000
  low : ∀ x, lab x ≠ none → x < w.heap.size
theorem Fs.fr {T : List Nat} {w w' : World} {F n M : Nat} {t : Nm → Option (List UInt8)} {lab : Nat → Option Lb} (h : Fs w F n M t lab) (f : Fr T w w') (hT : ∀ x ∈ T, lab x = none) : Fs w' F n M t lab := by
  have no : ∀ x l, lab x = some l → x ∉ T := fun x l hx hm => by rw [hT x hm] at hx; cases hx
  obtain ⟨⟨q, B, las, chg, m, vs, g, hq, h1, h2, h3, h4, h5, h6, h7, h8, h9, h10⟩, hn, hM, hlow⟩ := h
  refine ⟨⟨q, B, las, chg, m, vs, g, hq, f.blk h1 (no _ _ h5), h2.fr f (no _ _ h6), ownsRow_fr h3 f (fun x hx => no _ _ (h7 x hx)), h4, h5, h6, h7, h8, fun k bs hk => ?_, h10⟩, hn, hM, fun x hx => Nat.lt_of_lt_of_le (hlow x hx) f.size⟩
  obtain ⟨k1, p, a, c, syn, k2, k3, k4, k5⟩ := h9 k bs hk
  exact ⟨k1, p, a, c, syn, k2, ⟨f.blk k3.1 (no _ _ k4), k3.2.fr f (fun x hx => no _ _ (k5 x hx))⟩, k4, k5⟩
/-- What an operation may turn. -/
def Stp (w : World) (lab : Nat → Option Lb) (w' : World) (lab' : Nat → Option Lb) : Prop := (∃ T, Fr T w w' ∧ ∀ x ∈ T, lab x ≠ none) ∧ ∀ x, lab' x ≠ none → lab x ≠ none ∨ w.heap.size ≤ x
set_option maxHeartbeats 4000000 in
theorem new_q (q : Nat) (hq : 1048576 ≤ q ∧ q ≤ 16777216) (w : World) : Calls Tryz.prog 27 #[.int .i64 (q : Nat)] w fun e w' => ∃ F lab, e = .returned (.tuple #[.pointer (some ⟨F, 0, none⟩), .int .i64 0]) ∧ Fs w' F 0 0 (fun _ => none) lab ∧ (∀ x, lab x ≠ none → w.heap.size ≤ x) ∧ Fr [] w w' := by
  have hmm := fun w' => run_makeMap (P := Tryz.prog) 124 w'
  go_enter Tryz.func27, Tryz.ntmps27
  go_wp2
  go_ret2
  have asz : ∀ (w : World) (o : Obj), (w.alloc o).heap.size = w.heap.size + 1 := fun w o => Array.size_push _
  have f1 : Fr [] w (w.alloc (.map #[] 0)) := (Fr.refl [] w).alloc _
  have f2 : Fr [] (w.alloc (.map #[] 0)) ((w.alloc (.map #[] 0)).alloc (.map #[] 0)) := (Fr.refl [] _).alloc _
  have f3 := (Fr.refl [] ((w.alloc (.map #[] 0)).alloc (.map #[] 0))).alloc (.cells #[.int .i64 (q : Nat), .map (some w.heap.size), .map (some (w.heap.size + 1)), .slice none 0 0, .int .i64 (-1), .bool false] 127)
  have hsz : ((w.alloc (.map #[] 0)).alloc (.map #[] 0)).heap.size = w.heap.size + 1 + 1 := by rw [asz, asz]
  have hb := alloc_at ((w.alloc (.map #[] 0)).alloc (.map #[] 0)) (.cells #[.int .i64 (q : Nat), .map (some w.heap.size), .map (some (w.heap.size + 1)), .slice none 0 0, .int .i64 (-1), .bool false] 127)
  rw [hsz] at hb
  refine ⟨w.heap.size + 1 + 1, fun x => if x = w.heap.size + 1 + 1 then some .fs else if x = w.heap.size then some .names else none, rfl, ⟨⟨q, w.heap.size, .map (some (w.heap.size + 1)), .slice none 0 0, 0, [], fun _ => none, hq, hb, ((Names.made w).fr f2 (by simp)).fr f3 (by simp), World.ownsRow_nil _ _ _ _, by decide, by simp, by rw [if_neg (by omega), if_pos rfl], (fun x hx => by cases hx), (fun _ _ => rfl), (fun k bs hk => by cases hk), (fun k k' p hp => by cases hp)⟩, by decide, by decide, fun x hx => ?_⟩, fun x hx => ?_, (f1.trans f2).trans f3⟩
  · try simp only at hx
    have hs3 : (((w.alloc (.map #[] 0)).alloc (.map #[] 0)).alloc (.cells #[.int .i64 (q : Nat), .map (some w.heap.size), .map (some (w.heap.size + 1)), .slice none 0 0, .int .i64 (-1), .bool false] 127)).heap.size = w.heap.size + 1 + 1 + 1 := by rw [asz, asz, asz]
    rw [hs3]
    by_cases h1 : x = w.heap.size + 1 + 1
    · omega
    · rw [if_neg h1] at hx
      by_cases h2 : x = w.heap.size
      · omega
      · rw [if_neg h2] at hx
        exact absurd rfl hx
  · try simp only at hx
    by_cases h1 : x = w.heap.size + 1 + 1
    · omega
    · rw [if_neg h1] at hx
      by_cases h2 : x = w.heap.size
      · omega
      · rw [if_neg h2] at hx
        exact absurd rfl hx
theorem new_any (w : World) : Calls Tryz.prog 27 #[.int .i64 1048576] w fun e w' => ∃ F lab, e = .returned (.tuple #[.pointer (some ⟨F, 0, none⟩), .int .i64 0]) ∧ Fs w' F 0 0 (fun _ => none) lab ∧ (∀ x, lab x ≠ none → w.heap.size ≤ x) ∧ Fr [] w w' := new_q 1048576 (by decide) w
end Go.Proofs.YtflcdnmhgfhmdaaGreatDoor.fs
