/-
  Texts of this proof, one behind the other: MixR, RevB, PackBack, ShaLaw, RdMore, AppMid, SumA, SumB, ShaMix, ShaMix2, ShaW, ShaSum, ShaWhole, PackWr0.
-/
import Derived.Test.YtkmpfgpfbmeihaaGreatDoorG1
import Derived.Deep.DeepCutAuto
import Derived.Deep.CutBlock
import Derived.WalkMore
import Derived.Deep.LoopGhost
import Derived.Laws.ResultCell
import Derived.Laws.EntriesVeiled
import Derived.Lib.SlBytesConst
set_option linter.unusedVariables false
set_option linter.unusedSimpArgs false
/-
  As lib.region_mix, with a base world that may lag behind: an effect may turn blocks of S and all that came behind the base.
-/
namespace Go.Proofs.YtkmpfgpfbmeihaaGreatDoor.lib
open Go
theorem Fr.from_drew {S : List Nat} {w w' : World} (h : Fr S w w') : Fr S w.drew w' := ⟨h.os, h.tape, h.output, h.size, h.block⟩
section
variable {P : Program} {ops : Array Oper} {Q : Exit → Act → World → Prop} {md : Region.Mode}
def mixR (P : Program) (ops : Array Oper) (S : List Nat) (Q : Exit → Act → World → Prop) (tail : List Oper) : List (Bool × Oper) → World → Act → World → Prop
  | [], _, a, w => wpList P ops Q tail a w
  | (false, o) :: rest, b, a, w => if Region.wanted o (yielded ops a.tmps) then o.quiet P a (Sup S b) (fun a' => mixR P ops S Q tail rest b a' w) else mixR P ops S Q tail rest b (a.put o.dst undef) w
  | (true, o) :: rest, b, a, w => if Region.wanted o (yielded ops a.tmps) then o.wp P a w (fun a' w' => ∃ b', Fr S b b' ∧ Fr S b' w' ∧ mixR P ops S Q tail rest b' a' w') Q else mixR P ops S Q tail rest b (a.put o.dst undef) w
theorem mx_walkR {n : Nat} {S : List Nat} {l : List Oper} (hl : ops = l.toArray) (hsel : Region.noSelect ops = true) (hQ : ∀ c a d v w, Q (.panic c) (Act.put a d v) w → Q (.panic c) a w)
    (hT : ∀ i, i < n → ∀ listed, HeadInv md ops n listed → listed.getD i true = false → ∀ t, n ≤ t → t ∉ Region.ready md ops listed) :
    ∀ (order : List (Bool × Nat)) (listed : Array Bool) (b : World) (a : Act) (w : World), Fr S b w → HeadInv md ops n listed → mixB md ops n order listed = true →
      mixR P ops S Q (l.drop n) (order.map fun x => (x.1, l.getD x.2 default)) b a w → wpMx P md ops Q n (Sup S b) (order.length + (ops.size - n)) listed a w
  | [], listed, b, a, w, _, _, hB, h => by
    have hlen : (l.drop n).length = ops.size - n := by rw [hl]; simp
    have := wpMx_of_seq (P := P) (Q := Q) (md := md) (ops := ops) (n := n) (C := Sup S b) (l.drop n) n listed a w (Nat.le_refl _) (fun j => by rw [hl]; simp [List.getElem?_drop]) (by rw [hlen]; exact hB) h
    simpa [hlen] using this
  | (e, i) :: rest, listed, b, a, w, hfr, inv, hB, h => by
    simp only [mixB, Bool.and_eq_true, decide_eq_true_eq] at hB
    obtain ⟨⟨hin, he⟩, hrest⟩ := hB
    have hlen : ((e, i) :: rest).length + (ops.size - n) = rest.length + (ops.size - n) + 1 := by simp; omega
    rw [hlen]
    have hC : Sup S b w := Sup.of hfr
    cases e with
    | false =>
      simp only [Bool.and_eq_true] at he
      obtain ⟨⟨hr, hf⟩, hk⟩ := he
      have hr' : i ∈ Region.ready md ops listed := by simpa using hr
      obtain ⟨_, oi, hoi, _⟩ := mem_ready.1 hr'
      rw [hoi] at hk
      have hd : l.getD i default = oi := by
        rw [hl] at hoi
        simp at hoi
        simp [List.getD, hoi]
      simp only [List.map_cons, hd, mixR] at h
      by_cases hw : Region.wanted oi (yielded ops a.tmps) = true
      · rw [if_pos hw] at h
        obtain ⟨v, h1, h2⟩ := h
        have hy : QY P ops (Sup S b) oi v a := .inl ⟨hw, fun u hu => runs_of_quiet hk (h1 u hu)⟩
        exact wpMx_first hoi (Region.noSelect_spec hsel) hQ hin (hT i hin) _ listed a w inv (Region.free_spec hoi hf) hr' hy hC (mx_walkR hl hsel hQ hT rest _ b _ w hfr (inv.set hr' hin) hrest h2)
      · rw [if_neg hw] at h
        have hy : QY P ops (Sup S b) oi undef a := .inr ⟨by simpa using hw, rfl⟩
        exact wpMx_first hoi (Region.noSelect_spec hsel) hQ hin (hT i hin) _ listed a w inv (Region.free_spec hoi hf) hr' hy hC (mx_walkR hl hsel hQ hT rest _ b _ w hfr (inv.set hr' hin) hrest h)
    | true =>
      simp only [decide_eq_true_eq] at he
      have hr' : i ∈ Region.ready md ops listed := by rw [he]; simp
      obtain ⟨_, oi, hoi, _⟩ := mem_ready.1 hr'
      have hd : l.getD i default = oi := by
        rw [hl] at hoi
        simp at hoi
        simp [List.getD, hoi]
      simp only [List.map_cons, hd, mixR] at h
      refine ⟨fun h0 => (by rw [h0] at hr'; cases hr'), fun j hj => ?_⟩
      rw [he] at hj
      have hji : j = i := by simpa using hj
      subst hji
      unfold wpOp
      simp only [hoi]
      by_cases hw : Region.wanted oi (yielded ops a.tmps) = true
      · rw [if_pos hw] at h
        rw [if_pos hw]
        left
        exact Oper.wp_mono (fun a' w' h' => by
          obtain ⟨b', g1, g2, h'⟩ := h'
          exact ⟨fun _ => Sup.of (g1.trans g2), wpMx_mono (Sup.sub g1) _ _ _ _ (mx_walkR hl hsel hQ hT rest _ b' a' w' g2 (inv.set hr' hin) hrest h')⟩) h
      · rw [if_neg hw] at h
        rw [if_neg hw]
        exact ⟨fun _ => hC, mx_walkR hl hsel hQ hT rest _ b _ w hfr (inv.set hr' hin) hrest h⟩

theorem region_mixR {id : Nat} {a : Act} {w : World} {l : List Oper} (n : Nat) (order : List (Bool × Nat)) (S : List Nat) (hm : P.follows .mixedOrders = true) (hB : mixAll .any l.toArray n order = true)
    (hQ : ∀ c a d v w, Q (.panic c) (Act.put a d v) w → Q (.panic c) a w)
    (h : mixR P l.toArray S Q (l.drop n) (order.map fun x => (x.1, l.getD x.2 default)) w.drew a w.drew) : (Code.region id l.toArray true).wp P Q a w := by
  simp only [mixAll, Bool.and_eq_true, decide_eq_true_eq, Bool.or_eq_true] at hB
  obtain ⟨⟨⟨hsel, hn⟩, hlen⟩, hmix⟩ := hB
  have inv0 : HeadInv .any l.toArray n (Array.replicate l.toArray.size false) :=
    ⟨by simp, fun j oj _ hl => (by rw [getD_replicate_false] at hl; cases hl), fun t _ ht => getD_in (by simpa using ht) (getD_replicate_false _ _)⟩
  have hT : ∀ i, i < n → ∀ listed, HeadInv .any l.toArray n listed → listed.getD i true = false → ∀ t, n ≤ t → t ∉ Region.ready .any l.toArray listed := by
    intro i hi listed inv hun t ht hr
    rcases hn with hn | ⟨⟨hn, hs⟩, hc⟩
    · obtain ⟨_, o, ho, _⟩ := mem_ready.1 hr
      have := (Array.getElem?_eq_some_iff.1 ho).1
      omega
    · exact tail_waits hs hc hn inv _ i rfl hi hun t ht hr
  refine wp_region_any hm (wpAny_of_mx (n := n) (C := Sup S w.drew) _ _ _ _ ?_)
  have := mx_walkR (P := P) (Q := Q) (md := .any) (n := n) (S := S) rfl hsel hQ hT order _ w.drew a w.drew (Fr.refl _ _) inv0 hmix h
  rw [hlen] at this
  exact this
theorem mixR_seg {S : List Nat} {tail : List Oper} {items : List (Bool × Oper)} {b : World} {a : Act} {w : World} (k : Nat) (h0 : ((items.take k).all fun x => !x.1) = true)
    (h : wpQuiet P ops (Sup S b) (fun a' => mixR P ops S Q tail (items.drop k) b a' w) ((items.take k).map (·.2)) a) : mixR P ops S Q tail items b a w := by
  induction k generalizing items a with
  | zero => exact h
  | succ k ih =>
    cases items with
    | nil => exact h
    | cons x rest =>
      obtain ⟨e, o⟩ := x
      simp only [List.take_succ_cons, List.all_cons, Bool.and_eq_true, Bool.not_eq_true'] at h0
      obtain ⟨rfl, h0⟩ := h0
      simp only [List.take_succ_cons, List.map_cons, List.drop_succ_cons, wpQuiet] at h
      unfold mixR
      by_cases hw : Region.wanted o (yielded ops a.tmps) = true
      · rw [if_pos hw] at h ⊢
        obtain ⟨v, h1, h2⟩ := h
        exact ⟨v, h1, ih h0 h2⟩
      · rw [if_neg hw] at h ⊢
        exact ih h0 h
theorem mixR_eff {S : List Nat} {tail : List Oper} {rest : List (Bool × Oper)} {o : Oper} {b : World} {a : Act} {w : World} (hw : Region.wanted o (yielded ops a.tmps) = true)
    (h : ∀ K : Act → World → Prop, Go.RowKit.Hid (∀ a' w' b', Fr S b b' → Fr S b' w' → mixR P ops S Q tail rest b' a' w' → K a' w') → o.wp P a w K Q) : mixR P ops S Q tail ((true, o) :: rest) b a w := by
  unfold mixR
  rw [if_pos hw]
  exact h _ fun _ _ b' h1 h2 h3 => ⟨b', h1, h2, h3⟩
theorem mixR_nil {S : List Nat} {tail : List Oper} {b : World} {a : Act} {w : World} (h : wpList P ops Q tail a w) : mixR P ops S Q tail [] b a w := h
end
end Go.Proofs.YtkmpfgpfbmeihaaGreatDoor.lib
/-
  slices.Reverse at bytes, over a block of the caller's own.
-/
namespace Go.Proofs.YtkmpfgpfbmeihaaGreatDoor.pk
open Go Go.RowKit Go.Proofs.YtkmpfgpfbmeihaaGreatDoor.lib

/-- The k-th byte when the first i and the last i have changed places. -/
def rvs (l : List UInt8) (n i k : Nat) : UInt8 := if k < i ∨ n ≤ k + i then l[n - 1 - k]?.getD 0 else l[k]?.getD 0
theorem rvs_step {l : List UInt8} {n i j : Nat} (h : i + j + 1 = n) (hij : i < j) (k : Nat) (hk : k < n) : rvs l n (i + 1) k = if k = i then rvs l n i j else if k = j then rvs l n i i else rvs l n i k := by
  unfold rvs
  by_cases h1 : k = i
  · subst h1
    rw [if_pos (by omega), if_pos rfl, if_neg (by omega), show n - 1 - k = j by omega]
  · by_cases h2 : k = j
    · subst h2
      rw [if_pos (by omega), if_neg h1, if_pos rfl, if_neg (by omega), show n - 1 - k = i by omega]
    · rw [if_neg h1, if_neg h2]
      by_cases h3 : k < i ∨ n ≤ k + i
      · rw [if_pos (by omega), if_pos h3]
      · rw [if_neg (by omega), if_neg h3]
theorem rvs_end {l : List UInt8} {n i j : Nat} (hl : l.length = n) (h : i + j + 1 = n) (hij : ¬ i < j) (k : Nat) (hk : k < n) (h1 : i ≤ j + 1) : rvs l n i k = l.reverse[k]?.getD 0 := by
  rw [List.getElem?_reverse (by omega), hl]
  unfold rvs
  by_cases h3 : k < i ∨ n ≤ k + i
  · rw [if_pos h3]
  · rw [if_neg h3, show n - 1 - k = k by omega]
set_option maxRecDepth 100000 in
set_option maxHeartbeats 2000000 in
theorem rev_any (g n cap : Nat) (A0 : Array Value) (l : List UInt8) (w : World) (hA : w.heap[g]? = some (.cells A0 5 (0, 0))) (hl : l.length = n) (h1 : 1 ≤ n) (hn : n ≤ 100000000) (hnc : n ≤ cap) (hc : ∀ k, k < n → A0[k]? = some (.int .u8 ((l[k]?.getD 0).toNat : Nat))) :
    Calls Tryz.prog 28 #[.slice (some ⟨g, 0, none⟩) n cap] w fun e w' => e = .returned (.tuple #[]) ∧ Fr [g] w w' ∧ ∃ A', w'.heap[g]? = some (.cells A' 5 (0, 0)) ∧ A'.size = A0.size ∧ ∀ k, k < n → A'[k]? = some (.int .u8 ((l.reverse[k]?.getD 0).toNat : Nat)) := by
  have H0 := Lib.hid (And.intro hA (And.intro hl hc))
  clear hA hl hc
  obtain ⟨N, hN⟩ : ∃ N : Int, N = (n : Int) - 1 := ⟨_, rfl⟩
  go_enter Tryz.func28, Tryz.ntmps28
  go_wp2
  go_loopg [2, 3] n (fun k s2 s3 wr => ∃ i j : Nat, s2 = .int .i64 (i : Nat) ∧ s3 = .int .i64 (j : Nat) ∧ i + j + 1 = n ∧ i ≤ j + 1 ∧ i + k = n ∧ Fr [g] w wr ∧ ∃ A', wr.heap[g]? = some (.cells A' 5 (0, 0)) ∧ A'.size = A0.size ∧ ∀ k, k < n → A'[k]? = some (.int .u8 ((rvs l n i k).toNat : Nat)))
  case atStart => exact ⟨0, n - 1, rfl, by go_num, by omega, by omega, by omega, Fr.refl _ _, A0, H0.out.1, rfl, fun k hk => by rw [H0.out.2.2 k hk]; unfold rvs; rw [if_neg (by omega)]⟩
  case round =>
    obtain ⟨i, j, rfl, rfl, hij, hi1, hik, hf, A, hA, hAs, hAc⟩ := hrel
    by_cases h : i < j
    · obtain ⟨k, rfl⟩ : ∃ k, gk = k + 1 := ⟨gk - 1, by omega⟩
      have d0 := (cell_of hA i).trans (hAc i (by omega))
      have d1 := (cell_of hA j).trans (hAc j (by omega))
      obtain ⟨x, hx⟩ : ∃ x, x = (rvs l n i i).toNat := ⟨_, rfl⟩
      obtain ⟨y, hy⟩ : ∃ y, y = (rvs l n i j).toNat := ⟨_, rfl⟩
      rw [← hx] at d0
      rw [← hy] at d1
      have hxb : x < 256 := by rw [hx]; exact UInt8.toNat_lt _
      have hyb : y < 256 := by rw [hy]; exact UInt8.toNat_lt _
      have HS := Lib.hid (And.intro hA (And.intro hAs (And.intro hAc (And.intro hx (And.intro hy hf)))))
      clear hA hAs hAc hx hy hf
      go_upto_region 3 with fail
      refine region_mixE [(0, 0), (0, 1), (0, 2), (0, 3), (0, 4), (0, 5), (0, 6), (1, 7), (0, 8), (0, 9), (0, 10), (1, 11), (0, 12), (2, 13), (0, 14), (2, 15)] [g] [13, 15] (by kernel_rfl) (by kernel_rfl) (fun _ _ d _ _ h => by cases d <;> exact h) ?_
      simp only [List.map_cons, List.map_nil, List.getD_cons_zero, List.getD_cons_succ]
      refine mixE_seg 7 rfl ?_
      simp only [List.take_succ_cons, List.take_zero, List.drop_succ_cons, List.drop_zero, List.map_cons, List.map_nil]
      repeat (go_big_quiet_step (fail))
      refine wpQuiet_nil ?_
      refine mixE_early 1 rfl ?_
      simp only [List.take_succ_cons, List.take_zero, List.drop_succ_cons, List.drop_zero, List.map_cons, List.map_nil]
      repeat (go_big_quiet_step (fail))
      refine wpQuiet_nil ?_
      refine mixE_seg 3 rfl ?_
      simp only [List.take_succ_cons, List.take_zero, List.drop_succ_cons, List.drop_zero, List.map_cons, List.map_nil]
      repeat (go_big_quiet_step (fail))
      refine wpQuiet_nil ?_
      refine mixE_early 1 rfl ?_
      simp only [List.take_succ_cons, List.take_zero, List.drop_succ_cons, List.drop_zero, List.map_cons, List.map_nil]
      repeat (go_big_quiet_step (fail))
      refine wpQuiet_nil ?_
      refine mixE_seg 1 rfl ?_
      simp only [List.take_succ_cons, List.take_zero, List.drop_succ_cons, List.drop_zero, List.map_cons, List.map_nil]
      repeat (go_big_quiet_step (fail))
      refine wpQuiet_nil ?_
      refine mixE_eff rfl ?_
      intro K hK
      have z0 := frozen_of HS.out.1 i
      go_wp2
      refine hK.out _ _ (Fr.from_drew (((Fr.refl [g] wr).setCell (by simp) _).drew)) ?_
      clear hK K z0
      have hA1 := setCell_of (o := i) HS.out.1 (.int .u8 (y : Nat))
      obtain ⟨ws1, hws1⟩ : ∃ ws1, ws1 = wr.setCell ⟨g, i, none⟩ (.int .u8 (y : Nat)) := ⟨_, rfl⟩
      rw [← hws1] at hA1 ⊢
      obtain ⟨A1, hB⟩ : ∃ A1, A1 = A.setIfInBounds i (.int .u8 (y : Nat)) := ⟨_, rfl⟩
      rw [← hB] at hA1
      have z0 := frozen_of hA1 j
      have c2 : ws1.cell? ⟨g, j, none⟩ = some (.int .u8 (y : Nat)) := by
        rw [cell_of hA1, hB, Array.getElem?_setIfInBounds_ne (by omega), ← cell_of HS.out.1]
        exact d1
      have HSy := Lib.hid (And.intro hA1 (And.intro hB hws1))
      clear hA1 hB hws1 d0 d1
      refine mixE_seg 1 rfl ?_
      simp only [List.take_succ_cons, List.take_zero, List.drop_succ_cons, List.drop_zero, List.map_cons, List.map_nil]
      repeat (go_big_quiet_step (fail))
      refine wpQuiet_nil ?_
      refine mixE_eff rfl ?_
      intro K hK
      go_wp2
      refine hK.out _ _ (Fr.from_drew (((Fr.refl [g] ws1).setCell (by simp) _).drew)) ?_
      clear hK K z0 c2
      refine mixE_nil ?_
      have hA2 := setCell_of (o := j) HSy.out.1 (.int .u8 (x : Nat))
      obtain ⟨w2, hw2⟩ : ∃ w2, w2 = ws1.setCell ⟨g, j, none⟩ (.int .u8 (x : Nat)) := ⟨_, rfl⟩
      rw [← hw2] at hA2 ⊢
      have HZ := Lib.hid (And.intro hA2 hw2)
      clear hA2 hw2
      go_wp2
      go_roundg k
      case measure => omega
      case rel =>
        obtain ⟨hA, hAs, hAc, hx, hy, hf⟩ := HS.out
        obtain ⟨hA1, hB, hws1⟩ := HSy.out
        obtain ⟨hA2, hw2⟩ := HZ.out
        refine ⟨i + 1, j - 1, by go_num, by go_num, by omega, by omega, by omega, ?_, _, hA2, by rw [Array.size_setIfInBounds, hB, Array.size_setIfInBounds, hAs], fun k hk => ?_⟩
        · rw [hw2, hws1]
          exact hf.trans ((((Fr.refl [g] wr).setCell (by simp) _).setCell (by simp) _).drew)
        · have hsz : ∀ k, k < n → k < A.size := fun k hk => (Array.getElem?_eq_some_iff.1 (hAc k hk)).1
          rw [rvs_step hij h k hk]
          by_cases h1 : k = j
          · subst h1
            rw [Array.getElem?_setIfInBounds_self_of_lt (by rw [hB, Array.size_setIfInBounds]; exact hsz k hk), if_neg (by omega), if_pos rfl, hx]
          · rw [Array.getElem?_setIfInBounds_ne (by omega), hB]
            by_cases h2 : k = i
            · subst h2
              rw [Array.getElem?_setIfInBounds_self_of_lt (hsz k hk), if_pos rfl, hy]
            · rw [Array.getElem?_setIfInBounds_ne (by omega), if_neg h2, if_neg h1]
              exact hAc k hk
    · have HS := Lib.hid (And.intro hA (And.intro hAs (And.intro hAc hf)))
      clear hA hAs hAc hf
      go_wp2
      refine bodyPost_end (results_none rfl _ _ _) rfl ⟨rfl, HS.out.2.2.2, A, HS.out.1, HS.out.2.1, fun k hk => ?_⟩
      rw [HS.out.2.2.1 k hk, rvs_end H0.out.2.1 hij h k hk hi1]
end Go.Proofs.YtkmpfgpfbmeihaaGreatDoor.pk
/-
  pack.Back: how far back a base lies.
-/
namespace Go.Proofs.YtkmpfgpfbmeihaaGreatDoor.pk
open Go Go.RowKit Go.Proofs.YtkmpfgpfbmeihaaGreatDoor.lib Go.Proofs.YtkmpfgpfbmeihaaGreatDoor.bm

theorem clip_b (ao : Option Addr) (len cap : Nat) (w : World) (hle : len ≤ cap) (hmax : cap ≤ maxLen) :
    Calls Tryz.prog 29 #[.slice ao len cap] w fun e w' => e = .returned (.slice ao len len) ∧ w' = w := by
  go_enter Tryz.func29, Tryz.ntmps29
  go_wp2
  all_goals go_ret
  all_goals exact ⟨by first | rfl | simp, rfl⟩
theorem bkF_step {f m : Nat} (h : 0 < m) (hf : m ≤ f) : bkF f m = UInt8.ofNat ((m - 1) % 128 + 128) :: bkF f ((m - 1) / 128) := by
  cases f with
  | zero => omega
  | succ f => rw [bkF, if_neg (by omega), bkF_fuel (f := f) (g := f + 1) (by omega) (by omega)]
theorem bkF_zero (f : Nat) : bkF f 0 = [] := by cases f <;> simp [bkF]
theorem getD_byte {l : List UInt8} {C : Array Value} {k : Nat} (hk : k < l.length) (h : C.toList.take l.length = l.map bv) : C[k]? = some (.int .u8 ((l[k]?.getD 0).toNat : Nat)) := by
  have h1 := congrArg (fun (x : List Value) => x[k]?) h
  simp only [List.getElem?_take, if_pos hk, List.getElem?_map] at h1
  rw [List.getElem?_eq_getElem hk] at h1
  simp only [Option.map_some, bv] at h1
  rw [List.getElem?_eq_getElem hk, Option.getD_some, ← h1]
  simp
theorem own_one (w : World) (v : Value) : (w.alloc (.cells #[v] 5)).ownsRow 0 5 1 (.slice (some ⟨w.heap.size, 0, none⟩) 1 1) 1 [v] :=
  ⟨rfl, .inr ⟨w.heap.size, 1, #[v], rfl, Nat.zero_le _, alloc_at _ _, Nat.le_refl _, by decide, rfl, rfl⟩⟩
set_option maxRecDepth 100000 in
set_option maxHeartbeats 2000000 in
theorem back_any (n : Nat) (w : World) (hn : n ≤ 9007199254740992) : Calls Tryz.prog 9 #[.int .i64 (n : Nat)] w (NewBytes w (bk n).reverse) := by
  obtain ⟨bs, hbs⟩ : ∃ bs, bs = bk n := ⟨_, rfl⟩
  have hbl : bs.length ≤ 10 := by
    rw [hbs]
    have := bkF_len (k := 9) (f := n) (m := n / 128) (by omega)
    unfold bk
    simp only [List.length_cons]
    omega
  have h7 := low7 n
  obtain ⟨t0, ht0⟩ : ∃ t, t = n % 128 := ⟨_, rfl⟩
  have ht1 : t0 ≤ 127 := by omega
  rw [← ht0] at h7
  obtain ⟨x0, hx0⟩ : ∃ x, x = UInt8.ofNat t0 := ⟨_, rfl⟩
  have hb0 : bs = [x0] ++ bkF n (n / 128) := by rw [hbs, hx0, ht0]; rfl
  have hv0 : [bv x0] = [.int .u8 (t0 : Int)] := by unfold bv; rw [hx0, toNat_byte (by omega)]
  have ow0 := own_one w (.int .u8 (t0 : Int))
  rw [← hbs]
  have HB := Lib.hid (And.intro hb0 (And.intro hbl (And.intro hv0 ow0)))
  clear hb0 hbl hx0 hbs ht0 hv0 ow0
  go_enter Tryz.func9, Tryz.ntmps9
  go_upto_region 2 with (refine wpList_max2 (n : Int) rfl _ _ _ rfl (n : Int) 0 rfl rfl (by split <;> omega) ?_)
  go_upto_block 0 with fail
  clear h7
  go_cut [3] from 14 to 25 (fun s3 wz => ∃ a cap, s3 = .slice a bs.length cap ∧ Wr w wz a cap bs)
  case first =>
    go_wp2
    go_loopg [0, 3] n (fun k s0 s3 wr => ∃ m a cap out, s0 = .int .i64 (m : Nat) ∧ s3 = .slice a out.length cap ∧ m ≤ k ∧ m ≤ n ∧ Wr w wr a cap out ∧ bs = out ++ bkF n m)
    case atStart => exact ⟨n / 128, some ⟨w.heap.size, 0, none⟩, 1, [x0], by go_num, rfl, by omega, by omega, ⟨by simp only [List.length_cons, List.length_nil, List.map_cons, List.map_nil, HB.out.2.2.1]; exact HB.out.2.2.2, (Fr.refl _ _).alloc _, by simp [blk]⟩, HB.out.1⟩
    case round =>
      obtain ⟨m, a, cap, out, rfl, rfl, hk1, hns, h, hall⟩ := hrel
      have H := Lib.hid (And.intro h hall)
      have hol : out.length ≤ 10 := by
        have := congrArg List.length hall
        rw [List.length_append] at this
        have := HB.out.2.1
        omega
      clear h hall
      by_cases h0 : 0 < m
      · obtain ⟨p, rfl⟩ : ∃ p, m = p + 1 := ⟨m - 1, by omega⟩
        have h7 := low7 p
        obtain ⟨t, ht⟩ : ∃ t, t = p % 128 := ⟨_, rfl⟩
        have ht1 : t ≤ 127 := by omega
        rw [← ht] at h7
        have ho := or_mark t ht1
        obtain ⟨x, hx⟩ : ∃ x, x = UInt8.ofNat (t + 128) := ⟨_, rfl⟩
        rw [← hx] at ho
        obtain ⟨S, hS⟩ : ∃ S, S = blk a := ⟨_, rfl⟩
        have HX := Lib.hid (And.intro hx (And.intro hS ht))
        have f0 : Fr [] wr (wr.alloc (.cells #[.int .u8 (x.toNat : Nat)] 5)) := (Fr.refl [] wr).alloc _
        have ownA := ownsRow_fr H.out.1.own f0 (by simp)
        have cA : Cs (wr.alloc (.cells #[.int .u8 (x.toNat : Nat)] 5)) (some ⟨wr.heap.size, 0, none⟩) [bv x] := cs_one _ _ _ 5 (alloc_at wr _)
        have HA := Lib.hid (And.intro ownA (And.intro cA f0))
        clear ownA cA f0 hx hS ht
        go_wp2_with (refine wpList_append sliceU8 rfl _ _ rfl (.slice a out.length cap) out.length (out.map bv) S rfl (by rw [own_blk, HX.out.2.1]) HA.out.1 (some ⟨wr.heap.size, 0, none⟩) 1 1 [bv x] rfl (by decide) (by simp) HA.out.2.1 (by rfl) (bv_one [x]) (by omega) (by unfold maxLen; omega) ?_; intro a2 c2 w2 A1; have HA1 := Lib.hid A1; clear A1)
        go_roundg (p / 128)
        case measure => omega
        case rel =>
          have A1 := HA1.out
          rw [HX.out.2.1] at A1
          refine ⟨p / 128, a2, c2, out ++ [x], by go_num, by rw [List.length_append]; rfl, Nat.le_refl _, by omega, H.out.1.step HA.out.2.2 A1, ?_⟩
          rw [H.out.2, bkF_step h0 hns, Nat.add_sub_cancel, ← HX.out.2.2, HX.out.1, List.append_assoc]
          rfl
      · go_wp2
        go_meet
        obtain rfl : m = 0 := by omega
        have he : bs = out := by rw [H.out.2, bkF_zero, List.append_nil]
        exact ⟨a, cap, by rw [he], by rw [he]; exact H.out.1⟩
  case rest =>
  obtain ⟨a, cap, rfl, h⟩ := hcut
  have hb1 : 1 ≤ bs.length := by rw [HB.out.1]; simp
  have hb10 := HB.out.2.1
  obtain ⟨o1, o2⟩ := h.own
  have o3 := o2.resolve_left (fun hh => by omega)
  obtain ⟨g, cp, cur, e1, e2, e3, e4, e5, e6, e7⟩ := o3
  simp only [Value.slice.injEq] at e1
  obtain ⟨rfl, _, rfl⟩ := e1
  have hrv := rev_any g bs.length cap cur bs wc e3 rfl hb1 (by omega) e4 (fun k hk => getD_byte hk (by rw [← e7, Nat.mul_one]))
  obtain ⟨N, hN⟩ : ∃ N, N = bs.length := ⟨_, rfl⟩
  rw [← hN] at hrv hb1 hb10 e4 ⊢
  have H := Lib.hid (And.intro h.fr (And.intro (h.new g (by simp [blk])) (And.intro hN (And.intro hrv (lt_of_block e3)))))
  clear h o1 o2 e2 e3 e6 e7 hrv hN
  go_wp2_with (first
    | (go_at_call 28; refine H.out.2.2.2.1.mono ?_; rintro e w1 ⟨rfl, f1, A', q1, q2, q3⟩; have H1 := Lib.hid (And.intro f1 (And.intro q1 q3)); clear f1 q1 q2 q3)
    | (go_at_call 29; refine (clip_b _ N cap _ e4 e5).mono ?_; rintro e w2 ⟨rfl, hw⟩; obtain rfl := hw.symm))
  go_ret
  have hf : Fr [] w w1 := H.out.1.step H1.out.1 (fun y hy => .inr (by simp only [List.mem_singleton] at hy; rw [hy]; exact H.out.2.1))
  have hl : bs.reverse.length = N := by rw [List.length_reverse, H.out.2.2.1]
  refine ⟨some ⟨g, 0, none⟩, by rw [hl]; rfl, ⟨.inr ⟨g, 0, rfl, fun j u hj => ?_⟩, by rw [hl]; exact Nat.le_refl _, by rw [hl]; omega, fun e => by cases e⟩, fun y hy => ?_, hf⟩
  · rw [List.getElem?_map] at hj
    have hjl : j < bs.reverse.length := by
      rcases Nat.lt_or_ge j bs.reverse.length with h | h
      · exact h
      · rw [List.getElem?_eq_none h] at hj; cases hj
    have := H1.out.2.2 j (by omega)
    rw [Nat.zero_add, cell_of H1.out.2.1, this]
    rw [List.getElem?_eq_getElem hjl] at hj ⊢
    exact hj
  · simp only [blk, List.mem_singleton] at hy
    rw [hy]
    exact ⟨H.out.2.1, lt_of_block H1.out.2.1⟩
end Go.Proofs.YtkmpfgpfbmeihaaGreatDoor.pk
/-
  SHA-1: the plain law, in the words that a walk of either text meets.
-/
namespace Go.Proofs.YtkmpfgpfbmeihaaGreatDoor.sha
open Go Go.RowKit Go.Proofs.YtkmpfgpfbmeihaaGreatDoor.lib

/-- A word turned to the left. -/
def rol (x : Int) (n : Nat) : Int := bits .or .u32 (x * 2 ^ n % 4294967296) (x / 2 ^ (32 - n))
def add32 (a b : Int) : Int := (a + b) % 4294967296
def not32 (a : Int) : Int := bits .xor .u32 IntKind.u32.max a
def ch (b c d : Int) : Int := bits .or .u32 (bits .and .u32 b c) (bits .and .u32 (not32 b) d)
def par (b c d : Int) : Int := bits .xor .u32 (bits .xor .u32 b c) d
def maj (b c d : Int) : Int := bits .or .u32 (bits .or .u32 (bits .and .u32 b c) (bits .and .u32 b d)) (bits .and .u32 c d)
def fsel (q : Nat) (b c d : Int) : Int := match q with
  | 0 => ch b c d
  | 1 => par b c d
  | 2 => maj b c d
  | _ => par b c d
def ksel (q : Nat) : Int := match q with
  | 0 => 1518500249
  | 1 => 1859775393
  | 2 => 2400959708
  | _ => 3395469782
/-- Four bytes as a word. -/
def word (p : List UInt8) (i : Nat) : Int := (((p[i]?.getD 0).toNat * 16777216 + (p[i + 1]?.getD 0).toNat * 65536 + (p[i + 2]?.getD 0).toNat * 256 + (p[i + 3]?.getD 0).toNat : Nat) : Int)
/-- The first t of the 80 words. -/
def sched (p : List UInt8) : Nat → List Int
  | 0 => []
  | t + 1 => sched p t ++ [if t < 16 then word p (4 * t) else rol (bits .xor .u32 (bits .xor .u32 (bits .xor .u32 ((sched p t)[t - 3]?.getD 0) ((sched p t)[t - 8]?.getD 0)) ((sched p t)[t - 14]?.getD 0)) ((sched p t)[t - 16]?.getD 0)) 1]
theorem sched_length (p : List UInt8) : ∀ t, (sched p t).length = t
  | 0 => rfl
  | t + 1 => by rw [sched, List.length_append, sched_length p t]; rfl
theorem sched_get (p : List UInt8) (i : Nat) : ∀ t, i < t → (sched p t)[i]? = (sched p (i + 1))[i]?
  | 0, h => by omega
  | t + 1, h => by
    by_cases e : i = t
    · rw [e]
    · rw [← sched_get p i t (by omega)]
      conv => lhs; rw [sched]
      rw [List.getElem?_append_left (by rw [sched_length]; omega)]
/-- Five words. -/
structure H5 where
  a : Int
  b : Int
  c : Int
  d : Int
  e : Int
def round (p : List UInt8) (t : Nat) (s : H5) : H5 :=
  ⟨add32 (add32 (add32 (add32 (rol s.a 5) (fsel (t / 20) s.b s.c s.d)) s.e) (ksel (t / 20))) ((sched p 80)[t]?.getD 0), s.a, rol s.b 30, s.c, s.d⟩
def rounds (p : List UInt8) : Nat → H5 → H5
  | 0, s => s
  | t + 1, s => round p t (rounds p t s)
def mixH (h : H5) (p : List UInt8) : H5 :=
  ⟨add32 h.a (rounds p 80 h).a, add32 h.b (rounds p 80 h).b, add32 h.c (rounds p 80 h).c, add32 h.d (rounds p 80 h).d, add32 h.e (rounds p 80 h).e⟩
def H5.vals (h : H5) : Array Value := #[.int .u32 h.a, .int .u32 h.b, .int .u32 h.c, .int .u32 h.d, .int .u32 h.e]
def h0 : H5 := ⟨1732584193, 4023233417, 2562383102, 271733878, 3285377520⟩
/-- Whole blocks, one behind the other; f: how many at most. -/
def blocks : Nat → H5 → List UInt8 → H5
  | 0, h, _ => h
  | f + 1, h, p => if 64 ≤ p.length then blocks f (mixH h p) (p.drop 64) else h
end Go.Proofs.YtkmpfgpfbmeihaaGreatDoor.sha
/-
  More of a slice of bytes that is read; a slice expression with three indexes.
-/
namespace Go.Proofs.YtkmpfgpfbmeihaaGreatDoor.lib
open Go Go.RowKit
theorem rd_frE {S : List Nat} {w w' : World} {a : Option Addr} {cap : Nat} {bs : List UInt8} (h : Rd w a cap bs) (f : Fr S w w') (hn : bs ≠ [] → ∀ x ∈ blk a, x ∉ S) : Rd w' a cap bs := by
  by_cases hb : bs = []
  · exact ⟨.inl (by rw [hb]; rfl), h.le, h.max, h.nil⟩
  · exact h.frS f (hn hb)
theorem rd_lt {w : World} {a : Option Addr} {cap : Nat} {bs : List UInt8} (h : Rd w a cap bs) (hb : bs ≠ []) : ∀ x ∈ blk a, x < w.heap.size := by
  intro x hx
  cases a with
  | none => simp [blk] at hx
  | some a => simp [blk] at hx; rw [hx]; exact h.cs.lt (by simpa using hb) a rfl
theorem run_slice_cut3 {P : Program} {t e : TypeId} {z : Value} {size bytes : Nat} (T : SliceTy P t e z size bytes) (n : Nat) (a : Option Addr) (cap : Nat) (hc : n ≤ cap) (w : World) :
    (Instr.slice t (.slice a n cap) Option.none (some (.int .i64 (n : Nat))) (some (.int .i64 (n : Nat)))).run P w = .ok (.slice a n n) w := by
  obtain ⟨hu, ⟨i, hi', _, hs, _⟩, _, _⟩ := T
  have c1 : (0 : Int) ≤ (n : Int) ∧ (n : Int) ≤ (cap : Int) := by omega
  have ad0 : ∀ x : Addr, x.add 0 = x := fun x => rfl
  cases a <;> simp [run_underlying hu, Instr.slice, Instr.sliceBounds, Instr.sliceBound, asIntOf, c1, hc, sizeOf, typeInfo, hi', hs, Result.andThen, ad0]
theorem cs_owns {w : World} {base : Nat} {e : TypeId} {size n : Nat} {xs : List Value} {ao : Option Addr} {len cap : Nat} (h : w.ownsRow base e size (.slice ao len cap) n xs) : Cs w ao xs := by
  rcases h.2 with ⟨h1, h2⟩ | ⟨g, cap', cur, h1, hb, hg, hn, hm, hs, ht⟩
  · left
    have := h.1
    rw [h2] at this
    exact List.eq_nil_of_length_eq_zero (by simpa using this)
  · simp only [Value.slice.injEq] at h1
    obtain ⟨rfl, rfl, rfl⟩ := h1
    refine .inr ⟨g, 0, rfl, fun j v hv => ?_⟩
    rw [cell_of hg, Nat.zero_add]
    rw [← ht, List.getElem?_take] at hv
    split at hv
    · simpa using hv
    · cases hv
theorem cs_new (w : World) (C : Array Value) (t : TypeId) (fr : Nat × Nat) : Cs (w.alloc (.cells C t fr)) (some ⟨w.heap.size, 0, none⟩) C.toList :=
  .inr ⟨w.heap.size, 0, rfl, fun j v hv => by rw [cell_of (alloc_at w _), Nat.zero_add, ← Array.getElem?_toList]; exact hv⟩
end Go.Proofs.YtkmpfgpfbmeihaaGreatDoor.lib
/-
  A slice of one's own that may begin in the midst of its block (s = s[n:]): read, cut, appended to. Elements of one cell.
-/
namespace Go.Proofs.YtkmpfgpfbmeihaaGreatDoor.lib
open Go Go.RowKit

/-- The slice (a, xs.length, cap) is one's own and reads as xs. -/
def Own (w : World) (e : TypeId) (a : Option Addr) (cap : Nat) (xs : List Value) : Prop :=
  (a = none ∧ cap = 0 ∧ xs = []) ∨ ∃ g o cur, a = some ⟨g, o, none⟩ ∧ w.heap[g]? = some (.cells cur e (0, 0)) ∧ xs.length ≤ cap ∧ cap ≤ maxLen ∧ o + cap ≤ cur.size ∧ (cur.toList.drop o).take xs.length = xs
theorem Own.nil (w : World) (e : TypeId) : Own w e none 0 [] := .inl ⟨rfl, rfl, rfl⟩
theorem Own.shape {w : World} {e : TypeId} {a : Option Addr} {cap : Nat} {xs : List Value} (h : Own w e a cap xs) : xs.length ≤ cap ∧ cap ≤ maxLen ∧ (a = none → cap = 0) := by
  rcases h with ⟨_, rfl, rfl⟩ | ⟨g, o, cur, rfl, _, h1, h2, _⟩
  · exact ⟨Nat.le_refl _, Nat.zero_le _, fun _ => rfl⟩
  · exact ⟨h1, h2, fun h => by cases h⟩
theorem Own.cs {w : World} {e : TypeId} {a : Option Addr} {cap : Nat} {xs : List Value} (h : Own w e a cap xs) : Cs w a xs := by
  rcases h with ⟨_, _, rfl⟩ | ⟨g, o, cur, rfl, hg, h1, h2, h3, h4⟩
  · exact .inl rfl
  · refine .inr ⟨g, o, rfl, fun j v hv => ?_⟩
    rw [cell_of hg, ← Array.getElem?_toList]
    rw [← h4, List.getElem?_take] at hv
    split at hv
    · simpa using hv
    · cases hv
theorem Own.fr {S : List Nat} {w w' : World} {e : TypeId} {a : Option Addr} {cap : Nat} {xs : List Value} (h : Own w e a cap xs) (f : Fr S w w') (hn : ∀ x ∈ blk a, x ∉ S) : Own w' e a cap xs := by
  rcases h with h | ⟨g, o, cur, rfl, hg, r⟩
  · exact .inl h
  · exact .inr ⟨g, o, cur, rfl, f.blk hg (hn g (by simp [blk])), r⟩
theorem Own.lt {w : World} {e : TypeId} {a : Option Addr} {cap : Nat} {xs : List Value} (h : Own w e a cap xs) : ∀ x ∈ blk a, x < w.heap.size := by
  rcases h with ⟨rfl, _⟩ | ⟨g, o, cur, rfl, hg, r⟩
  · simp [blk]
  · intro x hx
    simp [blk] at hx
    rw [hx]
    exact lt_of_block hg
theorem Own.rd {w : World} {e : TypeId} {a : Option Addr} {cap : Nat} {bs : List UInt8} (h : Own w e a cap (bs.map bv)) : Rd w a cap bs := by
  obtain ⟨h1, h2, h3⟩ := h.shape
  exact ⟨h.cs, by simpa using h1, h2, h3⟩
theorem own_of_row {w : World} {e : TypeId} {a : Option Addr} {n cap : Nat} {xs : List Value} (h : w.ownsRow 0 e 1 (.slice a n cap) n xs) : Own w e a cap xs ∧ xs.length = n := by
  have hl : xs.length = n := by simpa using h.1
  refine ⟨?_, hl⟩
  rcases h.2 with ⟨h1, h2⟩ | ⟨g, cap', cur, h1, hb, hg, hn, hm, hs, ht⟩
  · simp only [Value.slice.injEq] at h1
    obtain ⟨rfl, h3, rfl⟩ := h1
    exact .inl ⟨rfl, rfl, List.eq_nil_of_length_eq_zero (by omega)⟩
  · simp only [Value.slice.injEq] at h1
    obtain ⟨rfl, _, rfl⟩ := h1
    refine .inr ⟨g, 0, cur, rfl, hg, by omega, hm, by omega, ?_⟩
    rw [List.drop_zero, hl]
    simpa using ht
theorem Own.take {w : World} {e : TypeId} {a : Option Addr} {cap : Nat} {xs : List Value} (h : Own w e a cap xs) (k : Nat) : Own w e a cap (xs.take k) := by
  rcases h with ⟨h1, h2, rfl⟩ | ⟨g, o, cur, rfl, hg, h1, h2, h3, h4⟩
  · exact .inl ⟨h1, h2, by simp⟩
  · refine .inr ⟨g, o, cur, rfl, hg, by rw [List.length_take]; omega, h2, h3, ?_⟩
    have e1 : xs.take k = ((cur.toList.drop o).take xs.length).take k := by rw [h4]
    rw [e1, List.take_take, List.length_take]
    congr 1
    have := congrArg List.length h4
    rw [List.length_take] at this
    omega
theorem Own.drop {w : World} {e : TypeId} {a : Option Addr} {cap : Nat} {xs : List Value} (h : Own w e a cap xs) (k : Nat) (hk : k ≤ xs.length) : Own w e (cutAtN a cap k 1) (cap - k) (xs.drop k) := by
  rcases h with ⟨rfl, rfl, rfl⟩ | ⟨g, o, cur, rfl, hg, h1, h2, h3, h4⟩
  · obtain rfl : k = 0 := by simpa using hk
    exact .inl ⟨rfl, rfl, rfl⟩
  · unfold cutAtN
    by_cases hc : cap = k
    · rw [if_pos hc]
      have hx : xs.drop k = [] := List.drop_eq_nil_of_le (by omega)
      rw [hx]
      exact .inr ⟨g, o, cur, rfl, hg, by simp, by omega, by omega, rfl⟩
    · rw [if_neg hc]
      refine .inr ⟨g, o + k, cur, by simp only [Option.map_some, addr_add, Nat.mul_one], hg, by rw [List.length_drop]; omega, by omega, by omega, ?_⟩
      have e1 : xs.drop k = ((cur.toList.drop o).take xs.length).drop k := by rw [h4]
      rw [e1, List.drop_take, List.drop_drop, List.length_take, List.length_drop]
      congr 1
      have := congrArg List.length h4
      rw [List.length_take, List.length_drop] at this
      simp only [Array.length_toList] at *
      omega
section
variable {P : Program} {w : World} {t e : TypeId} {z : Value} {bytes : Nat}
/-- What an append leaves. -/
structure OwnMore (w w' : World) (e : TypeId) (a a' : Option Addr) (cap' : Nat) (xs : List Value) : Prop where
  own : Own w' e a' cap' xs
  fr : Fr (blk a) w w'
  at_ : ∀ x ∈ blk a', x ∈ blk a ∨ w.heap.size ≤ x
theorem run_append_mid (T : SliceTy P t e z 1 bytes) (ty : TypeId) (a : Option Addr) (n cap : Nat) (xs : List Value) (hown : Own w e a cap xs) (hn : xs.length = n)
    (ao : Option Addr) (m c : Nat) (news : List Value) (hmc : m ≤ c) (hnone : ao = none → c = 0) (hc : Cs w ao news) (hl : news.length = m) (h1 : ∀ u ∈ news, u.oneCell' = true)
    (hby : (n + m) * bytes ≤ 140737488355328) (h63 : n + m ≤ maxLen) :
    ∃ a' cap' w', (Builtin.append_ #[t, t] ty #[.slice a n cap, .slice ao m c]).run P w = .ok (.slice a' (n + m) cap') w' ∧ OwnMore w w' e a a' cap' (xs ++ news) := by
  subst hn
  rcases hown with ⟨rfl, rfl, rfl⟩ | ⟨g, o, cur, rfl, hg, k1, k2, k3, k4⟩
  · obtain ⟨a', cap', w', hr, A⟩ := run_append (P := P) T ty (.slice none 0 0) 0 [] [] rfl (World.ownsRow_nil w 0 e 1) ao m c news hmc hnone hc (by omega) h1 (by simpa using hby) (by simpa using h63)
    obtain ⟨o1, _⟩ := own_of_row A.own
    exact ⟨a', cap', w', by simpa using hr, o1, A.fr, fun x hx => .inr (Nat.le_of_eq (by have := A.at_ x hx; simp at this; exact this.symm))⟩
  · have hsz : xs.length ≤ cur.size - o := by
      have := congrArg List.length k4
      rw [List.length_take, List.length_drop] at this
      simp only [Array.length_toList] at this
      omega
    by_cases hm0 : m = 0
    · subst hm0
      obtain rfl : news = [] := List.eq_nil_of_length_eq_zero hl
      obtain ⟨hu, ⟨i, hi, hz, hs, hbt⟩, hcz, hp⟩ := T
      refine ⟨some ⟨g, o, none⟩, cap, w, ?_, by rw [List.append_nil]; exact .inr ⟨g, o, cur, rfl, hg, k1, k2, k3, k4⟩, Fr.refl _ _, fun x hx => .inl hx⟩
      cases ao with
      | none =>
        have hc0 := hnone rfl
        simp [Builtin.append_, run_underlying hu, sizeOf, typeInfo, hi, Builtin.lenOf, k1, Builtin.firstCells, storeCells]
      | some b =>
        have hf := run_firstCells_some (P := P) w i.size 0 b 0 c [] (by simp) (by simp)
        simp [Builtin.append_, run_underlying hu, sizeOf, typeInfo, hi, Builtin.lenOf, k1, hf, storeCells]
    · by_cases hroom : xs.length + m ≤ cap
      · obtain ⟨hu, ⟨i, hi, hz, hs, hbt⟩, hcz, hp⟩ := T
        obtain ⟨g', o', rfl, hcn⟩ := hc.at (by omega)
        have hn' := cs_add hcn
        have hf := run_firstCells_some (P := P) w i.size m ⟨g', o', none⟩ m c news (by rw [hs]; omega) hn'
        have hst := run_storeCells_at P g (o + xs.length * i.size) e news 0 cur w hg (by rw [hs]; omega) h1
        simp only [Nat.add_zero] at hst
        refine ⟨some ⟨g, o, none⟩, cap, _, ?_, ⟨.inr ⟨g, o, _, rfl, setRow_heap w g cur (cur.toList.take (o + xs.length * i.size) ++ news ++ cur.toList.drop (o + xs.length * i.size + news.length)).toArray e (0, 0) hg, by rw [List.length_append, hl]; exact hroom, k2, ?_, ?_⟩, ⟨rfl, rfl, rfl, by simp, fun k _ hk => setRow_other w g k _ (fun e => hk (by simp [blk, e]))⟩, fun x hx => .inl hx⟩⟩
        · simp [Builtin.append_, run_underlying hu, sizeOf, typeInfo, hi, Builtin.lenOf, hroom, hf, Addr.add_lit, hst]
        · simp only [List.size_toArray, List.length_append, List.length_take, List.length_drop, Array.length_toList, hs]
          omega
        · simp only [hs, Nat.mul_one]
          rw [List.drop_append_of_le_length (by simp; omega), List.drop_append_of_le_length (by simp; omega), List.drop_take, Nat.add_sub_cancel_left, k4, List.length_append, hl]
          rw [List.take_append_of_le_length (by simp [hl]), List.take_of_length_le (by simp [hl])]
      · have hcs : Cs w (some ⟨g, o, none⟩) xs := Own.cs (.inr ⟨g, o, cur, rfl, hg, k1, k2, k3, k4⟩)
        obtain ⟨cap', w', hr, A⟩ := run_append_full (P := P) T ty (some ⟨g, o, none⟩) xs.length cap xs hcs (by omega) k1 (by simp) ao m c news hc (by omega) (by omega) hby h63
        obtain ⟨o1, _⟩ := own_of_row A.own
        exact ⟨_, cap', w', hr, o1, A.fr.mono (by simp), fun x hx => .inr (Nat.le_of_eq (by have := A.at_ x hx; simp at this; exact this.symm))⟩
theorem wp_append_mid (T : SliceTy P t e z 1 bytes) {o : Oper} {A : Act} {K : Act → World → Prop} {Q : Exit → Act → World → Prop} (s x : Operand)
    (ho : o.op = .call { callee := .builtin .append, args := #[s, x], argTypes := #[t, t] })
    (a : Option Addr) (n cap : Nat) (xs : List Value) (hs : A.eval s = .slice a n cap) (hown : Own w e a cap xs) (hn : xs.length = n)
    (ao : Option Addr) (m c : Nat) (news : List Value) (hx : A.eval x = .slice ao m c) (hmc : m ≤ c) (hnone : ao = none → c = 0) (hc : Cs w ao news) (hl : news.length = m) (h1 : ∀ u ∈ news, u.oneCell' = true)
    (hby : (n + m) * bytes ≤ 140737488355328) (h63 : n + m ≤ maxLen)
    (h : ∀ a' cap' w', OwnMore w w' e a a' cap' (xs ++ news) → K (A.put o.dst (.slice a' (n + m) cap')) w') : o.wp P A w K Q := by
  obtain ⟨a', cap', w', hr, h2⟩ := run_append_mid (P := P) T o.type a n cap xs hown hn ao m c news hmc hnone hc hl h1 hby h63
  unfold Oper.wp execOp
  simp only [ho, resolve, invoke, builtin, Sem.run_bind, Sem.run_pure, Result.andThen_ok, List.map_toArray, List.map_cons, List.map_nil, hs, hx, hr]
  exact h a' cap' w' h2
theorem wpList_append_mid (T : SliceTy P t e z 1 bytes) {ops : Array Oper} {rest : List Oper} {o : Oper} {A : Act} {Q : Exit → Act → World → Prop} (hgd : o.guard = none) (s x : Operand)
    (ho : o.op = .call { callee := .builtin .append, args := #[s, x], argTypes := #[t, t] })
    (a : Option Addr) (n cap : Nat) (xs : List Value) (hs : A.eval s = .slice a n cap) (hown : Own w e a cap xs) (hn : xs.length = n)
    (ao : Option Addr) (m c : Nat) (news : List Value) (hx : A.eval x = .slice ao m c) (hmc : m ≤ c) (hnone : ao = none → c = 0) (hc : Cs w ao news) (hl : news.length = m) (h1 : ∀ u ∈ news, u.oneCell' = true)
    (hby : (n + m) * bytes ≤ 140737488355328) (h63 : n + m ≤ maxLen)
    (h : ∀ a' cap' w', OwnMore w w' e a a' cap' (xs ++ news) → wpList P ops Q rest (A.put o.dst (.slice a' (n + m) cap')) w') : wpList P ops Q (o :: rest) A w :=
  wpList_plain hgd fun _ hK => wp_append_mid T s x ho a n cap xs hs hown hn ao m c news hx hmc hnone hc hl h1 hby h63 fun a' cap' w' h2 => hK _ _ (h a' cap' w' h2)
/-- Two appends, one on the other. -/
theorem OwnMore.two {w1 w2 w3 : World} {a a2 a3 : Option Addr} {c2 c3 : Nat} {xs ys : List Value} (A : OwnMore w1 w2 e a a2 c2 xs) (B : OwnMore w2 w3 e a2 a3 c3 ys) : OwnMore w1 w3 e a a3 c3 ys := by
  refine ⟨B.own, A.fr.step B.fr fun y hy => A.at_ y hy, fun y hy => ?_⟩
  rcases B.at_ y hy with h | h
  · exact A.at_ y h
  · exact .inr (Nat.le_trans A.fr.size h)
end
end Go.Proofs.YtkmpfgpfbmeihaaGreatDoor.lib
/-
  sum: Adler-32.
-/
namespace Go.Proofs.YtkmpfgpfbmeihaaGreatDoor.sums
open Go Go.RowKit Go.Proofs.YtkmpfgpfbmeihaaGreatDoor.lib Go.Proofs.YtkmpfgpfbmeihaaGreatDoor.bm

theorem sliceU8 : SliceTy Tryz.prog 23 5 (.int .u8 0) 1 1 := SliceTy.of Tryz.underlying23 (by kernel_rfl) rfl (by decide)
theorem bv_one (bs : List UInt8) : ∀ u ∈ bs.map bv, u.oneCell' = true := by
  intro u hu
  obtain ⟨b, _, rfl⟩ := List.mem_map.1 hu
  rfl
/-- Both parts of an Adler sum, from where it stands. -/
def ad : Nat → Nat → List UInt8 → Nat × Nat
  | a, b, [] => (a, b)
  | a, b, c :: t => ad ((a + c.toNat) % 65521) ((b + (a + c.toNat) % 65521) % 65521) t
theorem ad_lt : ∀ (a b : Nat) (l : List UInt8), a < 65521 → b < 65521 → (ad a b l).1 < 65521 ∧ (ad a b l).2 < 65521
  | _, _, [], ha, hb => ⟨ha, hb⟩
  | a, b, c :: t, _, _ => ad_lt _ _ t (Nat.mod_lt _ (by decide)) (Nat.mod_lt _ (by decide))
def adler (l : List UInt8) : Nat := (ad 1 0 l).2 * 65536 + (ad 1 0 l).1
theorem adler_lt (l : List UInt8) : adler l < 4294967296 := by
  have := ad_lt 1 0 l (by decide) (by decide)
  unfold adler
  omega
/-- A sum's block: which kind it is, and an Adler sum's parts. -/
def Ad (w : World) (g a b : Nat) : Prop :=
  ∃ C, w.heap[g]? = some (.cells C 188 (0, 0)) ∧ C.size = 267 ∧ C[0]? = some (.int .i64 3) ∧ C[265]? = some (.int .u32 a) ∧ C[266]? = some (.int .u32 b) ∧ a < 65521 ∧ b < 65521
set_option maxRecDepth 100000 in
set_option maxHeartbeats 1000000 in
theorem begun_three (w : World) : Calls Tryz.prog 106 #[.int .i64 3] w fun e w' => e = .returned (.pointer (some ⟨w.heap.size, 0, none⟩)) ∧ Ad w' w.heap.size 1 0 ∧ Fr [] w w' := by
  go_enter Tryz.func106, Tryz.ntmps106
  go_wp2
  go_ret
  exact ⟨rfl, ⟨_, alloc_at w _, rfl, rfl, rfl, rfl, by decide, by decide⟩, (Fr.refl [] w).alloc _⟩
set_option maxRecDepth 100000 in
set_option maxHeartbeats 1000000 in
theorem write_adler (g a0 b0 cap : Nat) (ao : Option Addr) (bs : List UInt8) (w : World) (h : Ad w g a0 b0) (hr : Rd w ao cap bs) (hng : bs ≠ [] → ∀ x ∈ blk ao, x ≠ g) :
    Calls Tryz.prog 94 #[.pointer (some ⟨g, 0, none⟩), .slice ao bs.length cap] w fun e w' => e = .returned (.tuple #[]) ∧ Fr [g] w w' ∧ Ad w' g (ad a0 b0 bs).1 (ad a0 b0 bs).2 := by
  obtain ⟨C, hC, hsz, hc0, _⟩ := h
  have c0 := cell_of hC 0
  rw [hc0] at c0
  obtain ⟨L, hL⟩ : ∃ L, L = bs.length := ⟨_, rfl⟩
  have hle := hr.le
  have hmax := hr.max
  unfold maxLen at hmax
  rw [← hL] at hle ⊢
  have H := Lib.hid (And.intro (show Ad w g a0 b0 from ⟨C, hC, hsz, hc0, ‹_›⟩) (And.intro hr (And.intro hng hL)))
  clear hr hng hL hC hsz hc0
  go_enter Tryz.func94, Tryz.ntmps94
  go_upto_block 5 with fail
  clear c0
  go_wp2
  go_loopg [7, 93] L (fun k s7 s93 wr => ∃ i a b : Nat, s93 = .int .i64 (i : Nat) ∧ i + k = L ∧ Ad wr g a b ∧ Fr [g] w wr ∧ ad a b (bs.drop i) = ad a0 b0 bs)
  case atStart => exact ⟨0, a0, b0, rfl, by omega, H.out.1, Fr.refl _ _, rfl⟩
  case round =>
    obtain ⟨i, a, b, rfl, hik, hA, hf, had⟩ := hrel
    by_cases hi : i < L
    · obtain ⟨k, rfl⟩ : ∃ k, gk = k + 1 := ⟨gk - 1, by omega⟩
      have hib : i < bs.length := by rw [← H.out.2.2.2]; exact hi
      have hbn : bs ≠ [] := by intro e; rw [e] at hib; simp at hib
      have hrr := rd_frE H.out.2.1 hf (fun hb x hx hm => H.out.2.2.1 hb x hx (by simpa using hm))
      obtain ⟨g1, o1, rfl, cc⟩ := hrr.at hib
      have hdr : bs.drop i = bs[i] :: bs.drop (i + 1) := List.drop_eq_getElem_cons hib
      rw [hdr, ad] at had
      have hc256 := UInt8.toNat_lt bs[i]
      generalize bs[i].toNat = c at *
      obtain ⟨C, hC, hsz, hc0, ha1, hb1, hla, hlb⟩ := hA
      have ca := cell_of hC 265
      rw [ha1] at ca
      have za := frozen_of hC 265
      obtain ⟨a2, ha2⟩ : ∃ a2, a2 = (a + c) % 65521 := ⟨_, rfl⟩
      obtain ⟨b2, hb2⟩ : ∃ b2, b2 = (b + a2) % 65521 := ⟨_, rfl⟩
      rw [← ha2, ← hb2] at had
      have e1 : ((a : Int) + (c : Int)) % 65521 = (a2 : Int) := by omega
      have e2 : ((b : Int) + (a2 : Int)) % 65521 = (b2 : Int) := by omega
      have hla2 : a2 < 65521 := by omega
      have hlb2 : b2 < 65521 := by omega
      have HC := Lib.hid (And.intro hC (And.intro hsz (And.intro hc0 (And.intro hb1 (And.intro hf had)))))
      clear hC hsz hc0 hb1 hf had ha1 ha2 hb2 hdr hrr hib
      go_upto_region 18 with fail
      have f2 : Fr [g] wr (wr.setCell ⟨g, 265, none⟩ (.int .u32 (a2 : Nat))) := (Fr.refl [g] wr).setCell (by simp) _
      have hC2 := setCell_of (o := 265) HC.out.1 (.int .u32 (a2 : Nat))
      generalize wr.setCell ⟨g, 265, none⟩ (.int .u32 (a2 : Nat)) = w2 at *
      have ca2 := cell_of hC2 265
      have cb2 := cell_of hC2 266
      have zb := frozen_of hC2 266
      rw [Array.getElem?_setIfInBounds_self_of_lt (by rw [HC.out.2.1]; decide)] at ca2
      rw [Array.getElem?_setIfInBounds_ne (by decide), HC.out.2.2.2.1] at cb2
      have HC2 := Lib.hid (And.intro hC2 f2)
      clear ca za cc hC2 f2
      refine region_tail 13 (by kernel_rfl) (by kernel_rfl) ?_
      simp only [List.take_succ_cons, List.take_zero, List.drop_succ_cons, List.drop_zero]
      repeat (go_big_quiet_step (fail))
      refine wpQuiet_nil ?_
      go_wp2
      go_roundg k
      case measure => omega
      case rel =>
        have f3 : Fr [g] w2 w2.drew := Fr.drew1 [g] w2
        have hC3 := f3.block g (lt_of_block HC2.out.1)
        have hC4 : (w2.drew).heap[g]? = _ := HC2.out.1
        have hC5 := setCell_of (o := 266) hC4 (.int .u32 (b2 : Nat))
        refine ⟨i + 1, a2, b2, by go_num, by omega, ⟨_, hC5, by simp [HC.out.2.1], ?_, ?_, ?_, hla2, hlb2⟩, ((HC.out.2.2.2.2.1.trans HC2.out.2).trans f3).setCell (by simp) _, HC.out.2.2.2.2.2⟩
        · rw [Array.getElem?_setIfInBounds_ne (by decide), Array.getElem?_setIfInBounds_ne (by decide), HC.out.2.2.1]
        · rw [Array.getElem?_setIfInBounds_ne (by decide), Array.getElem?_setIfInBounds_self_of_lt (by rw [HC.out.2.1]; decide)]
        · rw [Array.getElem?_setIfInBounds_self_of_lt (by rw [Array.size_setIfInBounds, HC.out.2.1]; decide)]
    · obtain rfl : gk = 0 := by omega
      obtain rfl : i = L := by omega
      have hd : bs.drop i = [] := List.drop_eq_nil_of_le (by rw [← H.out.2.2.2]; exact Nat.le_refl _)
      rw [hd, ad] at had
      have HA := Lib.hid (And.intro hA (And.intro hf had))
      clear hA hf had hd
      go_wp2
      go_end0
      exact ⟨rfl, HA.out.2.1, by rw [← HA.out.2.2]; exact HA.out.1⟩
end Go.Proofs.YtkmpfgpfbmeihaaGreatDoor.sums
/-
  sum.four, number; the whole Adler sum.
-/
namespace Go.Proofs.YtkmpfgpfbmeihaaGreatDoor.sums
open Go Go.RowKit Go.Proofs.YtkmpfgpfbmeihaaGreatDoor.lib Go.Proofs.YtkmpfgpfbmeihaaGreatDoor.bm

/-- A number of 32 bits as four bytes, the highest first. -/
def be4 (x : Nat) : List UInt8 := [UInt8.ofNat (x / 16777216), UInt8.ofNat (x / 65536), UInt8.ofNat (x / 256), UInt8.ofNat x]
theorem be4_length (x : Nat) : (be4 x).length = 4 := rfl
theorem be4_map (x : Nat) (h : x < 4294967296) : (be4 x).map bv = [.int .u8 ((x : Int) / 16777216), .int .u8 ((x : Int) / 65536 % 256), .int .u8 ((x : Int) / 256 % 256), .int .u8 ((x : Int) % 256)] := by
  simp only [be4, List.map_cons, List.map_nil, bv, UInt8.toNat_ofNat']
  refine List.cons_eq_cons.2 ⟨int_eq (by omega), List.cons_eq_cons.2 ⟨int_eq (by omega), List.cons_eq_cons.2 ⟨int_eq (by omega), List.cons_eq_cons.2 ⟨int_eq (by omega), rfl⟩⟩⟩⟩
theorem be4_num (x : Nat) (h : x < 4294967296) (b : List UInt8) (hb : b = be4 x) : (b[0]?.getD 0).toNat * 16777216 + (b[1]?.getD 0).toNat * 65536 + (b[2]?.getD 0).toNat * 256 + (b[3]?.getD 0).toNat = x := by
  subst hb
  show (UInt8.ofNat (x / 16777216)).toNat * 16777216 + (UInt8.ofNat (x / 65536)).toNat * 65536 + (UInt8.ofNat (x / 256)).toNat * 256 + (UInt8.ofNat x).toNat = x
  simp only [UInt8.toNat_ofNat']
  omega
def Foured (w : World) (ao : Option Addr) (bs : List UInt8) (x : Nat) (e : Ending) (w' : World) : Prop :=
  ∃ a c, e = .returned (.slice a (bs.length + 4) c) ∧ OwnMore w w' 5 ao a c ((bs ++ be4 x).map bv)
set_option maxRecDepth 100000 in
set_option maxHeartbeats 1000000 in
theorem four_any (ao : Option Addr) (cap : Nat) (bs : List UInt8) (x : Nat) (w : World) (hx : x < 4294967296) (h : Own w 5 ao cap (bs.map bv)) (hm : bs.length ≤ 140737488351232) :
    Calls Tryz.prog 119 #[.slice ao bs.length cap, .int .u32 x] w (Foured w ao bs x) := by
  obtain ⟨L, hL⟩ : ∃ L, L = bs.length := ⟨_, rfl⟩
  obtain ⟨o1, o2, o3⟩ := h.shape
  rw [List.length_map, ← hL] at o1
  rw [← hL] at hm ⊢
  have hb4 := be4_map x hx
  have H := Lib.hid (And.intro h (And.intro hL hb4))
  have f1 : Fr [] w (w.alloc (.cells #[.int .u8 ((x : Int) / 16777216), .int .u8 ((x : Int) / 65536 % 256), .int .u8 ((x : Int) / 256 % 256), .int .u8 ((x : Int) % 256)] 5)) := (Fr.refl [] w).alloc _
  have HF := Lib.hid f1
  clear h hL hb4 f1
  go_enter Tryz.func119, Tryz.ntmps119
  go_wp2_with (refine wpList_append_mid sliceU8 rfl _ _ rfl ao L cap (bs.map bv) rfl (H.out.1.fr HF.out (by simp)) (by rw [List.length_map]; exact H.out.2.1.symm) (some ⟨w.heap.size, 0, none⟩) 4 4 ((be4 x).map bv) rfl (by omega) (by simp) (by rw [H.out.2.2]; exact cs_new w _ _ _) rfl (bv_one _) (by omega) (by unfold maxLen; omega) ?_; intro a1 c1 w1 A1; have H1 := Lib.hid A1; clear A1)
  go_ret
  unfold Foured
  rw [← H.out.2.1, List.map_append]
  refine ⟨a1, c1, rfl, H1.out.own, HF.out.mono (by simp) |>.step H1.out.fr (fun y hy => .inl hy), fun y hy => ?_⟩
  rcases H1.out.at_ y hy with k | k
  · exact .inl k
  · right
    rw [World.size_alloc] at k
    omega
theorem or_hi (n v k : Nat) (hv : v < 2 ^ k) (hk : k ≤ 32) (hn : n < 4294967296) (hd : n % 2 ^ k = 0) : bits .or .u32 (n : Int) (v : Int) = ((n + v : Nat) : Int) := by
  have h1 := pow_le k 32 hk
  rw [p32] at h1
  have e : n = n / 2 ^ k * 2 ^ k := by
    have := Nat.div_add_mod n (2 ^ k)
    rw [hd, Nat.add_zero, Nat.mul_comm] at this
    exact this.symm
  rw [u32_or_nat n v hn (by omega)]
  conv => lhs; rw [e, Nat.or_comm, or_add v _ k hv, Nat.mul_comm (2 ^ k), ← e, Nat.add_comm]
set_option maxRecDepth 100000 in
set_option maxHeartbeats 1000000 in
theorem number_four (a : Option Addr) (cap : Nat) (y0 y1 y2 y3 : UInt8) (w : World) (h : Rd w a cap [y0, y1, y2, y3]) :
    Calls Tryz.prog 111 #[.slice a 4 cap] w fun e w' => e = .returned (.int .u32 (y0.toNat * 16777216 + y1.toNat * 65536 + y2.toNat * 256 + y3.toNat : Nat)) ∧ Fr [] w w' := by
  obtain ⟨g, o, rfl, c0⟩ := h.at (i := 0) (by simp)
  obtain ⟨g1, o1, e1, c1⟩ := h.at (i := 1) (by simp)
  obtain ⟨g2, o2, e2, c2⟩ := h.at (i := 2) (by simp)
  obtain ⟨g3, o3, e3, c3⟩ := h.at (i := 3) (by simp)
  simp only [Option.some.injEq, Addr.mk.injEq, and_true] at e1 e2 e3
  obtain ⟨rfl, rfl⟩ := e1
  obtain ⟨rfl, rfl⟩ := e2
  obtain ⟨rfl, rfl⟩ := e3
  have hle := h.le
  simp only [List.length_cons, List.length_nil] at hle
  have l0 := UInt8.toNat_lt y0
  have l1 := UInt8.toNat_lt y1
  have l2 := UInt8.toNat_lt y2
  have l3 := UInt8.toNat_lt y3
  simp only [Nat.add_zero, List.getElem_cons_zero, List.getElem_cons_succ] at c0 c1 c2 c3
  generalize y0.toNat = x0 at *
  generalize y1.toNat = x1 at *
  generalize y2.toNat = x2 at *
  generalize y3.toNat = x3 at *
  obtain ⟨z1, hz1⟩ : ∃ z, z = x0 * 16777216 + x1 * 65536 := ⟨_, rfl⟩
  obtain ⟨z2, hz2⟩ : ∃ z, z = z1 + x2 * 256 := ⟨_, rfl⟩
  obtain ⟨z3, hz3⟩ : ∃ z, z = z2 + x3 := ⟨_, rfl⟩
  have r1 : bits .or .u32 ((x0 : Int) * 16777216) ((x1 : Int) * 65536) = (z1 : Int) := by
    have := or_hi (x0 * 16777216) (x1 * 65536) 24 (by omega) (by decide) (by omega) (by omega)
    rw [← hz1] at this
    simpa using this
  have r2 : bits .or .u32 (z1 : Int) ((x2 : Int) * 256) = (z2 : Int) := by
    have := or_hi z1 (x2 * 256) 16 (by omega) (by decide) (by omega) (by omega)
    rw [← hz2] at this
    simpa using this
  have r3 : bits .or .u32 (z2 : Int) (x3 : Int) = (z3 : Int) := by
    have := or_hi z2 x3 8 (by omega) (by decide) (by omega) (by omega)
    rw [← hz3] at this
    exact this
  have HZ : Hid (x0 * 16777216 + x1 * 65536 + x2 * 256 + x3 = z3) := Lib.hid (by omega)
  clear hz1 hz2 hz3 h
  go_enter Tryz.func111, Tryz.ntmps111
  go_wp2
  go_quiet (fail)
  go_wp2
  go_ret
  exact ⟨by rw [HZ.out]; rfl, Fr.drewN _ _ _⟩
theorem number_any (a : Option Addr) (cap x : Nat) (w : World) (hx : x < 4294967296) (h : Rd w a cap (be4 x)) :
    Calls Tryz.prog 111 #[.slice a 4 cap] w fun e w' => e = .returned (.int .u32 x) ∧ Fr [] w w' := by
  have h1 := number_four a cap _ _ _ _ w h
  have h2 := be4_num x hx _ rfl
  have e : (UInt8.ofNat (x / 16777216)).toNat * 16777216 + (UInt8.ofNat (x / 65536)).toNat * 65536 + (UInt8.ofNat (x / 256)).toNat * 256 + (UInt8.ofNat x).toNat = x := h2
  rw [e] at h1
  exact h1
set_option maxRecDepth 100000 in
set_option maxHeartbeats 1000000 in
theorem sum_adler (g a b : Nat) (w : World) (h : Ad w g a b) : Calls Tryz.prog 96 #[.pointer (some ⟨g, 0, none⟩)] w fun e w' => (∃ ao c, e = .returned (.slice ao 4 c) ∧ Rd w' ao c (be4 (b * 65536 + a))) ∧ Fr [] w w' := by
  obtain ⟨C, hC, hsz, hc0, ha, hb, hla, hlb⟩ := h
  have c0 := cell_of hC 0
  have c1 := cell_of hC 265
  have c2 := cell_of hC 266
  rw [hc0] at c0
  rw [ha] at c1
  rw [hb] at c2
  obtain ⟨z, hz⟩ : ∃ z, z = b * 65536 + a := ⟨_, rfl⟩
  have r1 : bits .or .u32 ((b : Int) * 65536) (a : Int) = (z : Int) := by
    have := or_hi (b * 65536) a 16 (by omega) (by decide) (by omega) (by omega)
    rw [← hz] at this
    simpa using this
  have hzl : z < 4294967296 := by omega
  rw [← hz]
  have HC := Lib.hid hC
  clear hz hC hsz hc0 ha hb
  go_enter Tryz.func96, Tryz.ntmps96
  go_upto_region 5 with fail
  have hgl := lt_of_block HC.out
  obtain ⟨B, hB⟩ : ∃ B, B = w.heap.size := ⟨_, rfl⟩
  have hgB : g ∉ [B] := by simp; omega
  have s1 : ∀ x, (sup [B] w.drew x).cell? ⟨g, 265, none⟩ = some (.int .u32 (a : Nat)) := fun x => (sup_fr [B] w.drew x).cell (show w.drew.cell? _ = _ from c1) hgB
  have s2 : ∀ x, (sup [B] w.drew x).cell? ⟨g, 266, none⟩ = some (.int .u32 (b : Nat)) := fun x => (sup_fr [B] w.drew x).cell (show w.drew.cell? _ = _ from c2) hgB
  have hmk : ∀ w : World, (Instr.makeSlice 23 (.int .i64 0) (.int .i64 4)).run Tryz.prog w = .ok (.slice (some ⟨w.heap.size, 0, none⟩) 0 4) (w.alloc (.cells #[.int .u8 0, .int .u8 0, .int .u8 0, .int .u8 0] 5)) := fun _ => by kernel_rfl
  have hfo : ∀ w, Own w 5 (some ⟨B, 0, none⟩) 4 (([] : List UInt8).map bv) → Calls Tryz.prog 119 #[.slice (some ⟨B, 0, none⟩) 0 4, .int .u32 z] w (Foured w (some ⟨B, 0, none⟩) [] z) := fun w h => four_any (some ⟨B, 0, none⟩) 4 [] z w hzl h (by simp)
  unfold Foured at hfo
  simp only [List.length_nil, Nat.zero_add, List.nil_append] at hfo
  have HB := Lib.hid (And.intro hB hfo)
  clear hB hfo c0 c1 c2
  refine region_mix 13 [(false, 1), (false, 2), (false, 3), (false, 4), (false, 5), (false, 6), (false, 7), (false, 8), (false, 9), (false, 10), (true, 0), (true, 11), (false, 12)] [B] (by kernel_rfl) (by kernel_rfl) (fun _ _ d _ _ h => by cases d <;> exact h) ?_
  simp only [List.map_cons, List.map_nil, List.getD_cons_zero, List.getD_cons_succ, List.drop_succ_cons, List.drop_zero, List.drop_nil]
  refine mix_seg 10 rfl ?_
  simp only [List.take_succ_cons, List.take_zero, List.drop_succ_cons, List.drop_zero, List.map_cons, List.map_nil]
  repeat (go_big_quiet_step (fail))
  refine wpQuiet_nil ?_
  refine mix_eff rfl ?_
  intro X hX
  have hBd : w.drew.heap.size = B := HB.out.1.symm
  go_wp2
  have f1 : Fr [B] w.drew ((w.alloc (.cells #[.int .u8 0, .int .u8 0, .int .u8 0, .int .u8 0] 5)).drew) := (Fr.refl [B] w.drew).alloc (.cells #[.int .u8 0, .int .u8 0, .int .u8 0, .int .u8 0] 5)
  have hown : Own ((w.alloc (.cells #[.int .u8 0, .int .u8 0, .int .u8 0, .int .u8 0] 5)).drew) 5 (some ⟨B, 0, none⟩) 4 (([] : List UInt8).map bv) := .inr ⟨B, 0, _, rfl, by rw [HB.out.1]; exact alloc_at w _, Nat.zero_le _, by decide, Nat.le_refl _, rfl⟩
  refine hX.out _ _ f1 ?_
  clear hX X s1 s2 hmk
  generalize (w.alloc (.cells #[.int .u8 0, .int .u8 0, .int .u8 0, .int .u8 0] 5)).drew = w1 at *
  have H1 := Lib.hid (And.intro (HB.out.2 w1 hown) f1)
  clear hown f1 hBd
  refine mix_eff rfl ?_
  intro X hX
  go_wp2_with (go_at_call 119; refine H1.out.1.mono ?_; rintro e w2 ⟨a2, c2, rfl, A2⟩)
  refine hX.out _ _ A2.fr ?_
  clear hX X
  have H2 := Lib.hid A2
  clear A2
  refine mix_seg 1 rfl ?_
  simp only [List.take_succ_cons, List.take_zero, List.drop_succ_cons, List.drop_zero, List.map_cons, List.map_nil]
  repeat (go_big_quiet_step (fail))
  refine wpQuiet_nil ?_
  refine mix_nil ?_
  go_wp2
  go_ret
  have hr : Rd w2 a2 c2 (be4 z) := H2.out.own.rd
  refine ⟨⟨a2, c2, rfl, hr.fr (by first | exact Fr.refl _ _ | exact Fr.drewN _ _ _)⟩, ?_⟩
  have f2 : Fr [] w w.drew := Fr.drew1 [] w
  exact ((f2.step H1.out.2 (fun y hy => .inr (by simp at hy; rw [hy, HB.out.1]; exact Nat.le_refl _))).step H2.out.fr (fun y hy => .inr (by simp [blk] at hy; rw [hy, HB.out.1]; exact Nat.le_refl _)))
set_option maxRecDepth 100000 in
set_option maxHeartbeats 1000000 in
theorem whole_adler (a : Option Addr) (cap : Nat) (bs : List UInt8) (w : World) (h : Rd w a cap bs) : Calls Tryz.prog 69 #[.int .i64 3, .slice a bs.length cap] w fun e w' => (∃ ao c, e = .returned (.slice ao 4 c) ∧ Rd w' ao c (be4 (adler bs))) ∧ Fr [] w w' := by
  have H := Lib.hid h
  clear h
  go_enter Tryz.func69, Tryz.ntmps69
  go_upto_region 2 with (go_at_call 106; refine (begun_three _).mono ?_; rintro e w1 ⟨rfl, A1, f1⟩)
  have hw := write_adler w.heap.size 1 0 cap a bs w1 A1 (H.out.fr f1) (fun hb x hx => by have := rd_lt H.out hb x hx; omega)
  have H1 := Lib.hid (And.intro hw f1)
  clear hw f1 A1
  go_upto_region 3 with (go_at_call 94; refine H1.out.1.mono ?_; rintro e w2 ⟨rfl, f2, A2⟩)
  have hs := sum_adler _ _ _ w2 A2
  have H2 := Lib.hid (And.intro hs f2)
  clear hs f2 A2
  go_wp2_with (go_at_call 96; refine H2.out.1.mono ?_; rintro e w3 ⟨⟨a3, c3, rfl, r3⟩, f3⟩)
  go_ret
  exact ⟨⟨a3, c3, rfl, r3⟩, (H1.out.2.step H2.out.2 (fun y hy => .inr (by simp at hy; rw [hy]; exact Nat.le_refl _))).trans f3⟩
set_option maxRecDepth 100000 in
theorem adler_any (a : Option Addr) (cap : Nat) (bs : List UInt8) (w : World) (h : Rd w a cap bs) : Calls Tryz.prog 104 #[.slice a bs.length cap] w fun e w' => e = .returned (.int .u32 (adler bs)) ∧ Fr [] w w' := by
  have hw := whole_adler a cap bs w h
  have hn := fun a cap w h => number_any a cap (adler bs) w (adler_lt bs) h
  have H := Lib.hid (And.intro hw hn)
  clear hw hn h
  go_enter Tryz.func104, Tryz.ntmps104
  go_wp2_with (first | (go_at_call 69; refine H.out.1.mono ?_; rintro e w1 ⟨⟨a1, c1, rfl, r1⟩, f1⟩; have H1 := Lib.hid (And.intro r1 f1); clear r1 f1) | (go_at_call 111; refine (H.out.2 a1 c1 _ H1.out.1).mono ?_; rintro e w2 ⟨rfl, f2⟩))
  go_ret
  exact ⟨rfl, H1.out.2.trans f2⟩
end Go.Proofs.YtkmpfgpfbmeihaaGreatDoor.sums
/-
  sum.mix and what it calls.
-/
namespace Go.Proofs.YtkmpfgpfbmeihaaGreatDoor.sha
open Go Go.RowKit Go.Proofs.YtkmpfgpfbmeihaaGreatDoor.lib

set_option maxRecDepth 100000 in
theorem rotate_any (x : Int) (n : Nat) (w : World) (hn : n = 1 ∨ n = 5 ∨ n = 30) :
    Calls Tryz.prog 147 #[.int .u32 x, .int .i64 n] w fun e w' => e = .returned (.int .u32 (rol x n)) ∧ w' = w := by
  have h31 : bits .and .u64 (n : Int) 31 = (n : Int) := by rcases hn with rfl | rfl | rfl <;> decide +kernel
  have h0 : 1 ≤ n ∧ n ≤ 30 := by omega
  clear hn
  go_enter Tryz.func147, Tryz.ntmps147
  go_wp2
  go_ret
  exact ⟨rfl, rfl⟩
set_option maxRecDepth 100000 in
theorem par_any (b c d : Int) (w : World) : Calls Tryz.prog 178 #[.int .u32 b, .int .u32 c, .int .u32 d] w fun e w' => e = .returned (.int .u32 (par b c d)) ∧ w' = w := by
  go_enter Tryz.func178, Tryz.ntmps178
  go_wp2
  go_ret
  exact ⟨rfl, rfl⟩
set_option maxRecDepth 100000 in
theorem ch_any (b c d : Int) (w : World) : Calls Tryz.prog 179 #[.int .u32 b, .int .u32 c, .int .u32 d] w fun e w' => e = .returned (.int .u32 (ch b c d)) ∧ w' = w := by
  go_enter Tryz.func179, Tryz.ntmps179
  go_wp2
  go_ret
  exact ⟨rfl, rfl⟩
set_option maxRecDepth 100000 in
theorem maj_any (b c d : Int) (w : World) : Calls Tryz.prog 180 #[.int .u32 b, .int .u32 c, .int .u32 d] w fun e w' => e = .returned (.int .u32 (maj b c d)) ∧ w' = w := by
  go_enter Tryz.func180, Tryz.ntmps180
  go_wp2
  go_ret
  exact ⟨rfl, rfl⟩
def fns : Array Value := #[.func (.func 179) #[] #[], .func (.func 178) #[] #[], .func (.func 180) #[] #[], .func (.func 178) #[] #[]]
def kns : Array Value := #[.int .u32 1518500249, .int .u32 1859775393, .int .u32 2400959708, .int .u32 3395469782]
set_option maxRecDepth 100000 in
theorem steps_any (w : World) : Calls Tryz.prog 148 #[] w fun e w' => e = .returned (.tuple #[.agg fns, .agg kns]) ∧ Fr [] w w' := by
  go_enter Tryz.func148, Tryz.ntmps148
  go_wp2
  refine bodyPost_ret (v := .tuple #[.agg fns, .agg kns]) (by simp [results, Tryz.results148, go_sem, fns, kns]) rfl ?_
  exact ⟨rfl, ((Fr.refl [] w).alloc _).alloc _⟩
end Go.Proofs.YtkmpfgpfbmeihaaGreatDoor.sha
/-
  sum.mix.
-/
namespace Go.Proofs.YtkmpfgpfbmeihaaGreatDoor.sha
open Go Go.RowKit Go.Proofs.YtkmpfgpfbmeihaaGreatDoor.lib Go.Proofs.YtkmpfgpfbmeihaaGreatDoor.bm

/-- The t-th of the 80 words. -/
def sv (p : List UInt8) (j : Nat) : Int := (sched p 80)[j]?.getD 0
theorem sv_at (p : List UInt8) (j t : Nat) (h : j < t) (ht : t ≤ 80) : (sched p t)[j]?.getD 0 = sv p j := by
  unfold sv
  rw [sched_get p j t h, sched_get p j 80 (by omega)]
theorem sv_lo (p : List UInt8) (j : Nat) (h : j < 16) : sv p j = word p (4 * j) := by
  rw [← sv_at p j (j + 1) (by omega) (by omega), sched, List.getElem?_append_right (by rw [sched_length]; exact Nat.le_refl _), sched_length, Nat.sub_self]
  simp [h]
theorem sv_hi (p : List UInt8) (j : Nat) (h : 16 ≤ j) (h2 : j < 80) : sv p j = rol (bits .xor .u32 (bits .xor .u32 (bits .xor .u32 (sv p (j - 3)) (sv p (j - 8))) (sv p (j - 14))) (sv p (j - 16))) 1 := by
  rw [← sv_at p j (j + 1) (by omega) (by omega), sched, List.getElem?_append_right (by rw [sched_length]; exact Nat.le_refl _), sched_length, Nat.sub_self]
  rw [sv_at p (j - 3) j (by omega) (by omega), sv_at p (j - 8) j (by omega) (by omega), sv_at p (j - 14) j (by omega) (by omega), sv_at p (j - 16) j (by omega) (by omega)]
  simp [show ¬ j < 16 from by omega]
/-- What mix has in memory: the state that came in, the result's place, and the first t words. -/
structure Mx (w wr : World) (h : H5) (p : List UInt8) (B t : Nat) : Prop where
  fr : Fr [] w wr
  hb : wr.heap[B]? = some (.cells h.vals 185 (0, 0))
  rb : wr.heap[B + 1]? = some (.cells #[.int .u32 0, .int .u32 0, .int .u32 0, .int .u32 0, .int .u32 0] 185 (0, 0))
  wb : ∃ A, wr.heap[B + 2]? = some (.cells A 228 (0, 0)) ∧ A.size = 80 ∧ ∀ j, j < t → A[j]? = some (.int .u32 (sv p j))
  lo : w.heap.size = B
theorem Mx.store {w wr wd : World} {h : H5} {p : List UInt8} {B t : Nat} (m : Mx w wr h p B t) (f : Fr [] wr wd) (ht : t < 80) (v : Int) (hv : v = sv p t) : Mx w (wd.setCell ⟨B + 2, t, none⟩ (.int .u32 v)) h p B (t + 1) := by
  obtain ⟨A, hA, hAs, hAt⟩ := m.wb
  have f2 : Fr [B + 2] wd (wd.setCell ⟨B + 2, t, none⟩ (.int .u32 v)) := (Fr.refl [B + 2] wd).setCell (by simp) _
  refine ⟨(m.fr.trans f).step f2 fun y hy => .inr (by simp at hy; have := m.lo; omega), f2.blk (f.blk m.hb (by simp)) (by simp), f2.blk (f.blk m.rb (by simp)) (by simp), ⟨_, setCell_of (f.blk hA (by simp)) _, by simp [hAs], fun j hj => ?_⟩, m.lo⟩
  by_cases e : j = t
  · subst e
    rw [Array.getElem?_setIfInBounds_self_of_lt (by omega), hv]
  · rw [Array.getElem?_setIfInBounds_ne (by omega)]
    exact hAt j (by omega)
theorem Mx.fr0 {w wr wd : World} {h : H5} {p : List UInt8} {B t : Nat} (m : Mx w wr h p B t) (f : Fr [] wr wd) : Mx w wd h p B t := by
  obtain ⟨A, hA, hAs, hAt⟩ := m.wb
  exact ⟨m.fr.trans f, f.blk m.hb (by simp), f.blk m.rb (by simp), ⟨A, f.blk hA (by simp), hAs, hAt⟩, m.lo⟩
theorem put5 {wz : World} {R : Nat} {t : TypeId} {u0 u1 u2 u3 u4 : Value} (hb : wz.heap[R]? = some (.cells #[u0, u1, u2, u3, u4] t (0, 0))) (v0 v1 v2 v3 v4 : Value) :
    (((((wz.setCell ⟨R, 0, none⟩ v0).setCell ⟨R, 1, none⟩ v1).setCell ⟨R, 2, none⟩ v2).setCell ⟨R, 3, none⟩ v3).setCell ⟨R, 4, none⟩ v4).heap[R]? = some (.cells #[v0, v1, v2, v3, v4] t (0, 0)) ∧
      Fr [R] wz (((((wz.setCell ⟨R, 0, none⟩ v0).setCell ⟨R, 1, none⟩ v1).setCell ⟨R, 2, none⟩ v2).setCell ⟨R, 3, none⟩ v3).setCell ⟨R, 4, none⟩ v4) :=
  ⟨(setCell_of (setCell_of (setCell_of (setCell_of (setCell_of hb _) _) _) _) _).trans rfl, (((((Fr.refl [R] wz).setCell (by simp) _).setCell (by simp) _).setCell (by simp) _).setCell (by simp) _).setCell (by simp) _⟩
theorem info5 : (Tryz.prog.info? 185).map (·.size) = some 5 := by kernel_rfl
theorem results_five {fn : Func} {p : Tmp} (h : fn.results = #[.cell p 185]) (tmps : Array Value) (w : World) (g : Nat) (cs : Array Value) (fr : Nat × Nat)
    (hp : tmps.getD p undef = .pointer (some ⟨g, 0, none⟩)) (hg : w.heap[g]? = some (.cells cs 185 fr)) (hs : cs.size = 5) : (results fn tmps).run Tryz.prog w = .ok (.agg cs) w :=
  results_cell_row h tmps w g 185 cs fr _ hp hg Tryz.underlying185 rfl (by rw [info5, hs])
set_option maxRecDepth 100000 in
set_option maxHeartbeats 8000000 in
theorem mix_any (h : H5) (a : Option Addr) (len cap : Nat) (p : List UInt8) (w : World) (hr : Rd w a cap p) (hlen : p.length = len) (h64 : 64 ≤ len) :
    Calls Tryz.prog 117 #[.agg h.vals, .slice a len cap] w fun e w' => e = .returned (.agg (mixH h p).vals) ∧ Fr [] w w' := by
  have hle := hr.le
  have hmax := hr.max
  unfold maxLen at hmax
  rw [hlen] at hle
  obtain ⟨g, o, rfl⟩ : ∃ g o, a = some ⟨g, o, none⟩ := by
    obtain ⟨g, o, e, _⟩ := hr.at (i := 0) (by omega)
    exact ⟨g, o, e⟩
  have H := Lib.hid (And.intro hr hlen)
  clear hr hlen
  unfold H5.vals
  go_enter Tryz.func117, Tryz.ntmps117
  go_upto_block 0 with fail
  obtain ⟨B, w1, hB, hw1, hm⟩ : ∃ B w1, B = w.heap.size ∧ w1 = ((w.alloc (.cells #[.int .u32 h.a, .int .u32 h.b, .int .u32 h.c, .int .u32 h.d, .int .u32 h.e] 185)).alloc (.cells #[.int .u32 0, .int .u32 0, .int .u32 0, .int .u32 0, .int .u32 0] 185)).alloc (.cells Tryz.zeroCells228 228) ∧ Mx w w1 h p B 0 := by
    refine ⟨_, _, rfl, rfl, (((Fr.refl [] w).alloc _).alloc _).alloc _, alloc_old _ (alloc_old _ (alloc_at w _)), alloc_old _ (by have := alloc_at (w.alloc (.cells #[.int .u32 h.a, .int .u32 h.b, .int .u32 h.c, .int .u32 h.d, .int .u32 h.e] 185)) (.cells #[.int .u32 0, .int .u32 0, .int .u32 0, .int .u32 0, .int .u32 0] 185); rw [World.size_alloc] at this; exact this), ⟨_, by have := alloc_at ((w.alloc (.cells #[.int .u32 h.a, .int .u32 h.b, .int .u32 h.c, .int .u32 h.d, .int .u32 h.e] 185)).alloc (.cells #[.int .u32 0, .int .u32 0, .int .u32 0, .int .u32 0, .int .u32 0] 185)) (.cells Tryz.zeroCells228 228); rw [World.size_alloc, World.size_alloc] at this; exact this, by kernel_rfl, fun j hj => by omega⟩, rfl⟩
  rw [← hw1, show w.heap.size + 1 + 1 = B + 2 from by omega, ← hB]
  have HM := Lib.hid (And.intro hm (And.intro hB hw1))
  clear hm hB hw1
  go_wp2
  go_loopg [6, 17] 16 (fun k s6 s17 wr => ∃ t : Nat, s17 = .int .i64 (t : Nat) ∧ t + k = 16 ∧ Mx w wr h p B t)
  case atStart => exact ⟨0, rfl, rfl, HM.out.1⟩
  case round =>
    obtain ⟨t, rfl, htk, hm⟩ := hrel
    by_cases ht : t < 16
    · obtain ⟨k, rfl⟩ : ∃ k, gk = k + 1 := ⟨gk - 1, by omega⟩
      have HMM := Lib.hid hm
      clear hm
      go_upto_region 5 with fail
      have hm := HMM.out
      obtain ⟨A, hA, hAs, hAt⟩ := hm.wb
      have zA := frozen_of hA t
      obtain ⟨x0, hx0⟩ : ∃ x, wr.cell? ⟨B + 2, t, none⟩ = some x := ⟨A[t]'(by omega), by rw [cell_of hA]; exact Array.getElem?_eq_getElem (by omega)⟩
      obtain ⟨m0, hm0⟩ : ∃ m, m = 4 * t := ⟨_, rfl⟩
      obtain ⟨m1, hm1⟩ : ∃ m, m = m0 + 1 := ⟨_, rfl⟩
      obtain ⟨m2, hm2⟩ : ∃ m, m = m0 + 2 := ⟨_, rfl⟩
      obtain ⟨m3, hm3⟩ : ∃ m, m = m0 + 3 := ⟨_, rfl⟩
      have e0 : (4 : Int) * (t : Int) = (m0 : Int) := by omega
      have e1 : (m0 : Int) + 1 = (m1 : Int) := by omega
      have e2 : (m0 : Int) + 2 = (m2 : Int) := by omega
      have e3 : (m0 : Int) + 3 = (m3 : Int) := by omega
      have w0 : IntKind.i64.wrap ((4 : Int) * (t : Int)) = (m0 : Int) := by rw [IntKind.wrap_i64]; omega
      have w1' : IntKind.i64.wrap ((m0 : Int) + 1) = (m1 : Int) := by rw [IntKind.wrap_i64]; omega
      have w2' : IntKind.i64.wrap ((m0 : Int) + 2) = (m2 : Int) := by rw [IntKind.wrap_i64]; omega
      have w3' : IntKind.i64.wrap ((m0 : Int) + 3) = (m3 : Int) := by rw [IntKind.wrap_i64]; omega
      have hpl := H.out.2
      have hrr := H.out.1.fr hm.fr
      have b0 : m0 < p.length := by omega
      have b1 : m1 < p.length := by omega
      have b2 : m2 < p.length := by omega
      have b3 : m3 < p.length := by omega
      obtain ⟨_, _, q0, X0⟩ := hrr.at b0
      obtain ⟨_, _, q1, X1⟩ := hrr.at b1
      obtain ⟨_, _, q2, X2⟩ := hrr.at b2
      obtain ⟨_, _, q3, X3⟩ := hrr.at b3
      simp only [Option.some.injEq, Addr.mk.injEq, and_true] at q0 q1 q2 q3
      obtain ⟨rfl, rfl⟩ := q0
      obtain ⟨rfl, rfl⟩ := q1
      obtain ⟨rfl, rfl⟩ := q2
      obtain ⟨rfl, rfl⟩ := q3
      have hw : word p m0 = ((p[m0].toNat * 16777216 + p[m1].toNat * 65536 + p[m2].toNat * 256 + p[m3].toNat : Nat) : Int) := by
        unfold word
        rw [← hm1, ← hm2, ← hm3, List.getElem?_eq_getElem b0, List.getElem?_eq_getElem b1, List.getElem?_eq_getElem b2, List.getElem?_eq_getElem b3]
        rfl
      have l0 := UInt8.toNat_lt p[m0]
      have l1 := UInt8.toNat_lt p[m1]
      have l2 := UInt8.toNat_lt p[m2]
      have l3 := UInt8.toNat_lt p[m3]
      generalize p[m0].toNat = y0 at *
      generalize p[m1].toNat = y1 at *
      generalize p[m2].toNat = y2 at *
      generalize p[m3].toNat = y3 at *
      obtain ⟨z1, hz1⟩ : ∃ z, z = y0 * 16777216 + y1 * 65536 := ⟨_, rfl⟩
      obtain ⟨z2, hz2⟩ : ∃ z, z = z1 + y2 * 256 := ⟨_, rfl⟩
      obtain ⟨z3, hz3⟩ : ∃ z, z = z2 + y3 := ⟨_, rfl⟩
      have r1 : bits .or .u32 ((y0 : Int) * 16777216) ((y1 : Int) * 65536) = (z1 : Int) := by
        have := sums.or_hi (y0 * 16777216) (y1 * 65536) 24 (by omega) (by decide) (by omega) (by omega)
        rw [← hz1] at this
        simpa using this
      have r2 : bits .or .u32 (z1 : Int) ((y2 : Int) * 256) = (z2 : Int) := by
        have := sums.or_hi z1 (y2 * 256) 16 (by omega) (by decide) (by omega) (by omega)
        rw [← hz2] at this
        simpa using this
      have r3 : bits .or .u32 (z2 : Int) (y3 : Int) = (z3 : Int) := by
        have := sums.or_hi z2 y3 8 (by omega) (by decide) (by omega) (by omega)
        rw [← hz3] at this
        exact this
      have HV : Hid ((z3 : Int) = sv p t) := Lib.hid (by rw [sv_lo p t ht, ← hm0, hw]; congr 1; omega)
      have i0 : (m0 : Int) < (len : Int) := by omega
      have i1 : (m1 : Int) < (len : Int) := by omega
      have i2 : (m2 : Int) < (len : Int) := by omega
      have i3 : (m3 : Int) < (len : Int) := by omega
      clear hm hA hAs hAt hrr hpl hw hz1 hz2 hz3 hm0 hm1 hm2 hm3 b0 b1 b2 b3
      refine region_tail 35 (by kernel_rfl) (by kernel_rfl) ?_
      simp only [List.take_succ_cons, List.take_zero, List.drop_succ_cons, List.drop_zero]
      repeat (go_big_quiet_step (fail))
      refine wpQuiet_nil ?_
      clear X0 X1 X2 X3 w0 w1' w2' w3' r1 r2 r3 e0 e1 e2 e3
      go_wp2
      go_roundg k
      case measure => omega
      case rel => exact ⟨t + 1, by go_num, by omega, HMM.out.store (Fr.drew1 [] wr) (by omega) _ HV.out⟩
    · obtain rfl : t = 16 := by omega
      obtain rfl : gk = 0 := by omega
      have HM1 := Lib.hid hm
      clear hm
      obtain ⟨w2, rfl⟩ : ∃ w2 : World, w2 = wr := ⟨_, rfl⟩
      go_upto_block 2 with fail
      go_wp2
      go_loopg [7] 64 (fun k s7 wr => ∃ t : Nat, s7 = .int .i64 (t : Nat) ∧ t + k = 80 ∧ 16 ≤ t ∧ Mx w wr h p B t)
      case atStart => exact ⟨16, rfl, rfl, by omega, HM1.out⟩
      case round =>
        obtain ⟨t, rfl, htk, ht16, hm⟩ := hrel
        have HMM := Lib.hid hm
        clear hm
        by_cases ht : t < 80
        · obtain ⟨k, rfl⟩ : ∃ k, gk = k + 1 := ⟨gk - 1, by omega⟩
          go_upto_region 10 with fail
          have hm := HMM.out
          obtain ⟨A, hA, hAs, hAt⟩ := hm.wb
          have zA := frozen_of hA t
          obtain ⟨x0, hx0⟩ : ∃ x, wr.cell? ⟨B + 2, t, none⟩ = some x := ⟨A[t]'(by omega), by rw [cell_of hA]; exact Array.getElem?_eq_getElem (by omega)⟩
          obtain ⟨n3, hn3⟩ : ∃ m, m = t - 3 := ⟨_, rfl⟩
          obtain ⟨n8, hn8⟩ : ∃ m, m = t - 8 := ⟨_, rfl⟩
          obtain ⟨n14, hn14⟩ : ∃ m, m = t - 14 := ⟨_, rfl⟩
          obtain ⟨n16, hn16⟩ : ∃ m, m = t - 16 := ⟨_, rfl⟩
          have e3 : (t : Int) - 3 = (n3 : Int) := by omega
          have e8 : (t : Int) - 8 = (n8 : Int) := by omega
          have e14 : (t : Int) - 14 = (n14 : Int) := by omega
          have e16 : (t : Int) - 16 = (n16 : Int) := by omega
          have w3 : IntKind.i64.wrap ((t : Int) - 3) = (n3 : Int) := by rw [IntKind.wrap_i64]; omega
          have w8 : IntKind.i64.wrap ((t : Int) - 8) = (n8 : Int) := by rw [IntKind.wrap_i64]; omega
          have w14 : IntKind.i64.wrap ((t : Int) - 14) = (n14 : Int) := by rw [IntKind.wrap_i64]; omega
          have w16 : IntKind.i64.wrap ((t : Int) - 16) = (n16 : Int) := by rw [IntKind.wrap_i64]; omega
          have x3 := (cell_of hA n3).trans (hAt n3 (by omega))
          have x8 := (cell_of hA n8).trans (hAt n8 (by omega))
          have x14 := (cell_of hA n14).trans (hAt n14 (by omega))
          have x16 := (cell_of hA n16).trans (hAt n16 (by omega))
          have i3 : (n3 : Int) < 80 := by omega
          have i8 : (n8 : Int) < 80 := by omega
          have i14 : (n14 : Int) < 80 := by omega
          have i16 : (n16 : Int) < 80 := by omega
          have it : (t : Int) < 80 := by omega
          have hv := sv_hi p t ht16 ht
          rw [← hn3, ← hn8, ← hn14, ← hn16] at hv
          have HV := Lib.hid hv
          clear hm hA hAs hAt hn3 hn8 hn14 hn16 hv
          refine region_tail 22 (by kernel_rfl) (by kernel_rfl) ?_
          simp only [List.take_succ_cons, List.take_zero, List.drop_succ_cons, List.drop_zero]
          repeat (go_big_quiet_step (exact rotate_any _ 1 _ (.inl rfl) _))
          refine wpQuiet_nil ?_
          clear x3 x8 x14 x16 w3 w8 w14 w16 e3 e8 e14 e16
          go_wp2
          go_roundg k
          case measure => omega
          case rel => exact ⟨t + 1, by go_num, by omega, by omega, HMM.out.store (Fr.drew1 [] wr) ht _ HV.out.symm⟩
        · obtain rfl : t = 80 := by omega
          obtain rfl : gk = 0 := by omega
          obtain ⟨w3, rfl⟩ : ∃ w3 : World, w3 = wr := ⟨_, rfl⟩
          go_upto_region 12 with (go_at_call 148; refine (steps_any _).mono ?_; unfold fns kns; rintro e w4 ⟨rfl, f4⟩; have H4 := Lib.hid f4; clear f4)
          obtain ⟨Q, w5, hQ, hw5, f5, qf, qk⟩ : ∃ Q w5, Q = w4.heap.size ∧ w5 = (w4.alloc (.cells fns 231)).alloc (.cells kns 232) ∧ Fr [] w4 w5 ∧ w5.heap[Q]? = some (.cells fns 231 (0, 0)) ∧ w5.heap[Q + 1]? = some (.cells kns 232 (0, 0)) :=
            ⟨_, _, rfl, rfl, ((Fr.refl [] w4).alloc _).alloc _, alloc_old _ (alloc_at w4 _), by have := alloc_at (w4.alloc (.cells fns 231)) (.cells kns 232); rw [World.size_alloc] at this; exact this⟩
          unfold fns kns at hw5
          rw [← hw5, ← hQ]
          have hm5 := HMM.out.fr0 (H4.out.trans f5)
          have k0 := cell_of hm5.hb 0
          have k1 := cell_of hm5.hb 1
          have k2 := cell_of hm5.hb 2
          have k3 := cell_of hm5.hb 3
          have k4 := cell_of hm5.hb 4
          unfold H5.vals at k0 k1 k2 k3 k4
          simp only [List.getElem?_toArray, List.getElem?_cons_zero, List.getElem?_cons_succ] at k0 k1 k2 k3 k4
          have H5' := Lib.hid (And.intro hm5 (And.intro qf qk))
          clear hm5 qf qk hw5 hQ f5
          go_quiet (fail)
          clear k0 k1 k2 k3 k4
          go_upto_block 4 with fail
          go_wp2
          go_loopg [10, 11, 12, 13, 14, 15, 16, 96] 80 (fun k s10 s11 s12 s13 s14 s15 s16 s96 wr => ∃ t : Nat, s96 = .int .i64 (t : Nat) ∧ t + k = 80 ∧ s10 = .int .u32 (rounds p t h).a ∧ s11 = .int .u32 (rounds p t h).b ∧ s12 = .int .u32 (rounds p t h).c ∧ s13 = .int .u32 (rounds p t h).d ∧ s14 = .int .u32 (rounds p t h).e ∧ Fr [] w5 wr)
          case atStart => exact ⟨0, rfl, rfl, rfl, rfl, rfl, rfl, rfl, Fr.drewN [] w5 _⟩
          case round =>
            obtain ⟨t, rfl, htk, rfl, rfl, rfl, rfl, rfl, hf⟩ := hrel
            have HF := Lib.hid hf
            clear hf
            by_cases ht : t < 80
            · obtain ⟨k, rfl⟩ : ∃ k, gk = k + 1 := ⟨gk - 1, by omega⟩
              have hro : rounds p (t + 1) h = round p t (rounds p t h) := rfl
              unfold round at hro
              have hsv : (sched p 80)[t]?.getD 0 = sv p t := rfl
              rw [hsv] at hro
              generalize rounds p t h = s at *
              obtain ⟨sa, sb, sc, sd, se⟩ := s
              simp only at hro
              have HR := Lib.hid hro
              clear hro hsv
              go_upto_region 16 with fail
              have hm6 := H5'.out.1.fr0 HF.out
              obtain ⟨A, hA, hAs, hAt⟩ := hm6.wb
              have xw := (cell_of hA t).trans (hAt t ht)
              have bf := HF.out.blk H5'.out.2.1 (by simp)
              have bk := HF.out.blk H5'.out.2.2 (by simp)
              have it : (t : Int) < 80 := by omega
              clear hm6 hA hAs hAt
              obtain ⟨q, hq⟩ : ∃ q, q = t / 20 := ⟨_, rfl⟩
              have hq4 : q < 4 := by omega
              have hqi : (t : Int) / 20 = (q : Int) := by omega
              rw [← hq] at HR
              rcases (show q = 0 ∨ q = 1 ∨ q = 2 ∨ q = 3 by omega) with rfl | rfl | rfl | rfl
              · have xf := cell_of bf 0
                have xk := cell_of bk 0
                unfold fns at xf
                unfold kns at xk
                simp only [List.getElem?_toArray, List.getElem?_cons_zero, List.getElem?_cons_succ] at xf xk
                clear bf bk hq
                go_quiet ((first | (go_at_call 147; exact Calls.quiet_of_same (rotate_any _ 5 _ (.inr (.inl rfl)))) | (go_at_call 179; exact Calls.quiet_of_same (ch_any _ _ _ _)) | (go_at_call 178; exact Calls.quiet_of_same (par_any _ _ _ _)) | (go_at_call 180; exact Calls.quiet_of_same (maj_any _ _ _ _))))
                clear xf xk xw hqi
                go_wp2_with (go_at_call 147; refine (rotate_any _ 30 _ (.inr (.inr rfl))).mono ?_; rintro e w7 ⟨rfl, rfl⟩)
                go_roundg k
                case measure => omega
                case rel =>
                  refine ⟨t + 1, by go_num, by omega, ?_, ?_, ?_, ?_, ?_, HF.out.trans (Fr.drewN _ _ _)⟩
                  all_goals rw [HR.out]
                  all_goals (first | rfl | (simp only [add32, Int.emod_add_emod, Int.add_emod_emod, fsel, ksel]))
              · have xf := cell_of bf 1
                have xk := cell_of bk 1
                unfold fns at xf
                unfold kns at xk
                simp only [List.getElem?_toArray, List.getElem?_cons_zero, List.getElem?_cons_succ] at xf xk
                clear bf bk hq
                go_quiet ((first | (go_at_call 147; exact Calls.quiet_of_same (rotate_any _ 5 _ (.inr (.inl rfl)))) | (go_at_call 179; exact Calls.quiet_of_same (ch_any _ _ _ _)) | (go_at_call 178; exact Calls.quiet_of_same (par_any _ _ _ _)) | (go_at_call 180; exact Calls.quiet_of_same (maj_any _ _ _ _))))
                clear xf xk xw hqi
                go_wp2_with (go_at_call 147; refine (rotate_any _ 30 _ (.inr (.inr rfl))).mono ?_; rintro e w7 ⟨rfl, rfl⟩)
                go_roundg k
                case measure => omega
                case rel =>
                  refine ⟨t + 1, by go_num, by omega, ?_, ?_, ?_, ?_, ?_, HF.out.trans (Fr.drewN _ _ _)⟩
                  all_goals rw [HR.out]
                  all_goals (first | rfl | (simp only [add32, Int.emod_add_emod, Int.add_emod_emod, fsel, ksel]))
              · have xf := cell_of bf 2
                have xk := cell_of bk 2
                unfold fns at xf
                unfold kns at xk
                simp only [List.getElem?_toArray, List.getElem?_cons_zero, List.getElem?_cons_succ] at xf xk
                clear bf bk hq
                go_quiet ((first | (go_at_call 147; exact Calls.quiet_of_same (rotate_any _ 5 _ (.inr (.inl rfl)))) | (go_at_call 179; exact Calls.quiet_of_same (ch_any _ _ _ _)) | (go_at_call 178; exact Calls.quiet_of_same (par_any _ _ _ _)) | (go_at_call 180; exact Calls.quiet_of_same (maj_any _ _ _ _))))
                clear xf xk xw hqi
                go_wp2_with (go_at_call 147; refine (rotate_any _ 30 _ (.inr (.inr rfl))).mono ?_; rintro e w7 ⟨rfl, rfl⟩)
                go_roundg k
                case measure => omega
                case rel =>
                  refine ⟨t + 1, by go_num, by omega, ?_, ?_, ?_, ?_, ?_, HF.out.trans (Fr.drewN _ _ _)⟩
                  all_goals rw [HR.out]
                  all_goals (first | rfl | (simp only [add32, Int.emod_add_emod, Int.add_emod_emod, fsel, ksel]))
              · have xf := cell_of bf 3
                have xk := cell_of bk 3
                unfold fns at xf
                unfold kns at xk
                simp only [List.getElem?_toArray, List.getElem?_cons_zero, List.getElem?_cons_succ] at xf xk
                clear bf bk hq
                go_quiet ((first | (go_at_call 147; exact Calls.quiet_of_same (rotate_any _ 5 _ (.inr (.inl rfl)))) | (go_at_call 179; exact Calls.quiet_of_same (ch_any _ _ _ _)) | (go_at_call 178; exact Calls.quiet_of_same (par_any _ _ _ _)) | (go_at_call 180; exact Calls.quiet_of_same (maj_any _ _ _ _))))
                clear xf xk xw hqi
                go_wp2_with (go_at_call 147; refine (rotate_any _ 30 _ (.inr (.inr rfl))).mono ?_; rintro e w7 ⟨rfl, rfl⟩)
                go_roundg k
                case measure => omega
                case rel =>
                  refine ⟨t + 1, by go_num, by omega, ?_, ?_, ?_, ?_, ?_, HF.out.trans (Fr.drewN _ _ _)⟩
                  all_goals rw [HR.out]
                  all_goals (first | rfl | (simp only [add32, Int.emod_add_emod, Int.add_emod_emod, fsel, ksel]))
            · obtain rfl : t = 80 := by omega
              obtain rfl : gk = 0 := by omega
              have hm6 := H5'.out.1.fr0 HF.out
              have k0 := cell_of hm6.hb 0
              have k1 := cell_of hm6.hb 1
              have k2 := cell_of hm6.hb 2
              have k3 := cell_of hm6.hb 3
              have k4 := cell_of hm6.hb 4
              unfold H5.vals at k0 k1 k2 k3 k4
              simp only [List.getElem?_toArray, List.getElem?_cons_zero, List.getElem?_cons_succ] at k0 k1 k2 k3 k4
              have c0 := cell_of hm6.rb 0
              have c1 := cell_of hm6.rb 1
              have c2 := cell_of hm6.rb 2
              have c3 := cell_of hm6.rb 3
              have c4 := cell_of hm6.rb 4
              have z0 := frozen_of hm6.rb 0
              have z1 := frozen_of hm6.rb 1
              have z2 := frozen_of hm6.rb 2
              have z3 := frozen_of hm6.rb 3
              have z4 := frozen_of hm6.rb 4
              simp only [List.getElem?_toArray, List.getElem?_cons_zero, List.getElem?_cons_succ] at c0 c1 c2 c3 c4
              have hmx : mixH h p = ⟨add32 h.a (rounds p 80 h).a, add32 h.b (rounds p 80 h).b, add32 h.c (rounds p 80 h).c, add32 h.d (rounds p 80 h).d, add32 h.e (rounds p 80 h).e⟩ := rfl
              generalize rounds p 80 h = s at *
              unfold add32 at hmx
              have HX := Lib.hid (And.intro hmx hm6)
              clear hmx hm6
              go_wp2
              obtain ⟨p1, p2⟩ := put5 HX.out.2.rb (.int .u32 ((h.a + s.a) % 4294967296)) (.int .u32 ((h.b + s.b) % 4294967296)) (.int .u32 ((h.c + s.c) % 4294967296)) (.int .u32 ((h.d + s.d) % 4294967296)) (.int .u32 ((h.e + s.e) % 4294967296))
              refine bodyPost_ret (results_five rfl _ _ (B + 1) _ (0, 0) rfl p1 rfl) rfl ?_
              refine ⟨by rw [HX.out.1], HX.out.2.fr.step p2 fun y hy => .inr (by simp at hy; have := HX.out.2.lo; omega)⟩
end Go.Proofs.YtkmpfgpfbmeihaaGreatDoor.sha
/-
  SHA-1: (*Sum).Write.
-/
namespace Go.Proofs.YtkmpfgpfbmeihaaGreatDoor.sha
open Go Go.RowKit Go.Proofs.YtkmpfgpfbmeihaaGreatDoor.lib Go.Proofs.YtkmpfgpfbmeihaaGreatDoor.bm

/-- A SHA-1's cells. -/
structure ShC (C : Array Value) (h : H5) (v : Value) (len : Nat) : Prop where
  size : C.size = 267
  k : C[0]? = some (.int .i64 1)
  a : C[1]? = some (.int .u32 h.a)
  b : C[2]? = some (.int .u32 h.b)
  c : C[3]? = some (.int .u32 h.c)
  d : C[4]? = some (.int .u32 h.d)
  e : C[5]? = some (.int .u32 h.e)
  r : C[6]? = some v
  n : C[7]? = some (.int .u64 (len : Nat))
theorem ShC.set6 {C : Array Value} {h : H5} {v : Value} {len : Nat} (s : ShC C h v len) (u : Value) : ShC (C.setIfInBounds 6 u) h u len := by
  obtain ⟨h1, h2, h3, h4, h5, h6, h7, h8, h9⟩ := s
  exact ⟨by simp [h1], by rw [Array.getElem?_setIfInBounds_ne (by decide), h2], by rw [Array.getElem?_setIfInBounds_ne (by decide), h3], by rw [Array.getElem?_setIfInBounds_ne (by decide), h4], by rw [Array.getElem?_setIfInBounds_ne (by decide), h5], by rw [Array.getElem?_setIfInBounds_ne (by decide), h6], by rw [Array.getElem?_setIfInBounds_ne (by decide), h7], Array.getElem?_setIfInBounds_self_of_lt (by omega), by rw [Array.getElem?_setIfInBounds_ne (by decide), h9]⟩
theorem ShC.set7 {C : Array Value} {h : H5} {v : Value} {len : Nat} (s : ShC C h v len) (l : Nat) : ShC (C.setIfInBounds 7 (.int .u64 (l : Nat))) h v l := by
  obtain ⟨h1, h2, h3, h4, h5, h6, h7, h8, h9⟩ := s
  exact ⟨by simp [h1], by rw [Array.getElem?_setIfInBounds_ne (by decide), h2], by rw [Array.getElem?_setIfInBounds_ne (by decide), h3], by rw [Array.getElem?_setIfInBounds_ne (by decide), h4], by rw [Array.getElem?_setIfInBounds_ne (by decide), h5], by rw [Array.getElem?_setIfInBounds_ne (by decide), h6], by rw [Array.getElem?_setIfInBounds_ne (by decide), h7], by rw [Array.getElem?_setIfInBounds_ne (by decide), h8], Array.getElem?_setIfInBounds_self_of_lt (by omega)⟩
theorem ShC.setH {C : Array Value} {h : H5} {v : Value} {len : Nat} (s : ShC C h v len) (a b c d e : Int) :
    ShC (((((C.setIfInBounds 1 (.int .u32 a)).setIfInBounds 2 (.int .u32 b)).setIfInBounds 3 (.int .u32 c)).setIfInBounds 4 (.int .u32 d)).setIfInBounds 5 (.int .u32 e)) ⟨a, b, c, d, e⟩ v len := by
  obtain ⟨h1, h2, h3, h4, h5, h6, h7, h8, h9⟩ := s
  exact ⟨by simp [h1], by rw [Array.getElem?_setIfInBounds_ne (by decide), Array.getElem?_setIfInBounds_ne (by decide), Array.getElem?_setIfInBounds_ne (by decide), Array.getElem?_setIfInBounds_ne (by decide), Array.getElem?_setIfInBounds_ne (by decide), h2], by rw [Array.getElem?_setIfInBounds_ne (by decide), Array.getElem?_setIfInBounds_ne (by decide), Array.getElem?_setIfInBounds_ne (by decide), Array.getElem?_setIfInBounds_ne (by decide)]; exact Array.getElem?_setIfInBounds_self_of_lt (by simp [h1]), by rw [Array.getElem?_setIfInBounds_ne (by decide), Array.getElem?_setIfInBounds_ne (by decide), Array.getElem?_setIfInBounds_ne (by decide)]; exact Array.getElem?_setIfInBounds_self_of_lt (by simp [h1]), by rw [Array.getElem?_setIfInBounds_ne (by decide), Array.getElem?_setIfInBounds_ne (by decide)]; exact Array.getElem?_setIfInBounds_self_of_lt (by simp [h1]), by rw [Array.getElem?_setIfInBounds_ne (by decide)]; exact Array.getElem?_setIfInBounds_self_of_lt (by simp [h1]), Array.getElem?_setIfInBounds_self_of_lt (by simp [h1]), by rw [Array.getElem?_setIfInBounds_ne (by decide), Array.getElem?_setIfInBounds_ne (by decide), Array.getElem?_setIfInBounds_ne (by decide), Array.getElem?_setIfInBounds_ne (by decide), Array.getElem?_setIfInBounds_ne (by decide), h8], by rw [Array.getElem?_setIfInBounds_ne (by decide), Array.getElem?_setIfInBounds_ne (by decide), Array.getElem?_setIfInBounds_ne (by decide), Array.getElem?_setIfInBounds_ne (by decide), Array.getElem?_setIfInBounds_ne (by decide), h9]⟩
/-- A SHA-1 in memory: its state, what is left of a block, and how many bytes came in. -/
structure Sh (w : World) (g : Nat) (h : H5) (ra : Option Addr) (rc : Nat) (rs : List UInt8) (len : Nat) : Prop where
  blk : ∃ C, w.heap[g]? = some (.cells C 188 (0, 0)) ∧ ShC C h (.slice ra rs.length rc) len
  own : Own w 5 ra rc (rs.map bv)
  ne : g ∉ lib.blk ra
def leftOf : Nat → List UInt8 → List UInt8
  | 0, p => p
  | f + 1, p => if 64 ≤ p.length then leftOf f (p.drop 64) else p
set_option maxRecDepth 100000 in
set_option maxHeartbeats 1000000 in
theorem begun_one (w : World) : Calls Tryz.prog 106 #[.int .i64 1] w fun e w' => e = .returned (.pointer (some ⟨w.heap.size, 0, none⟩)) ∧ Sh w' w.heap.size h0 none 0 [] 0 ∧ Fr [] w w' := by
  go_enter Tryz.func106, Tryz.ntmps106
  go_wp2
  go_ret
  exact ⟨rfl, ⟨⟨_, alloc_at w _, ⟨rfl, rfl, rfl, rfl, rfl, rfl, rfl, rfl, rfl⟩⟩, Own.nil _ _, by simp [lib.blk]⟩, (Fr.refl [] w).alloc _⟩
set_option maxRecDepth 100000 in
set_option maxHeartbeats 4000000 in
theorem write_sha (g : Nat) (h : H5) (ra : Option Addr) (rc : Nat) (rs : List UInt8) (len cap : Nat) (ao : Option Addr) (bs : List UInt8) (w : World) (hs : Sh w g h ra rc rs len) (hr : Rd w ao cap bs) (hng : bs ≠ [] → ∀ x ∈ lib.blk ao, x ≠ g)
    (hl : len + bs.length ≤ 140737488355328) (hrl : rs.length + bs.length ≤ 140737488355328) :
    Calls Tryz.prog 94 #[.pointer (some ⟨g, 0, none⟩), .slice ao bs.length cap] w fun e w' => e = .returned (.tuple #[]) ∧ Fr (g :: lib.blk ra) w w' ∧
      ∃ ra' rc', Sh w' g (blocks (rs ++ bs).length h (rs ++ bs)) ra' rc' (leftOf (rs ++ bs).length (rs ++ bs)) (len + bs.length) ∧ ∀ x ∈ lib.blk ra', x ∈ lib.blk ra ∨ w.heap.size ≤ x := by
  obtain ⟨L, hL⟩ : ∃ L, L = bs.length := ⟨_, rfl⟩
  obtain ⟨R, hR⟩ : ∃ R, R = rs.length := ⟨_, rfl⟩
  have hle := hr.le
  have hmax := hr.max
  unfold maxLen at hmax
  obtain ⟨C, hC, hc⟩ := hs.blk
  obtain ⟨o1, o2, o3⟩ := hs.own.shape
  rw [List.length_map] at o1
  rw [← hR] at o1 hc hrl
  rw [← hL] at hle hl hrl ⊢
  have c0 := (cell_of hC 0).trans hc.k
  have c6 := (cell_of hC 6).trans hc.r
  have c7 := (cell_of hC 7).trans hc.n
  have z7 := frozen_of hC 7
  have H := Lib.hid (And.intro hC (And.intro hc (And.intro hs (And.intro hr (And.intro hng (And.intro hL hR))))))
  clear hC hc hs hr hng hL hR
  go_enter Tryz.func94, Tryz.ntmps94
  go_upto_region 3 with fail
  have f1 : Fr [g] w (w.setCell ⟨g, 7, none⟩ (.int .u64 ((len + L : Nat) : Int))) := (Fr.refl [g] w).setCell (by simp) _
  have hC1 := setCell_of (o := 7) H.out.1 (.int .u64 ((len + L : Nat) : Int))
  have hc1 := H.out.2.1.set7 (len + L)
  have ecast : ((len + L : Nat) : Int) = (len : Int) + (L : Int) := by omega
  rw [ecast] at f1 hC1
  generalize w.setCell ⟨g, 7, none⟩ (.int .u64 ((len : Int) + (L : Int))) = w1 at *
  rw [← ecast] at hC1
  obtain ⟨C1, hCC⟩ : ∃ C1, C1 = C.setIfInBounds 7 (.int .u64 ((len + L : Nat) : Int)) := ⟨_, rfl⟩
  rw [← hCC] at hC1 hc1
  have c6' := (cell_of hC1 6).trans hc1.r
  have z6 := frozen_of hC1 6
  have ho1 : Own w1 5 ra rc (rs.map bv) := H.out.2.2.1.own.fr f1 (fun x hx hm => by simp at hm; rw [hm] at hx; exact H.out.2.2.1.ne hx)
  have hr1 : Rd w1 ao cap bs := rd_frE H.out.2.2.2.1 f1 (fun hb x hx hm => by simp at hm; exact H.out.2.2.2.2.1 hb x hx hm)
  have H1 := Lib.hid (And.intro hC1 (And.intro hc1 (And.intro f1 (And.intro ho1 hr1))))
  clear hC1 hc1 f1 ho1 hr1 hCC c0 c6 c7 z7 ecast
  go_upto_block 1 with (refine wpList_append_mid sums.sliceU8 rfl _ _ rfl ra R rc (rs.map bv) rfl H1.out.2.2.2.1 (by rw [List.length_map]; exact H.out.2.2.2.2.2.2.symm) ao L cap (bs.map bv) rfl hle H1.out.2.2.2.2.nil H1.out.2.2.2.2.cs (by rw [List.length_map]; exact H.out.2.2.2.2.2.1.symm) (sums.bv_one _) (by omega) (by unfold maxLen; omega) ?_; intro a2 q2 w2 A2; have c62 := A2.fr.cell c6' H.out.2.2.1.ne; have z62 : w2.frozen? ⟨g, 6, none⟩ = false := frozen_of (A2.fr.blk H1.out.1 H.out.2.2.1.ne) 6; have H2 := Lib.hid A2; clear A2)
  have hlen2 : (rs ++ bs).length = R + L := by rw [List.length_append, ← H.out.2.2.2.2.2.2, ← H.out.2.2.2.2.2.1]
  have hsh : Sh (w2.setCell ⟨g, 6, none⟩ (.slice a2 (R + L) q2)) g h a2 q2 (rs ++ bs) (len + L) ∧ Fr (g :: lib.blk ra) w (w2.setCell ⟨g, 6, none⟩ (.slice a2 (R + L) q2)) ∧ ∀ x ∈ lib.blk a2, x ∈ lib.blk ra ∨ w.heap.size ≤ x := by
    have hg2 : g ∉ lib.blk a2 := fun hm => by
      rcases H2.out.at_ g hm with k | k
      · exact H.out.2.2.1.ne k
      · have := lt_of_block H1.out.1
        omega
    have f6 : Fr [g] w2 (w2.setCell ⟨g, 6, none⟩ (.slice a2 (R + L) q2)) := (Fr.refl [g] w2).setCell (by simp) _
    have hb2 := H2.out.fr.blk H1.out.1 H.out.2.2.1.ne
    refine ⟨⟨⟨_, setCell_of hb2 _, by rw [hlen2]; exact H1.out.2.1.set6 _⟩, by rw [List.map_append]; exact H2.out.own.fr f6 (fun x hx hm => by simp at hm; rw [hm] at hx; exact hg2 hx), hg2⟩, ((H1.out.2.2.1.mono (by simp)).step H2.out.fr (fun y hy => .inl (by simp [hy]))).step f6 (fun y hy => .inl (by simp at hy; simp [hy])), fun x hx => ?_⟩
    rcases H2.out.at_ x hx with k | k
    · exact .inl k
    · exact .inr (Nat.le_trans H1.out.2.2.1.size k)
  generalize w2.setCell ⟨g, 6, none⟩ (.slice a2 (R + L) q2) = w3 at *
  have HS := Lib.hid (And.intro hsh hlen2)
  clear hsh hlen2 c62 z62 c6' z6
  go_wp2
  go_loopg [] (R + L) (fun k wr => ∃ (h' : H5) (ra' : Option Addr) (rc' : Nat) (ps : List UInt8), Sh wr g h' ra' rc' ps (len + L) ∧ Fr (g :: lib.blk ra) w wr ∧ (∀ x ∈ lib.blk ra', x ∈ lib.blk ra ∨ w.heap.size ≤ x) ∧ ps.length ≤ k ∧ blocks k h' ps = blocks (rs ++ bs).length h (rs ++ bs) ∧ leftOf k ps = leftOf (rs ++ bs).length (rs ++ bs))
  case atStart => exact ⟨h, a2, q2, rs ++ bs, HS.out.1.1, HS.out.1.2.1, HS.out.1.2.2, by rw [HS.out.2]; exact Nat.le_refl _, by rw [HS.out.2], by rw [HS.out.2]⟩
  case round =>
    obtain ⟨h', ra', rc', ps, hs, hf, hn, hk, hbl, hdo⟩ := hrel
    obtain ⟨P, hP⟩ : ∃ P, P = ps.length := ⟨_, rfl⟩
    obtain ⟨C', hC, hc⟩ := hs.blk
    obtain ⟨o1', o2', o3'⟩ := hs.own.shape
    rw [List.length_map] at o1'
    rw [← hP] at hc hk o1'
    have c6 := (cell_of hC 6).trans hc.r
    have HR := Lib.hid (And.intro hs (And.intro hf (And.intro hn (And.intro hbl (And.intro hdo (And.intro hP (And.intro hC hc)))))))
    clear hs hf hn hbl hdo hP
    by_cases h64 : 64 ≤ P
    · obtain ⟨k, rfl⟩ : ∃ k, gk = k + 1 := ⟨gk - 1, by omega⟩
      have d1 : decide ((64 : Int) ≤ P) = true := by simp; omega
      go_upto_region 5 with fail
      have c1 := (cell_of hC 1).trans hc.a
      have c2 := (cell_of hC 2).trans hc.b
      have c3 := (cell_of hC 3).trans hc.c
      have c4 := (cell_of hC 4).trans hc.d
      have c5 := (cell_of hC 5).trans hc.e
      have hmx := fun w' (f : Fr [] wr w') => mix_any h' ra' P rc' ps w' (HR.out.1.own.rd.fr f) HR.out.2.2.2.2.2.1.symm h64
      unfold H5.vals at hmx
      have HM := Lib.hid hmx
      clear hmx hC hc
      refine region_mix 12 [(false, 0), (false, 1), (false, 2), (false, 3), (false, 4), (false, 5), (false, 6), (false, 7), (false, 8), (true, 9), (false, 10), (false, 11)] [] (by kernel_rfl) (by kernel_rfl) (fun _ _ d _ _ h => by cases d <;> exact h) ?_
      simp only [List.map_cons, List.map_nil, List.getD_cons_zero, List.getD_cons_succ, List.drop_succ_cons, List.drop_zero, List.drop_nil]
      refine mix_seg 9 rfl ?_
      simp only [List.take_succ_cons, List.take_zero, List.drop_succ_cons, List.drop_zero, List.map_cons, List.map_nil]
      repeat (go_big_quiet_step (fail))
      refine wpQuiet_nil ?_
      refine mix_eff rfl ?_
      intro X hX
      go_wp2_with (go_at_call 117; refine (HM.out _ (Fr.drew1 [] wr)).mono ?_; rintro e w5 ⟨rfl, f5⟩)
      refine hX.out _ _ f5 ?_
      clear hX X c1 c2 c3 c4 c5 c6
      refine mix_seg 2 rfl ?_
      simp only [List.take_succ_cons, List.take_zero, List.drop_succ_cons, List.drop_zero, List.map_cons, List.map_nil]
      repeat (go_big_quiet_step (fail))
      refine wpQuiet_nil ?_
      refine mix_nil ?_
      have hb5 := f5.blk (show wr.drew.heap[g]? = _ from HR.out.2.2.2.2.2.2.1) (by simp)
      have hcc := HR.out.2.2.2.2.2.2.2
      have c1 := (cell_of hb5 1).trans hcc.a
      have c2 := (cell_of hb5 2).trans hcc.b
      have c3 := (cell_of hb5 3).trans hcc.c
      have c4 := (cell_of hb5 4).trans hcc.d
      have c5 := (cell_of hb5 5).trans hcc.e
      have z1 := frozen_of hb5 1
      have z2 := frozen_of hb5 2
      have z3 := frozen_of hb5 3
      have z4 := frozen_of hb5 4
      have z5 := frozen_of hb5 5
      obtain ⟨mh, hmh⟩ : ∃ mh, mh = mixH h' ps := ⟨_, rfl⟩
      rw [← hmh]
      obtain ⟨ma, mb, mc, md, me⟩ := mh
      simp only
      have H5' := Lib.hid (And.intro hb5 (And.intro hcc (And.intro f5 hmh)))
      clear hb5 hcc f5 hmh
      go_upto_region 6 with fail
      have f6 : Fr [g] w5 (((((w5.setCell ⟨g, 1, none⟩ (.int .u32 ma)).setCell ⟨g, 2, none⟩ (.int .u32 mb)).setCell ⟨g, 3, none⟩ (.int .u32 mc)).setCell ⟨g, 4, none⟩ (.int .u32 md)).setCell ⟨g, 5, none⟩ (.int .u32 me)) := (((((Fr.refl [g] w5).setCell (by simp) _).setCell (by simp) _).setCell (by simp) _).setCell (by simp) _).setCell (by simp) _
      have hb6 := setCell_of (o := 5) (setCell_of (o := 4) (setCell_of (o := 3) (setCell_of (o := 2) (setCell_of (o := 1) H5'.out.1 (.int .u32 ma)) (.int .u32 mb)) (.int .u32 mc)) (.int .u32 md)) (.int .u32 me)
      have hc6 := H5'.out.2.1.setH ma mb mc md me
      clear c1 c2 c3 c4 c5 z1 z2 z3 z4 z5
      generalize ((((w5.setCell ⟨g, 1, none⟩ (.int .u32 ma)).setCell ⟨g, 2, none⟩ (.int .u32 mb)).setCell ⟨g, 3, none⟩ (.int .u32 mc)).setCell ⟨g, 4, none⟩ (.int .u32 md)).setCell ⟨g, 5, none⟩ (.int .u32 me) = w6 at *
      have c6 := (cell_of hb6 6).trans hc6.r
      have z6 := frozen_of hb6 6
      have H6 := Lib.hid (And.intro hb6 (And.intro hc6 f6))
      clear hb6 hc6 f6
      have hca : cutAtN ra' rc' 64 1 = if rc' = 64 then ra' else Option.map (fun x => x.add (64 * 1)) ra' := rfl
      have HCA := Lib.hid hca
      clear hca
      go_wp2_with (refine wpList_slice_from sums.sliceU8 64 rfl _ _ rfl ra' P rc' _ rfl rfl rfl h64 o1' ?_)
      go_roundg k
      case measure => omega
      case rel =>
        have f7 : Fr [g] w6 (w6.setCell ⟨g, 6, none⟩ (.slice (cutAtN ra' rc' 64 1) (P - 64) (rc' - 64))) := (Fr.refl [g] w6).setCell (by simp) _
        have hdl : (ps.drop 64).length = P - 64 := by rw [List.length_drop, ← HR.out.2.2.2.2.2.1]
        have fAll : Fr (g :: lib.blk ra) w (w6.setCell ⟨g, 6, none⟩ (.slice (cutAtN ra' rc' 64 1) (P - 64) (rc' - 64))) := (((HR.out.2.1.trans ((Fr.drew1 [] wr).mono (by simp))).trans (H5'.out.2.2.1.mono (by simp))).step H6.out.2.2 (fun y hy => .inl (by simp at hy; simp [hy]))).step f7 (fun y hy => .inl (by simp at hy; simp [hy]))
        have hne : g ∉ lib.blk (cutAtN ra' rc' 64 1) := by rw [cutAtN_blk]; exact HR.out.1.ne
        have how : Own (w6.setCell ⟨g, 6, none⟩ (.slice (cutAtN ra' rc' 64 1) (P - 64) (rc' - 64))) 5 (cutAtN ra' rc' 64 1) (rc' - 64) ((ps.drop 64).map bv) := by
          have h1 := ((HR.out.1.own.fr (Fr.drew1 [] wr) (by simp)).fr H5'.out.2.2.1 (by simp)).drop 64 (by rw [List.length_map, ← HR.out.2.2.2.2.2.1]; exact h64)
          rw [← List.map_drop] at h1
          exact (h1.fr H6.out.2.2 (fun x hx hm => by simp at hm; rw [hm] at hx; exact hne hx)).fr f7 (fun x hx hm => by simp at hm; rw [hm] at hx; exact hne hx)
        refine ⟨⟨ma, mb, mc, md, me⟩, _, _, ps.drop 64, ⟨⟨_, setCell_of H6.out.1 _, by rw [hdl]; exact H6.out.2.1.set6 _⟩, how, hne⟩, fAll, fun x hx => HR.out.2.2.1 x (by rw [cutAtN_blk] at hx; exact hx), by rw [hdl]; omega, ?_, ?_⟩
        · have := HR.out.2.2.2.1
          rw [blocks, if_pos (by rw [← HR.out.2.2.2.2.2.1]; exact h64), ← H5'.out.2.2.2] at this
          exact this
        · have := HR.out.2.2.2.2.1
          rw [leftOf, if_pos (by rw [← HR.out.2.2.2.2.2.1]; exact h64)] at this
          exact this
    · have d1 : decide ((64 : Int) ≤ P) = false := by simp; omega
      have hb0 : blocks gk h' ps = h' := by
        cases gk with
        | zero => rfl
        | succ k => rw [blocks, if_neg (by rw [← HR.out.2.2.2.2.2.1]; exact h64)]
      have hd0 : leftOf gk ps = ps := by
        cases gk with
        | zero => rfl
        | succ k => rw [leftOf, if_neg (by rw [← HR.out.2.2.2.2.2.1]; exact h64)]
      have HZ := Lib.hid (And.intro hb0 hd0)
      clear hb0 hd0 hC hc
      go_wp2
      go_end0
      refine ⟨rfl, HR.out.2.1, ra', rc', ?_, HR.out.2.2.1⟩
      rw [← HR.out.2.2.2.1, ← HR.out.2.2.2.2.1, HZ.out.1, HZ.out.2]
      exact HR.out.1
end Go.Proofs.YtkmpfgpfbmeihaaGreatDoor.sha
/-
  SHA-1: (*Sum).Sum, SHA1.
-/
namespace Go.Proofs.YtkmpfgpfbmeihaaGreatDoor.sha
open Go Go.RowKit Go.Proofs.YtkmpfgpfbmeihaaGreatDoor.lib Go.Proofs.YtkmpfgpfbmeihaaGreatDoor.bm

/-- How many noughts fill a block up to its last eight bytes. -/
def zer (n : Nat) : Nat := (56 + 64 - n % 64) % 64
def padTo (rs : List UInt8) : List UInt8 := rs ++ [128] ++ List.replicate (zer (rs.length + 1)) 0
def padded (rs : List UInt8) (len : Nat) : List UInt8 := padTo rs ++ sums.be4 (len / 536870912) ++ sums.be4 (len * 8 % 4294967296)
theorem padTo_length (rs : List UInt8) : (padTo rs).length % 64 = 56 := by
  unfold padTo zer
  simp only [List.length_append, List.length_singleton, List.length_replicate]
  omega
theorem padded_length (rs : List UInt8) (len : Nat) : (padded rs len).length % 64 = 0 := by
  have := padTo_length rs
  unfold padded
  rw [List.length_append, List.length_append, sums.be4_length, sums.be4_length]
  omega
def Rng (h : H5) : Prop := (0 ≤ h.a ∧ h.a < 4294967296) ∧ (0 ≤ h.b ∧ h.b < 4294967296) ∧ (0 ≤ h.c ∧ h.c < 4294967296) ∧ (0 ≤ h.d ∧ h.d < 4294967296) ∧ (0 ≤ h.e ∧ h.e < 4294967296)
theorem add32_rng (a b : Int) : 0 ≤ add32 a b ∧ add32 a b < 4294967296 := by unfold add32; omega
theorem mixH_rng (h : H5) (p : List UInt8) : Rng (mixH h p) := ⟨add32_rng _ _, add32_rng _ _, add32_rng _ _, add32_rng _ _, add32_rng _ _⟩
theorem h0_rng : Rng h0 := by unfold Rng h0; decide
theorem blocks_rng : ∀ (f : Nat) (h : H5) (p : List UInt8), Rng h → Rng (blocks f h p)
  | 0, _, _, h => h
  | f + 1, h, p, hr => by
    rw [blocks]
    split
    · exact blocks_rng f _ _ (mixH_rng h p)
    · exact hr
/-- A state as twenty bytes. -/
def dig5 (h : H5) : List UInt8 := sums.be4 h.a.toNat ++ sums.be4 h.b.toNat ++ sums.be4 h.c.toNat ++ sums.be4 h.d.toNat ++ sums.be4 h.e.toNat
theorem dig5_length (h : H5) : (dig5 h).length = 20 := rfl
set_option maxRecDepth 100000 in
set_option maxHeartbeats 4000000 in
theorem sum_sha (g : Nat) (h : H5) (ra : Option Addr) (rc : Nat) (rs : List UInt8) (len : Nat) (w : World) (hs : Sh w g h ra rc rs len) (hrl : rs.length < 64) (hrng : Rng h) (hlen : len ≤ 140737488355328) :
    Calls Tryz.prog 96 #[.pointer (some ⟨g, 0, none⟩)] w fun e w' => (∃ ao c, e = .returned (.slice ao 20 c) ∧ Rd w' ao c (dig5 (blocks (padded rs len).length h (padded rs len)))) ∧ Fr [] w w' := by
  obtain ⟨R, hR⟩ : ∃ R, R = rs.length := ⟨_, rfl⟩
  obtain ⟨C, hC, hc⟩ := hs.blk
  obtain ⟨o1, o2, o3⟩ := hs.own.shape
  rw [List.length_map, ← hR] at o1
  rw [← hR] at hc hrl
  have c0 := (cell_of hC 0).trans hc.k
  have c6 := (cell_of hC 6).trans hc.r
  have hrd := hs.own.rd
  have H := Lib.hid (And.intro hC (And.intro hc (And.intro hs (And.intro hR hrd))))
  clear hC hc hs hR hrd
  go_enter Tryz.func96, Tryz.ntmps96
  have tok1 : True := trivial
  go_upto_block 1 with (first | (have _t := tok1; refine wpList_append_mid sums.sliceU8 rfl _ _ rfl none 0 0 [] rfl (Own.nil _ _) rfl ra R rc (rs.map bv) rfl o1 o3 H.out.2.2.2.2.cs (by rw [List.length_map]; exact H.out.2.2.2.1.symm) (sums.bv_one _) (by omega) (by unfold maxLen; omega) ?_; intro a1 q1 w1 A1; rw [List.nil_append] at A1; have H1 := Lib.hid A1; clear A1; clear tok1 _t) | (refine wpList_append_mid sums.sliceU8 rfl _ _ rfl a1 R q1 (rs.map bv) rfl (H1.out.own.fr ((Fr.refl [] w1).alloc (.cells #[.int .u8 128] 5)) (by simp)) (by rw [List.length_map]; exact H.out.2.2.2.1.symm) (some ⟨w1.heap.size, 0, none⟩) 1 1 [.int .u8 128] rfl (by omega) (by simp) (cs_new w1 _ _ _) rfl (by simp [Value.oneCell']) (by omega) (by unfold maxLen; omega) ?_; intro a2 q2 w2 A2; have H2 := Lib.hid A2; clear A2))
  have fw2 : Fr [] w w2 := ((H1.out.fr.mono (T := []) (by simp [lib.blk])).trans ((Fr.refl [] w1).alloc (.cells #[.int .u8 128] 5))).step H2.out.fr (fun y hy => by
    rcases H1.out.at_ y hy with k | k
    · simp [lib.blk] at k
    · exact .inr k)
  have hnew2 : ∀ x ∈ lib.blk a2, w.heap.size ≤ x := fun x hx => by
    have h1 := H1.out.fr.size
    rcases H2.out.at_ x hx with k | k
    · rcases H1.out.at_ x k with k2 | k2
      · simp [lib.blk] at k2
      · exact k2
    · rw [World.size_alloc] at k; omega
  have hown2 : Own w2 5 a2 q2 ((rs ++ [128]).map bv) := by rw [List.map_append]; exact H2.out.own
  obtain ⟨Z, hZ⟩ : ∃ Z, Z = zer (R + 1) := ⟨_, rfl⟩
  have hZ2 : Z < 64 ∧ (R + 1 + Z) % 64 = 56 := by rw [hZ]; unfold zer; omega
  have HW := Lib.hid (And.intro fw2 (And.intro hnew2 (And.intro hown2 hZ)))
  clear fw2 hnew2 hown2 hZ c6 H1 H2
  go_wp2
  go_loopg [3] Z (fun k s3 wr => ∃ (j N : Nat) (a : Option Addr) (q : Nat), s3 = .slice a N q ∧ N = R + 1 + j ∧ j + k = Z ∧ Own wr 5 a q ((rs ++ [128] ++ List.replicate j 0).map bv) ∧ Fr [] w wr ∧ ∀ x ∈ lib.blk a, w.heap.size ≤ x)
  case atStart => exact ⟨0, R + 1, a2, q2, rfl, rfl, by omega, by simpa using HW.out.2.2.1, HW.out.1, HW.out.2.1⟩
  case round =>
    obtain ⟨j, N, a, q, rfl, hN, hjk, hown, hf, hnew⟩ := hrel
    obtain ⟨p1, p2, p3⟩ := hown.shape
    have hll : (rs ++ [128] ++ List.replicate j (0 : UInt8)).length = N := by
      simp only [List.length_append, List.length_singleton, List.length_replicate]
      rw [← H.out.2.2.2.1, hN]
    rw [List.length_map, hll] at p1
    have HR := Lib.hid (And.intro hown (And.intro hf (And.intro hnew hll)))
    clear hown hf hnew hll
    by_cases hj : j < Z
    · obtain ⟨k, rfl⟩ : ∃ k, gk = k + 1 := ⟨gk - 1, by omega⟩
      have hne : ¬ (N % 64 = 56) := by omega
      have d1 : ((N : Int) % 64 != 56) = true := by simp; omega
      have HN := Lib.hid (And.intro hN hjk)
      have hNb : N ≤ 200 := by omega
      clear hne hN hjk
      go_wp2_with (refine wpList_append_mid sums.sliceU8 rfl _ _ rfl a N q ((rs ++ [128] ++ List.replicate j 0).map bv) rfl (HR.out.1.fr ((Fr.refl [] wr).alloc (.cells #[.int .u8 0] 5)) (by simp)) (by rw [List.length_map]; exact HR.out.2.2.2) (some ⟨wr.heap.size, 0, none⟩) 1 1 [.int .u8 0] rfl (by omega) (by simp) (cs_new wr _ _ _) rfl (by simp [Value.oneCell']) (by omega) (by unfold maxLen; omega) ?_; intro a4 q4 w4 A4; have H4 := Lib.hid A4; clear A4)
      go_roundg k
      case measure => omega
      case rel =>
        obtain ⟨hN, hjk⟩ := HN.out
        refine ⟨j + 1, N + 1, a4, q4, rfl, by omega, by omega, ?_, (HR.out.2.1.trans ((Fr.refl [] wr).alloc (.cells #[.int .u8 0] 5))).step H4.out.fr (fun y hy => .inr (HR.out.2.2.1 y hy)), fun x hx => ?_⟩
        · rw [List.replicate_succ', ← List.append_assoc, List.map_append]
          exact H4.out.own
        · have h1 := HR.out.2.1.size
          rcases H4.out.at_ x hx with k | k
          · exact HR.out.2.2.1 x k
          · rw [World.size_alloc] at k; omega
    · obtain rfl : j = Z := by omega
      obtain rfl : gk = 0 := by omega
      have d1 : ((N : Int) % 64 != 56) = false := by simp; omega
      have hNb : N ≤ 200 := by omega
      have HN := Lib.hid hN
      clear hN hjk
      go_upto_region 9 with fail
      clear d1
      obtain ⟨x1, hx1⟩ : ∃ x, x = len / 536870912 := ⟨_, rfl⟩
      obtain ⟨x2, hx2⟩ : ∃ x, x = len * 8 % 4294967296 := ⟨_, rfl⟩
      have e1 : (len : Int) / 536870912 = (x1 : Int) := by omega
      have e2 : ((len : Int) * 8) % 4294967296 = (x2 : Int) := by omega
      obtain ⟨bs, hbs⟩ : ∃ bs, bs = rs ++ [128] ++ List.replicate j (0 : UInt8) := ⟨_, rfl⟩
      have hpt : bs = padTo rs := by rw [hbs, padTo, ← H.out.2.2.2.1, ← HW.out.2.2.2]
      have hbl : bs.length = N := by rw [hbs]; exact HR.out.2.2.2
      have hob := HR.out.1
      rw [← hbs] at hob
      have hbg := HR.out.2.1.blk H.out.1 (by simp)
      have hgs : g < w.heap.size := lt_of_block H.out.1
      have hga : g ∉ lib.blk a := fun hm => by have := HR.out.2.2.1 g hm; omega
      obtain ⟨S, hS⟩ : ∃ S, S = lib.blk a := ⟨_, rfl⟩
      have s7 : ∀ x, (sup S wr.drew x).cell? ⟨g, 7, none⟩ = some (.int .u64 (len : Nat)) := fun x => (sup_fr S wr.drew x).cell (show wr.drew.cell? _ = _ from (cell_of hbg 7).trans H.out.2.1.n) (by rw [hS]; exact hga)
      have hf1 : Calls Tryz.prog 119 #[.slice a N q, .int .u32 x1] wr.drew (sums.Foured wr.drew a bs x1) := by
        have := sums.four_any a q bs x1 wr.drew (by omega) hob (by omega)
        rw [hbl] at this
        exact this
      have hf2 := fun w' a' q' (ho : Own w' 5 a' q' ((bs ++ sums.be4 x1).map bv)) => sums.four_any a' q' (bs ++ sums.be4 x1) x2 w' (by omega) ho (by rw [List.length_append, sums.be4_length]; omega)
      rw [show (bs ++ sums.be4 x1).length = N + 4 from by rw [List.length_append, sums.be4_length, hbl]] at hf2
      unfold sums.Foured at hf1 hf2
      rw [hbl] at hf1
      have hx2l : x2 < 4294967296 := by omega
      have HF := Lib.hid (And.intro hf1 (And.intro hf2 (And.intro hbg (And.intro hga (And.intro hS (And.intro hpt (And.intro hbl (And.intro hx1 hx2))))))))
      clear hf1 hf2 hbg hga hS hpt hbl hbs hob hx1 hx2
      refine region_mixR 16 [(false, 0), (false, 1), (false, 2), (false, 3), (false, 4), (false, 5), (false, 6), (false, 8), (false, 9), (false, 10), (false, 11), (false, 12), (false, 13), (true, 7), (true, 14), (false, 15)] S (by kernel_rfl) (by kernel_rfl) (fun _ _ d _ _ h => by cases d <;> exact h) ?_
      simp only [List.map_cons, List.map_nil, List.getD_cons_zero, List.getD_cons_succ, List.drop_succ_cons, List.drop_zero, List.drop_nil]
      refine mixR_seg 13 rfl ?_
      simp only [List.take_succ_cons, List.take_zero, List.drop_succ_cons, List.drop_zero, List.map_cons, List.map_nil]
      repeat (go_big_quiet_step (fail))
      refine wpQuiet_nil ?_
      have HE2 := Lib.hid e2
      clear s7 e1 e2
      refine mixR_eff rfl ?_
      intro X hX
      go_wp2_with (go_at_call 119; refine HF.out.1.mono ?_; rintro e w5 ⟨a5, q5, rfl, A5⟩)
      have fb1 : Fr S wr.drew w5 := by rw [HF.out.2.2.2.2.1]; exact A5.fr
      refine hX.out _ _ wr.drew (Fr.refl _ _) fb1 ?_
      clear hX X
      have HA5 := Lib.hid A5
      clear A5
      refine mixR_eff rfl ?_
      intro X hX
      have hf2 := HF.out.2.1 _ a5 q5 HA5.out.own
      rw [← HE2.out, show (bs ++ sums.be4 x1).length = N + 4 from by rw [List.length_append, sums.be4_length, HF.out.2.2.2.2.2.2.1]] at hf2
      have HF2 := Lib.hid hf2
      clear hf2
      go_wp2_with (go_at_call 119; go_loud (with_reducible refine HF2.out.mono ?_); rintro e w6 ⟨a6, q6, rfl, A6⟩)
      have fb2 : Fr S wr.drew w6 := fb1.step A6.fr fun y hy => by
        rcases HA5.out.at_ y hy with k | k
        · exact .inl (by rw [HF.out.2.2.2.2.1]; exact k)
        · exact .inr k
      refine hX.out _ _ wr.drew (Fr.refl _ _) fb2 ?_
      clear hX X
      have HA6 := Lib.hid A6
      clear A6
      refine mixR_seg 1 rfl ?_
      simp only [List.take_succ_cons, List.take_zero, List.drop_succ_cons, List.drop_zero, List.map_cons, List.map_nil]
      repeat (go_big_quiet_step (fail))
      refine wpQuiet_nil ?_
      refine mixR_nil ?_
      have fw6 : Fr [] w w6 := (HR.out.2.1.trans (Fr.drew1 [] wr)).step fb2 (fun y hy => .inr (by rw [HF.out.2.2.2.2.1] at hy; exact HR.out.2.2.1 y hy))
      have hbg := fw6.blk H.out.1 (by simp)
      have c1 := (cell_of hbg 1).trans H.out.2.1.a
      have c2 := (cell_of hbg 2).trans H.out.2.1.b
      have c3 := (cell_of hbg 3).trans H.out.2.1.c
      have c4 := (cell_of hbg 4).trans H.out.2.1.d
      have c5 := (cell_of hbg 5).trans H.out.2.1.e
      obtain ⟨pd, hpd⟩ : ∃ pd, pd = padded rs len := ⟨_, rfl⟩
      have hpd2 : bs ++ sums.be4 x1 ++ sums.be4 x2 = pd := by rw [hpd, padded, HF.out.2.2.2.2.2.1, HF.out.2.2.2.2.2.2.2.1, HF.out.2.2.2.2.2.2.2.2]
      have hpl : pd.length = N + 4 + 4 := by rw [← hpd2, List.length_append, List.length_append, sums.be4_length, sums.be4_length, HF.out.2.2.2.2.2.2.1]
      have hpm : pd.length % 64 = 0 := by rw [hpd]; exact padded_length rs len
      have hop : Own w6 5 a6 q6 (pd.map bv) := by rw [← hpd2]; exact HA6.out.own
      have hnp : ∀ x ∈ lib.blk a6, w.heap.size ≤ x := fun x hx => by
        have k0 := HR.out.2.1.size
        rcases HA6.out.at_ x hx with k | k
        · rcases HA5.out.at_ x k with k2 | k2
          · exact HR.out.2.2.1 x k2
          · exact Nat.le_trans k0 k2
        · exact Nat.le_trans (Nat.le_trans k0 fb1.size) k
      rw [← hpl]
      have HP := Lib.hid (And.intro fw6 (And.intro hop (And.intro hnp (And.intro hpd (And.intro hpl hpm)))))
      clear fw6 hop hnp hpd hpl hpm hpd2 hbg fb1 fb2 HA5 HA6
      go_upto_block 3 with fail
      clear c1 c2 c3 c4 c5
      obtain ⟨Q, w7, hQ, hw7, f7, b7⟩ : ∃ Q w7, Q = w6.heap.size ∧ w7 = w6.alloc (.cells #[.int .u32 h.a, .int .u32 h.b, .int .u32 h.c, .int .u32 h.d, .int .u32 h.e] 185) ∧ Fr [] w6 w7 ∧ w7.heap[Q]? = some (.cells h.vals 185 (0, 0)) := ⟨_, _, rfl, rfl, (Fr.refl [] w6).alloc _, alloc_at w6 _⟩
      rw [← hw7, ← hQ]
      have H7 := Lib.hid (And.intro f7 (And.intro b7 hQ))
      clear hw7 hQ f7 b7
      go_wp2
      go_loopg [3] pd.length (fun k s3 wr => ∃ (h' : H5) (ps : List UInt8) (P : Nat) (a : Option Addr) (q : Nat), s3 = .slice a P q ∧ P = ps.length ∧ P % 64 = 0 ∧ P ≤ k ∧ Own w7 5 a q (ps.map bv) ∧ Q ∉ lib.blk a ∧ wr.heap[Q]? = some (.cells h'.vals 185 (0, 0)) ∧ Fr [Q] w7 wr ∧ Rng h' ∧ blocks k h' ps = blocks pd.length h pd)
      case atStart => exact ⟨h, pd, pd.length, a6, q6, rfl, rfl, HP.out.2.2.2.2.2, Nat.le_refl _, HP.out.2.1.fr H7.out.1 (by simp), fun hm => by have := HP.out.2.1.lt _ hm; rw [H7.out.2.2] at this; omega, H7.out.2.1, Fr.refl _ _, hrng, rfl⟩
      case round =>
        obtain ⟨h', ps, P, a, q, rfl, hP, hP64, hPk, hown, hQa, hbQ, hf, hrg, hbl⟩ := hrel
        obtain ⟨p1, p2, p3⟩ := hown.shape
        rw [List.length_map, ← hP] at p1
        have HL := Lib.hid (And.intro hown (And.intro hQa (And.intro hbQ (And.intro hf (And.intro hrg (And.intro hbl (And.intro hP hP64)))))))
        have c0 := cell_of hbQ 0
        have c1 := cell_of hbQ 1
        have c2 := cell_of hbQ 2
        have c3 := cell_of hbQ 3
        have c4 := cell_of hbQ 4
        unfold H5.vals at c0 c1 c2 c3 c4
        simp only [List.getElem?_toArray, List.getElem?_cons_zero, List.getElem?_cons_succ] at c0 c1 c2 c3 c4
        by_cases h0 : 0 < P
        · have h64 : 64 ≤ P := by omega
          obtain ⟨k, rfl⟩ : ∃ k, gk = k + 1 := ⟨gk - 1, by omega⟩
          clear hown hQa hbQ hf hrg hbl hP hP64
          have hmx := mix_any h' a P q ps wr (HL.out.1.fr HL.out.2.2.2.1 (fun x hx hm => by simp at hm; rw [hm] at hx; exact HL.out.2.1 hx)).rd HL.out.2.2.2.2.2.2.1.symm h64
          unfold H5.vals at hmx
          have HM := Lib.hid hmx
          clear hmx
          go_wp2_with (first | (go_at_call 117; refine HM.out.mono ?_; rintro e w8 ⟨rfl, f8⟩; have hb8 := f8.blk HL.out.2.2.1 (by simp); have d0 := cell_of hb8 0; have d1 := cell_of hb8 1; have d2 := cell_of hb8 2; have d3 := cell_of hb8 3; have d4 := cell_of hb8 4; have y0 := frozen_of hb8 0; have y1 := frozen_of hb8 1; have y2 := frozen_of hb8 2; have y3 := frozen_of hb8 3; have y4 := frozen_of hb8 4; unfold H5.vals at d0 d1 d2 d3 d4; simp only [List.getElem?_toArray, List.getElem?_cons_zero, List.getElem?_cons_succ] at d0 d1 d2 d3 d4; have H8 := Lib.hid (And.intro f8 hb8); clear f8 hb8 c0 c1 c2 c3 c4) | (refine wpList_slice_from sums.sliceU8 64 rfl _ _ rfl a P q _ rfl rfl rfl h64 p1 ?_))
          obtain ⟨k1, k2⟩ := put5 H8.out.2 (.int .u32 (mixH h' ps).a) (.int .u32 (mixH h' ps).b) (.int .u32 (mixH h' ps).c) (.int .u32 (mixH h' ps).d) (.int .u32 (mixH h' ps).e)
          have HK := Lib.hid (And.intro k1 k2)
          clear k1 k2
          go_roundg k
          case measure => omega
          case rel =>
            have hd := HL.out.1.drop 64 (by rw [List.length_map, ← HL.out.2.2.2.2.2.2.1]; exact h64)
            rw [← List.map_drop] at hd
            refine ⟨mixH h' ps, ps.drop 64, P - 64, _, _, rfl, by rw [List.length_drop, ← HL.out.2.2.2.2.2.2.1], by have := HL.out.2.2.2.2.2.2.2; omega, by omega, hd, by rw [cutAtN_blk]; exact HL.out.2.1, HK.out.1, (HL.out.2.2.2.1.trans (H8.out.1.mono (by simp))).trans HK.out.2, mixH_rng _ _, ?_⟩
            have := HL.out.2.2.2.2.2.1
            rw [blocks, if_pos (by rw [← HL.out.2.2.2.2.2.2.1]; exact h64)] at this
            exact this
        · have hbz : blocks gk h' ps = h' := by
            cases gk with
            | zero => rfl
            | succ k => rw [blocks, if_neg (by rw [← hP]; omega)]
          rw [hbz] at hbl
          obtain ⟨ha, hb, hc, hd, he⟩ := h'
          obtain ⟨⟨r1, l1⟩, ⟨r2, l2⟩, ⟨r3, l3⟩, ⟨r4, l4⟩, ⟨r5, l5⟩⟩ := hrg
          simp only at r1 r2 r3 r4 r5 l1 l2 l3 l4 l5 c0 c1 c2 c3 c4
          obtain ⟨na, rfl⟩ := Int.eq_ofNat_of_zero_le r1
          obtain ⟨nb, rfl⟩ := Int.eq_ofNat_of_zero_le r2
          obtain ⟨nc, rfl⟩ := Int.eq_ofNat_of_zero_le r3
          obtain ⟨nd, rfl⟩ := Int.eq_ofNat_of_zero_le r4
          obtain ⟨ne, rfl⟩ := Int.eq_ofNat_of_zero_le r5
          have fwr : Fr [] w wr := (HP.out.1.trans H7.out.1).step hf (fun y hy => .inr (by simp at hy; rw [hy, H7.out.2.2]; exact HP.out.1.size))
          have hdg : dig5 (blocks pd.length h pd) = sums.be4 na ++ sums.be4 nb ++ sums.be4 nc ++ sums.be4 nd ++ sums.be4 ne := by rw [← hbl]; rfl
          have HD := Lib.hid (And.intro fwr hdg)
          have HL5 : Hid ((na < 4294967296 ∧ nb < 4294967296) ∧ (nc < 4294967296 ∧ nd < 4294967296 ∧ ne < 4294967296)) := Lib.hid (by omega)
          clear hown hQa hbQ hf hbl hP hP64 hbz fwr hdg HL r1 r2 r3 r4 r5 l1 l2 l3 l4 l5
          have hmk : ∀ w : World, (Instr.makeSlice 23 (.int .i64 0) (.int .i64 20)).run Tryz.prog w = .ok (.slice (some ⟨w.heap.size, 0, none⟩) 0 20) (w.alloc (.cells #[.int .u8 0, .int .u8 0, .int .u8 0, .int .u8 0, .int .u8 0, .int .u8 0, .int .u8 0, .int .u8 0, .int .u8 0, .int .u8 0, .int .u8 0, .int .u8 0, .int .u8 0, .int .u8 0, .int .u8 0, .int .u8 0, .int .u8 0, .int .u8 0, .int .u8 0, .int .u8 0] 5)) := fun _ => by kernel_rfl
          go_upto_region 15 with fail
          obtain ⟨Bo, w9, hBo, hw9, f9, b9⟩ : ∃ Bo w9, Bo = wr.heap.size ∧ w9 = wr.alloc (.cells #[.int .u8 0, .int .u8 0, .int .u8 0, .int .u8 0, .int .u8 0, .int .u8 0, .int .u8 0, .int .u8 0, .int .u8 0, .int .u8 0, .int .u8 0, .int .u8 0, .int .u8 0, .int .u8 0, .int .u8 0, .int .u8 0, .int .u8 0, .int .u8 0, .int .u8 0, .int .u8 0] 5) ∧ Fr [] wr w9 ∧ w9.heap[Bo]? = some (.cells #[.int .u8 0, .int .u8 0, .int .u8 0, .int .u8 0, .int .u8 0, .int .u8 0, .int .u8 0, .int .u8 0, .int .u8 0, .int .u8 0, .int .u8 0, .int .u8 0, .int .u8 0, .int .u8 0, .int .u8 0, .int .u8 0, .int .u8 0, .int .u8 0, .int .u8 0, .int .u8 0] 5 (0, 0)) := ⟨_, _, rfl, rfl, (Fr.refl [] wr).alloc _, alloc_at wr _⟩
          rw [← hw9, ← hBo]
          have e0 := f9.cell c0 (by simp)
          have e1 := f9.cell c1 (by simp)
          have e2 := f9.cell c2 (by simp)
          have e3 := f9.cell c3 (by simp)
          have e4 := f9.cell c4 (by simp)
          have o9 : Own w9 5 (some ⟨Bo, 0, none⟩) 20 (([] : List UInt8).map bv) := .inr ⟨Bo, 0, _, rfl, b9, Nat.zero_le _, by decide, Nat.le_refl _, rfl⟩
          have n9 : w.heap.size ≤ Bo := by rw [hBo]; exact HD.out.1.size
          have H9 := Lib.hid (And.intro (HD.out.1.trans f9) (And.intro o9 n9))
          clear hw9 hBo f9 b9 o9 n9 c0 c1 c2 c3 c4 hmk
          go_upto_block 5 with fail
          clear e0 e1 e2 e3 e4
          go_wp2
          go_loopg [5, 7, 78] 5 (fun k s5 s7 s78 wr => ∃ (j n : Nat) (a : Option Addr) (q : Nat) (out : List UInt8), s78 = .int .i64 (j : Nat) ∧ s5 = .slice a n q ∧ n = out.length ∧ j + k = 5 ∧ n = 4 * j ∧ Own wr 5 a q (out.map bv) ∧ Fr [] w wr ∧ (∀ x ∈ lib.blk a, w.heap.size ≤ x) ∧ out = ([na, nb, nc, nd, ne].take j).flatMap sums.be4)
          case atStart => exact ⟨0, 0, _, 20, [], rfl, rfl, rfl, rfl, rfl, H9.out.2.1, H9.out.1, fun x hx => by simp [lib.blk] at hx; rw [hx]; exact H9.out.2.2, rfl⟩
          case round =>
            obtain ⟨j, n, a, q, out, rfl, rfl, hn, hjk, hn4, hown, hf, hnew, hout⟩ := hrel
            by_cases hj : j < 5
            · obtain ⟨k, rfl⟩ : ∃ k, gk = k + 1 := ⟨gk - 1, by omega⟩
              obtain ⟨⟨m1, m2⟩, m3, m4, m5⟩ := HL5.out
              have hfour := fun x (hx : x < 4294967296) => sums.four_any a q out x wr hx hown (by omega)
              rw [← hn] at hfour
              unfold sums.Foured at hfour
              rw [← hn] at hfour
              have HFO := Lib.hid (And.intro hfour (And.intro hf (And.intro hnew (And.intro hout hn))))
              clear hfour hf hnew hout hown hn
              have key : ∀ (x : Nat) (w' : World) (a' : Option Addr) (q' : Nat), ([na, nb, nc, nd, ne].take (j + 1)).flatMap sums.be4 = out ++ sums.be4 x → OwnMore wr w' 5 a a' q' ((out ++ sums.be4 x).map bv) →
                  ∃ out', n + 4 = out'.length ∧ n + 4 = 4 * (j + 1) ∧ Own w' 5 a' q' (out'.map bv) ∧ Fr [] w w' ∧ (∀ x ∈ lib.blk a', w.heap.size ≤ x) ∧ out' = ([na, nb, nc, nd, ne].take (j + 1)).flatMap sums.be4 := fun x w' a' q' hx A =>
                ⟨out ++ sums.be4 x, by rw [List.length_append, sums.be4_length, HFO.out.2.2.2.2], by omega, A.own, HFO.out.2.1.step A.fr (fun y hy => .inr (HFO.out.2.2.1 y hy)), fun y hy => by
                  rcases A.at_ y hy with k | k
                  · exact HFO.out.2.2.1 y k
                  · exact Nat.le_trans HFO.out.2.1.size k, hx.symm⟩
              have HK := Lib.hid key
              have HJ := Lib.hid (And.intro hn4 hjk)
              clear key hn4 hjk
              rcases (show j = 0 ∨ j = 1 ∨ j = 2 ∨ j = 3 ∨ j = 4 by omega) with rfl | rfl | rfl | rfl | rfl
              · have ix : ∀ w : World, (Instr.index 185 (.agg #[.int .u32 (na : Nat), .int .u32 (nb : Nat), .int .u32 (nc : Nat), .int .u32 (nd : Nat), .int .u32 (ne : Nat)]) (.int .i64 0)).run Tryz.prog w = .ok (.int .u32 (na : Nat)) w := fun _ => by kernel_rfl
                go_wp2_with (go_at_call 119; (with_reducible refine (HFO.out.1 na m1).mono ?_); rintro e w10 ⟨a10, q10, rfl, A10⟩; have HA10 := Lib.hid A10; clear A10)
                go_roundg k
                case measure => have := HJ.out.2; omega
                case rel =>
                  have hjk := HJ.out.2
                  obtain ⟨out', t1, t2, t3, t4, t5, t6⟩ := HK.out na _ _ _ (by rw [HFO.out.2.2.2.1]; simp) HA10.out
                  exact ⟨1, n + 4, a10, q10, out', rfl, rfl, t1, by omega, t2, t3, t4, t5, t6⟩
              · have ix : ∀ w : World, (Instr.index 185 (.agg #[.int .u32 (na : Nat), .int .u32 (nb : Nat), .int .u32 (nc : Nat), .int .u32 (nd : Nat), .int .u32 (ne : Nat)]) (.int .i64 1)).run Tryz.prog w = .ok (.int .u32 (nb : Nat)) w := fun _ => by kernel_rfl
                go_wp2_with (go_at_call 119; (with_reducible refine (HFO.out.1 nb m2).mono ?_); rintro e w10 ⟨a10, q10, rfl, A10⟩; have HA10 := Lib.hid A10; clear A10)
                go_roundg k
                case measure => have := HJ.out.2; omega
                case rel =>
                  have hjk := HJ.out.2
                  obtain ⟨out', t1, t2, t3, t4, t5, t6⟩ := HK.out nb _ _ _ (by rw [HFO.out.2.2.2.1]; simp) HA10.out
                  exact ⟨2, n + 4, a10, q10, out', rfl, rfl, t1, by omega, t2, t3, t4, t5, t6⟩
              · have ix : ∀ w : World, (Instr.index 185 (.agg #[.int .u32 (na : Nat), .int .u32 (nb : Nat), .int .u32 (nc : Nat), .int .u32 (nd : Nat), .int .u32 (ne : Nat)]) (.int .i64 2)).run Tryz.prog w = .ok (.int .u32 (nc : Nat)) w := fun _ => by kernel_rfl
                go_wp2_with (go_at_call 119; (with_reducible refine (HFO.out.1 nc m3).mono ?_); rintro e w10 ⟨a10, q10, rfl, A10⟩; have HA10 := Lib.hid A10; clear A10)
                go_roundg k
                case measure => have := HJ.out.2; omega
                case rel =>
                  have hjk := HJ.out.2
                  obtain ⟨out', t1, t2, t3, t4, t5, t6⟩ := HK.out nc _ _ _ (by rw [HFO.out.2.2.2.1]; simp) HA10.out
                  exact ⟨3, n + 4, a10, q10, out', rfl, rfl, t1, by omega, t2, t3, t4, t5, t6⟩
              · have ix : ∀ w : World, (Instr.index 185 (.agg #[.int .u32 (na : Nat), .int .u32 (nb : Nat), .int .u32 (nc : Nat), .int .u32 (nd : Nat), .int .u32 (ne : Nat)]) (.int .i64 3)).run Tryz.prog w = .ok (.int .u32 (nd : Nat)) w := fun _ => by kernel_rfl
                go_wp2_with (go_at_call 119; (with_reducible refine (HFO.out.1 nd m4).mono ?_); rintro e w10 ⟨a10, q10, rfl, A10⟩; have HA10 := Lib.hid A10; clear A10)
                go_roundg k
                case measure => have := HJ.out.2; omega
                case rel =>
                  have hjk := HJ.out.2
                  obtain ⟨out', t1, t2, t3, t4, t5, t6⟩ := HK.out nd _ _ _ (by rw [HFO.out.2.2.2.1]; simp) HA10.out
                  exact ⟨4, n + 4, a10, q10, out', rfl, rfl, t1, by omega, t2, t3, t4, t5, t6⟩
              · have ix : ∀ w : World, (Instr.index 185 (.agg #[.int .u32 (na : Nat), .int .u32 (nb : Nat), .int .u32 (nc : Nat), .int .u32 (nd : Nat), .int .u32 (ne : Nat)]) (.int .i64 4)).run Tryz.prog w = .ok (.int .u32 (ne : Nat)) w := fun _ => by kernel_rfl
                go_wp2_with (go_at_call 119; (with_reducible refine (HFO.out.1 ne m5).mono ?_); rintro e w10 ⟨a10, q10, rfl, A10⟩; have HA10 := Lib.hid A10; clear A10)
                go_roundg k
                case measure => have := HJ.out.2; omega
                case rel =>
                  have hjk := HJ.out.2
                  obtain ⟨out', t1, t2, t3, t4, t5, t6⟩ := HK.out ne _ _ _ (by rw [HFO.out.2.2.2.1]; simp) HA10.out
                  exact ⟨5, n + 4, a10, q10, out', rfl, rfl, t1, by omega, t2, t3, t4, t5, t6⟩
            · obtain rfl : j = 5 := by omega
              have HZ := Lib.hid (And.intro hown (And.intro hf (And.intro hout hn)))
              have hn20 : n = 20 := by omega
              subst hn20
              clear hown hf hout hn hnew hn4 hjk
              go_wp2
              go_ret
              refine ⟨⟨a, q, rfl, ?_⟩, HZ.out.2.1⟩
              have e : out = dig5 (blocks (padded rs len).length h (padded rs len)) := by
                rw [← HP.out.2.2.2.1, HD.out.2, HZ.out.2.2.1]
                simp
              rw [← e]
              exact HZ.out.1.rd
end Go.Proofs.YtkmpfgpfbmeihaaGreatDoor.sha
/-
  SHA-1 of some bytes at once.
-/
namespace Go.Proofs.YtkmpfgpfbmeihaaGreatDoor.sha
open Go Go.RowKit Go.Proofs.YtkmpfgpfbmeihaaGreatDoor.lib Go.Proofs.YtkmpfgpfbmeihaaGreatDoor.bm

theorem leftOf_lt : ∀ (f : Nat) (p : List UInt8), p.length ≤ f → (leftOf f p).length < 64
  | 0, p, h => by rw [leftOf]; omega
  | f + 1, p, h => by
    rw [leftOf]
    split
    · exact leftOf_lt f _ (by rw [List.length_drop]; omega)
    · omega
/-- SHA-1. -/
def sha1 (b : List UInt8) : List UInt8 :=
  dig5 (blocks (padded (leftOf b.length b) b.length).length (blocks b.length h0 b) (padded (leftOf b.length b) b.length))
theorem sha1_length (b : List UInt8) : (sha1 b).length = 20 := rfl
set_option maxRecDepth 100000 in
set_option maxHeartbeats 1000000 in
theorem whole_sha (a : Option Addr) (cap : Nat) (bs : List UInt8) (w : World) (h : Rd w a cap bs) (hl : bs.length ≤ 140737488355328) :
    Calls Tryz.prog 69 #[.int .i64 1, .slice a bs.length cap] w fun e w' => (∃ ao c, e = .returned (.slice ao 20 c) ∧ Rd w' ao c (sha1 bs)) ∧ Fr [] w w' := by
  have H := Lib.hid h
  clear h
  go_enter Tryz.func69, Tryz.ntmps69
  go_upto_region 2 with (go_at_call 106; refine (begun_one _).mono ?_; rintro e w1 ⟨rfl, A1, f1⟩)
  have hw := write_sha w.heap.size h0 none 0 [] 0 cap a bs w1 A1 (H.out.fr f1) (fun hb x hx => by have := rd_lt H.out hb x hx; omega) (by omega) (by simp; omega)
  simp only [List.nil_append, Nat.zero_add] at hw
  have H1 := Lib.hid (And.intro hw f1)
  clear hw f1 A1
  go_upto_region 3 with (go_at_call 94; refine H1.out.1.mono ?_; rintro e w2 ⟨rfl, f2, ra, rc, A2, n2⟩)
  have hs := sum_sha _ _ _ _ _ _ w2 A2 (leftOf_lt _ _ (Nat.le_refl _)) (blocks_rng _ _ _ h0_rng) hl
  have H2 := Lib.hid (And.intro hs f2)
  clear hs f2 A2 n2
  go_wp2_with (go_at_call 96; refine H2.out.1.mono ?_; rintro e w3 ⟨⟨a3, c3, rfl, r3⟩, f3⟩)
  go_ret
  exact ⟨⟨a3, c3, rfl, r3⟩, (H1.out.2.step H2.out.2 (fun y hy => .inr (by simp [lib.blk] at hy; rw [hy]; exact Nat.le_refl _))).trans f3⟩
set_option maxRecDepth 100000 in
theorem sha1_any (a : Option Addr) (cap : Nat) (bs : List UInt8) (w : World) (h : Rd w a cap bs) (hl : bs.length ≤ 140737488355328) :
    Calls Tryz.prog 35 #[.slice a bs.length cap] w fun e w' => (∃ ao c, e = .returned (.slice ao 20 c) ∧ Rd w' ao c (sha1 bs)) ∧ Fr [] w w' := by
  have hw := Lib.hid (whole_sha a cap bs w h hl)
  clear h
  go_enter Tryz.func35, Tryz.ntmps35
  go_wp2_with (go_at_call 69; refine hw.out.mono ?_; rintro e w1 ⟨⟨a1, c1, rfl, r1⟩, f1⟩)
  go_ret
  exact ⟨⟨a1, c1, rfl, r1⟩, f1⟩
end Go.Proofs.YtkmpfgpfbmeihaaGreatDoor.sha
/-
  pack.Write of no objects.
-/
namespace Go.Proofs.YtkmpfgpfbmeihaaGreatDoor.pk
open Go Go.RowKit Go.Proofs.YtkmpfgpfbmeihaaGreatDoor.lib Go.Proofs.YtkmpfgpfbmeihaaGreatDoor.bm

theorem own_of {w : World} {xs : List Value} (n : Nat) (hn : xs.length = n) (hm : n ≤ 1000) : (w.alloc (.cells xs.toArray 5)).ownsRow 0 5 1 (.slice (some ⟨w.heap.size, 0, none⟩) n n) n xs :=
  ⟨by omega, .inr ⟨w.heap.size, n, xs.toArray, rfl, Nat.zero_le _, alloc_at _ _, Nat.le_refl _, by unfold maxLen; omega, by simp [hn], by rw [Nat.mul_one, ← hn]; simp⟩⟩
set_option maxRecDepth 100000 in
set_option maxHeartbeats 4000000 in
theorem write_nil (w : World) : Calls Tryz.prog 15 #[.slice none 0 0, .slice none 0 0] w (NewBytes w (begin12 ++ sha.sha1 begin12)) := by
  have hmm := fun w' => run_makeMap (P := Tryz.prog) 75 w'
  have hcv : ∀ w' : World, (convert 23 23 (.slice (some ⟨w'.heap.size, 0, none⟩) 8 8)).run Tryz.prog (w'.alloc (.cells #[.int .u8 80, .int .u8 65, .int .u8 67, .int .u8 75, .int .u8 0, .int .u8 0, .int .u8 0, .int .u8 2] 5)) = .ok (.slice (some ⟨w'.heap.size, 0, none⟩) 8 8) (w'.alloc (.cells #[.int .u8 80, .int .u8 65, .int .u8 67, .int .u8 75, .int .u8 0, .int .u8 0, .int .u8 0, .int .u8 2] 5 (8, 9))) := fun w' => Lib.run_convert_bytes_const (P := Tryz.prog) w' 23 5 #[.int .u8 80, .int .u8 65, .int .u8 67, .int .u8 75, .int .u8 0, .int .u8 0, .int .u8 0, .int .u8 2] 8 8 Tryz.underlying23 Tryz.underlying5
  go_enter Tryz.func15, Tryz.ntmps15
  go_upto_region 3 with (first
    | (go_at_call 31; refine (right_nil _).mono ?_; rintro e w1 ⟨rfl, hw⟩; obtain rfl := hw.symm)
    | (go_at_call 17; refine (order_nil _).mono ?_; rintro e w1 ⟨rfl, f1⟩))
  obtain ⟨P, w2, hP, hw2, f2, q2⟩ : ∃ P w2, P = w1.heap.size ∧ w2 = w1.alloc (.cells #[.slice none 0 0, .slice none 0 0, .slice none 0 0, .slice none 0 0] 74) ∧ Fr [] w w2 ∧ w2.heap[P]? = some (.cells #[.slice none 0 0, .slice none 0 0, .slice none 0 0, .slice none 0 0] 74 (0, 0)) := ⟨_, _, rfl, rfl, f1.alloc _, alloc_at w1 _⟩
  have hPw : w.heap.size ≤ P := by rw [hP]; exact f1.size
  have hP2 : P < w2.heap.size := lt_of_block q2
  rw [← hw2, ← hP]
  clear hw2 hP f1
  obtain ⟨B, hB⟩ : ∃ B, B = w2.heap.size := ⟨_, rfl⟩
  have c8 : Cs ((w2.alloc (.cells #[.int .u8 80, .int .u8 65, .int .u8 67, .int .u8 75, .int .u8 0, .int .u8 0, .int .u8 0, .int .u8 2] 5 (8, 9))).alloc (.cells #[.int .u8 0, .int .u8 0, .int .u8 0, .int .u8 0] 5)) (some ⟨w2.heap.size, 0, none⟩) [.int .u8 80, .int .u8 65, .int .u8 67, .int .u8 75, .int .u8 0, .int .u8 0, .int .u8 0, .int .u8 2] := by
    have := alloc_old (.cells #[.int .u8 0, .int .u8 0, .int .u8 0, .int .u8 0] 5) (alloc_at w2 (.cells #[.int .u8 80, .int .u8 65, .int .u8 67, .int .u8 75, .int .u8 0, .int .u8 0, .int .u8 0, .int .u8 2] 5 (8, 9)))
    exact .inr ⟨w2.heap.size, 0, rfl, fun j u hj => by rw [cell_of this]; simpa using hj⟩
  have c4 : Cs ((w2.alloc (.cells #[.int .u8 80, .int .u8 65, .int .u8 67, .int .u8 75, .int .u8 0, .int .u8 0, .int .u8 0, .int .u8 2] 5 (8, 9))).alloc (.cells #[.int .u8 0, .int .u8 0, .int .u8 0, .int .u8 0] 5)) (some ⟨w2.heap.size + 1, 0, none⟩) [.int .u8 0, .int .u8 0, .int .u8 0, .int .u8 0] := by
    have := alloc_at (w2.alloc (.cells #[.int .u8 80, .int .u8 65, .int .u8 67, .int .u8 75, .int .u8 0, .int .u8 0, .int .u8 0, .int .u8 2] 5 (8, 9))) (.cells #[.int .u8 0, .int .u8 0, .int .u8 0, .int .u8 0] 5)
    rw [World.size_alloc] at this
    exact .inr ⟨w2.heap.size + 1, 0, rfl, fun j u hj => by rw [cell_of this]; simpa using hj⟩
  have fa := ((Fr.refl [] w2).alloc (.cells #[.int .u8 80, .int .u8 65, .int .u8 67, .int .u8 75, .int .u8 0, .int .u8 0, .int .u8 0, .int .u8 2] 5 (8, 9))).alloc (.cells #[.int .u8 0, .int .u8 0, .int .u8 0, .int .u8 0] 5)
  have HO := Lib.hid (And.intro c8 (And.intro c4 (And.intro (fa.blk q2 (by simp)) (And.intro (f2.trans fa) hB))))
  clear c8 c4 fa f2 q2 hB
  go_upto_region 4 with (at_builtin; refine wpList_append_full sliceU8 rfl _ _ rfl (some ⟨w2.heap.size, 0, none⟩) 8 8 [.int .u8 80, .int .u8 65, .int .u8 67, .int .u8 75, .int .u8 0, .int .u8 0, .int .u8 0, .int .u8 2] rfl HO.out.1 rfl (by decide) (by simp) (some ⟨w2.heap.size + 1, 0, none⟩) 4 4 [.int .u8 0, .int .u8 0, .int .u8 0, .int .u8 0] rfl HO.out.2.1 rfl (by decide) (by decide) (by decide) ?_; intro c3 w3 A3; have q3 := A3.fr.blk HO.out.2.2.1 (by simp); have cc := cell_of q3 0; have zz := frozen_of q3 0; simp only [List.getElem?_toArray, List.getElem?_cons_zero] at cc; have HA := Lib.hid (And.intro A3 q3); clear A3 q3)
  clear cc zz
  obtain ⟨G, hG⟩ : ∃ G, G = w2.heap.size + 1 + 1 := ⟨_, rfl⟩
  obtain ⟨w4, hw4⟩ : ∃ w4, w4 = w3.setCell ⟨P, 0, none⟩ (.slice (some ⟨w2.heap.size + 1 + 1, 0, none⟩) 12 c3) := ⟨_, rfl⟩
  rw [← hw4, ← hG]
  have q4 : w4.heap[P]? = some (.cells #[.slice (some ⟨G, 0, none⟩) 12 c3, .slice none 0 0, .slice none 0 0, .slice none 0 0] 74 (0, 0)) := by rw [hw4, hG]; exact setCell_of HA.out.2 _
  have f34 : Fr [P] w3 w4 := by rw [hw4]; exact (Fr.refl [P] w3).setCell (by simp) _
  have f4 : Fr [] w w4 := (HO.out.2.2.2.1.trans HA.out.1.fr).step f34 (fun y hy => .inr (by simp only [List.mem_singleton] at hy; omega))
  have own4 : w4.ownsRow 0 5 1 (.slice (some ⟨G, 0, none⟩) 12 c3) 12 (begin12.map bv) := by
    have h1 := HA.out.1.own
    rw [World.size_alloc, World.size_alloc, ← hG] at h1
    exact ownsRow_fr h1 f34 (fun k hk => by
      simp only [Value.ownBlock, Option.some.injEq] at hk
      simp only [List.mem_singleton]
      omega)
  have hGw : w.heap.size ≤ G := by have := f4.size; omega
  have hPG : P ≠ G := by omega
  have hc3 : 12 ≤ c3 ∧ c3 ≤ maxLen := ⟨HA.out.1.le, HA.out.1.max⟩
  unfold maxLen at hc3
  have H4 := Lib.hid (And.intro q4 (And.intro f4 (And.intro own4 (And.intro hGw hPG))))
  clear q4 f34 f4 own4 hGw hw4 hG HO HA hcv hPG
  go_upto_region 5 with fail
  obtain ⟨M, hM⟩ : ∃ M, M = w4.heap.size := ⟨_, rfl⟩
  obtain ⟨w5, hw5⟩ : ∃ w5, w5 = (w4.alloc (.map #[] 0)).alloc (.cells #[.map (some w4.heap.size)] 75) := ⟨_, rfl⟩
  have f5 : Fr [] w4 w5 := by rw [hw5]; exact ((Fr.refl [] w4).alloc _).alloc _
  rw [← hw5]
  have q5 := f5.blk H4.out.1 (by simp)
  have e1 : w5.cell? ⟨P, 1, none⟩ = some (.slice none 0 0) := by rw [cell_of q5]; rfl
  have H5 := Lib.hid f5
  clear f5 hw5 q5 hM M hmm
  go_wp2
  go_loopg [46] 0 (fun k s46 wr => s46 = .int .i64 0 ∧ Fr [] w5 wr)
  case atStart => exact ⟨rfl, Fr.refl _ _⟩
  case round =>
  obtain ⟨rfl, hf⟩ := hrel
  have e1' := hf.cell e1 (by simp)
  obtain ⟨w6, hw6⟩ : ∃ w6, w6 = wr := ⟨_, rfl⟩
  have H6 := Lib.hid hf
  clear hf e1
  go_wp2_with (first
    | (go_at_call 31; refine (right_nil _).mono ?_; rintro e w1 ⟨rfl, hw⟩; obtain rfl := hw.symm)
    | (go_at_call 32; refine (delete_nil _ _).mono ?_; rintro e w1 ⟨rfl, hw⟩; obtain rfl := hw.symm))
  go_loopg [63] 0 (fun k s63 wq => s63 = .int .i64 0 ∧ wq = wr)
  case atStart => exact ⟨rfl, rfl⟩
  case round =>
  obtain ⟨rfl, rfl⟩ := hrel
  clear hw6 w6 e1'
  have f6 : Fr [] w4 wr := H5.out.trans H6.out
  have own6 := ownsRow_fr H4.out.2.2.1 (f6.trans (Fr.drew1 [] wr)) (by simp)
  have hP := (f6.trans (Fr.drew1 [] wr)).blk H4.out.1 (by simp)
  have q0 : ∀ x, (sup [G] wr.drew x).cell? ⟨P, 0, none⟩ = some (.slice (some ⟨G, 0, none⟩) 12 c3) := fun x => (sup_fr [G] wr.drew x).cell (by rw [cell_of hP]; rfl) (by simpa using H4.out.2.2.2.2)
  obtain ⟨r6, _⟩ := rd_of_owns own6
  have hsh := sha.sha1_any (some ⟨G, 0, none⟩) c3 begin12 wr.drew r6 (by decide)
  have H7 := Lib.hid (And.intro f6 (And.intro own6 hsh))
  clear f6 own6 hsh r6 hP
  go_upto_region 16 with fail
  refine region_mix 11 [(false, 0), (false, 1), (false, 2), (false, 3), (false, 4), (false, 5), (false, 6), (false, 7), (true, 8), (true, 9), (true, 10)] [G] (by kernel_rfl) (by kernel_rfl) (fun _ _ d _ _ h => by cases d <;> exact h) ?_
  simp only [List.map_cons, List.map_nil, List.getD_cons_zero, List.getD_cons_succ, List.drop_succ_cons, List.drop_zero, List.drop_nil]
  refine mix_seg 8 rfl ?_
  simp only [List.take_succ_cons, List.take_zero, List.drop_succ_cons, List.drop_zero, List.map_cons, List.map_nil]
  repeat (go_big_quiet_step (fail))
  refine wpQuiet_nil ?_
  clear q0
  refine mix_eff rfl ?_
  intro X hX
  go_wp2_with (go_at_call 35; refine H7.out.2.2.mono ?_; rintro e w7 ⟨⟨a7, c7, rfl, r7⟩, f7⟩)
  refine hX.out _ _ (f7.mono (by simp)) ?_
  clear hX X
  have HS := Lib.hid (And.intro r7 f7)
  clear r7 f7
  have own7 := ownsRow_fr H7.out.2.1 HS.out.2 (by simp)
  have c7l := HS.out.1.le
  rw [sha.sha1_length] at c7l
  refine mix_eff rfl ?_
  intro X hX
  refine wp_append sliceU8 _ _ rfl (.slice (some ⟨G, 0, none⟩) 12 c3) 12 (begin12.map bv) [G] rfl rfl own7 a7 20 c7 ((sha.sha1 begin12).map bv) rfl c7l HS.out.1.nil HS.out.1.cs (by rw [List.length_map]; rfl) (bv_one _) (by omega) (by unfold maxLen; omega) ?_
  intro a8 c8 w8 A8
  refine hX.out _ _ A8.fr ?_
  clear hX X
  refine mix_eff rfl ?_
  intro X hX
  go_wp2_with (go_at_call 29; refine (clip_b a8 32 c8 _ A8.le A8.max).mono ?_; rintro e w9 ⟨rfl, hw⟩; obtain rfl := hw.symm)
  refine hX.out _ _ (Fr.refl _ _) ?_
  clear hX X
  refine mix_nil ?_
  have H8 := Lib.hid A8
  clear A8 own7 c7l
  go_wp2
  go_ret
  have o8 := H8.out.own
  rw [← List.map_append] at o8
  obtain ⟨r8, _⟩ := rd_of_owns o8
  have f47 : Fr [] w w7 := H4.out.2.1.trans (H7.out.1.trans ((Fr.drew1 [] wr).trans HS.out.2))
  refine ⟨a8, rfl, ⟨r8.cs, Nat.le_refl _, by decide, fun e => by have := r8.nil e; have := r8.le; rw [List.length_append, sha.sha1_length] at this; simp [begin12] at this; omega⟩, fun x hx => ⟨?_, owns_lt o8 (blk_own hx)⟩, f47.step H8.out.fr (fun y hy => .inr (by simp only [List.mem_singleton] at hy; rw [hy]; exact H4.out.2.2.2.1))⟩
  rcases H8.out.at_ x hx with h | h
  · simp only [List.mem_singleton] at h
    rw [h]; exact H4.out.2.2.2.1
  · rw [h]; exact f47.size
end Go.Proofs.YtkmpfgpfbmeihaaGreatDoor.pk
