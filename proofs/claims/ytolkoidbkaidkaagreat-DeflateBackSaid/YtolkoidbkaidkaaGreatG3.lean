/-
  Texts of this proof, one behind the other: HuffD, SortA, SortP, SortB, SortC, SortD, SortE, SortF, Concat.
-/
import Derived.Test.YtolkoidbkaidkaaGreatG2
import Derived.OwnWalk
import Derived.Laws.OwnMore
import Derived.Lib.AppendZerosOnto
import Derived.Lib.AppendZeros
set_option linter.unusedVariables false
set_option linter.unusedSimpArgs false
/-
  huff.Complete, Codes.
-/
namespace Go.Proofs.YtolkoidbkaidkaaGreat.huf
open Go Go.RowKit Go.Proofs.YtolkoidbkaidkaaGreat.lib Go.Proofs.YtolkoidbkaidkaaGreat.bm Go.Proofs.YtolkoidbkaidkaaGreat.bl

set_option maxRecDepth 100000 in
theorem complete_any (a : Option Addr) (cap : Nat) (ls : List Nat) (w : World) (h : Ri w a cap ls) (hle : ∀ l ∈ ls, l ≤ 15) (hlen : ls.length ≤ 100000) :
    Calls Tryz.prog 79 #[.slice a ls.length cap] w fun e w' => e = .returned (.bool (decide (weight ls = 32768))) ∧ w = w' := by
  have hc := Lib.hid (count_any a cap ls w h hle hlen)
  clear h hle
  go_enter Tryz.func79, Tryz.ntmps79
  go_wp2_with (go_at_call 86; refine hc.out.mono ?_; rintro e w' ⟨rfl, rfl⟩)
  go_ret
  refine ⟨ret_eq (bool_eq ?_), rfl⟩
  first
    | (rw [Bool.eq_iff_iff]; simp; omega)
    | simp
theorem share_top (ls : List Nat) (hle : ∀ l ∈ ls, l ≤ 15) (hw : weight ls ≤ 32768) (l : Nat) (hl : l ≤ 15) : nxt ls l ≤ 32768 := by
  have h1 := nxt_share ls l hl
  have h2 := share_le ls (show l ≤ 16 by omega)
  rw [share_weight ls hle] at h2
  have h3 : nxt ls l * 1 ≤ nxt ls l * 2 ^ (15 - l) := Nat.mul_le_mul_left _ (Nat.two_pow_pos _)
  omega
/-- What stands in the row of codes when the lengths below l are done, and those of length l up to i. -/
def cw (ls : List Nat) (l i j : Nat) : Nat := if lenAt ls j ≠ 0 ∧ (lenAt ls j < l ∨ (lenAt ls j = l ∧ j < i)) then code ls j else 0
def codeAt (ls : List Nat) (j : Nat) : Nat := if lenAt ls j = 0 then 0 else code ls j
def codesOf (ls : List Nat) : List Nat := (List.range ls.length).map (codeAt ls)
theorem cw_step {ls : List Nat} {l i j : Nat} (h : j ≠ i ∨ lenAt ls i ≠ l) : cw ls l (i + 1) j = cw ls l i j := by
  unfold cw
  congr 1
  rw [eq_iff_iff]
  constructor
  · rintro ⟨h1, h2 | ⟨h2, h3⟩⟩
    · exact ⟨h1, .inl h2⟩
    · refine ⟨h1, .inr ⟨h2, ?_⟩⟩
      rcases Nat.lt_or_ge j i with k | k
      · exact k
      · obtain rfl : j = i := by omega
        rcases h with h | h
        · exact absurd rfl h
        · exact absurd h2 h
  · rintro ⟨h1, h2 | ⟨h2, h3⟩⟩
    · exact ⟨h1, .inl h2⟩
    · exact ⟨h1, .inr ⟨h2, by omega⟩⟩
theorem cw_hit {ls : List Nat} {l i : Nat} (h0 : l ≠ 0) (h : lenAt ls i = l) : cw ls l (i + 1) i = nxt ls l + (ls.take i).count l := by
  unfold cw
  rw [if_pos ⟨by omega, .inr ⟨h, by omega⟩⟩, code, h]
theorem cw_next {ls : List Nat} {l j : Nat} (h0 : l ≠ 0) (hj : j < ls.length) : cw ls l ls.length j = cw ls (l + 1) 0 j := by
  unfold cw
  congr 1
  rw [eq_iff_iff]
  constructor
  · rintro ⟨h1, h2 | ⟨h2, h3⟩⟩
    · exact ⟨h1, .inl (by omega)⟩
    · exact ⟨h1, .inl (by omega)⟩
  · rintro ⟨h1, h2 | ⟨h2, h3⟩⟩
    · rcases Nat.lt_or_ge (lenAt ls j) l with k | k
      · exact ⟨h1, .inl k⟩
      · exact ⟨h1, .inr ⟨by omega, hj⟩⟩
    · omega
theorem cw_end {ls : List Nat} {j : Nat} (hle : lenAt ls j ≤ 15) : cw ls 16 0 j = codeAt ls j := by
  unfold cw codeAt
  by_cases h : lenAt ls j = 0
  · rw [if_pos h, if_neg (fun hc => hc.1 h)]
  · rw [if_neg h, if_pos ⟨h, .inl (by omega)⟩]
theorem cw_start (ls : List Nat) (j : Nat) : cw ls 1 0 j = 0 := by
  unfold cw
  rw [if_neg]
  rintro ⟨h1, h2 | ⟨h2, h3⟩⟩ <;> omega
theorem u32sTy : SliceTy Tryz.prog 134 66 (.int .u32 0) 1 4 := SliceTy.of Tryz.underlying134 (by kernel_rfl) rfl (by decide)
/-- The row of codes in memory. -/
def Cw (w : World) (ls : List Nat) (Q l i : Nat) : Prop := ∃ A, w.heap[Q]? = some (.cells A 66 (0, 0)) ∧ A.size = ls.length ∧ ∀ j, j < ls.length → A[j]? = some (.int .u32 (cw ls l i j : Nat))
theorem cw_made {w : World} {ls : List Nat} {Q : Nat} (h : w.ownsRow 0 66 1 (.slice (some ⟨Q, 0, none⟩) ls.length ls.length) ls.length (madeCells (Value.int .u32 0).cells (ls.length * 1)).toList) : Cw w ls Q 1 0 := by
  obtain ⟨o1, o2⟩ := h
  rcases o2 with ⟨o2, _⟩ | ⟨g, c', cur, o2, _, hg, _, _, hsz, ht⟩
  · cases o2
  · simp only [Value.slice.injEq, Option.some.injEq, Addr.mk.injEq, and_true, true_and] at o2
    obtain ⟨rfl, rfl⟩ := o2
    refine ⟨cur, hg, by omega, fun j hj => ?_⟩
    rw [cw_start]
    have hj' : j < cur.toList.length := by simp; omega
    have h1 : cur.toList[j]? = (madeCells (Value.int .u32 0).cells (ls.length * 1)).toList[j]? := by
      rw [← ht, List.getElem?_take, if_pos (by omega)]
    rw [← Array.getElem?_toList, h1, show (Value.int .u32 0).cells = #[.int .u32 0] from rfl, toList_madeCells_one, List.getElem?_replicate, if_pos (by omega)]
    rfl
def CodesGood (w : World) (ls : List Nat) (e : Ending) (w' : World) : Prop :=
  ∃ g, e = .returned (.tuple #[.slice (some ⟨g, 0, none⟩) ls.length ls.length, .int .i64 0]) ∧ Cs w' (some ⟨g, 0, none⟩) ((codesOf ls).map fun x => .int .u32 (x : Nat)) ∧ w.heap.size ≤ g ∧ g < w'.heap.size ∧ Fr [] w w'
set_option maxRecDepth 100000 in
set_option maxHeartbeats 2000000 in
theorem codes_any (a : Option Addr) (cap : Nat) (ls : List Nat) (w : World) (h : Ri w a cap ls) (hle : ∀ l ∈ ls, l ≤ 15) (hlen : ls.length ≤ 400) (hw : weight ls ≤ 32768) :
    Calls Tryz.prog 76 #[.slice a ls.length cap] w (CodesGood w ls) := by
  obtain ⟨L, hL⟩ : ∃ L, L = ls.length := ⟨_, rfl⟩
  have hc := count_any a cap ls w h hle (by omega)
  rw [← hL] at hlen hc ⊢
  obtain ⟨W, hW⟩ : ∃ W, W = weight ls := ⟨_, rfl⟩
  rw [← hW] at hc hw
  have H := Lib.hid (And.intro h (And.intro hle (And.intro hL (And.intro hc hW))))
  obtain ⟨hu, ⟨ti, hi', hz', hs', hb'⟩, hcz, hp⟩ := u32sTy
  clear h hle hL hc hW
  have d1 : decide ((400 : Int) < L) = false := by simp; omega
  have d2 : decide ((32768 : Int) < W) = false := by simp; omega
  go_enter Tryz.func76, Tryz.ntmps76
  go_upto_block 1 with (first | (go_at_call 86; refine H.out.2.2.2.1.mono ?_; rintro e w' ⟨rfl, rfl⟩) | (refine wpList_make_full _ rfl _ _ 134 rfl 0 66 ti (.int .u32 0) 1 hu hi' hz' hs' .i64 .i64 (L : Nat) (L : Nat) L rfl rfl rfl rfl (by rw [hb']; omega) (by unfold maxLen; omega) (by omega) ?_; intro w3 own3 grow3; have H3 := Lib.hid (And.intro own3 grow3); clear own3 grow3))
  obtain ⟨Q, hQ⟩ : ∃ Q, Q = w.heap.size := ⟨_, rfl⟩
  rw [← hQ] at H3 ⊢
  have hst : Cw w3 ls Q 1 0 := cw_made (by rw [← H.out.2.2.1]; exact H3.out.1)
  have f3 : Fr [] w w3 := (Fr.refl [] w).grown H3.out.2 (fun k hk => by cases hk)
  have HS := Lib.hid (And.intro hst (And.intro f3 hQ))
  clear hst f3 hQ H3 hu hi' hz' hs' hb' hcz hp d1 d2
  go_wp2
  go_loopg [7, 8, 9, 10, 38] 15 (fun k s7 s8 s9 s10 s38 wr => ∃ l nx : Nat, s8 = .int .i64 (l : Nat) ∧ s7 = .int .u32 (nx : Nat) ∧ l + k = 16 ∧ 1 ≤ l ∧ 2 * nx = nxt ls l ∧ Cw wr ls Q l 0 ∧ Fr [] w wr)
  case atStart => exact ⟨1, 0, rfl, rfl, rfl, Nat.le_refl _, rfl, HS.out.1, HS.out.2.1⟩
  case round =>
    obtain ⟨l, nx, rfl, rfl, hlk, hl1, hnx, hcw, hf⟩ := hrel
    by_cases hl : l ≤ 15
    · obtain ⟨k, rfl⟩ : ∃ k, gk = k + 1 := ⟨gk - 1, by omega⟩
      have hb := share_top ls H.out.2.1 (by rw [← H.out.2.2.2.2]; exact hw) l hl
      obtain ⟨wo, rfl⟩ : ∃ wo : World, wo = wr := ⟨_, rfl⟩
      obtain ⟨n2, hn2⟩ : ∃ n2, n2 = nxt ls l := ⟨_, rfl⟩
      rw [← hn2] at hnx hb
      have HX := Lib.hid (And.intro hcw (And.intro hf (And.intro hn2 (And.intro hnx hlk))))
      have hnxb : nx ≤ 16384 := by omega
      have e2 : (nx : Int) * 2 = (n2 : Int) := by omega
      clear hcw hf hn2 hnx hlk
      go_upto_block 3 with fail
      clear e2
      go_wp2
      go_loopg [7, 9, 10, 38] L (fun k s7 s9 s10 s38 wr => ∃ i y : Nat, s38 = .int .i64 (i : Nat) ∧ s7 = .int .u32 (y : Nat) ∧ i + k = L ∧ y = n2 + (ls.take i).count l ∧ Cw wr ls Q l i ∧ Fr [] w wr)
      case atStart => exact ⟨0, n2, rfl, rfl, by omega, by simp, HX.out.1, HX.out.2.1⟩
      case round =>
        obtain ⟨i, y, rfl, rfl, hik, hy, hcw, hf⟩ := hrel
        have hcl := List.count_le_length (a := l) (l := ls.take i)
        rw [List.length_take] at hcl
        have hyb : y ≤ 40000 := by omega
        by_cases hi : i < L
        · obtain ⟨k2, rfl⟩ : ∃ k2, gk = k2 + 1 := ⟨gk - 1, by omega⟩
          have hil : i < ls.length := by rw [← H.out.2.2.1]; exact hi
          obtain ⟨g, o, rfl, hc⟩ := (H.out.1.fr hf).at hil
          have hla : lenAt ls i = ls[i] := by unfold lenAt; rw [List.getElem?_eq_getElem hil]; rfl
          have hct := count_take_succ ls i l hil
          rw [hla] at hct
          obtain ⟨A, hA, hAs, hAt⟩ := hcw
          have zA := frozen_of hA i
          obtain ⟨x0, hx0⟩ : ∃ x, wr.cell? ⟨Q, i, none⟩ = some x := ⟨_, by rw [cell_of hA]; exact hAt i hil⟩
          have f2 : Fr [Q] wr (wr.setCell ⟨Q, i, none⟩ (.int .u32 (y : Nat))) := (Fr.refl [Q] wr).setCell (by simp) _
          obtain ⟨v, hv⟩ : ∃ v, v = ls[i] := ⟨_, rfl⟩
          rw [← hv] at hc hla hct
          have HI := Lib.hid (And.intro (And.intro hla hct) (And.intro (And.intro hA (And.intro hAs hAt)) (And.intro hf (And.intro hy (And.intro hik (And.intro f2 hv))))))
          clear hla hct hA hAs hAt hf hy hik f2 hv hcl
          by_cases hvl : v = l
          · have d1 : ((v : Int) == (l : Int)) = true := by simp; omega
            go_wp2
            go_roundg k2
            case measure => have := HI.out.2.2.2.2.1; omega
            case rel =>
              obtain ⟨⟨hla, hct⟩, ⟨hA, hAs, hAt⟩, hf, hy, hik, f2, _⟩ := HI.out
              rw [if_pos hvl] at hct
              refine ⟨i + 1, y + 1, by go_num, by go_num, by omega, by omega, ⟨_, setCell_of hA _, by simp [hAs], fun j hj => ?_⟩, hf.step f2 (fun z hz => .inr (by simp at hz; rw [hz, HS.out.2.2]; exact Nat.le_refl _))⟩
              by_cases e : j = i
              · subst e
                rw [Array.getElem?_setIfInBounds_self_of_lt (by omega), cw_hit (by omega) (by rw [hla, hvl]), hy, HX.out.2.2.1]
              · rw [Array.getElem?_setIfInBounds_ne (by omega), cw_step (.inl e)]
                exact hAt j hj
          · have d1 : ((v : Int) == (l : Int)) = false := by simp; omega
            go_wp2
            go_roundg k2
            case measure => have := HI.out.2.2.2.2.1; omega
            case rel =>
              obtain ⟨⟨hla, hct⟩, ⟨hA, hAs, hAt⟩, hf, hy, hik, f2, _⟩ := HI.out
              rw [if_neg hvl] at hct
              exact ⟨i + 1, y, by go_num, by go_num, by omega, by omega, ⟨A, hA, hAs, fun j hj => by rw [cw_step (.inr (by rw [hla]; exact hvl))]; exact hAt j hj⟩, hf⟩
        · obtain rfl : i = L := by omega
          have ht : ls.take i = ls := List.take_of_length_le (by rw [← H.out.2.2.1]; exact Nat.le_refl _)
          rw [ht] at hy
          have HI := Lib.hid (And.intro hcw (And.intro hf hy))
          clear hcw hf hy hcl ht hik
          go_wp2
          go_roundg k
          case measure => have := HX.out.2.2.2.2; omega
          case rel =>
            have hlk := HX.out.2.2.2.2
            obtain ⟨⟨A, hA, hAs, hAt⟩, hf, hy⟩ := HI.out
            refine ⟨l + 1, y, by go_num, rfl, by omega, by omega, ?_, ⟨A, hA, hAs, fun j hj => ?_⟩, hf⟩
            · rw [nxt, if_neg (by omega), ← HX.out.2.2.1, hy]
            · rw [← cw_next (by omega) hj, ← H.out.2.2.1]
              exact hAt j hj
    · obtain rfl : l = 16 := by omega
      obtain ⟨A, hA, hAs, hAt⟩ := hcw
      have HI := Lib.hid (And.intro hA (And.intro hAs (And.intro hAt hf)))
      clear hA hAs hAt hf hnx hlk
      go_wp2
      go_ret2
      obtain ⟨hA, hAs, hAt, hf⟩ := HI.out
      unfold CodesGood
      rw [← H.out.2.2.1]
      refine ⟨Q, rfl, .inr ⟨Q, 0, rfl, fun j v hv => ?_⟩, by rw [HS.out.2.2]; exact Nat.le_refl _, lt_of_block hA, hf⟩
      have hj : j < ls.length := by
        have := (List.getElem?_eq_some_iff.1 hv).1
        simpa [codesOf] using this
      rw [Nat.zero_add, cell_of hA, hAt j hj, cw_end (H.out.2.1 _ (lenAt_mem hj))]
      rw [← hv]
      simp [codesOf, hj]
end Go.Proofs.YtolkoidbkaidkaaGreat.huf
/-
  slices.SortStableFunc[huff.coin], from below: swapRange.
-/
namespace Go.Proofs.YtolkoidbkaidkaaGreat.huf
open Go Go.RowKit Go.Proofs.YtolkoidbkaidkaaGreat.lib Go.Proofs.YtolkoidbkaidkaaGreat.bm Go.Proofs.YtolkoidbkaidkaaGreat.bl

/-- A coin in memory: its worth and its row. -/
structure Mc where
  worth : Nat
  ao : Option Addr
  len : Nat
  cap : Nat
/-- The first n coins of block g are these; behind them stands what stood in A0. -/
def Dw (w : World) (g : Nat) (T : TypeId) (A0 : Array Value) (n : Nat) (f : Nat → Mc) : Prop :=
  ∃ A : Array Value, w.heap[g]? = some (.cells A T (0, 0)) ∧ A.size = A0.size ∧ 2 * n ≤ A.size ∧ (∀ j, 2 * n ≤ j → A[j]? = A0[j]?) ∧
    ∀ i, i < n → A[i * 2]? = some (.int .i64 ((f i).worth : Nat)) ∧ A[i * 2 + 1]? = some (.slice (f i).ao (f i).len (f i).cap)
/-- Two coins change places. -/
def swp (f : Nat → Mc) (x y : Nat) : Nat → Mc := fun i => if i = x then f y else if i = y then f x else f i
/-- The first k of two blocks of coins change places. -/
def swr (f : Nat → Mc) (a b : Nat) : Nat → Nat → Mc
  | 0 => f
  | k + 1 => swp (swr f a b k) (b + k) (a + k)
theorem Dw.swap {g : Nat} {T : TypeId} {A0 A : Array Value} {n x y : Nat} {f : Nat → Mc} (w2 : World) (pw : Nat) (pa : Option Addr) (pl pc qw : Nat) (qa : Option Addr) (ql qc : Nat)
    (hs : A.size = A0.size) (hn : 2 * n ≤ A.size) (ht : ∀ j, 2 * n ≤ j → A[j]? = A0[j]?)
    (hf : ∀ i, i < n → A[i * 2]? = some (.int .i64 ((f i).worth : Nat)) ∧ A[i * 2 + 1]? = some (.slice (f i).ao (f i).len (f i).cap))
    (hx : x < n) (hy : y < n) (hp : (⟨pw, pa, pl, pc⟩ : Mc) = f x) (hq : (⟨qw, qa, ql, qc⟩ : Mc) = f y)
    (h : w2.heap[g]? = some (.cells ((((A.setIfInBounds (x * 2) (.int .i64 (qw : Nat))).setIfInBounds (x * 2 + 1) (.slice qa ql qc)).setIfInBounds (y * 2) (.int .i64 (pw : Nat))).setIfInBounds (y * 2 + 1) (.slice pa pl pc)) T (0, 0))) :
    Dw w2 g T A0 n (swp f y x) := by
  refine ⟨_, h, by simp [hs], by simp; exact hn, fun j hj => ?_, fun i hi => ?_⟩
  · rw [Array.getElem?_setIfInBounds_ne (by omega), Array.getElem?_setIfInBounds_ne (by omega), Array.getElem?_setIfInBounds_ne (by omega), Array.getElem?_setIfInBounds_ne (by omega)]
    exact ht j hj
  · unfold swp
    by_cases h1 : i = y
    · subst h1
      rw [if_pos rfl, ← hp]
      refine ⟨?_, ?_⟩
      · rw [Array.getElem?_setIfInBounds_ne (by omega), Array.getElem?_setIfInBounds_self_of_lt (by simp; omega)]
      · rw [Array.getElem?_setIfInBounds_self_of_lt (by simp; omega)]
    · rw [if_neg h1]
      by_cases h2 : i = x
      · subst h2
        rw [if_pos rfl, ← hq]
        refine ⟨?_, ?_⟩
        · rw [Array.getElem?_setIfInBounds_ne (by omega), Array.getElem?_setIfInBounds_ne (by omega), Array.getElem?_setIfInBounds_ne (by omega), Array.getElem?_setIfInBounds_self_of_lt (by omega)]
        · rw [Array.getElem?_setIfInBounds_ne (by omega), Array.getElem?_setIfInBounds_ne (by omega), Array.getElem?_setIfInBounds_self_of_lt (by simp; omega)]
      · rw [if_neg h2]
        refine ⟨?_, ?_⟩
        · rw [Array.getElem?_setIfInBounds_ne (by omega), Array.getElem?_setIfInBounds_ne (by omega), Array.getElem?_setIfInBounds_ne (by omega), Array.getElem?_setIfInBounds_ne (by omega)]
          exact (hf i hi).1
        · rw [Array.getElem?_setIfInBounds_ne (by omega), Array.getElem?_setIfInBounds_ne (by omega), Array.getElem?_setIfInBounds_ne (by omega), Array.getElem?_setIfInBounds_ne (by omega)]
          exact (hf i hi).2
set_option maxRecDepth 100000 in
set_option maxHeartbeats 2000000 in
theorem swap_range (g : Nat) (T : TypeId) (A0 : Array Value) (L cap n a b : Nat) (f : Nat → Mc) (cmp : Value) (w : World)
    (h : Dw w g T A0 L f) (ha : a + n ≤ b) (hb : b + n ≤ L) (hL : L ≤ 100000) :
    Calls Tryz.prog 92 #[.slice (some ⟨g, 0, none⟩) L cap, .int .i64 (a : Nat), .int .i64 (b : Nat), .int .i64 (n : Nat), cmp] w fun e w' => e = .returned (.tuple #[]) ∧ Dw w' g T A0 L (swr f a b n) ∧ Fr [g] w w' := by
  have H := Lib.hid h
  clear h
  go_enter Tryz.func92, Tryz.ntmps92
  go_wp2
  go_loopg [10] n (fun k s10 wr => ∃ i : Nat, s10 = .int .i64 (i : Nat) ∧ i + k = n ∧ Dw wr g T A0 L (swr f a b i) ∧ Fr [g] w wr)
  case atStart => exact ⟨0, rfl, by omega, H.out, .refl _ w⟩
  case round =>
    obtain ⟨i, rfl, hik, hD, hf⟩ := hrel
    by_cases hi : i < n
    · obtain ⟨k, rfl⟩ : ∃ k, gk = k + 1 := ⟨gk - 1, by omega⟩
      obtain ⟨A, hA, hAs, hAn, hAt, hAf⟩ := hD
      obtain ⟨x, hx⟩ : ∃ x, x = a + i := ⟨_, rfl⟩
      obtain ⟨y, hy⟩ : ∃ y, y = b + i := ⟨_, rfl⟩
      have X := hAf x (by omega)
      have Y := hAf y (by omega)
      obtain ⟨p, hp⟩ : ∃ p, p = swr f a b i x := ⟨_, rfl⟩
      obtain ⟨q, hq⟩ : ∃ q, q = swr f a b i y := ⟨_, rfl⟩
      rw [← hp] at X
      rw [← hq] at Y
      obtain ⟨pw, pa, pl, pc⟩ := p
      obtain ⟨qw, qa, ql, qc⟩ := q
      have d0 := (cell_of hA (x * 2)).trans X.1
      have d1 := (cell_of hA (x * 2 + 1)).trans X.2
      have d2 := (cell_of hA (y * 2)).trans Y.1
      have d3 := (cell_of hA (y * 2 + 1)).trans Y.2
      simp only at d0 d1 d2 d3
      have e0 : ((a : Int) + (i : Int)) = (x : Int) := by omega
      have e1 : ((b : Int) + (i : Int)) = (y : Int) := by omega
      have g1 : decide ((x : Int) < 0) = false := by simp
      have g2 : decide ((L : Int) ≤ (x : Int)) = false := by simp; omega
      have g3 : decide ((y : Int) < 0) = false := by simp
      have g4 : decide ((L : Int) ≤ (y : Int)) = false := by simp; omega
      have hxl : x < L := by omega
      have hyl : y < L := by omega
      have HX := Lib.hid (And.intro hA (And.intro hAs (And.intro hAn (And.intro hAt (And.intro hAf (And.intro hf (And.intro hp (And.intro hq (And.intro hx hy)))))))))
      clear hA hAs hAn hAt hAf hf hp hq X Y hx hy
      go_upto_region 3 with fail
      refine region_mixE [(0, 0), (0, 1), (0, 2), (0, 3), (0, 4), (0, 5), (0, 6), (0, 7), (0, 8), (0, 9), (0, 10), (0, 11), (0, 12), (1, 13), (0, 14), (0, 15), (0, 16), (0, 17), (0, 18), (1, 19), (0, 20), (2, 21), (0, 22), (2, 23)] [g] [21, 23] (by kernel_rfl) (by kernel_rfl) (fun _ _ d _ _ h => by cases d <;> exact h) ?_
      simp only [List.map_cons, List.map_nil, List.getD_cons_zero, List.getD_cons_succ]
      refine mixE_seg 13 rfl ?_
      simp only [List.take_succ_cons, List.take_zero, List.drop_succ_cons, List.drop_zero, List.map_cons, List.map_nil]
      repeat (go_big_quiet_step (fail))
      refine wpQuiet_nil ?_
      refine mixE_early 1 rfl ?_
      simp only [List.take_succ_cons, List.take_zero, List.drop_succ_cons, List.drop_zero, List.map_cons, List.map_nil]
      repeat (go_big_quiet_step (fail))
      refine wpQuiet_nil ?_
      refine mixE_seg 5 rfl ?_
      simp only [List.take_succ_cons, List.take_zero, List.drop_succ_cons, List.drop_zero, List.map_cons, List.map_nil]
      repeat (go_big_quiet_step (fail))
      refine wpQuiet_nil ?_
      refine mixE_early 1 rfl ?_
      simp only [List.take_succ_cons, List.take_zero, List.drop_succ_cons, List.drop_zero, List.map_cons, List.map_nil]
      repeat (go_big_quiet_step (fail))
      refine wpQuiet_nil ?_
      refine mixE_seg 1 rfl ?_
      simp only [List.take_succ_cons, List.take_zero, List.drop_succ_cons, List.drop_zero, List.map_cons, List.map_nil]
      repeat (go_big_quiet_step (fail))
      refine wpQuiet_nil ?_
      refine mixE_eff rfl ?_
      intro K hK
      have z0 := frozen_of HX.out.1 (x * 2)
      have z1 := frozen_of HX.out.1 (x * 2 + 1)
      go_wp2
      refine hK.out _ _ (Fr.from_drew ((((Fr.refl [g] wr).setCell (by simp) _).setCell (by simp) _).drew)) ?_
      clear hK K z0 z1
      obtain ⟨w1, hw1⟩ : ∃ w1, w1 = ((wr.setCell ⟨g, x * 2, none⟩ (.int .i64 (qw : Nat))).setCell ⟨g, x * 2 + 1, none⟩ (.slice qa ql qc)) := ⟨_, rfl⟩
      rw [← hw1]
      have hA1 := setCell_of (o := x * 2 + 1) (setCell_of (o := x * 2) HX.out.1 (.int .i64 (qw : Nat))) (.slice qa ql qc)
      rw [← hw1] at hA1
      obtain ⟨A1, hB⟩ : ∃ A1, A1 = (A.setIfInBounds (x * 2) (.int .i64 (qw : Nat))).setIfInBounds (x * 2 + 1) (.slice qa ql qc) := ⟨_, rfl⟩
      rw [← hB] at hA1
      have z0 := frozen_of hA1 (y * 2)
      have z1 := frozen_of hA1 (y * 2 + 1)
      have hxy : x < y := by have := HX.out.2.2.2.2.2.2.2.2; omega
      have c2 : w1.cell? ⟨g, y * 2, none⟩ = some (.int .i64 (qw : Nat)) := by
        rw [cell_of hA1, hB, Array.getElem?_setIfInBounds_ne (by omega), Array.getElem?_setIfInBounds_ne (by omega), ← cell_of HX.out.1]
        exact d2
      have c3 : w1.cell? ⟨g, y * 2 + 1, none⟩ = some (.slice qa ql qc) := by
        rw [cell_of hA1, hB, Array.getElem?_setIfInBounds_ne (by omega), Array.getElem?_setIfInBounds_ne (by omega), ← cell_of HX.out.1]
        exact d3
      have HY := Lib.hid (And.intro hA1 (And.intro hB hw1))
      clear hA1 hB hw1 d0 d1 d2 d3
      refine mixE_seg 1 rfl ?_
      simp only [List.take_succ_cons, List.take_zero, List.drop_succ_cons, List.drop_zero, List.map_cons, List.map_nil]
      repeat (go_big_quiet_step (fail))
      refine wpQuiet_nil ?_
      refine mixE_eff rfl ?_
      intro K hK
      go_wp2
      refine hK.out _ _ (Fr.from_drew ((((Fr.refl [g] w1).setCell (by simp) _).setCell (by simp) _).drew)) ?_
      clear hK K z0 z1 c2 c3
      refine mixE_nil ?_
      go_wp2
      go_roundg k
      case measure => omega
      case rel =>
        obtain ⟨hA, hAs, hAn, hAt, hAf, hf, hp, hq, hx, hy⟩ := HX.out
        obtain ⟨hA1, hB, hw1⟩ := HY.out
        have hA2 := setCell_of (o := y * 2 + 1) (setCell_of (o := y * 2) hA1 (.int .i64 (pw : Nat))) (.slice pa pl pc)
        rw [hB] at hA2
        obtain ⟨w2, hw2⟩ : ∃ w2, w2 = ((w1.setCell ⟨g, y * 2, none⟩ (.int .i64 (pw : Nat))).setCell ⟨g, y * 2 + 1, none⟩ (.slice pa pl pc)) := ⟨_, rfl⟩
        rw [← hw2] at hA2 ⊢
        refine ⟨i + 1, by go_num, by omega, ?_, ?_⟩
        · rw [swr, ← hx, ← hy]
          exact Dw.swap _ pw pa pl pc qw qa ql qc hAs hAn hAt hAf hxl hyl hp hq hA2
        · rw [hw2, hw1]
          exact ((((hf.setCell (by simp) _).setCell (by simp) _).setCell (by simp) _).setCell (by simp) _).drew
    · obtain rfl : i = n := by omega
      have HI := Lib.hid (And.intro hD hf)
      clear hD hf
      go_wp2
      (try simp only [Exit.inBlock, Exit.then])
      refine bodyPost_end (results_none rfl _ _ _) rfl ?_
      exact ⟨rfl, HI.out.1, HI.out.2⟩
end Go.Proofs.YtolkoidbkaidkaaGreat.huf
/-
  slices.SortStableFunc in plain Lean: rotation, insertion, merging by rotation.
-/
namespace Go.Proofs.YtolkoidbkaidkaaGreat.huf
open Go Go.RowKit Go.Proofs.YtolkoidbkaidkaaGreat.lib

theorem swr_eq (f : Nat → Mc) (a b : Nat) : ∀ n, a + n ≤ b → ∀ t, swr f a b n t = if a ≤ t ∧ t < a + n then f (t - a + b) else if b ≤ t ∧ t < b + n then f (t - b + a) else f t
  | 0, _, t => by rw [if_neg (by omega), if_neg (by omega)]; rfl
  | n + 1, h, t => by
    have ih := swr_eq f a b n (by omega)
    show (if t = b + n then swr f a b n (a + n) else if t = a + n then swr f a b n (b + n) else swr f a b n t) = _
    rw [ih, ih, ih]
    by_cases h1 : t = b + n
    · subst h1
      rw [if_pos rfl, if_neg (by omega), if_neg (by omega), if_neg (by omega), if_pos (by omega)]
      congr 1; omega
    · rw [if_neg h1]
      by_cases h2 : t = a + n
      · subst h2
        rw [if_pos rfl, if_neg (by omega), if_neg (by omega), if_pos (by omega)]
        congr 1; omega
      · rw [if_neg h2]
        by_cases h3 : a ≤ t ∧ t < a + n
        · rw [if_pos h3, if_pos (by omega)]
        · rw [if_neg h3, if_neg (c := a ≤ t ∧ t < a + (n + 1)) (by omega)]
          by_cases h4 : b ≤ t ∧ t < b + n
          · rw [if_pos h4, if_pos (by omega)]
          · rw [if_neg h4, if_neg (by omega)]
/-- The two blocks [a, m) and [m, b) change places. -/
def rotf (f : Nat → Mc) (a m b : Nat) : Nat → Mc := fun t => if a ≤ t ∧ t < a + (b - m) then f (t - a + m) else if a + (b - m) ≤ t ∧ t < b then f (t - (b - m)) else f t
theorem rotf_first {f : Nat → Mc} {a m b t : Nat} (h1 : a ≤ t) (h2 : t < a + (b - m)) : rotf f a m b t = f (t - a + m) := if_pos ⟨h1, h2⟩
theorem rotf_last {f : Nat → Mc} {a m b t : Nat} (h1 : a + (b - m) ≤ t) (h2 : t < b) : rotf f a m b t = f (t - (b - m)) := by
  unfold rotf; rw [if_neg (by omega), if_pos ⟨h1, h2⟩]
theorem rotf_out {f : Nat → Mc} {a m b t : Nat} (ha : a ≤ m) (hb : m ≤ b) (h : t < a ∨ b ≤ t) : rotf f a m b t = f t := by
  unfold rotf; rw [if_neg (by omega), if_neg (by omega)]
theorem rot_eq (f : Nat → Mc) (m i : Nat) (hi : i ≤ m) : swr f (m - i) m i = rotf f (m - i) m (m + i) := by
  funext t
  rw [swr_eq f (m - i) m i (by omega) t]
  unfold rotf
  by_cases h1 : m - i ≤ t ∧ t < m - i + i
  · rw [if_pos h1, if_pos (by omega)]
  · rw [if_neg h1, if_neg (c := m - i ≤ t ∧ t < m - i + (m + i - m)) (by omega)]
    by_cases h2 : m ≤ t ∧ t < m + i
    · rw [if_pos h2, if_pos (by omega)]; congr 1; omega
    · rw [if_neg h2, if_neg (by omega)]
theorem rot_gt (f : Nat → Mc) (m i j : Nat) (hi : i ≤ m) (hj : j < i) : rotf (swr f (m - i) m j) (m - (i - j)) m (m + j) = rotf f (m - i) m (m + j) := by
  funext t
  have e := swr_eq f (m - i) m j (by omega)
  unfold rotf
  rw [e, e, e]
  by_cases h1 : m - (i - j) ≤ t ∧ t < m - (i - j) + (m + j - m)
  · rw [if_pos h1]
    rw [if_neg (c := m - i ≤ t - (m - (i - j)) + m ∧ _) (by omega), if_pos (c := m ≤ t - (m - (i - j)) + m ∧ _) (by omega), if_neg (c := m - i ≤ t ∧ _) (by omega), if_pos (by omega)]
    congr 1; omega
  · rw [if_neg h1]
    by_cases h2 : m - (i - j) + (m + j - m) ≤ t ∧ t < m + j
    · rw [if_pos h2, if_neg (c := m - i ≤ t - (m + j - m) ∧ _) (by omega), if_neg (c := m ≤ t - (m + j - m) ∧ _) (by omega), if_neg (c := m - i ≤ t ∧ _) (by omega), if_pos (by omega)]
    · rw [if_neg h2]
      by_cases h3 : m - i ≤ t ∧ t < m - i + j
      · rw [if_pos h3, if_pos (by omega)]
      · rw [if_neg h3, if_neg (c := m ≤ t ∧ _) (by omega), if_neg (by omega), if_neg (by omega)]
theorem rot_lt (f : Nat → Mc) (m i j : Nat) (hi : i ≤ m) (hj : i < j) : rotf (swr f (m - i) (m + j - i) i) (m - i) m (m + (j - i)) = rotf f (m - i) m (m + j) := by
  funext t
  have e := swr_eq f (m - i) (m + j - i) i (by omega)
  unfold rotf
  rw [e, e, e]
  by_cases h1 : m - i ≤ t ∧ t < m - i + (m + (j - i) - m)
  · rw [if_pos h1]
    rw [if_neg (c := m - i ≤ t - (m - i) + m ∧ _) (by omega), if_neg (c := m + j - i ≤ t - (m - i) + m ∧ _) (by omega), if_pos (by omega)]
  · rw [if_neg h1]
    by_cases h2 : m - i + (m + (j - i) - m) ≤ t ∧ t < m + (j - i)
    · rw [if_pos h2, if_pos (c := m - i ≤ t - (m + (j - i) - m) ∧ _) (by omega), if_pos (c := m - i ≤ t ∧ _) (by omega)]
      congr 1; omega
    · rw [if_neg h2, if_neg (c := m - i ≤ t ∧ t < m - i + i) (by omega), if_neg (c := m - i ≤ t ∧ _) (by omega)]
      by_cases h3 : m + j - i ≤ t ∧ t < m + j - i + i
      · rw [if_pos h3, if_pos (by omega)]; congr 1; omega
      · rw [if_neg h3, if_neg (by omega)]
theorem rotf_none (f : Nat → Mc) (a m b : Nat) (ha : a ≤ m) (hb : m ≤ b) (h : a = m ∨ m = b) : rotf f a m b = f := by
  funext t
  unfold rotf
  by_cases h1 : a ≤ t ∧ t < a + (b - m)
  · rw [if_pos h1]; congr 1; omega
  · rw [if_neg h1]
    by_cases h2 : a + (b - m) ≤ t ∧ t < b
    · rw [if_pos h2]; congr 1; omega
    · rw [if_neg h2]
/-- One coin moves one place to the front. -/
theorem rot_down (f : Nat → Mc) (i j : Nat) (hj : 0 < j) (hji : j ≤ i) : swp (rotf f j i (i + 1)) j (j - 1) = rotf f (j - 1) i (i + 1) := by
  funext t
  unfold swp
  by_cases h1 : t = j
  · subst h1
    rw [if_pos rfl, rotf_out (by omega) (by omega) (.inl (by omega)), rotf_last (by omega) (by omega)]
    congr 1; omega
  · rw [if_neg h1]
    by_cases h2 : t = j - 1
    · subst h2
      rw [if_pos rfl, rotf_first (by omega) (by omega), rotf_first (by omega) (by omega)]
      congr 1; omega
    · rw [if_neg h2]
      by_cases h3 : t < j - 1 ∨ i + 1 ≤ t
      · rw [rotf_out (by omega) (by omega) (by omega), rotf_out (by omega) (by omega) h3]
      · rw [rotf_last (by omega) (by omega), rotf_last (by omega) (by omega)]
/-- One coin moves one place to the end. -/
theorem rot_up (f : Nat → Mc) (a k : Nat) (hk : a ≤ k) : swp (rotf f a (a + 1) (k + 1)) k (k + 1) = rotf f a (a + 1) (k + 2) := by
  funext t
  unfold swp
  by_cases h1 : t = k
  · subst h1
    rw [if_pos rfl, rotf_out (by omega) (by omega) (.inr (by omega)), rotf_first (by omega) (by omega)]
    congr 1; omega
  · rw [if_neg h1]
    by_cases h2 : t = k + 1
    · subst h2
      rw [if_pos rfl, rotf_last (by omega) (by omega), rotf_last (by omega) (by omega)]
      congr 1; omega
    · rw [if_neg h2]
      by_cases h3 : t < a ∨ k + 2 ≤ t
      · rw [rotf_out (by omega) (by omega) (by omega), rotf_out (by omega) (by omega) h3]
      · rw [rotf_first (by omega) (by omega), rotf_first (by omega) (by omega)]
def tg (x : Mc) : Nat × Mc := (x.worth, x)
/-- n coins from a on. -/
def sg (f : Nat → Mc) (a n : Nat) : List (Nat × Mc) := (List.range n).map fun i => tg (f (a + i))
theorem sg_congr {f f' : Nat → Mc} {a a' n : Nat} (h : ∀ t, t < n → f (a + t) = f' (a' + t)) : sg f a n = sg f' a' n := by
  unfold sg
  exact List.map_congr_left fun t ht => by rw [h t (List.mem_range.1 ht)]
theorem sg_append (f : Nat → Mc) (a n m : Nat) : sg f a (n + m) = sg f a n ++ sg f (a + n) m := by
  unfold sg
  rw [List.range_add, List.map_append, List.map_map]
  congr 1
  exact List.map_congr_left fun t _ => by simp [Nat.add_assoc]
theorem sg_split (f : Nat → Mc) (a m b : Nat) (h1 : a ≤ m) (h2 : m ≤ b) : sg f a (b - a) = sg f a (m - a) ++ sg f m (b - m) := by
  rw [show b - a = (m - a) + (b - m) from by omega, sg_append, show a + (m - a) = m from by omega]
theorem sg_one (f : Nat → Mc) (a : Nat) : sg f a 1 = [tg (f a)] := rfl
theorem sg_zero (f : Nat → Mc) (a : Nat) : sg f a 0 = [] := rfl
theorem sg_length (f : Nat → Mc) (a n : Nat) : (sg f a n).length = n := by simp [sg]
theorem mem_sg {f : Nat → Mc} {a n : Nat} {x : Nat × Mc} : x ∈ sg f a n ↔ ∃ t, t < n ∧ x = tg (f (a + t)) := by
  unfold sg
  rw [List.mem_map]
  constructor
  · rintro ⟨t, ht, rfl⟩; exact ⟨t, List.mem_range.1 ht, rfl⟩
  · rintro ⟨t, ht, rfl⟩; exact ⟨t, List.mem_range.2 ht, rfl⟩
theorem srt_sg {f : Nat → Mc} {a n : Nat} : Srt (sg f a n) ↔ ∀ i j, i ≤ j → j < n → (f (a + i)).worth ≤ (f (a + j)).worth := by
  unfold Srt sg
  rw [List.pairwise_map]
  constructor
  · intro h i j hij hj
    rcases Nat.lt_or_ge i j with k | k
    · have := List.pairwise_iff_getElem.1 h i j (by simp; omega) (by simp; omega) k
      simpa [tg] using this
    · obtain rfl : i = j := by omega
      exact Nat.le_refl _
  · intro h
    refine List.pairwise_iff_getElem.2 fun i j hi hj hij => ?_
    simp only [List.length_range] at hi hj
    simpa [tg] using h i j (by omega) hj
theorem srt_part {f : Nat → Mc} {a n c k : Nat} (h : Srt (sg f a n)) (h1 : a ≤ c) (h2 : c + k ≤ a + n) : Srt (sg f c k) := by
  rw [srt_sg] at h ⊢
  intro i j hij hj
  have := h (c - a + i) (c - a + j) (by omega) (by omega)
  rwa [show a + (c - a + i) = c + i from by omega, show a + (c - a + j) = c + j from by omega] at this
theorem sg_rot_first (f : Nat → Mc) (s m e : Nat) (h1 : s ≤ m) (h2 : m ≤ e) : sg (rotf f s m e) s (e - m) = sg f m (e - m) :=
  sg_congr fun t ht => by rw [rotf_first (by omega) (by omega)]; congr 1; omega
theorem sg_rot_last (f : Nat → Mc) (s m e : Nat) (h1 : s ≤ m) (h2 : m ≤ e) : sg (rotf f s m e) (s + (e - m)) (m - s) = sg f s (m - s) :=
  sg_congr fun t ht => by rw [rotf_last (by omega) (by omega)]; congr 1; omega
theorem sg_rot_out (f : Nat → Mc) (s m e a n : Nat) (h1 : s ≤ m) (h2 : m ≤ e) (h : a + n ≤ s ∨ e ≤ a) : sg (rotf f s m e) a n = sg f a n :=
  sg_congr fun t ht => by rw [rotf_out h1 h2 (by omega)]
/-- What a sort of [a, b) leaves. -/
structure Sd (f f' : Nat → Mc) (a b : Nat) : Prop where
  out : ∀ t, t < a ∨ b ≤ t → f' t = f t
  srt : Srt (sg f' a (b - a))
  stb : Stb (sg f' a (b - a)) (sg f a (b - a))
/-- One coin from the end put in its place: insertion, and symMerge's second short way. -/
theorem sd_right (f : Nat → Mc) (a i j : Nat) (ha : a ≤ j) (hj : j ≤ i) (hs : Srt (sg f a (i - a))) (h1 : a < j → (f (j - 1)).worth ≤ (f i).worth) (h2 : j < i → (f i).worth < (f j).worth) :
    Sd f (rotf f j i (i + 1)) a (i + 1) := by
  have hs' := srt_sg.1 hs
  have e0 : sg (rotf f j i (i + 1)) a (i + 1 - a) = sg f a (j - a) ++ tg (f i) :: sg f j (i - j) := by
    rw [sg_split _ a j (i + 1) ha (by omega), sg_rot_out _ _ _ _ _ _ hj (by omega) (.inl (by omega)), sg_split _ j (j + 1) (i + 1) (by omega) (by omega), show j + 1 - j = i + 1 - i from by omega, sg_rot_first _ _ _ _ hj (by omega), show j + 1 = j + (i + 1 - i) from by omega, show i + 1 - (j + (i + 1 - i)) = i - j from by omega,
      sg_rot_last _ _ _ _ hj (by omega), show i + 1 - i = 1 from by omega, sg_one]
    rfl
  have e1 : sg f a (i + 1 - a) = sg f a (j - a) ++ sg f j (i - j) ++ [tg (f i)] := by
    rw [sg_split f a i (i + 1) (by omega) (by omega), sg_split f a j i ha hj, show i + 1 - i = 1 from by omega, sg_one]
  have hp := put_right (x := tg (f i)) (A1 := sg f a (j - a)) (A2 := sg f j (i - j)) (by rw [← sg_split f a j i ha hj]; exact hs)
    (fun y hy => by
      obtain ⟨t, ht, rfl⟩ := mem_sg.1 hy
      refine Nat.le_trans (hs' t (j - 1 - a) (by omega) (by omega)) ?_
      rw [show a + (j - 1 - a) = j - 1 from by omega]
      exact h1 (by omega))
    (fun y hy => by
      obtain ⟨t, ht, rfl⟩ := mem_sg.1 hy
      refine Nat.lt_of_lt_of_le (h2 (by omega)) ?_
      have := hs' (j - a) (j - a + t) (by omega) (by omega)
      rwa [show a + (j - a) = j from by omega, show a + (j - a + t) = j + t from by omega] at this)
  exact ⟨fun t ht => rotf_out hj (by omega) (by omega), by rw [e0]; exact hp.1, by rw [e0, e1]; exact hp.2⟩
/-- One coin from the front put in its place. -/
theorem sd_left (f : Nat → Mc) (a i b : Nat) (hi : a < i) (hb : i ≤ b) (hs : Srt (sg f (a + 1) (b - (a + 1)))) (h1 : a + 1 < i → (f (i - 1)).worth < (f a).worth) (h2 : i < b → (f a).worth ≤ (f i).worth) :
    Sd f (rotf f a (a + 1) i) a b := by
  have hs' := srt_sg.1 hs
  have e0 : sg (rotf f a (a + 1) i) a (b - a) = sg f (a + 1) (i - (a + 1)) ++ tg (f a) :: sg f i (b - i) := by
    have q1 := sg_rot_out f a (a + 1) i i (b - i) (by omega) (by omega) (.inr (Nat.le_refl _))
    have q2 := sg_rot_first f a (a + 1) i (by omega) (by omega)
    have q3 := sg_rot_last f a (a + 1) i (by omega) (by omega)
    have q4 : sg (rotf f a (a + 1) i) a (i - a) = sg f (a + 1) (i - (a + 1)) ++ sg f a (a + 1 - a) := by
      rw [show i - a = (i - (a + 1)) + (a + 1 - a) from by omega, sg_append, q2, q3]
    rw [sg_split _ a i b (by omega) hb, q1, q4, show a + 1 - a = 1 from by omega, sg_one]
    simp
  have e1 : sg f a (b - a) = tg (f a) :: (sg f (a + 1) (i - (a + 1)) ++ sg f i (b - i)) := by
    rw [sg_split f a (a + 1) b (by omega) (by omega), sg_split f (a + 1) i b (by omega) hb, show a + 1 - a = 1 from by omega, sg_one]
    rfl
  have hp := put_left (x := tg (f a)) (B1 := sg f (a + 1) (i - (a + 1))) (B2 := sg f i (b - i)) (by rw [← sg_split f (a + 1) i b (by omega) hb]; exact hs)
    (fun y hy => by
      obtain ⟨t, ht, rfl⟩ := mem_sg.1 hy
      refine Nat.lt_of_le_of_lt (hs' t (i - 1 - (a + 1)) (by omega) (by omega)) ?_
      rw [show a + 1 + (i - 1 - (a + 1)) = i - 1 from by omega]
      exact h1 (by omega))
    (fun y hy => by
      obtain ⟨t, ht, rfl⟩ := mem_sg.1 hy
      refine Nat.le_trans (h2 (by omega)) ?_
      have := hs' (i - (a + 1)) (i - (a + 1) + t) (by omega) (by omega)
      rwa [show a + 1 + (i - (a + 1)) = i from by omega, show a + 1 + (i - (a + 1) + t) = i + t from by omega] at this)
  exact ⟨fun t ht => rotf_out (by omega) (by omega) (by omega), by rw [e0]; exact hp.1, by rw [e0, e1]; exact hp.2⟩
/-- symMerge's long way: turned about at the place found, then each side by itself. -/
theorem sd_sym (f f1 f2 : Nat → Mc) (a m b mid s e : Nat) (hmid : mid = (a + b) / 2) (ham : a < m) (hmb : m < b) (hse : s + e = mid + m) (has : a ≤ s) (hsm : s ≤ m) (hme : m ≤ e) (heb : e ≤ b)
    (hA : Srt (sg f a (m - a))) (hB : Srt (sg f m (b - m)))
    (h1 : s < m → m < e → (f (e - 1)).worth < (f s).worth) (h2 : a < s → e < b → (f (s - 1)).worth ≤ (f e).worth)
    (d1 : Sd (rotf f s m e) f1 a mid) (d2 : Sd f1 f2 mid b) : Sd f f2 a b := by
  have hA' := srt_sg.1 hA
  have hB' := srt_sg.1 hB
  have em : s + (e - m) = mid := by omega
  have eA : sg f a (m - a) = sg f a (s - a) ++ sg f s (m - s) := sg_split f a s m has hsm
  have eB : sg f m (b - m) = sg f m (e - m) ++ sg f e (b - e) := sg_split f m e b hme heb
  have eL : sg (rotf f s m e) a (mid - a) = sg f a (s - a) ++ sg f m (e - m) := by
    have q1 := sg_rot_out f s m e a (s - a) hsm hme (.inl (by omega))
    have q2 := sg_rot_first f s m e hsm hme
    rw [sg_split _ a s mid has (by omega), q1, show mid - s = e - m from by omega, q2]
  have eR : sg (rotf f s m e) mid (b - mid) = sg f s (m - s) ++ sg f e (b - e) := by
    have q1 := sg_rot_out f s m e e (b - e) hsm hme (.inr (Nat.le_refl _))
    have q2 := sg_rot_last f s m e hsm hme
    rw [em] at q2
    rw [sg_split _ mid e b (by omega) heb, q1, show e - mid = m - s from by omega, q2]
  have eR1 : sg f1 mid (b - mid) = sg (rotf f s m e) mid (b - mid) := sg_congr fun t ht => d1.out _ (.inr (by omega))
  have eL2 : sg f2 a (mid - a) = sg f1 a (mid - a) := sg_congr fun t ht => d2.out _ (.inl (by omega))
  have hp := sym_step (A1 := sg f a (s - a)) (A2 := sg f s (m - s)) (B1 := sg f m (e - m)) (B2 := sg f e (b - e)) (L := sg f1 a (mid - a)) (R := sg f2 mid (b - mid))
    (by rw [← eA]; exact hA) (by rw [← eB]; exact hB)
    (fun x hx y hy => by
      obtain ⟨t, ht, rfl⟩ := mem_sg.1 hx
      obtain ⟨u, hu, rfl⟩ := mem_sg.1 hy
      have k1 := hA' (s - a) (s - a + t) (by omega) (by omega)
      have k2 := hB' u (e - 1 - m) (by omega) (by omega)
      rw [show a + (s - a) = s from by omega, show a + (s - a + t) = s + t from by omega] at k1
      rw [show m + (e - 1 - m) = e - 1 from by omega] at k2
      exact Nat.lt_of_le_of_lt k2 (Nat.lt_of_lt_of_le (h1 (by omega) (by omega)) k1))
    (fun x hx y hy => by
      obtain ⟨t, ht, rfl⟩ := mem_sg.1 hx
      obtain ⟨u, hu, rfl⟩ := mem_sg.1 hy
      have k1 := hA' t (s - 1 - a) (by omega) (by omega)
      have k2 := hB' (e - m) (e - m + u) (by omega) (by omega)
      rw [show a + (s - 1 - a) = s - 1 from by omega] at k1
      rw [show m + (e - m) = e from by omega, show m + (e - m + u) = e + u from by omega] at k2
      exact Nat.le_trans k1 (Nat.le_trans (h2 (by omega) (by omega)) k2))
    d1.srt (by rw [← eL]; exact d1.stb) d2.srt (by rw [← eR, ← eR1]; exact d2.stb)
  refine ⟨fun t ht => ?_, ?_, ?_⟩
  · rw [d2.out t (by omega), d1.out t (by omega), rotf_out hsm hme (by omega)]
  · rw [sg_split f2 a mid b (by omega) (by omega), eL2]; exact hp.1
  · rw [sg_split f2 a mid b (by omega) (by omega), eL2, sg_split f a m b (by omega) (by omega), eA, eB]; exact hp.2
/-- A side that is in order already. -/
theorem sd_refl (f : Nat → Mc) (a b : Nat) (h : Srt (sg f a (b - a))) : Sd f f a b := ⟨fun _ _ => rfl, h, .refl _⟩
theorem Sd.trans {f f' f2 : Nat → Mc} {a b : Nat} (h : Sd f f' a b) (h' : Sd f' f2 a b) : Sd f f2 a b := ⟨fun t ht => (h'.out t ht).trans (h.out t ht), h'.srt, h'.stb.trans h.stb⟩
/-- A sort of a part keeps the whole's coins. -/
theorem Sd.widen {f f' : Nat → Mc} {a b : Nat} (h : Sd f f' a b) (hab : a ≤ b) {n : Nat} (hn : b ≤ n) : Stb (sg f' 0 n) (sg f 0 n) := by
  have e : ∀ k : Nat → Mc, sg k 0 n = sg k 0 a ++ sg k a (b - a) ++ sg k b (n - b) := fun k => by
    have h1 := sg_split k 0 a n (by omega) (by omega)
    rw [Nat.sub_zero, Nat.sub_zero] at h1
    rw [h1, sg_split k a b n hab hn, List.append_assoc]
  rw [e f', e f]
  refine Stb.append (Stb.append ?_ h.stb) ?_
  · rw [sg_congr (f := f') (f' := f) fun t ht => h.out _ (.inl (by omega))]; exact .refl _
  · rw [sg_congr (f := f') (f' := f) fun t ht => h.out _ (.inr (by omega))]; exact .refl _
end Go.Proofs.YtolkoidbkaidkaaGreat.huf
/-
  slices.SortStableFunc[huff.coin]: rotate.
-/
namespace Go.Proofs.YtolkoidbkaidkaaGreat.huf
open Go Go.RowKit Go.Proofs.YtolkoidbkaidkaaGreat.lib Go.Proofs.YtolkoidbkaidkaaGreat.bm Go.Proofs.YtolkoidbkaidkaaGreat.bl

set_option maxRecDepth 100000 in
set_option maxHeartbeats 2000000 in
theorem rotate_any (g : Nat) (T : TypeId) (A0 : Array Value) (L cap a m b : Nat) (f : Nat → Mc) (cmp : Value) (w : World)
    (h : Dw w g T A0 L f) (ha : a < m) (hb : m < b) (hbL : b ≤ L) (hL : L ≤ 100000) :
    Calls Tryz.prog 85 #[.slice (some ⟨g, 0, none⟩) L cap, .int .i64 (a : Nat), .int .i64 (m : Nat), .int .i64 (b : Nat), cmp] w fun e w' => e = .returned (.tuple #[]) ∧ Dw w' g T A0 L (rotf f a m b) ∧ Fr [g] w w' := by
  have H := Lib.hid h
  clear h
  obtain ⟨i0, hi0⟩ : ∃ i0, i0 = m - a := ⟨_, rfl⟩
  obtain ⟨j0, hj0⟩ : ∃ j0, j0 = b - m := ⟨_, rfl⟩
  have e0 : (m : Int) - (a : Int) = (i0 : Int) := by omega
  have e1 : (b : Int) - (m : Int) = (j0 : Int) := by omega
  have H0 := Lib.hid (And.intro hi0 (And.intro hj0 (And.intro ha (And.intro hb hbL))))
  have hm : m ≤ 100000 := by omega
  have hi1 : 1 ≤ i0 := by omega
  have hj1 : 1 ≤ j0 := by omega
  have hi2 : i0 ≤ 100000 := by omega
  have hj2 : j0 ≤ 100000 := by omega
  clear hi0 hj0 ha hb hbL
  go_enter Tryz.func85, Tryz.ntmps85
  go_wp2
  go_loopg [10, 11] (i0 + j0) (fun k s10 s11 wr => ∃ i j : Nat, s10 = .int .i64 (i : Nat) ∧ s11 = .int .i64 (j : Nat) ∧ k = i + j ∧ 1 ≤ i ∧ 1 ≤ j ∧ i ≤ m ∧ m + j ≤ L ∧ ∃ f1, Dw wr g T A0 L f1 ∧ rotf f1 (m - i) m (m + j) = rotf f a m b ∧ Fr [g] w wr)
  case atStart =>
    obtain ⟨k0, k1, k2, k3, k4⟩ := H0.out
    exact ⟨i0, j0, rfl, rfl, rfl, hi1, hj1, by omega, by omega, f, H.out, by rw [show m - i0 = a from by omega, show m + j0 = b from by omega], .refl _ w⟩
  case round =>
    obtain ⟨i, j, rfl, rfl, hk, k1, k2, k3, k4, f1, hD, hr, hf⟩ := hrel
    obtain ⟨p, hp⟩ : ∃ p, p = m - i := ⟨_, rfl⟩
    have e2 : (m : Int) - (i : Int) = (p : Int) := by omega
    have b1 : i ≤ 100000 := by omega
    have b2 : j ≤ 100000 := by omega
    rw [← hp] at hr
    by_cases hij : i = j
    · subst hij
      have hs := swap_range g T A0 L cap i p m f1 cmp wr hD (by omega) (by omega) hL
      have er : swr f1 p m i = rotf f a m b := by rw [← hr, hp]; exact rot_eq f1 m i k3
      rw [er] at hs
      have HI := Lib.hid (And.intro hs hf)
      clear hs hr er hf hD hp k3 k4
      go_wp2_with (go_at_call 92; refine HI.out.1.mono ?_; rintro e w2 ⟨rfl, hd2, hf2⟩)
      (try simp only [Exit.inBlock, Exit.then])
      refine bodyPost_end (results_none rfl _ _ _) rfl ?_
      exact ⟨rfl, hd2, HI.out.2.trans hf2⟩
    · have hne : ((i : Int) == (j : Int)) = false := by simp only [beq_eq_false_iff_ne]; omega
      by_cases hgt : j < i
      · have hs := swap_range g T A0 L cap j p m f1 cmp wr hD (by omega) (by omega) hL
        have er := rot_gt f1 m i j k3 hgt
        rw [← hp] at er
        have HI := Lib.hid (And.intro hs (And.intro hf (And.intro er (And.intro hr (And.intro hp hk)))))
        clear hs hr er hf hD hp hk
        obtain ⟨q, hq⟩ : ∃ q, q = i - j := ⟨_, rfl⟩
        have e3 : (i : Int) - (j : Int) = (q : Int) := by omega
        have HQ := Lib.hid hq
        clear hq
        go_wp2_with (go_at_call 92; refine HI.out.1.mono ?_; rintro e w2 ⟨rfl, hd2, hf2⟩; have HW := Lib.hid (And.intro hd2 hf2); clear hd2 hf2)
        have hq := HQ.out
        have hk := HI.out.2.2.2.2.2
        go_roundg (q + j)
        case measure => omega
        case rel => exact ⟨q, j, by go_num, rfl, rfl, by omega, k2, by omega, k4, _, HW.out.1, by rw [hq, HI.out.2.2.1, HI.out.2.2.2.1], HI.out.2.1.trans HW.out.2⟩
      · have hlt : i < j := by omega
        obtain ⟨q, hq⟩ : ∃ q, q = m + j - i := ⟨_, rfl⟩
        have e3 : (m : Int) + (j : Int) - (i : Int) = (q : Int) := by omega
        have hs := swap_range g T A0 L cap i p q f1 cmp wr hD (by omega) (by omega) hL
        have er := rot_lt f1 m i j k3 hlt
        rw [← hp, ← hq] at er
        have HI := Lib.hid (And.intro hs (And.intro hf (And.intro er (And.intro hr (And.intro hp (And.intro hk hq))))))
        clear hs hr er hf hD hp hk hq
        obtain ⟨d, hd⟩ : ∃ d, d = j - i := ⟨_, rfl⟩
        have e4 : (j : Int) - (i : Int) = (d : Int) := by omega
        have HQ := Lib.hid hd
        clear hd
        go_wp2_with (go_at_call 92; refine HI.out.1.mono ?_; rintro e w2 ⟨rfl, hd2, hf2⟩; have HW := Lib.hid (And.intro hd2 hf2); clear hd2 hf2)
        have hd := HQ.out
        have hk := HI.out.2.2.2.2.2.1
        have hp := HI.out.2.2.2.2.1
        go_roundg (i + d)
        case measure => omega
        case rel => exact ⟨i, d, rfl, by go_num, rfl, k1, by omega, k3, by omega, _, HW.out.1, by rw [← hp, hd, HI.out.2.2.1, HI.out.2.2.2.1], HI.out.2.1.trans HW.out.2⟩
end Go.Proofs.YtolkoidbkaidkaaGreat.huf
/-
  slices.SortStableFunc[huff.coin]: the comparison; insertion.
-/
namespace Go.Proofs.YtolkoidbkaidkaaGreat.huf
open Go Go.RowKit Go.Proofs.YtolkoidbkaidkaaGreat.lib Go.Proofs.YtolkoidbkaidkaaGreat.bm Go.Proofs.YtolkoidbkaidkaaGreat.bl

/-- No worth is out of all bounds. -/
def Wb (f : Nat → Mc) : Prop := ∀ i, (f i).worth ≤ 2 ^ 50
theorem Wb.rot {f : Nat → Mc} (h : Wb f) (a m b : Nat) : Wb (rotf f a m b) := fun i => by
  unfold rotf
  split
  · exact h _
  · split <;> exact h _
theorem Wb.sd {f f' : Nat → Mc} {a b : Nat} (h : Wb f) (s : Sd f f' a b) : Wb f' := fun i => by
  by_cases hi : i < a ∨ b ≤ i
  · rw [s.out i hi]; exact h i
  · have h1 : tg (f' i) ∈ sg f' a (b - a) := mem_sg.2 ⟨i - a, by omega, by rw [show a + (i - a) = i from by omega]⟩
    obtain ⟨t, _, ht⟩ := mem_sg.1 ((s.stb.mem _).1 h1)
    have := congrArg Prod.fst ht
    simp only [tg] at this
    rw [this]
    exact h _
def vc (x : Mc) : Value := .agg #[.int .i64 (x.worth : Nat), .slice x.ao x.len x.cap]
def cmpV : Value := .func (.func 36) #[] #[]
set_option maxRecDepth 100000 in
theorem worth_any (x y : Mc) (w : World) (hx : x.worth ≤ 2 ^ 50) (hy : y.worth ≤ 2 ^ 50) :
    Calls Tryz.prog 36 #[vc x, vc y] w fun e w' => e = .returned (.int .i64 ((x.worth : Int) - (y.worth : Int))) ∧ Fr [] w w' := by
  obtain ⟨xw, xa, xl, xc⟩ := x
  obtain ⟨yw, ya, yl, yc⟩ := y
  simp only [vc]
  simp only at hx hy
  go_enter Tryz.func36, Tryz.ntmps36
  go_wp2
  go_ret
  exact ⟨rfl, ((Fr.refl [] w).alloc _).alloc _⟩
theorem swp_comm (f : Nat → Mc) (x y : Nat) : swp f x y = swp f y x := by
  funext i
  unfold swp
  split <;> split <;> simp_all
theorem Dw.fr {w w' : World} {g : Nat} {T : TypeId} {A0 : Array Value} {n : Nat} {f : Nat → Mc} (h : Dw w g T A0 n f) (k : Fr [] w w') : Dw w' g T A0 n f := by
  obtain ⟨A, h1, h2⟩ := h
  exact ⟨A, k.blk h1 (by simp), h2⟩
theorem Dw.drew {w : World} {g : Nat} {T : TypeId} {A0 : Array Value} {n : Nat} {f : Nat → Mc} (h : Dw w g T A0 n f) : Dw w.drew g T A0 n f := h.fr (Fr.drew1 [] w)
theorem Dw.cells {w : World} {g : Nat} {T : TypeId} {A0 : Array Value} {n : Nat} {f : Nat → Mc} (h : Dw w g T A0 n f) {i : Nat} (hi : i < n) :
    w.cell? ⟨g, i * 2, none⟩ = some (.int .i64 ((f i).worth : Nat)) ∧ w.cell? ⟨g, i * 2 + 1, none⟩ = some (.slice (f i).ao (f i).len (f i).cap) := by
  obtain ⟨A, h1, _, _, _, h2⟩ := h
  exact ⟨(cell_of h1 _).trans (h2 i hi).1, (cell_of h1 _).trans (h2 i hi).2⟩
theorem Dw.cellsN {w : World} {g : Nat} {T : TypeId} {A0 : Array Value} {n : Nat} {f : Nat → Mc} (h : Dw w g T A0 n f) {i : Nat} (hi : i < n) (x : World) :
    (sup [] w x).cell? ⟨g, i * 2, none⟩ = some (.int .i64 ((f i).worth : Nat)) ∧ (sup [] w x).cell? ⟨g, i * 2 + 1, none⟩ = some (.slice (f i).ao (f i).len (f i).cap) :=
  (h.fr (sup_fr [] w x)).cells hi
/-- First [a, i), then one coin more. -/
theorem Sd.trans' {f f1 f2 : Nat → Mc} {a i : Nat} (h : Sd f f1 a i) (h' : Sd f1 f2 a (i + 1)) : Sd f f2 a (i + 1) := by
  refine ⟨fun t ht => (h'.out t ht).trans (h.out t (by omega)), h'.srt, h'.stb.trans ?_⟩
  by_cases ha : a ≤ i
  · rw [sg_split f1 a i (i + 1) ha (by omega), sg_split f a i (i + 1) ha (by omega)]
    refine Stb.append h.stb ?_
    rw [sg_congr (f := f1) (f' := f) fun t _ => h.out _ (by omega)]
    exact .refl _
  · rw [show i + 1 - a = 0 from by omega, sg_zero, sg_zero]
    exact .refl _
set_option maxRecDepth 100000 in
set_option maxHeartbeats 4000000 in
theorem insert_any (g : Nat) (T : TypeId) (A0 : Array Value) (L cap a b : Nat) (f : Nat → Mc) (w : World)
    (h : Dw w g T A0 L f) (ha : a ≤ b) (hbL : b ≤ L) (hL : L ≤ 100000) (hwb : Wb f) :
    Calls Tryz.prog 72 #[.slice (some ⟨g, 0, none⟩) L cap, .int .i64 (a : Nat), .int .i64 (b : Nat), cmpV] w fun e w' => e = .returned (.tuple #[]) ∧ ∃ f', Dw w' g T A0 L f' ∧ Sd f f' a b ∧ Fr [g] w w' := by
  have H := Lib.hid (And.intro h (And.intro hwb ha))
  clear h hwb
  unfold cmpV
  go_enter Tryz.func72, Tryz.ntmps72
  go_wp2
  go_loopg [8, 9] (b - a) (fun k s8 s9 wr => ∃ i : Nat, s8 = .int .i64 (i : Nat) ∧ i + k = b + 1 ∧ a + 1 ≤ i ∧ ∃ f1, Dw wr g T A0 L f1 ∧ Sd f f1 a (min i b) ∧ Fr [g] w wr)
  case atStart =>
    refine ⟨a + 1, by go_num, by have := H.out.2.2; omega, Nat.le_refl _, f, H.out.1, sd_refl f a _ ?_, .refl _ w⟩
    refine srt_sg.2 fun x y hxy hy => ?_
    obtain rfl : x = y := by omega
    exact Nat.le_refl _
  case round =>
    obtain ⟨i, rfl, hik, hai, f1, hD, hS, hf⟩ := hrel
    by_cases hi : i < b
    · obtain ⟨k, rfl⟩ : ∃ k, gk = k + 1 := ⟨gk - 1, by omega⟩
      rw [Nat.min_eq_left (by omega)] at hS
      have hwb1 := H.out.2.1.sd hS
      obtain ⟨wo, rfl⟩ : ∃ wo : World, wo = wr := ⟨_, rfl⟩
      have HX := Lib.hid (And.intro hD (And.intro hS (And.intro hf (And.intro hwb1 hik))))
      have hiL : i < L := by omega
      have hi5 : i ≤ 100000 := by omega
      clear hD hS hf hwb1 hik
      go_wp2
      go_loopg [9] (i - a) (fun k s9 wr => ∃ j : Nat, s9 = .int .i64 (j : Nat) ∧ j = k + a ∧ j ≤ i ∧ (j < i → (f1 i).worth < (f1 j).worth) ∧ Dw wr g T A0 L (rotf f1 j i (i + 1)) ∧ Fr [g] w wr)
      case atStart => exact ⟨i, rfl, by omega, Nat.le_refl _, fun h => absurd h (by omega), by rw [rotf_none f1 i i (i + 1) (Nat.le_refl _) (by omega) (.inl rfl)]; exact HX.out.1, HX.out.2.2.1⟩
      case round =>
        obtain ⟨j, rfl, hjk, hji, hlt, hD, hf⟩ := hrel
        by_cases hja : a < j
        · obtain ⟨k2, rfl⟩ : ∃ k2, gk = k2 + 1 := ⟨gk - 1, by omega⟩
          obtain ⟨q, rfl⟩ : ∃ q, j = q + 1 := ⟨j - 1, by omega⟩
          have x0 := rotf_first (f := f1) (a := q + 1) (m := i) (b := i + 1) (t := q + 1) (Nat.le_refl _) (by omega)
          rw [show q + 1 - (q + 1) + i = i from by omega] at x0
          have x1 := rotf_out (f := f1) (a := q + 1) (m := i) (b := i + 1) (t := q) (by omega) (by omega) (.inl (by omega))
          have d0 := fun x => hD.drew.cellsN (i := q + 1) (by omega) x
          have d1 := fun x => hD.drew.cellsN (i := q) (by omega) x
          rw [x0] at d0
          rw [x1] at d1
          have b0 := HX.out.2.2.2.1 i
          have b1 := HX.out.2.2.2.1 q
          obtain ⟨p, hp⟩ : ∃ p, p = f1 i := ⟨_, rfl⟩
          obtain ⟨r, hr⟩ : ∃ r, r = f1 q := ⟨_, rfl⟩
          rw [← hp] at b0 d0
          rw [← hr] at b1 d1
          have HI := Lib.hid (And.intro hp (And.intro hr (And.intro hD (And.intro hf (And.intro hjk hlt)))))
          clear hp hr hD hf hjk hlt x0 x1
          have d00 := fun x => (d0 x).1
          have d01 := fun x => (d0 x).2
          have d10 := fun x => (d1 x).1
          have d11 := fun x => (d1 x).2
          clear d0 d1
          have e0 : ((q + 1 : Nat) : Int) - 1 = (q : Int) := by omega
          have g2 : decide ((L : Int) ≤ ((q + 1 : Nat) : Int)) = false := by simp; omega
          have g4 : decide ((L : Int) ≤ (q : Int)) = false := by simp; omega
          obtain ⟨j, hj⟩ : ∃ j, j = q + 1 := ⟨_, rfl⟩
          rw [← hj] at d00 d01 e0 g2 hji hja ⊢
          have HJ := Lib.hid hj
          clear hj
          go_upto_region 4 with fail
          refine region_mix 17 [(false, 0), (false, 1), (false, 2), (false, 3), (false, 4), (false, 5), (false, 6), (false, 7), (false, 8), (false, 9), (false, 10), (false, 11), (false, 12), (false, 13), (true, 14), (false, 15), (false, 16)] [] (by kernel_rfl) (by kernel_rfl) (fun _ _ d _ _ h => by cases d <;> exact h) ?_
          simp only [List.map_cons, List.map_nil, List.getD_cons_zero, List.getD_cons_succ, List.drop_succ_cons, List.drop_zero, List.drop_nil]
          refine mix_seg 14 rfl ?_
          simp only [List.take_succ_cons, List.take_zero, List.drop_succ_cons, List.drop_zero, List.map_cons, List.map_nil]
          repeat (go_big_quiet_step (fail))
          refine wpQuiet_nil ?_
          refine mix_eff rfl ?_
          intro K hK
          go_wp2_with (go_at_call 36; refine (worth_any p r wr.drew b0 b1).mono ?_; rintro e w1 ⟨rfl, hf1⟩)
          refine hK.out _ _ hf1 ?_
          clear hK K d00 d01 d10 d11
          have H1 := Lib.hid hf1
          clear hf1
          by_cases hpr : p.worth < r.worth
          · have g5 : decide (((p.worth : Int) - (r.worth : Int)) < 0) = true := by simp; omega
            refine mix_seg 2 rfl ?_
            simp only [List.take_succ_cons, List.take_zero, List.drop_succ_cons, List.drop_zero, List.map_cons, List.map_nil]
            repeat (go_big_quiet_step (fail))
            refine wpQuiet_nil ?_
            refine mix_nil ?_
            go_wp2
            have hD : Dw w1 g T A0 L (rotf f1 j i (i + 1)) := by rw [HJ.out]; exact (HI.out.2.2.1.drew).fr H1.out
            have hxl : j < L := by omega
            have hyl : q < L := by omega
            have hxy : j ≠ q := by have := HJ.out; omega
            obtain ⟨A, hA, hAs, hAn, hAt, hAf⟩ := hD
            have X := hAf j hxl
            have Y := hAf q hyl
            obtain ⟨cx, hcx⟩ : ∃ cx, cx = (rotf f1 j i (i + 1)) j := ⟨_, rfl⟩
            obtain ⟨cy, hcy⟩ : ∃ cy, cy = (rotf f1 j i (i + 1)) q := ⟨_, rfl⟩
            rw [← hcx] at X
            rw [← hcy] at Y
            obtain ⟨cxw, cxa, cxl, cxc⟩ := cx
            obtain ⟨cyw, cya, cyl, cyc⟩ := cy
            have d0 := (cell_of hA (j * 2)).trans X.1
            have d1 := (cell_of hA (j * 2 + 1)).trans X.2
            have d2 := (cell_of hA (q * 2)).trans Y.1
            have d3 := (cell_of hA (q * 2 + 1)).trans Y.2
            simp only at d0 d1 d2 d3
            have HSw := Lib.hid (And.intro hA (And.intro hAs (And.intro hAn (And.intro hAt (And.intro hAf (And.intro hcx hcy))))))
            clear hA hAs hAn hAt hAf hcx hcy X Y
            go_upto_region 6 with fail
            refine region_mixE [(0, 0), (0, 1), (0, 2), (0, 3), (0, 4), (0, 5), (0, 6), (0, 7), (0, 8), (1, 9), (0, 10), (0, 11), (0, 12), (1, 13), (0, 14), (2, 15), (0, 16), (2, 17)] [g] [15, 17] (by kernel_rfl) (by kernel_rfl) (fun _ _ d _ _ h => by cases d <;> exact h) ?_
            simp only [List.map_cons, List.map_nil, List.getD_cons_zero, List.getD_cons_succ]
            refine mixE_seg 9 rfl ?_
            simp only [List.take_succ_cons, List.take_zero, List.drop_succ_cons, List.drop_zero, List.map_cons, List.map_nil]
            repeat (go_big_quiet_step (fail))
            refine wpQuiet_nil ?_
            refine mixE_early 1 rfl ?_
            simp only [List.take_succ_cons, List.take_zero, List.drop_succ_cons, List.drop_zero, List.map_cons, List.map_nil]
            repeat (go_big_quiet_step (fail))
            refine wpQuiet_nil ?_
            refine mixE_seg 3 rfl ?_
            simp only [List.take_succ_cons, List.take_zero, List.drop_succ_cons, List.drop_zero, List.map_cons, List.map_nil]
            repeat (go_big_quiet_step (fail))
            refine wpQuiet_nil ?_
            refine mixE_early 1 rfl ?_
            simp only [List.take_succ_cons, List.take_zero, List.drop_succ_cons, List.drop_zero, List.map_cons, List.map_nil]
            repeat (go_big_quiet_step (fail))
            refine wpQuiet_nil ?_
            refine mixE_seg 1 rfl ?_
            simp only [List.take_succ_cons, List.take_zero, List.drop_succ_cons, List.drop_zero, List.map_cons, List.map_nil]
            repeat (go_big_quiet_step (fail))
            refine wpQuiet_nil ?_
            refine mixE_eff rfl ?_
            intro K hK
            have z0 := frozen_of HSw.out.1 (j * 2)
            have z1 := frozen_of HSw.out.1 (j * 2 + 1)
            go_wp2
            refine hK.out _ _ (Fr.from_drew ((((Fr.refl [g] w1).setCell (by simp) _).setCell (by simp) _).drew)) ?_
            clear hK K z0 z1
            obtain ⟨ws1, hws1⟩ : ∃ ws1, ws1 = ((w1.setCell ⟨g, j * 2, none⟩ (.int .i64 (cyw : Nat))).setCell ⟨g, j * 2 + 1, none⟩ (.slice cya cyl cyc)) := ⟨_, rfl⟩
            rw [← hws1]
            have hA1 := setCell_of (o := j * 2 + 1) (setCell_of (o := j * 2) HSw.out.1 (.int .i64 (cyw : Nat))) (.slice cya cyl cyc)
            rw [← hws1] at hA1
            obtain ⟨A1, hB⟩ : ∃ A1, A1 = (A.setIfInBounds (j * 2) (.int .i64 (cyw : Nat))).setIfInBounds (j * 2 + 1) (.slice cya cyl cyc) := ⟨_, rfl⟩
            rw [← hB] at hA1
            have z0 := frozen_of hA1 (q * 2)
            have z1 := frozen_of hA1 (q * 2 + 1)
            have c2 : ws1.cell? ⟨g, q * 2, none⟩ = some (.int .i64 (cyw : Nat)) := by
              rw [cell_of hA1, hB, Array.getElem?_setIfInBounds_ne (by omega), Array.getElem?_setIfInBounds_ne (by omega), ← cell_of HSw.out.1]
              exact d2
            have c3 : ws1.cell? ⟨g, q * 2 + 1, none⟩ = some (.slice cya cyl cyc) := by
              rw [cell_of hA1, hB, Array.getElem?_setIfInBounds_ne (by omega), Array.getElem?_setIfInBounds_ne (by omega), ← cell_of HSw.out.1]
              exact d3
            have HSy := Lib.hid (And.intro hA1 (And.intro hB hws1))
            clear hA1 hB hws1 d0 d1 d2 d3
            refine mixE_seg 1 rfl ?_
            simp only [List.take_succ_cons, List.take_zero, List.drop_succ_cons, List.drop_zero, List.map_cons, List.map_nil]
            repeat (go_big_quiet_step (fail))
            refine wpQuiet_nil ?_
            refine mixE_eff rfl ?_
            intro K hK
            go_wp2
            refine hK.out _ _ (Fr.from_drew ((((Fr.refl [g] ws1).setCell (by simp) _).setCell (by simp) _).drew)) ?_
            clear hK K z0 z1 c2 c3
            refine mixE_nil ?_
            obtain ⟨w2, hw2⟩ : ∃ w2, w2 = ((ws1.setCell ⟨g, q * 2, none⟩ (.int .i64 (cxw : Nat))).setCell ⟨g, q * 2 + 1, none⟩ (.slice cxa cxl cxc)) := ⟨_, rfl⟩
            rw [← hw2]
            have HZ : Hid (Dw w2 g T A0 L (swp (rotf f1 j i (i + 1)) q j) ∧ Fr [g] w1 w2) := by
              obtain ⟨hA, hAs, hAn, hAt, hAf, hcx, hcy⟩ := HSw.out
              obtain ⟨hA1, hB, hws1⟩ := HSy.out
              have hA2 := setCell_of (o := q * 2 + 1) (setCell_of (o := q * 2) hA1 (.int .i64 (cxw : Nat))) (.slice cxa cxl cxc)
              rw [hB, ← hw2] at hA2
              exact Lib.hid ⟨Dw.swap _ cxw cxa cxl cxc cyw cya cyl cyc hAs hAn hAt hAf hxl hyl hcx hcy hA2, by rw [hw2, hws1]; exact ((((Fr.refl [g] w1).setCell (by simp) _).setCell (by simp) _).setCell (by simp) _).setCell (by simp) _⟩
            clear hw2
            go_wp2
            go_roundg k2
            case measure => have := HI.out.2.2.2.2.1; omega
            case rel =>
              obtain ⟨hp, hr, hD, hf, hjk, hlt⟩ := HI.out
              have hj := HJ.out
              refine ⟨q, by go_num, by omega, by omega, fun _ => by rw [← hp, ← hr]; exact hpr, ?_, ?_⟩
              · have := HZ.out.1
                have e := rot_down f1 i (q + 1) (by omega) (by omega)
                rw [Nat.add_sub_cancel] at e
                rw [hj, swp_comm, e] at this
                exact this.drew
              · exact ((hf.drew).trans (H1.out.mono (by simp))).trans HZ.out.2.drew
          · have g5 : decide (((p.worth : Int) - (r.worth : Int)) < 0) = false := by simp; omega
            refine mix_seg 2 rfl ?_
            simp only [List.take_succ_cons, List.take_zero, List.drop_succ_cons, List.drop_zero, List.map_cons, List.map_nil]
            repeat (go_big_quiet_step (fail))
            refine wpQuiet_nil ?_
            refine mix_nil ?_
            go_wp2
            go_roundg k
            case measure => have := HX.out.2.2.2.2; omega
            case rel =>
              obtain ⟨hp, hr, hD, hf, hjk, hlt⟩ := HI.out
              have hj := HJ.out
              have hik := HX.out.2.2.2.2
              refine ⟨i + 1, by go_num, by omega, by omega, rotf f1 j i (i + 1), by rw [hj]; exact hD.drew.fr H1.out, ?_, (hf.drew).trans (H1.out.mono (by simp))⟩
              rw [Nat.min_eq_left (by omega)]
              exact HX.out.2.1.trans' (sd_right f1 a i j (by omega) hji HX.out.2.1.srt (fun _ => by rw [show j - 1 = q from by omega, ← hr, ← hp]; omega) (fun h => by rw [hj] at h ⊢; exact hlt h))
        · have hje : j = a := by omega
          have HI := Lib.hid (And.intro hD (And.intro hf hlt))
          have g5 : decide ((a : Int) < (j : Int)) = false := by simp; omega
          have HJ := Lib.hid hje
          clear hD hf hlt hjk hje
          go_upto_region 4 with fail
          refine region_mix 17 [(false, 0), (false, 1), (false, 2), (false, 3), (false, 4), (false, 5), (false, 6), (false, 7), (false, 8), (false, 9), (false, 10), (false, 11), (false, 12), (false, 13), (true, 14), (false, 15), (false, 16)] [] (by kernel_rfl) (by kernel_rfl) (fun _ _ d _ _ h => by cases d <;> exact h) ?_
          simp only [List.map_cons, List.map_nil, List.getD_cons_zero, List.getD_cons_succ, List.drop_succ_cons, List.drop_zero, List.drop_nil]
          refine mix_seg 14 rfl ?_
          simp only [List.take_succ_cons, List.take_zero, List.drop_succ_cons, List.drop_zero, List.map_cons, List.map_nil]
          repeat (go_big_quiet_step (fail))
          repeat (go_big_quiet_step (fail))
          refine wpQuiet_nil ?_
          refine mix_off rfl ?_
          simp only [Act.put, List.setIfInBounds_toArray, List.set_cons_succ, List.set_cons_zero]
          refine mix_seg 2 rfl ?_
          simp only [List.take_succ_cons, List.take_zero, List.drop_succ_cons, List.drop_zero, List.map_cons, List.map_nil]
          repeat (go_big_quiet_step (fail))
          refine wpQuiet_nil ?_
          refine mix_nil ?_
          go_wp2
          go_roundg k
          case measure => have := HX.out.2.2.2.2; omega
          case rel =>
            obtain ⟨hD, hf, hlt⟩ := HI.out
            have hik := HX.out.2.2.2.2
            have hje := HJ.out
            refine ⟨i + 1, by go_num, by omega, by omega, rotf f1 j i (i + 1), hD.drew, ?_, hf.drew⟩
            rw [Nat.min_eq_left (by omega)]
            exact HX.out.2.1.trans' (sd_right f1 a i j (by omega) hji HX.out.2.1.srt (fun h => absurd h (by omega)) hlt)
    · have HI := Lib.hid (And.intro hD (And.intro hS hf))
      have e : min i b = b := by omega
      rw [e] at hS
      clear hD hf e hik
      have HS := Lib.hid hS
      clear hS
      go_wp2
      (try simp only [Exit.inBlock, Exit.then])
      refine bodyPost_end (results_none rfl _ _ _) rfl ?_
      exact ⟨rfl, f1, HI.out.1, HS.out, HI.out.2.2⟩
end Go.Proofs.YtolkoidbkaidkaaGreat.huf
/-
  slices.SortStableFunc[huff.coin]: symMerge.
-/
namespace Go.Proofs.YtolkoidbkaidkaaGreat.huf
open Go Go.RowKit Go.Proofs.YtolkoidbkaidkaaGreat.lib Go.Proofs.YtolkoidbkaidkaaGreat.bm Go.Proofs.YtolkoidbkaidkaaGreat.bl

/-- What symMerge does. -/
def SymOk (g : Nat) (T : TypeId) (A0 : Array Value) (L cap a m b : Nat) (f : Nat → Mc) (w : World) : Prop :=
  Calls Tryz.prog 73 #[.slice (some ⟨g, 0, none⟩) L cap, .int .i64 (a : Nat), .int .i64 (m : Nat), .int .i64 (b : Nat), cmpV] w fun e w' => e = .returned (.tuple #[]) ∧ ∃ f', Dw w' g T A0 L f' ∧ Sd f f' a b ∧ Fr [g] w w'
set_option maxRecDepth 100000 in
set_option maxHeartbeats 4000000 in
theorem sym_one (g : Nat) (T : TypeId) (A0 : Array Value) (L cap a m b : Nat) (f : Nat → Mc) (w : World)
    (h : Dw w g T A0 L f) (ham : m = a + 1) (hmb : m < b) (hbL : b ≤ L) (hL : L ≤ 100000) (hwb : Wb f) (hB : Srt (sg f m (b - m))) : SymOk g T A0 L cap a m b f w := by
  have H := Lib.hid (And.intro h (And.intro ham (And.intro hmb hB)))
  have e0 : (m : Int) - (a : Int) = 1 := by omega
  have hab : a < b := by omega
  clear h hB ham
  unfold SymOk cmpV
  go_enter Tryz.func73, Tryz.ntmps73
  go_upto_block 0 with fail
  go_wp2
  go_loopg [10, 11, 12] (b - m) (fun k s10 s11 s12 wr => ∃ i j : Nat, s10 = .int .i64 (i : Nat) ∧ s11 = .int .i64 (j : Nat) ∧ j = i + k ∧ m ≤ i ∧ j ≤ b ∧ (m < i → (f (i - 1)).worth < (f a).worth) ∧ (j < b → (f a).worth ≤ (f j).worth) ∧ Dw wr g T A0 L f ∧ Fr [g] w wr)
  case atStart => exact ⟨m, b, rfl, rfl, by omega, Nat.le_refl _, Nat.le_refl _, fun h => absurd h (by omega), fun h => absurd h (by omega), H.out.1, .refl _ w⟩
  case round =>
    obtain ⟨i, j, rfl, rfl, hk, h1, h2, h3, h4, hD, hf⟩ := hrel
    by_cases hij : i < j
    · obtain ⟨s, hs⟩ : ∃ s, s = i + j := ⟨_, rfl⟩
      have e1 : (i : Int) + (j : Int) = (s : Int) := by omega
      obtain ⟨hh, hhh⟩ : ∃ hh, hh = s / 2 := ⟨_, rfl⟩
      have e2 : (s : Int) / 2 = (hh : Int) := by omega
      have hhL : hh < L := by omega
      have hsb : s ≤ 200000 := by omega
      have HI := Lib.hid (And.intro hk (And.intro h3 (And.intro h4 (And.intro hf (And.intro hs hhh)))))
      clear hk h3 h4 hf hs hhh
      have g2 : decide ((L : Int) ≤ (hh : Int)) = false := by simp; omega
      have g4 : decide ((L : Int) ≤ (a : Int)) = false := by simp; omega
      have dd0 := fun x => hD.drew.cellsN (i := hh) (by omega) x
      have dd1 := fun x => hD.drew.cellsN (i := a) (by omega) x
      have bb0 := hwb (hh)
      have bb1 := hwb (a)
      obtain ⟨p, hp⟩ : ∃ p, p = (f) (hh) := ⟨_, rfl⟩
      obtain ⟨r, hr⟩ : ∃ r, r = (f) (a) := ⟨_, rfl⟩
      rw [← hp] at bb0 dd0
      rw [← hr] at bb1 dd1
      have d00 := fun x => (dd0 x).1
      have d01 := fun x => (dd0 x).2
      have d10 := fun x => (dd1 x).1
      have d11 := fun x => (dd1 x).2
      have HP := Lib.hid (And.intro hp (And.intro hr hD))
      clear hp hr hD dd0 dd1
      go_upto_region 5 with fail
      refine region_mix 11 [(false, 0), (false, 1), (false, 2), (false, 3), (false, 4), (false, 5), (false, 6), (false, 7), (false, 8), (true, 9), (false, 10)] [] (by kernel_rfl) (by kernel_rfl) (fun _ _ d _ _ h => by cases d <;> exact h) ?_
      simp only [List.map_cons, List.map_nil, List.getD_cons_zero, List.getD_cons_succ, List.drop_succ_cons, List.drop_zero, List.drop_nil]
      refine mix_seg 9 rfl ?_
      simp only [List.take_succ_cons, List.take_zero, List.drop_succ_cons, List.drop_zero, List.map_cons, List.map_nil]
      repeat (go_big_quiet_step (fail))
      refine wpQuiet_nil ?_
      refine mix_eff rfl ?_
      intro K hK
      go_wp2_with (go_at_call 36; refine (worth_any p r wr.drew bb0 bb1).mono ?_; rintro e w1 ⟨rfl, hf1⟩)
      refine hK.out _ _ hf1 ?_
      clear hK K d00 d01 d10 d11
      have HC : Hid (Dw w1 g T A0 L (f) ∧ Fr [] wr w1) := Lib.hid ⟨HP.out.2.2.drew.fr hf1, (Fr.drew1 [] wr).trans hf1⟩
      clear hf1
      clear g2 g4
      by_cases hpr : p.worth < r.worth
      · have g5 : decide (((p.worth : Int) - (r.worth : Int)) < 0) = true := by simp; omega
        refine mix_seg 1 rfl ?_
        simp only [List.take_succ_cons, List.take_zero, List.drop_succ_cons, List.drop_zero, List.map_cons, List.map_nil]
        repeat (go_big_quiet_step (fail))
        refine wpQuiet_nil ?_
        refine mix_nil ?_
        go_wp2
        go_roundg (j - (hh + 1))
        case measure => have := HI.out.1; have := HI.out.2.2.2.2; omega
        case rel =>
          obtain ⟨hk, h3, h4, hf, hs, hhh⟩ := HI.out
          obtain ⟨hp, hr, hD⟩ := HP.out
          refine ⟨hh + 1, j, by go_num, rfl, by omega, by omega, h2, fun _ => by rw [Nat.add_sub_cancel, ← hp, ← hr]; exact hpr, h4, HC.out.1, hf.trans (HC.out.2.mono (by simp))⟩
      · have g5 : decide (((p.worth : Int) - (r.worth : Int)) < 0) = false := by simp; omega
        refine mix_seg 1 rfl ?_
        simp only [List.take_succ_cons, List.take_zero, List.drop_succ_cons, List.drop_zero, List.map_cons, List.map_nil]
        repeat (go_big_quiet_step (fail))
        refine wpQuiet_nil ?_
        refine mix_nil ?_
        go_wp2
        go_roundg (hh - i)
        case measure => have := HI.out.1; have := HI.out.2.2.2.2; omega
        case rel =>
          obtain ⟨hk, h3, h4, hf, hs, hhh⟩ := HI.out
          obtain ⟨hp, hr, hD⟩ := HP.out
          refine ⟨i, hh, rfl, rfl, by omega, h1, by omega, h3, fun _ => by rw [← hp, ← hr]; omega, HC.out.1, hf.trans (HC.out.2.mono (by simp))⟩
    · obtain rfl : i = j := by omega
      have HI := Lib.hid (And.intro h3 (And.intro h4 (And.intro hD hf)))
      clear h3 h4 hD hf hk
      obtain ⟨q, hq⟩ : ∃ q, q = i - 1 := ⟨_, rfl⟩
      have e1 : (i : Int) - 1 = (q : Int) := by omega
      have ham : m = a + 1 := H.out.2.1
      have hqa : a ≤ q := by omega
      have hqi : i = q + 1 := by omega
      clear ham
      have HQ := Lib.hid (And.intro hq hqi)
      clear hq hqi
      go_wp2
      go_loopg [13] (q - a) (fun k s13 wr => ∃ t : Nat, s13 = .int .i64 (t : Nat) ∧ t + k = q ∧ a ≤ t ∧ Dw wr g T A0 L (rotf f a (a + 1) (t + 1)) ∧ Fr [g] w wr)
      case atStart => exact ⟨a, rfl, by omega, Nat.le_refl _, by rw [rotf_none f a (a + 1) (a + 1) (by omega) (Nat.le_refl _) (.inr rfl)]; exact HI.out.2.2.1, HI.out.2.2.2⟩
      case round =>
        obtain ⟨t, rfl, htk, hat, hD, hf⟩ := hrel
        by_cases ht : t < q
        · obtain ⟨k2, rfl⟩ : ∃ k2, gk = k2 + 1 := ⟨gk - 1, by omega⟩
          obtain ⟨wo, rfl⟩ : ∃ wo : World, wo = wr := ⟨_, rfl⟩
          obtain ⟨y, hy⟩ : ∃ y, y = t + 1 := ⟨_, rfl⟩
          have e2 : (t : Int) + 1 = (y : Int) := by omega
          have hqL : q < L := by have := HQ.out.2; omega
          have hxl : t < L := by omega
          have hyl : y < L := by omega
          have hxy : t ≠ y := by omega
          have g2 : decide ((L : Int) ≤ (t : Int)) = false := by simp; omega
          have g4 : decide ((L : Int) ≤ (y : Int)) = false := by simp; omega
          have HJ := Lib.hid (And.intro hf (And.intro htk hy))
          clear hf htk hy
          obtain ⟨A, hA, hAs, hAn, hAt, hAf⟩ := hD
          have X := hAf t hxl
          have Y := hAf y hyl
          obtain ⟨cx, hcx⟩ : ∃ cx, cx = (rotf f a (a + 1) (t + 1)) t := ⟨_, rfl⟩
          obtain ⟨cy, hcy⟩ : ∃ cy, cy = (rotf f a (a + 1) (t + 1)) y := ⟨_, rfl⟩
          rw [← hcx] at X
          rw [← hcy] at Y
          obtain ⟨cxw, cxa, cxl, cxc⟩ := cx
          obtain ⟨cyw, cya, cyl, cyc⟩ := cy
          have d0 := (cell_of hA (t * 2)).trans X.1
          have d1 := (cell_of hA (t * 2 + 1)).trans X.2
          have d2 := (cell_of hA (y * 2)).trans Y.1
          have d3 := (cell_of hA (y * 2 + 1)).trans Y.2
          simp only at d0 d1 d2 d3
          have HSw := Lib.hid (And.intro hA (And.intro hAs (And.intro hAn (And.intro hAt (And.intro hAf (And.intro hcx hcy))))))
          clear hA hAs hAn hAt hAf hcx hcy X Y
          go_upto_region 11 with fail
          refine region_mixE [(0, 0), (0, 1), (0, 2), (0, 3), (0, 4), (0, 5), (0, 6), (0, 7), (0, 8), (1, 9), (0, 10), (0, 11), (0, 12), (1, 13), (0, 14), (2, 15), (0, 16), (2, 17)] [g] [15, 17] (by kernel_rfl) (by kernel_rfl) (fun _ _ d _ _ h => by cases d <;> exact h) ?_
          simp only [List.map_cons, List.map_nil, List.getD_cons_zero, List.getD_cons_succ]
          refine mixE_seg 9 rfl ?_
          simp only [List.take_succ_cons, List.take_zero, List.drop_succ_cons, List.drop_zero, List.map_cons, List.map_nil]
          repeat (go_big_quiet_step (fail))
          refine wpQuiet_nil ?_
          refine mixE_early 1 rfl ?_
          simp only [List.take_succ_cons, List.take_zero, List.drop_succ_cons, List.drop_zero, List.map_cons, List.map_nil]
          repeat (go_big_quiet_step (fail))
          refine wpQuiet_nil ?_
          refine mixE_seg 3 rfl ?_
          simp only [List.take_succ_cons, List.take_zero, List.drop_succ_cons, List.drop_zero, List.map_cons, List.map_nil]
          repeat (go_big_quiet_step (fail))
          refine wpQuiet_nil ?_
          refine mixE_early 1 rfl ?_
          simp only [List.take_succ_cons, List.take_zero, List.drop_succ_cons, List.drop_zero, List.map_cons, List.map_nil]
          repeat (go_big_quiet_step (fail))
          refine wpQuiet_nil ?_
          refine mixE_seg 1 rfl ?_
          simp only [List.take_succ_cons, List.take_zero, List.drop_succ_cons, List.drop_zero, List.map_cons, List.map_nil]
          repeat (go_big_quiet_step (fail))
          refine wpQuiet_nil ?_
          refine mixE_eff rfl ?_
          intro K hK
          have z0 := frozen_of HSw.out.1 (t * 2)
          have z1 := frozen_of HSw.out.1 (t * 2 + 1)
          go_wp2
          refine hK.out _ _ (Fr.from_drew ((((Fr.refl [g] wo).setCell (by simp) _).setCell (by simp) _).drew)) ?_
          clear hK K z0 z1
          obtain ⟨ws1, hws1⟩ : ∃ ws1, ws1 = ((wo.setCell ⟨g, t * 2, none⟩ (.int .i64 (cyw : Nat))).setCell ⟨g, t * 2 + 1, none⟩ (.slice cya cyl cyc)) := ⟨_, rfl⟩
          rw [← hws1]
          have hA1 := setCell_of (o := t * 2 + 1) (setCell_of (o := t * 2) HSw.out.1 (.int .i64 (cyw : Nat))) (.slice cya cyl cyc)
          rw [← hws1] at hA1
          obtain ⟨A1, hB⟩ : ∃ A1, A1 = (A.setIfInBounds (t * 2) (.int .i64 (cyw : Nat))).setIfInBounds (t * 2 + 1) (.slice cya cyl cyc) := ⟨_, rfl⟩
          rw [← hB] at hA1
          have z0 := frozen_of hA1 (y * 2)
          have z1 := frozen_of hA1 (y * 2 + 1)
          have c2 : ws1.cell? ⟨g, y * 2, none⟩ = some (.int .i64 (cyw : Nat)) := by
            rw [cell_of hA1, hB, Array.getElem?_setIfInBounds_ne (by omega), Array.getElem?_setIfInBounds_ne (by omega), ← cell_of HSw.out.1]
            exact d2
          have c3 : ws1.cell? ⟨g, y * 2 + 1, none⟩ = some (.slice cya cyl cyc) := by
            rw [cell_of hA1, hB, Array.getElem?_setIfInBounds_ne (by omega), Array.getElem?_setIfInBounds_ne (by omega), ← cell_of HSw.out.1]
            exact d3
          have HSy := Lib.hid (And.intro hA1 (And.intro hB hws1))
          clear hA1 hB hws1 d0 d1 d2 d3
          refine mixE_seg 1 rfl ?_
          simp only [List.take_succ_cons, List.take_zero, List.drop_succ_cons, List.drop_zero, List.map_cons, List.map_nil]
          repeat (go_big_quiet_step (fail))
          refine wpQuiet_nil ?_
          refine mixE_eff rfl ?_
          intro K hK
          go_wp2
          refine hK.out _ _ (Fr.from_drew ((((Fr.refl [g] ws1).setCell (by simp) _).setCell (by simp) _).drew)) ?_
          clear hK K z0 z1 c2 c3
          refine mixE_nil ?_
          obtain ⟨w2, hw2⟩ : ∃ w2, w2 = ((ws1.setCell ⟨g, y * 2, none⟩ (.int .i64 (cxw : Nat))).setCell ⟨g, y * 2 + 1, none⟩ (.slice cxa cxl cxc)) := ⟨_, rfl⟩
          rw [← hw2]
          have HZ : Hid (Dw w2 g T A0 L (swp (rotf f a (a + 1) (t + 1)) y t) ∧ Fr [g] wo w2) := by
            obtain ⟨hA, hAs, hAn, hAt, hAf, hcx, hcy⟩ := HSw.out
            obtain ⟨hA1, hB, hws1⟩ := HSy.out
            have hA2 := setCell_of (o := y * 2 + 1) (setCell_of (o := y * 2) hA1 (.int .i64 (cxw : Nat))) (.slice cxa cxl cxc)
            rw [hB, ← hw2] at hA2
            exact Lib.hid ⟨Dw.swap _ cxw cxa cxl cxc cyw cya cyl cyc hAs hAn hAt hAf hxl hyl hcx hcy hA2, by rw [hw2, hws1]; exact ((((Fr.refl [g] wo).setCell (by simp) _).setCell (by simp) _).setCell (by simp) _).setCell (by simp) _⟩
          clear hw2
          clear g2 g4
          go_wp2
          go_roundg k2
          case measure => have := HJ.out.2.1; omega
          case rel =>
            obtain ⟨hf, htk, hy⟩ := HJ.out
            refine ⟨y, by go_num, by omega, by omega, ?_, hf.trans HZ.out.2.drew⟩
            have := HZ.out.1
            rw [hy, swp_comm, rot_up f a t hat] at this
            rw [hy]
            exact this.drew
        · obtain rfl : t = q := by omega
          have HJ := Lib.hid (And.intro hD hf)
          clear hD hf htk
          go_wp2
          (try simp only [Exit.inBlock, Exit.then])
          refine bodyPost_ret (results_none rfl _ _ _) rfl ?_
          obtain ⟨hq, hqi⟩ := HQ.out
          refine ⟨rfl, _, HJ.out.1, ?_, HJ.out.2⟩
          rw [← hqi]
          have ham : m = a + 1 := H.out.2.1
          exact sd_left f a i b (by omega) h2 (by have := H.out.2.2.2; rw [ham] at this; exact this) (fun h => HI.out.1 (by omega)) (fun h => HI.out.2.1 h)
set_option maxRecDepth 100000 in
set_option maxHeartbeats 4000000 in
theorem sym_two (g : Nat) (T : TypeId) (A0 : Array Value) (L cap a m b : Nat) (f : Nat → Mc) (w : World)
    (h : Dw w g T A0 L f) (ham : a < m) (hne : m ≠ a + 1) (hmb : b = m + 1) (hbL : b ≤ L) (hL : L ≤ 100000) (hwb : Wb f) (hA : Srt (sg f a (m - a))) : SymOk g T A0 L cap a m b f w := by
  have H := Lib.hid (And.intro h (And.intro ham (And.intro hmb hA)))
  have e00 : (((m : Int) - (a : Int)) == 1) = false := by simp only [beq_eq_false_iff_ne]; omega
  have e0 : (b : Int) - (m : Int) = 1 := by omega
  have hab : a < b := by omega
  have hmL : m < L := by omega
  clear h hA hmb hne
  unfold SymOk cmpV
  go_enter Tryz.func73, Tryz.ntmps73
  go_upto_block 4 with fail
  go_wp2
  go_loopg [14, 15, 16] (m - a) (fun k s14 s15 s16 wr => ∃ i j : Nat, s14 = .int .i64 (i : Nat) ∧ s15 = .int .i64 (j : Nat) ∧ j = i + k ∧ a ≤ i ∧ j ≤ m ∧ (a < i → (f (i - 1)).worth ≤ (f m).worth) ∧ (j < m → (f m).worth < (f j).worth) ∧ Dw wr g T A0 L f ∧ Fr [g] w wr)
  case atStart => exact ⟨a, m, rfl, rfl, by omega, Nat.le_refl _, Nat.le_refl _, fun h => absurd h (by omega), fun h => absurd h (by omega), H.out.1, .refl _ w⟩
  case round =>
    obtain ⟨i, j, rfl, rfl, hk, h1, h2, h3, h4, hD, hf⟩ := hrel
    by_cases hij : i < j
    · obtain ⟨s, hs⟩ : ∃ s, s = i + j := ⟨_, rfl⟩
      have e1 : (i : Int) + (j : Int) = (s : Int) := by omega
      obtain ⟨hh, hhh⟩ : ∃ hh, hh = s / 2 := ⟨_, rfl⟩
      have e2 : (s : Int) / 2 = (hh : Int) := by omega
      have hhL : hh < L := by omega
      have hsb : s ≤ 200000 := by omega
      have HI := Lib.hid (And.intro hk (And.intro h3 (And.intro h4 (And.intro hf (And.intro hs hhh)))))
      clear hk h3 h4 hf hs hhh
      have g2 : decide ((L : Int) ≤ (hh : Int)) = false := by simp; omega
      have g4 : decide ((L : Int) ≤ (m : Int)) = false := by simp; omega
      have dd0 := fun x => hD.drew.cellsN (i := m) (by omega) x
      have dd1 := fun x => hD.drew.cellsN (i := hh) (by omega) x
      have bb0 := hwb (m)
      have bb1 := hwb (hh)
      obtain ⟨p, hp⟩ : ∃ p, p = (f) (m) := ⟨_, rfl⟩
      obtain ⟨r, hr⟩ : ∃ r, r = (f) (hh) := ⟨_, rfl⟩
      rw [← hp] at bb0 dd0
      rw [← hr] at bb1 dd1
      have d00 := fun x => (dd0 x).1
      have d01 := fun x => (dd0 x).2
      have d10 := fun x => (dd1 x).1
      have d11 := fun x => (dd1 x).2
      have HP := Lib.hid (And.intro hp (And.intro hr hD))
      clear hp hr hD dd0 dd1
      go_upto_region 17 with fail
      refine region_mix 12 [(false, 0), (false, 1), (false, 2), (false, 3), (false, 4), (false, 5), (false, 6), (false, 7), (false, 8), (true, 9), (false, 10), (false, 11)] [] (by kernel_rfl) (by kernel_rfl) (fun _ _ d _ _ h => by cases d <;> exact h) ?_
      simp only [List.map_cons, List.map_nil, List.getD_cons_zero, List.getD_cons_succ, List.drop_succ_cons, List.drop_zero, List.drop_nil]
      refine mix_seg 9 rfl ?_
      simp only [List.take_succ_cons, List.take_zero, List.drop_succ_cons, List.drop_zero, List.map_cons, List.map_nil]
      repeat (go_big_quiet_step (fail))
      refine wpQuiet_nil ?_
      refine mix_eff rfl ?_
      intro K hK
      go_wp2_with (go_at_call 36; refine (worth_any p r wr.drew bb0 bb1).mono ?_; rintro e w1 ⟨rfl, hf1⟩)
      refine hK.out _ _ hf1 ?_
      clear hK K d00 d01 d10 d11
      have HC : Hid (Dw w1 g T A0 L (f) ∧ Fr [] wr w1) := Lib.hid ⟨HP.out.2.2.drew.fr hf1, (Fr.drew1 [] wr).trans hf1⟩
      clear hf1
      clear g2 g4
      by_cases hpr : p.worth < r.worth
      · have g5 : decide (((p.worth : Int) - (r.worth : Int)) < 0) = true := by simp; omega
        refine mix_seg 2 rfl ?_
        simp only [List.take_succ_cons, List.take_zero, List.drop_succ_cons, List.drop_zero, List.map_cons, List.map_nil]
        repeat (go_big_quiet_step (fail))
        refine wpQuiet_nil ?_
        refine mix_nil ?_
        go_wp2
        go_roundg (hh - i)
        case measure => have := HI.out.1; have := HI.out.2.2.2.2; omega
        case rel =>
          obtain ⟨hk, h3, h4, hf, hs, hhh⟩ := HI.out
          obtain ⟨hp, hr, hD⟩ := HP.out
          refine ⟨i, hh, rfl, rfl, by omega, h1, by omega, h3, fun _ => by rw [← hp, ← hr]; exact hpr, HC.out.1, hf.trans (HC.out.2.mono (by simp))⟩
      · have g5 : decide (((p.worth : Int) - (r.worth : Int)) < 0) = false := by simp; omega
        refine mix_seg 2 rfl ?_
        simp only [List.take_succ_cons, List.take_zero, List.drop_succ_cons, List.drop_zero, List.map_cons, List.map_nil]
        repeat (go_big_quiet_step (fail))
        refine wpQuiet_nil ?_
        refine mix_nil ?_
        go_wp2
        go_roundg (j - (hh + 1))
        case measure => have := HI.out.1; have := HI.out.2.2.2.2; omega
        case rel =>
          obtain ⟨hk, h3, h4, hf, hs, hhh⟩ := HI.out
          obtain ⟨hp, hr, hD⟩ := HP.out
          refine ⟨hh + 1, j, by go_num, rfl, by omega, by omega, h2, fun _ => by rw [Nat.add_sub_cancel, ← hp, ← hr]; omega, h4, HC.out.1, hf.trans (HC.out.2.mono (by simp))⟩
    · obtain rfl : i = j := by omega
      have HI := Lib.hid (And.intro h3 (And.intro h4 (And.intro hD hf)))
      clear h3 h4 hD hf hk
      go_wp2
      go_loopg [17] (m - i) (fun k s17 wr => ∃ t : Nat, s17 = .int .i64 (t : Nat) ∧ t = i + k ∧ t ≤ m ∧ Dw wr g T A0 L (rotf f t m (m + 1)) ∧ Fr [g] w wr)
      case atStart => exact ⟨m, rfl, by omega, Nat.le_refl _, by rw [rotf_none f m m (m + 1) (by omega) (by omega) (.inl rfl)]; exact HI.out.2.2.1, HI.out.2.2.2⟩
      case round =>
        obtain ⟨t, rfl, htk, htm, hD, hf⟩ := hrel
        by_cases ht : i < t
        · obtain ⟨k2, rfl⟩ : ∃ k2, gk = k2 + 1 := ⟨gk - 1, by omega⟩
          obtain ⟨wo, rfl⟩ : ∃ wo : World, wo = wr := ⟨_, rfl⟩
          obtain ⟨y, hy⟩ : ∃ y, y = t - 1 := ⟨_, rfl⟩
          have e2 : (t : Int) - 1 = (y : Int) := by omega
          have hxl : t < L := by omega
          have hyl : y < L := by omega
          have hxy : t ≠ y := by omega
          have g2 : decide ((L : Int) ≤ (t : Int)) = false := by simp; omega
          have g4 : decide ((L : Int) ≤ (y : Int)) = false := by simp; omega
          have HJ := Lib.hid (And.intro hf (And.intro htk hy))
          clear hf htk hy
          obtain ⟨A, hA, hAs, hAn, hAt, hAf⟩ := hD
          have X := hAf t hxl
          have Y := hAf y hyl
          obtain ⟨cx, hcx⟩ : ∃ cx, cx = (rotf f t m (m + 1)) t := ⟨_, rfl⟩
          obtain ⟨cy, hcy⟩ : ∃ cy, cy = (rotf f t m (m + 1)) y := ⟨_, rfl⟩
          rw [← hcx] at X
          rw [← hcy] at Y
          obtain ⟨cxw, cxa, cxl, cxc⟩ := cx
          obtain ⟨cyw, cya, cyl, cyc⟩ := cy
          have d0 := (cell_of hA (t * 2)).trans X.1
          have d1 := (cell_of hA (t * 2 + 1)).trans X.2
          have d2 := (cell_of hA (y * 2)).trans Y.1
          have d3 := (cell_of hA (y * 2 + 1)).trans Y.2
          simp only at d0 d1 d2 d3
          have HSw := Lib.hid (And.intro hA (And.intro hAs (And.intro hAn (And.intro hAt (And.intro hAf (And.intro hcx hcy))))))
          clear hA hAs hAn hAt hAf hcx hcy X Y
          go_upto_region 23 with fail
          refine region_mixE [(0, 0), (0, 1), (0, 2), (0, 3), (0, 4), (0, 5), (0, 6), (0, 7), (0, 8), (1, 9), (0, 10), (0, 11), (0, 12), (1, 13), (0, 14), (2, 15), (0, 16), (2, 17)] [g] [15, 17] (by kernel_rfl) (by kernel_rfl) (fun _ _ d _ _ h => by cases d <;> exact h) ?_
          simp only [List.map_cons, List.map_nil, List.getD_cons_zero, List.getD_cons_succ]
          refine mixE_seg 9 rfl ?_
          simp only [List.take_succ_cons, List.take_zero, List.drop_succ_cons, List.drop_zero, List.map_cons, List.map_nil]
          repeat (go_big_quiet_step (fail))
          refine wpQuiet_nil ?_
          refine mixE_early 1 rfl ?_
          simp only [List.take_succ_cons, List.take_zero, List.drop_succ_cons, List.drop_zero, List.map_cons, List.map_nil]
          repeat (go_big_quiet_step (fail))
          refine wpQuiet_nil ?_
          refine mixE_seg 3 rfl ?_
          simp only [List.take_succ_cons, List.take_zero, List.drop_succ_cons, List.drop_zero, List.map_cons, List.map_nil]
          repeat (go_big_quiet_step (fail))
          refine wpQuiet_nil ?_
          refine mixE_early 1 rfl ?_
          simp only [List.take_succ_cons, List.take_zero, List.drop_succ_cons, List.drop_zero, List.map_cons, List.map_nil]
          repeat (go_big_quiet_step (fail))
          refine wpQuiet_nil ?_
          refine mixE_seg 1 rfl ?_
          simp only [List.take_succ_cons, List.take_zero, List.drop_succ_cons, List.drop_zero, List.map_cons, List.map_nil]
          repeat (go_big_quiet_step (fail))
          refine wpQuiet_nil ?_
          refine mixE_eff rfl ?_
          intro K hK
          have z0 := frozen_of HSw.out.1 (t * 2)
          have z1 := frozen_of HSw.out.1 (t * 2 + 1)
          go_wp2
          refine hK.out _ _ (Fr.from_drew ((((Fr.refl [g] wo).setCell (by simp) _).setCell (by simp) _).drew)) ?_
          clear hK K z0 z1
          obtain ⟨ws1, hws1⟩ : ∃ ws1, ws1 = ((wo.setCell ⟨g, t * 2, none⟩ (.int .i64 (cyw : Nat))).setCell ⟨g, t * 2 + 1, none⟩ (.slice cya cyl cyc)) := ⟨_, rfl⟩
          rw [← hws1]
          have hA1 := setCell_of (o := t * 2 + 1) (setCell_of (o := t * 2) HSw.out.1 (.int .i64 (cyw : Nat))) (.slice cya cyl cyc)
          rw [← hws1] at hA1
          obtain ⟨A1, hB⟩ : ∃ A1, A1 = (A.setIfInBounds (t * 2) (.int .i64 (cyw : Nat))).setIfInBounds (t * 2 + 1) (.slice cya cyl cyc) := ⟨_, rfl⟩
          rw [← hB] at hA1
          have z0 := frozen_of hA1 (y * 2)
          have z1 := frozen_of hA1 (y * 2 + 1)
          have c2 : ws1.cell? ⟨g, y * 2, none⟩ = some (.int .i64 (cyw : Nat)) := by
            rw [cell_of hA1, hB, Array.getElem?_setIfInBounds_ne (by omega), Array.getElem?_setIfInBounds_ne (by omega), ← cell_of HSw.out.1]
            exact d2
          have c3 : ws1.cell? ⟨g, y * 2 + 1, none⟩ = some (.slice cya cyl cyc) := by
            rw [cell_of hA1, hB, Array.getElem?_setIfInBounds_ne (by omega), Array.getElem?_setIfInBounds_ne (by omega), ← cell_of HSw.out.1]
            exact d3
          have HSy := Lib.hid (And.intro hA1 (And.intro hB hws1))
          clear hA1 hB hws1 d0 d1 d2 d3
          refine mixE_seg 1 rfl ?_
          simp only [List.take_succ_cons, List.take_zero, List.drop_succ_cons, List.drop_zero, List.map_cons, List.map_nil]
          repeat (go_big_quiet_step (fail))
          refine wpQuiet_nil ?_
          refine mixE_eff rfl ?_
          intro K hK
          go_wp2
          refine hK.out _ _ (Fr.from_drew ((((Fr.refl [g] ws1).setCell (by simp) _).setCell (by simp) _).drew)) ?_
          clear hK K z0 z1 c2 c3
          refine mixE_nil ?_
          obtain ⟨w2, hw2⟩ : ∃ w2, w2 = ((ws1.setCell ⟨g, y * 2, none⟩ (.int .i64 (cxw : Nat))).setCell ⟨g, y * 2 + 1, none⟩ (.slice cxa cxl cxc)) := ⟨_, rfl⟩
          rw [← hw2]
          have HZ : Hid (Dw w2 g T A0 L (swp (rotf f t m (m + 1)) y t) ∧ Fr [g] wo w2) := by
            obtain ⟨hA, hAs, hAn, hAt, hAf, hcx, hcy⟩ := HSw.out
            obtain ⟨hA1, hB, hws1⟩ := HSy.out
            have hA2 := setCell_of (o := y * 2 + 1) (setCell_of (o := y * 2) hA1 (.int .i64 (cxw : Nat))) (.slice cxa cxl cxc)
            rw [hB, ← hw2] at hA2
            exact Lib.hid ⟨Dw.swap _ cxw cxa cxl cxc cyw cya cyl cyc hAs hAn hAt hAf hxl hyl hcx hcy hA2, by rw [hw2, hws1]; exact ((((Fr.refl [g] wo).setCell (by simp) _).setCell (by simp) _).setCell (by simp) _).setCell (by simp) _⟩
          clear hw2
          clear g2 g4
          go_wp2
          go_roundg k2
          case measure => have := HJ.out.2.1; omega
          case rel =>
            obtain ⟨hf, htk, hy⟩ := HJ.out
            refine ⟨y, by go_num, by omega, by omega, ?_, hf.trans HZ.out.2.drew⟩
            have := HZ.out.1
            rw [hy, swp_comm, rot_down f m t (by omega) htm] at this
            rw [hy]
            exact this.drew
        · obtain rfl : t = i := by omega
          have HJ := Lib.hid (And.intro hD hf)
          clear hD hf htk
          go_wp2
          (try simp only [Exit.inBlock, Exit.then])
          refine bodyPost_ret (results_none rfl _ _ _) rfl ?_
          refine ⟨rfl, _, HJ.out.1, ?_, HJ.out.2⟩
          have hmb : b = m + 1 := H.out.2.2.1
          rw [hmb]
          exact sd_right f a m t h1 htm H.out.2.2.2 (fun h => HI.out.1 h) (fun h => HI.out.2.1 h)
end Go.Proofs.YtolkoidbkaidkaaGreat.huf
/-
  slices.SortStableFunc[huff.coin]: symMerge, the long way; the sort.
-/
namespace Go.Proofs.YtolkoidbkaidkaaGreat.huf
open Go Go.RowKit Go.Proofs.YtolkoidbkaidkaaGreat.lib Go.Proofs.YtolkoidbkaidkaaGreat.bm Go.Proofs.YtolkoidbkaidkaaGreat.bl

set_option maxRecDepth 100000 in
set_option maxHeartbeats 4000000 in
theorem sym_more (g : Nat) (T : TypeId) (A0 : Array Value) (L cap a m b : Nat) (f : Nat → Mc) (w : World)
    (ih : ∀ (a' m' b' : Nat) (f' : Nat → Mc) (w' : World), b' - a' < b - a → Dw w' g T A0 L f' → a' < m' → m' < b' → b' ≤ L → Wb f' → Srt (sg f' a' (m' - a')) → Srt (sg f' m' (b' - m')) → SymOk g T A0 L cap a' m' b' f' w')
    (h : Dw w g T A0 L f) (ham : a < m) (hne : m ≠ a + 1) (hmb : m < b) (hne2 : b ≠ m + 1) (hbL : b ≤ L) (hL : L ≤ 100000) (hwb : Wb f) (hA : Srt (sg f a (m - a))) (hB : Srt (sg f m (b - m))) : SymOk g T A0 L cap a m b f w := by
  obtain ⟨s, hs⟩ : ∃ s, s = a + b := ⟨_, rfl⟩
  obtain ⟨mid, hmid⟩ : ∃ mid, mid = s / 2 := ⟨_, rfl⟩
  obtain ⟨n, hn⟩ : ∃ n, n = mid + m := ⟨_, rfl⟩
  obtain ⟨p, hp⟩ : ∃ p, p = n - 1 := ⟨_, rfl⟩
  have e00 : (((m : Int) - (a : Int)) == 1) = false := by simp only [beq_eq_false_iff_ne]; omega
  have e01 : (((b : Int) - (m : Int)) == 1) = false := by simp only [beq_eq_false_iff_ne]; omega
  have e1 : (a : Int) + (b : Int) = (s : Int) := by omega
  have e2 : (s : Int) / 2 = (mid : Int) := by omega
  have e3 : (mid : Int) + (m : Int) = (n : Int) := by omega
  have e4 : (n : Int) - 1 = (p : Int) := by omega
  have b1 : s ≤ 200000 := by omega
  have b2 : n ≤ 200000 := by omega
  have b3 : p ≤ 200000 := by omega
  have b4 : mid ≤ 100000 := by omega
  have H := Lib.hid (And.intro h (And.intro hA (And.intro hB (And.intro hwb ih))))
  have H0 := Lib.hid (And.intro ham (And.intro hmb (And.intro hbL (And.intro hs (And.intro hmid (And.intro hn (And.intro hp (And.intro hne hne2))))))))
  clear h hA hB hwb ih ham hmb hs hmid hn hp hne hne2
  unfold SymOk cmpV
  go_enter Tryz.func73, Tryz.ntmps73
  go_upto_region 27 with fail
  clear e00 e01 e1 e2 e3
  obtain ⟨wo, hwo0⟩ : ∃ wo : World, wo = w := ⟨_, rfl⟩
  rw [← hwo0]
  have hwo := Lib.hid hwo0
  clear hwo0
  have hin : ∀ k : Prop, (m ≤ mid → k) → (¬ m ≤ mid → k) → k := fun k h1 h2 => by by_cases h : m ≤ mid; exact h1 h; exact h2 h
  go_cut [140] from 138 to 141 (fun s140 wz => s140 = .bool (decide (mid < m)) ∧ wo = wz)
  case first =>
    by_cases hm : mid < m
    · have q1 : decide ((mid : Int) < (m : Int)) = true := by simp; omega
      go_wp2
      go_meet
      exact ⟨by simp [hm], rfl⟩
    · have q1 : decide ((mid : Int) < (m : Int)) = false := by simp; omega
      go_wp2
      go_meet
      exact ⟨by simp [hm], rfl⟩
  case rest =>
  obtain ⟨rfl, rfl⟩ := hcut
  go_upto_if 140 with fail
  go_cut [20, 21] from 141 to 147 (fun s20 s21 wz => ∃ s0 r0 : Nat, s20 = .int .i64 (s0 : Nat) ∧ s21 = .int .i64 (r0 : Nat) ∧ ((s0 = a ∨ s0 + b = n) ∧ (r0 = mid ∨ r0 = m) ∧ s0 ≤ r0 ∧ a ≤ s0 ∧ n ≤ s0 + b ∧ r0 ≤ m ∧ r0 ≤ mid) ∧ wo = wz)
  case first =>
    obtain ⟨k1, k2, k3, k4, k5, k6, k7, k8, k9⟩ := H0.out
    by_cases hm : mid < m
    · have q1 : decide (mid < m) = true := by simp; omega
      obtain ⟨s0, hs0⟩ : ∃ s0, s0 = n - b := ⟨_, rfl⟩
      have e5 : (n : Int) - (b : Int) = (s0 : Int) := by omega
      have HK := Lib.hid (And.intro k1 (And.intro k2 (And.intro k3 (And.intro k4 (And.intro k5 (And.intro k6 hs0))))))
      clear k1 k2 k3 k4 k5 k6 k7 k8 k9 hs0
      go_wp2
      go_meet
      obtain ⟨k1, k2, k3, k4, k5, k6, hs0⟩ := HK.out
      exact ⟨s0, mid, rfl, rfl, by omega, rfl⟩
    · have q1 : decide (mid < m) = false := by simp; omega
      have HK := Lib.hid (And.intro k1 (And.intro k2 (And.intro k3 (And.intro k4 (And.intro k5 k6)))))
      clear k1 k2 k3 k4 k5 k6 k7 k8 k9
      go_wp2
      go_meet
      obtain ⟨k1, k2, k3, k4, k5, k6⟩ := HK.out
      exact ⟨a, m, rfl, rfl, by omega, rfl⟩
  case rest =>
  obtain ⟨s0, r0, rfl, rfl, h0, rfl⟩ := hcut
  have H1 := Lib.hid h0
  clear h0 hin
  go_wp2
  go_loopg [20, 21, 23] (r0 - s0) (fun k s20 s21 s23 wr => ∃ i j : Nat, s20 = .int .i64 (i : Nat) ∧ s21 = .int .i64 (j : Nat) ∧ j = i + k ∧ s0 ≤ i ∧ j ≤ r0 ∧ (s0 < i → (f (i - 1)).worth ≤ (f (p - (i - 1))).worth) ∧ (j < r0 → (f (p - j)).worth < (f j).worth) ∧ Dw wr g T A0 L f ∧ Fr [g] w wr)
  case atStart =>
    obtain ⟨k1, k2, k3, _⟩ := H1.out
    exact ⟨s0, r0, rfl, rfl, by omega, Nat.le_refl _, Nat.le_refl _, fun h => absurd h (by omega), fun h => absurd h (by omega), by rw [hwo.out]; exact H.out.1, by rw [hwo.out]; exact .refl _ w⟩
  case round =>
    obtain ⟨i, j, rfl, rfl, hk, h1, h2, h3, h4, hD, hf⟩ := hrel
    by_cases hij : i < j
    · obtain ⟨s2, hs⟩ : ∃ s, s = i + j := ⟨_, rfl⟩
      obtain ⟨hh, hhh⟩ : ∃ hh, hh = s2 / 2 := ⟨_, rfl⟩
      obtain ⟨pc, hpc⟩ : ∃ pc, pc = p - hh := ⟨_, rfl⟩
      have hb : hh < L ∧ pc < L ∧ hh ≤ p ∧ s2 ≤ 200000 := by
        obtain ⟨k1, k2, k3, k4, k5, k6, k7, k8, k9⟩ := H0.out
        obtain ⟨l1, l2, l3, l4, l5, l6, l7⟩ := H1.out
        omega
      obtain ⟨hhL, hpL, hhp, hsb⟩ := hb
      have e1 : (i : Int) + (j : Int) = (s2 : Int) := by omega
      have e2 : (s2 : Int) / 2 = (hh : Int) := by omega
      have e3 : (p : Int) - (hh : Int) = (pc : Int) := by omega
      have hwb := H.out.2.2.2.1
      have HI := Lib.hid (And.intro hk (And.intro h3 (And.intro h4 (And.intro hf (And.intro hs (And.intro hhh hpc))))))
      clear hk h3 h4 hf hs hhh hpc
      have g2 : decide ((L : Int) ≤ (hh : Int)) = false := by simp; omega
      have g4 : decide ((L : Int) ≤ (pc : Int)) = false := by simp; omega
      have dd0 := fun x => hD.drew.cellsN (i := pc) (by omega) x
      have dd1 := fun x => hD.drew.cellsN (i := hh) (by omega) x
      have bb0 := hwb (pc)
      have bb1 := hwb (hh)
      obtain ⟨px, hpx⟩ : ∃ px, px = (f) (pc) := ⟨_, rfl⟩
      obtain ⟨r, hr⟩ : ∃ r, r = (f) (hh) := ⟨_, rfl⟩
      rw [← hpx] at bb0 dd0
      rw [← hr] at bb1 dd1
      have d00 := fun x => (dd0 x).1
      have d01 := fun x => (dd0 x).2
      have d10 := fun x => (dd1 x).1
      have d11 := fun x => (dd1 x).2
      have HP := Lib.hid (And.intro hpx (And.intro hr hD))
      clear hpx hr hD dd0 dd1
      go_upto_region 35 with fail
      refine region_mix 14 [(false, 0), (false, 1), (false, 2), (false, 3), (false, 4), (false, 5), (false, 6), (false, 7), (false, 8), (false, 9), (false, 10), (true, 11), (false, 12), (false, 13)] [] (by kernel_rfl) (by kernel_rfl) (fun _ _ d _ _ h => by cases d <;> exact h) ?_
      simp only [List.map_cons, List.map_nil, List.getD_cons_zero, List.getD_cons_succ, List.drop_succ_cons, List.drop_zero, List.drop_nil]
      refine mix_seg 11 rfl ?_
      simp only [List.take_succ_cons, List.take_zero, List.drop_succ_cons, List.drop_zero, List.map_cons, List.map_nil]
      repeat (go_big_quiet_step (fail))
      refine wpQuiet_nil ?_
      refine mix_eff rfl ?_
      intro K hK
      go_wp2_with (go_at_call 36; refine (worth_any px r wr.drew bb0 bb1).mono ?_; rintro e w1 ⟨rfl, hf1⟩)
      refine hK.out _ _ hf1 ?_
      clear hK K d00 d01 d10 d11
      have HC : Hid (Dw w1 g T A0 L (f) ∧ Fr [] wr w1) := Lib.hid ⟨HP.out.2.2.drew.fr hf1, (Fr.drew1 [] wr).trans hf1⟩
      clear hf1
      clear g2 g4
      by_cases hpr : px.worth < r.worth
      · have g5 : decide (((px.worth : Int) - (r.worth : Int)) < 0) = true := by simp; omega
        refine mix_seg 2 rfl ?_
        simp only [List.take_succ_cons, List.take_zero, List.drop_succ_cons, List.drop_zero, List.map_cons, List.map_nil]
        repeat (go_big_quiet_step (fail))
        refine wpQuiet_nil ?_
        refine mix_nil ?_
        go_wp2
        go_roundg (hh - i)
        case measure => have := HI.out.1; have := HI.out.2.2.2.2; omega
        case rel =>
          obtain ⟨hk, h3, h4, hf, hs, hhh, hpc⟩ := HI.out
          obtain ⟨hp, hr, hD⟩ := HP.out
          refine ⟨i, hh, rfl, rfl, by omega, h1, by omega, h3, fun _ => by rw [← hpc, ← hp, ← hr]; exact hpr, HC.out.1, hf.trans (HC.out.2.mono (by simp))⟩
      · have g5 : decide (((px.worth : Int) - (r.worth : Int)) < 0) = false := by simp; omega
        refine mix_seg 2 rfl ?_
        simp only [List.take_succ_cons, List.take_zero, List.drop_succ_cons, List.drop_zero, List.map_cons, List.map_nil]
        repeat (go_big_quiet_step (fail))
        refine wpQuiet_nil ?_
        refine mix_nil ?_
        go_wp2
        go_roundg (j - (hh + 1))
        case measure => have := HI.out.1; have := HI.out.2.2.2.2; omega
        case rel =>
          obtain ⟨hk, h3, h4, hf, hs, hhh, hpc⟩ := HI.out
          obtain ⟨hp, hr, hD⟩ := HP.out
          refine ⟨hh + 1, j, by go_num, rfl, by omega, by omega, h2, fun _ => by rw [Nat.add_sub_cancel, ← hpc, ← hp, ← hr]; omega, h4, HC.out.1, hf.trans (HC.out.2.mono (by simp))⟩
    · obtain rfl : i = j := by omega
      obtain ⟨e, he⟩ : ∃ e, e = n - i := ⟨_, rfl⟩
      have hg : a ≤ i ∧ i ≤ m ∧ m ≤ e ∧ e ≤ b ∧ i + e = mid + m ∧ i ≤ mid ∧ mid ≤ e ∧ p = n - 1 ∧ mid = (a + b) / 2 ∧ a < mid ∧ mid < b ∧ (i < m → m < e → i < r0) ∧ (a < i → e < b → s0 < i) := by
        obtain ⟨k1, k2, k3, k4, k5, k6, k7, k8, k9⟩ := H0.out
        obtain ⟨l1, l2, l3, l4, l5, l6, l7⟩ := H1.out
        omega
      have e1 : (n : Int) - (i : Int) = (e : Int) := by omega
      have q1 : i < m → m < e → (f (e - 1)).worth < (f i).worth := fun x y => by
        have := h4 (hg.2.2.2.2.2.2.2.2.2.2.2.1 x y)
        rwa [show p - i = e - 1 from by omega] at this
      have q2 : a < i → e < b → (f (i - 1)).worth ≤ (f e).worth := fun x y => by
        have := h3 (hg.2.2.2.2.2.2.2.2.2.2.2.2 x y)
        rwa [show p - (i - 1) = e from by omega] at this
      have HI := Lib.hid (And.intro q1 (And.intro q2 (And.intro hg (And.intro hD (And.intro hf he)))))
      have hml : m ≤ e := hg.2.2.1
      have heb : e ≤ b := hg.2.2.2.1
      have him : i ≤ m := hg.2.1
      have hai : a ≤ i := hg.1
      clear h3 h4 hD hf hk q1 q2 hg he h1 h2 hij
      go_upto_region 39 with fail
      go_cut [185] from 178 to 186 (fun s185 wz => ∃ c : Bool, s185 = .bool c ∧ (c = true ↔ (i < m ∧ m < e)) ∧ wr = wz)
      case first =>
        by_cases c1 : i < m
        · by_cases c2 : m < e
          · have q1 : decide ((i : Int) < (m : Int)) = true := by simp; omega
            have q2 : decide ((m : Int) < (e : Int)) = true := by simp; omega
            go_wp2
            go_meet
            exact ⟨_, rfl, by simp [c1, c2], rfl⟩
          · have q1 : decide ((i : Int) < (m : Int)) = true := by simp; omega
            have q2 : decide ((m : Int) < (e : Int)) = false := by simp; omega
            go_wp2
            go_meet
            exact ⟨_, rfl, by simp [c1, c2], rfl⟩
        · have q1 : decide ((i : Int) < (m : Int)) = false := by simp; omega
          go_wp2
          go_meet
          exact ⟨_, rfl, by simp [c1], rfl⟩
      case rest =>
      obtain ⟨cb, rfl, hcb, rfl⟩ := hcut
      have HCB185 := Lib.hid hcb
      clear hcb
      go_upto_if 185 with fail
      go_cut [] from 185 to 192 (fun wz => Dw wz g T A0 L (rotf f i m e) ∧ Fr [g] w wz)
      case first =>
        cases cb with
        | true =>
          have c := HCB185.out.1 rfl
          have hr := rotate_any g T A0 L cap i m e f (.func (.func 36) #[] #[]) wr HI.out.2.2.2.1 c.1 c.2 (by omega) hL
          have HR := Lib.hid hr
          clear hr c
          go_wp2_with (go_at_call 85; refine HR.out.mono ?_; rintro e w2 ⟨rfl, hd2, hf2⟩)
          go_meet
          exact ⟨hd2, HI.out.2.2.2.2.1.trans hf2⟩
        | false =>
          have c : ¬ (i < m ∧ m < e) := fun h => absurd (HCB185.out.2 h) (by simp)
          have HX := Lib.hid c
          clear c
          go_wp2
          go_meet
          refine ⟨?_, HI.out.2.2.2.2.1⟩
          rw [rotf_none f i m e him hml (by have := HX.out; omega)]
          exact HI.out.2.2.2.1
      case rest =>
      obtain ⟨hD1, hF1⟩ := hcut
      obtain ⟨w3, hw3⟩ : ∃ w3 : World, w3 = wc := ⟨_, rfl⟩
      rw [← hw3] at hD1 hF1 ⊢
      have HD1 := Lib.hid (And.intro hD1 (And.intro hF1 hw3))
      clear hD1 hF1 hw3
      have hw1 : Hid (Wb (rotf f i m e)) := Lib.hid (H.out.2.2.2.1.rot i m e)
      have hL1 : Hid (a < i → i < mid → Srt (sg (rotf f i m e) a (i - a)) ∧ Srt (sg (rotf f i m e) i (mid - i))) := Lib.hid fun x y => by
        obtain ⟨k1, k2, k3, k4, k5, k6, k7, k8, k9, k10, k11, _⟩ := HI.out.2.2.1
        refine ⟨?_, ?_⟩
        · rw [sg_rot_out _ _ _ _ _ _ k2 k3 (.inl (by omega))]
          exact srt_part H.out.2.1 (Nat.le_refl _) (by omega)
        · have := sg_rot_first f i m e k2 k3
          rw [show mid - i = e - m from by omega, this]
          exact srt_part H.out.2.2.1 (Nat.le_refl _) (by omega)
      have hL2 : Hid (¬ (a < i ∧ i < mid) → Srt (sg (rotf f i m e) a (mid - a))) := Lib.hid fun x => by
        obtain ⟨k1, k2, k3, k4, k5, k6, k7, k8, k9, k10, k11, _⟩ := HI.out.2.2.1
        by_cases hz : i = a
        · have := sg_rot_first f i m e k2 k3
          rw [← hz, show mid - i = e - m from by omega, this]
          exact srt_part H.out.2.2.1 (Nat.le_refl _) (by omega)
        · rw [rotf_none f i m e k2 k3 (by omega)]
          exact srt_part H.out.2.1 (Nat.le_refl _) (by omega)
      go_upto_region 41 with fail
      go_cut [199] from 192 to 200 (fun s199 wz => ∃ c : Bool, s199 = .bool c ∧ (c = true ↔ (a < i ∧ i < mid)) ∧ w3 = wz)
      case first =>
        by_cases c1 : a < i
        · by_cases c2 : i < mid
          · have q1 : decide ((a : Int) < (i : Int)) = true := by simp; omega
            have q2 : decide ((i : Int) < (mid : Int)) = true := by simp; omega
            go_wp2
            go_meet
            exact ⟨_, rfl, by simp [c1, c2], rfl⟩
          · have q1 : decide ((a : Int) < (i : Int)) = true := by simp; omega
            have q2 : decide ((i : Int) < (mid : Int)) = false := by simp; omega
            go_wp2
            go_meet
            exact ⟨_, rfl, by simp [c1, c2], rfl⟩
        · have q1 : decide ((a : Int) < (i : Int)) = false := by simp; omega
          go_wp2
          go_meet
          exact ⟨_, rfl, by simp [c1], rfl⟩
      case rest =>
      obtain ⟨cb, rfl, hcb, rfl⟩ := hcut
      have HCB199 := Lib.hid hcb
      clear hcb
      go_upto_if 199 with fail
      go_cut [] from 199 to 206 (fun wz => ∃ f1, Dw wz g T A0 L f1 ∧ Sd (rotf f i m e) f1 a mid ∧ Fr [g] w wz)
      case first =>
        cases cb with
        | true =>
          have c := HCB199.out.1 rfl
          have hr : SymOk g T A0 L cap a i mid (rotf f i m e) w3 := by
            obtain ⟨k1, k2, k3, k4, k5, k6, k7, k8, k9, k10, k11, _⟩ := HI.out.2.2.1
            exact H.out.2.2.2.2 a i mid _ w3 (by omega) HD1.out.1 c.1 c.2 (by omega) hw1.out (hL1.out c.1 c.2).1 (hL1.out c.1 c.2).2
          unfold SymOk cmpV at hr
          have HR := Lib.hid hr
          clear hr c
          go_wp2_with (go_at_call 73; refine HR.out.mono ?_; rintro e w2 ⟨rfl, f1, hd2, hs2, hf2⟩)
          go_meet
          exact ⟨f1, hd2, hs2, HD1.out.2.1.trans hf2⟩
        | false =>
          have c : ¬ (a < i ∧ i < mid) := fun h => absurd (HCB199.out.2 h) (by simp)
          have HX := Lib.hid c
          clear c
          go_wp2
          go_meet
          exact ⟨_, HD1.out.1, sd_refl _ _ _ (hL2.out HX.out), HD1.out.2.1⟩
      case rest =>
      obtain ⟨f1, hD2, hS2, hF2⟩ := hcut
      obtain ⟨w4, hw4⟩ : ∃ w4 : World, w4 = wc := ⟨_, rfl⟩
      rw [← hw4] at hD2 hF2 ⊢
      have HD2 := Lib.hid (And.intro hD2 (And.intro hS2 (And.intro hF2 hw4)))
      clear hD2 hS2 hF2 hw4
      have eR1 : Hid (∀ c k, mid ≤ c → sg f1 c k = sg (rotf f i m e) c k) := Lib.hid fun c k hc => sg_congr fun t ht => HD2.out.2.1.out _ (.inr (by omega))
      have hR1 : Hid (mid < e → e < b → Srt (sg f1 mid (e - mid)) ∧ Srt (sg f1 e (b - e))) := Lib.hid fun x y => by
        obtain ⟨k1, k2, k3, k4, k5, k6, k7, k8, k9, k10, k11, _⟩ := HI.out.2.2.1
        rw [eR1.out mid _ (Nat.le_refl _), eR1.out e _ (by omega)]
        refine ⟨?_, ?_⟩
        · have := sg_rot_last f i m e k2 k3
          rw [show i + (e - m) = mid from by omega] at this
          rw [show e - mid = m - i from by omega, this]
          exact srt_part H.out.2.1 (by omega) (by omega)
        · rw [sg_rot_out _ _ _ _ _ _ k2 k3 (.inr (Nat.le_refl _))]
          exact srt_part H.out.2.2.1 (by omega) (by omega)
      have hR2 : Hid (¬ (mid < e ∧ e < b) → Srt (sg f1 mid (b - mid))) := Lib.hid fun x => by
        obtain ⟨k1, k2, k3, k4, k5, k6, k7, k8, k9, k10, k11, _⟩ := HI.out.2.2.1
        rw [eR1.out mid _ (Nat.le_refl _)]
        by_cases hz : e = b
        · have := sg_rot_last f i m e k2 k3
          rw [show i + (e - m) = mid from by omega] at this
          rw [show b - mid = m - i from by omega, this]
          exact srt_part H.out.2.1 (by omega) (by omega)
        · have he : e = mid := by omega
          rw [rotf_none f i m e k2 k3 (by omega)]
          exact srt_part H.out.2.2.1 (by omega) (by omega)
      go_upto_region 43 with fail
      go_cut [213] from 206 to 214 (fun s213 wz => ∃ c : Bool, s213 = .bool c ∧ (c = true ↔ (mid < e ∧ e < b)) ∧ w4 = wz)
      case first =>
        by_cases c1 : mid < e
        · by_cases c2 : e < b
          · have q1 : decide ((mid : Int) < (e : Int)) = true := by simp; omega
            have q2 : decide ((e : Int) < (b : Int)) = true := by simp; omega
            go_wp2
            go_meet
            exact ⟨_, rfl, by simp [c1, c2], rfl⟩
          · have q1 : decide ((mid : Int) < (e : Int)) = true := by simp; omega
            have q2 : decide ((e : Int) < (b : Int)) = false := by simp; omega
            go_wp2
            go_meet
            exact ⟨_, rfl, by simp [c1, c2], rfl⟩
        · have q1 : decide ((mid : Int) < (e : Int)) = false := by simp; omega
          go_wp2
          go_meet
          exact ⟨_, rfl, by simp [c1], rfl⟩
      case rest =>
      obtain ⟨cb, rfl, hcb, rfl⟩ := hcut
      have HCB213 := Lib.hid hcb
      clear hcb
      go_upto_if 213 with fail
      cases cb with
      | true =>
        have c := HCB213.out.1 rfl
        have hr : SymOk g T A0 L cap mid e b f1 w4 := by
          obtain ⟨k1, k2, k3, k4, k5, k6, k7, k8, k9, k10, k11, _⟩ := HI.out.2.2.1
          exact H.out.2.2.2.2 mid e b _ w4 (by omega) HD2.out.1 c.1 c.2 (by omega) (hw1.out.sd HD2.out.2.1) (hR1.out c.1 c.2).1 (hR1.out c.1 c.2).2
        unfold SymOk cmpV at hr
        have HR := Lib.hid hr
        clear hr c
        go_wp2_with (go_at_call 73; refine HR.out.mono ?_; rintro e2 w2 ⟨rfl, f2, hd2, hs2, hf2⟩)
        (try simp only [Exit.inBlock, Exit.then])
        refine bodyPost_end (results_none rfl _ _ _) rfl ?_
        obtain ⟨k1, k2, k3, k4, k5, k6, k7, k8, k9, k10, k11, _⟩ := HI.out.2.2.1
        have h0 := H0.out
        exact ⟨rfl, f2, hd2, sd_sym f f1 f2 a m b mid i e k9 (by omega) (by omega) (by omega) k1 k2 k3 k4 H.out.2.1 H.out.2.2.1 HI.out.1 HI.out.2.1 HD2.out.2.1 hs2, HD2.out.2.2.1.trans hf2⟩
      | false =>
        have c : ¬ (mid < e ∧ e < b) := fun h => absurd (HCB213.out.2 h) (by simp)
        have HX := Lib.hid c
        clear c
        go_wp2
        (try simp only [Exit.inBlock, Exit.then])
        refine bodyPost_end (results_none rfl _ _ _) rfl ?_
        obtain ⟨k1, k2, k3, k4, k5, k6, k7, k8, k9, k10, k11, _⟩ := HI.out.2.2.1
        have h0 := H0.out
        exact ⟨rfl, f1, HD2.out.1, sd_sym f f1 f1 a m b mid i e k9 (by omega) (by omega) (by omega) k1 k2 k3 k4 H.out.2.1 H.out.2.2.1 HI.out.1 HI.out.2.1 HD2.out.2.1 (sd_refl _ _ _ (hR2.out HX.out)), HD2.out.2.2.1⟩
end Go.Proofs.YtolkoidbkaidkaaGreat.huf
/-
  slices.SortStableFunc[huff.coin]: the whole sort.
-/
namespace Go.Proofs.YtolkoidbkaidkaaGreat.huf
open Go Go.RowKit Go.Proofs.YtolkoidbkaidkaaGreat.lib Go.Proofs.YtolkoidbkaidkaaGreat.bm Go.Proofs.YtolkoidbkaidkaaGreat.bl

theorem sym_any (g : Nat) (T : TypeId) (A0 : Array Value) (L cap : Nat) (hL : L ≤ 100000) : ∀ (n a m b : Nat) (f : Nat → Mc) (w : World), b - a ≤ n →
    Dw w g T A0 L f → a < m → m < b → b ≤ L → Wb f → Srt (sg f a (m - a)) → Srt (sg f m (b - m)) → SymOk g T A0 L cap a m b f w := by
  intro n
  induction n with
  | zero => intro a m b f w hn _ h1 h2; omega
  | succ n ih =>
    intro a m b f w hn hD h1 h2 h3 hwb hA hB
    by_cases c1 : m = a + 1
    · exact sym_one g T A0 L cap a m b f w hD c1 h2 h3 hL hwb hB
    · by_cases c2 : b = m + 1
      · exact sym_two g T A0 L cap a m b f w hD h1 c1 c2 h3 hL hwb hA
      · exact sym_more g T A0 L cap a m b f w (fun a' m' b' f' w' hlt k1 k2 k3 k4 k5 k6 k7 => ih a' m' b' f' w' (by omega) k1 k2 k3 k4 k5 k6 k7) hD h1 c1 h2 c2 h3 hL hwb hA hB
/-- The blocks of length bs below a are in order. -/
def PB (f : Nat → Mc) (bs a n : Nat) : Prop := ∀ c, bs ∣ c → c < a → Srt (sg f c (min bs (n - c)))
theorem mult_gap {bs a c : Nat} (hb : 0 < bs) (h1 : bs ∣ a) (h2 : bs ∣ c) (h : c < a) : c + bs ≤ a := by
  obtain ⟨x, rfl⟩ := h1
  obtain ⟨y, rfl⟩ := h2
  have : y < x := Nat.lt_of_mul_lt_mul_left h
  calc bs * y + bs = bs * (y + 1) := by rw [Nat.mul_succ]
    _ ≤ bs * x := Nat.mul_le_mul_left _ this
theorem pb_step {f f2 : Nat → Mc} {bs a n : Nat} (hb : 0 < bs) (ha : bs ∣ a) (h : PB f bs a n) (hs : Sd f f2 a (min (a + bs) n)) : PB f2 bs (a + bs) n := by
  intro c hc hlt
  rcases Nat.lt_trichotomy c a with k | k | k
  · have := mult_gap hb ha hc k
    rw [sg_congr (f := f2) (f' := f) (a' := c) fun t ht => hs.out _ (.inl (by omega))]
    exact h c hc k
  · subst k
    have := hs.srt
    rw [show min bs (n - c) = min (c + bs) n - c from by omega]
    exact this
  · have := mult_gap hb hc ha k
    omega
theorem pb_rest {f f2 : Nat → Mc} {bs a b n : Nat} (hs : Sd f f2 a b) (h : ∀ c, bs ∣ c → a ≤ c → Srt (sg f c (min bs (n - c)))) (hab : a ≤ b) : ∀ c, bs ∣ c → b ≤ c → Srt (sg f2 c (min bs (n - c))) := by
  intro c hc hb
  rw [sg_congr (f := f2) (f' := f) (a' := c) fun t ht => hs.out _ (.inr (by omega))]
  exact h c hc (by omega)
theorem pb_all {f : Nat → Mc} {bs n : Nat} (hb : n ≤ bs) (h : PB f bs n n) : Srt (sg f 0 n) := by
  rcases Nat.eq_zero_or_pos n with k | k
  · subst k; rw [sg_zero]; exact List.Pairwise.nil
  · have := h 0 (Nat.dvd_zero _) k
    rwa [show min bs (n - 0) = n from by omega] at this
theorem pb_mono {f : Nat → Mc} {bs a a' n : Nat} (h : PB f bs a n) (haa : a' ≤ a) : PB f bs a' n := fun c hc hlt => h c hc (by omega)
set_option maxRecDepth 100000 in
set_option maxHeartbeats 4000000 in
theorem stable_any (g : Nat) (T : TypeId) (A0 : Array Value) (L cap : Nat) (f : Nat → Mc) (w : World)
    (h : Dw w g T A0 L f) (hL : L ≤ 100000) (hwb : Wb f) :
    Calls Tryz.prog 54 #[.slice (some ⟨g, 0, none⟩) L cap, .int .i64 (L : Nat), cmpV] w fun e w' => e = .returned (.tuple #[]) ∧ ∃ f', Dw w' g T A0 L f' ∧ Sd f f' 0 L ∧ Fr [g] w w' := by
  have H := Lib.hid (And.intro h hwb)
  clear h hwb
  unfold cmpV
  go_enter Tryz.func54, Tryz.ntmps54
  go_wp2
  go_loopg [7, 8] L (fun k s7 s8 wr => ∃ a : Nat, s7 = .int .i64 (a : Nat) ∧ s8 = .int .i64 ((a + 20 : Nat) : Nat) ∧ a + k = L ∧ 20 ∣ a ∧ ∃ f1, Dw wr g T A0 L f1 ∧ Wb f1 ∧ Stb (sg f1 0 L) (sg f 0 L) ∧ PB f1 20 a L ∧ (∀ t, L ≤ t → f1 t = f t) ∧ Fr [g] w wr)
  case atStart => exact ⟨0, rfl, rfl, by omega, Nat.dvd_zero _, f, H.out.1, H.out.2, .refl _, fun c _ hc => absurd hc (by omega), fun _ _ => rfl, .refl _ w⟩
  case round =>
    obtain ⟨a, rfl, rfl, hk, h20, f1, hD, hwb, hst, hpb, hout, hf⟩ := hrel
    obtain ⟨b, hb⟩ : ∃ b, b = a + 20 := ⟨_, rfl⟩
    rw [← hb]
    by_cases hab : b ≤ L
    · have hi := insert_any g T A0 L cap a b f1 wr hD (by omega) hab hL hwb
      unfold cmpV at hi
      have HI := Lib.hid (And.intro hi (And.intro hwb (And.intro hst (And.intro hpb (And.intro hout (And.intro hf (And.intro hk (And.intro h20 hb))))))))
      clear hi hwb hst hpb hout hf hk h20 hb hD
      go_wp2_with (go_at_call 72; refine HI.out.1.mono ?_; rintro e w2 ⟨rfl, f2, hd2, hs2, hf2⟩; have HW := Lib.hid (And.intro hd2 (And.intro hs2 hf2)); clear hd2 hs2 hf2)
      go_roundg (L - b)
      case measure => have := HI.out.2.2.2.2.2.2; omega
      case rel =>
        obtain ⟨_, hwb, hst, hpb, hout, hf, hk, h20, hb⟩ := HI.out
        obtain ⟨hd2, hs2, hf2⟩ := HW.out
        refine ⟨b, rfl, by go_num, by omega, ?_, f2, hd2, hwb.sd hs2, (hs2.widen (by omega) hab).trans hst, ?_, fun t ht => (hs2.out t (.inr (by omega))).trans (hout t ht), hf.trans hf2⟩
        · rw [hb]; exact Nat.dvd_add h20 (Nat.dvd_refl _)
        · rw [hb]; exact pb_step (by omega) h20 hpb (by rw [Nat.min_eq_left (by omega), ← hb]; exact hs2)
    · have hi := insert_any g T A0 L cap a L f1 wr hD (by omega) (Nat.le_refl _) hL hwb
      unfold cmpV at hi
      have HI := Lib.hid (And.intro hi (And.intro hwb (And.intro hst (And.intro hpb (And.intro hout (And.intro hf (And.intro hk (And.intro h20 hb))))))))
      clear hi hwb hst hpb hout hf hk h20 hb hD
      go_wp2_with (go_at_call 72; refine HI.out.1.mono ?_; rintro e w2 ⟨rfl, f2, hd2, hs2, hf2⟩; have HW := Lib.hid (And.intro hd2 (And.intro hs2 hf2)); clear hd2 hs2 hf2)
      have hst2 : ∃ f3, Dw w2 g T A0 L f3 ∧ Wb f3 ∧ Stb (sg f3 0 L) (sg f 0 L) ∧ PB f3 20 L L ∧ (∀ t, L ≤ t → f3 t = f t) ∧ Fr [g] w w2 := by
        obtain ⟨_, hwb, hst, hpb, hout, hf, hk, h20, hb⟩ := HI.out
        obtain ⟨hd2, hs2, hf2⟩ := HW.out
        refine ⟨f2, hd2, hwb.sd hs2, (hs2.widen (by omega) (Nat.le_refl _)).trans hst, pb_mono (pb_step (a := a) (by omega) h20 hpb (by rw [Nat.min_eq_right (by omega)]; exact hs2)) (by omega), fun t ht => (hs2.out t (.inr (by omega))).trans (hout t ht), hf.trans hf2⟩
      have HS := Lib.hid hst2
      clear hst2 HI HW hab
      go_loopg [6, 7, 8, 9] (L + 40) (fun k s6 s7 s8 s9 wr => ∃ bs : Nat, s6 = .int .i64 (bs : Nat) ∧ 20 ≤ bs ∧ bs ≤ 200040 ∧ k = L + 60 - bs ∧ ∃ f1, Dw wr g T A0 L f1 ∧ Wb f1 ∧ Stb (sg f1 0 L) (sg f 0 L) ∧ PB f1 bs L L ∧ (∀ t, L ≤ t → f1 t = f t) ∧ Fr [g] w wr)
      case atStart =>
        obtain ⟨f3, h3⟩ := HS.out
        exact ⟨20, rfl, Nat.le_refl _, by omega, by omega, f3, h3⟩
      case round =>
        obtain ⟨bs, rfl, hb20, hbs, hk, f1, hD, hwb, hst, hpb, hout, hf⟩ := hrel
        by_cases hlt : bs < L
        · have HI := Lib.hid (And.intro hD (And.intro hwb (And.intro hst (And.intro hpb (And.intro hout hf)))))
          clear hD hwb hst hpb hout hf
          have HK := Lib.hid hk
          clear hk
          obtain ⟨b2, hb2⟩ : ∃ b2, b2 = 2 * bs := ⟨_, rfl⟩
          have e1 : 2 * (bs : Int) = (b2 : Int) := by omega
          have e2 : (bs : Int) * 2 = (b2 : Int) := by omega
          have hb2b : b2 ≤ 200000 := by omega
          have HB := Lib.hid hb2
          clear hb2
          obtain ⟨wo, hwo⟩ : ∃ wo : World, wo = wr := ⟨_, rfl⟩
          have HWO := Lib.hid hwo
          rw [← hwo]
          clear hwo
          go_wp2
          go_loopg [7, 8] L (fun k s7 s8 wr => ∃ a : Nat, s7 = .int .i64 (a : Nat) ∧ s8 = .int .i64 ((a + b2 : Nat) : Nat) ∧ a + k = L ∧ b2 ∣ a ∧ ∃ f1, Dw wr g T A0 L f1 ∧ Wb f1 ∧ Stb (sg f1 0 L) (sg f 0 L) ∧ PB f1 b2 a L ∧ (∀ c, bs ∣ c → a ≤ c → Srt (sg f1 c (min bs (L - c)))) ∧ (∀ t, L ≤ t → f1 t = f t) ∧ Fr [g] w wr)
          case atStart =>
            obtain ⟨hD, hwb, hst, hpb, hout, hf⟩ := HI.out
            rw [HWO.out]
            refine ⟨0, rfl, by go_num, by omega, Nat.dvd_zero _, f1, hD, hwb, hst, fun c _ hc => absurd hc (by omega), fun c hc _ => ?_, hout, hf⟩
            by_cases hcL : c < L
            · exact hpb c hc hcL
            · rw [show min bs (L - c) = 0 from by omega, sg_zero]; exact List.Pairwise.nil
          case round =>
            obtain ⟨a, rfl, rfl, hk, h2a, f3, hD, hwb, hst, hpb, hrest, hout, hf⟩ := hrel
            obtain ⟨b, hb⟩ : ∃ b, b = a + b2 := ⟨_, rfl⟩
            obtain ⟨m, hm⟩ : ∃ m, m = a + bs := ⟨_, rfl⟩
            have e3 : (a : Int) + (bs : Int) = (m : Int) := by omega
            have haL : a ≤ L := by omega
            have hmb : m ≤ 400000 := by omega
            have hbb : b ≤ 400000 := by omega
            have hda : bs ∣ a := Nat.dvd_trans ⟨2, by have := HB.out; omega⟩ h2a
            rw [← hb]
            by_cases hab : b ≤ L
            · have hi := sym_any g T A0 L cap hL (b - a) a m b f3 wr (Nat.le_refl _) hD (by omega) (by have := HB.out; omega) hab hwb
                (by have := hrest a hda (Nat.le_refl _); rwa [show min bs (L - a) = m - a from by have := HB.out; omega] at this)
                (by have := hrest m (by rw [hm]; exact Nat.dvd_add hda (Nat.dvd_refl _)) (by omega); rwa [show min bs (L - m) = b - m from by have := HB.out; omega] at this)
              unfold SymOk cmpV at hi
              have HJ := Lib.hid (And.intro hi (And.intro hwb (And.intro hst (And.intro hpb (And.intro hrest (And.intro hout (And.intro hf (And.intro hk (And.intro h2a (And.intro hb hm))))))))))
              clear hi hwb hst hpb hrest hout hf hk h2a hb hm hD hda
              go_wp2_with (go_at_call 73; refine HJ.out.1.mono ?_; rintro e w2 ⟨rfl, f2, hd2, hs2, hf2⟩; have HW := Lib.hid (And.intro hd2 (And.intro hs2 hf2)); clear hd2 hs2 hf2)
              go_roundg (L - b)
              case measure => have := HJ.out.2.2.2.2.2.2.2; omega
              case rel =>
                obtain ⟨_, hwb, hst, hpb, hrest, hout, hf, hk, h2a, hb, hm⟩ := HJ.out
                obtain ⟨hd2, hs2, hf2⟩ := HW.out
                refine ⟨b, rfl, by go_num, by omega, ?_, f2, hd2, hwb.sd hs2, (hs2.widen (by omega) hab).trans hst, ?_, pb_rest hs2 hrest (by omega), fun t ht => (hs2.out t (.inr (by omega))).trans (hout t ht), hf.trans hf2⟩
                · rw [hb]; exact Nat.dvd_add h2a (Nat.dvd_refl _)
                · rw [hb]; exact pb_step (by omega) h2a hpb (by rw [Nat.min_eq_left (by omega), ← hb]; exact hs2)
            · by_cases hml : m < L
              · have hi := sym_any g T A0 L cap hL (L - a) a m L f3 wr (Nat.le_refl _) hD (by omega) hml (Nat.le_refl _) hwb
                  (by have := hrest a hda (Nat.le_refl _); rwa [show min bs (L - a) = m - a from by omega] at this)
                  (by have := hrest m (by rw [hm]; exact Nat.dvd_add hda (Nat.dvd_refl _)) (by omega); rwa [show min bs (L - m) = L - m from by have := HB.out; omega] at this)
                unfold SymOk cmpV at hi
                have HJ := Lib.hid (And.intro hi (And.intro hwb (And.intro hst (And.intro hpb (And.intro hrest (And.intro hout (And.intro hf (And.intro hk (And.intro h2a (And.intro hb hm))))))))))
                clear hi hwb hst hpb hrest hout hf hk h2a hb hm hD hda
                go_wp2_with (go_at_call 73; refine HJ.out.1.mono ?_; rintro e w2 ⟨rfl, f2, hd2, hs2, hf2⟩; have HW := Lib.hid (And.intro hd2 (And.intro hs2 hf2)); clear hd2 hs2 hf2)
                go_roundg (L + 60 - b2)
                case measure => have := HK.out; have := HB.out; omega
                case rel =>
                  obtain ⟨_, hwb, hst, hpb, hrest, hout, hf, hk, h2a, hb, hm⟩ := HJ.out
                  obtain ⟨hd2, hs2, hf2⟩ := HW.out
                  exact ⟨b2, rfl, by have := HB.out; omega, by omega, rfl, f2, hd2, hwb.sd hs2, (hs2.widen (by omega) (Nat.le_refl _)).trans hst, pb_mono (pb_step (a := a) (by have := HB.out; omega) h2a hpb (by rw [Nat.min_eq_right (by omega)]; exact hs2)) (by omega), fun t ht => (hs2.out t (.inr ht)).trans (hout t ht), hf.trans hf2⟩
              · have HJ := Lib.hid (And.intro hwb (And.intro hst (And.intro hpb (And.intro hrest (And.intro hout (And.intro hf (And.intro hk (And.intro h2a (And.intro hb (And.intro hm (And.intro hD hda)))))))))))
                clear hwb hst hpb hrest hout hf hk h2a hb hm hD hda
                go_wp2
                go_roundg (L + 60 - b2)
                case measure => have := HK.out; have := HB.out; omega
                case rel =>
                  obtain ⟨hwb, hst, hpb, hrest, hout, hf, hk, h2a, hb, hm, hD, hda⟩ := HJ.out
                  refine ⟨b2, rfl, by have := HB.out; omega, by omega, rfl, f3, hD, hwb, hst, pb_mono (pb_step (a := a) (by have := HB.out; omega) h2a hpb (sd_refl _ _ _ ?_)) (by omega), hout, hf⟩
                  have := hrest a hda (Nat.le_refl _)
                  rwa [show min bs (L - a) = min (a + b2) L - a from by omega] at this
        · have HI := Lib.hid (And.intro hD (And.intro hwb (And.intro hst (And.intro hpb (And.intro hout hf)))))
          clear hD hwb hst hpb hout hf hk
          go_wp2
          (try simp only [Exit.inBlock, Exit.then])
          refine bodyPost_end (results_none rfl _ _ _) rfl ?_
          obtain ⟨hD, hwb, hst, hpb, hout, hf⟩ := HI.out
          exact ⟨rfl, f1, hD, ⟨fun t ht => hout t (by omega), pb_all (by omega) hpb, hst⟩, hf⟩
/-- slices.SortStableFunc over coins. -/
theorem sort_any (g : Nat) (T : TypeId) (A0 : Array Value) (L cap : Nat) (f : Nat → Mc) (w : World)
    (h : Dw w g T A0 L f) (hL : L ≤ 100000) (hwb : Wb f) :
    Calls Tryz.prog 37 #[.slice (some ⟨g, 0, none⟩) L cap, cmpV] w fun e w' => e = .returned (.tuple #[]) ∧ ∃ f', Dw w' g T A0 L f' ∧ Sd f f' 0 L ∧ Fr [g] w w' := by
  have H := Lib.hid (stable_any g T A0 L cap f w h hL hwb)
  unfold cmpV at H ⊢
  clear h hwb
  go_enter Tryz.func37, Tryz.ntmps37
  go_wp2_with (go_at_call 54; refine H.out.mono ?_; rintro e w2 ⟨rfl, hd2⟩)
  (try simp only [Exit.inBlock, Exit.then])
  refine bodyPost_end (results_none rfl _ _ _) rfl ?_
  exact ⟨rfl, hd2⟩
end Go.Proofs.YtolkoidbkaidkaaGreat.huf
/-
  slices.Grow of nil and slices.Concat of two slices, over coins and over ints.
-/
namespace Go.Proofs.YtolkoidbkaidkaaGreat.huf
open Go Go.RowKit Go.Proofs.YtolkoidbkaidkaaGreat.lib Go.Proofs.YtolkoidbkaidkaaGreat.bm Go.Proofs.YtolkoidbkaidkaaGreat.bl

/-- A new slice with these cells; nothing old has turned. -/
structure Made (w w' : World) (e : TypeId) (size : Nat) (ao : Option Addr) (n cap : Nat) (xs : List Value) : Prop where
  own : w'.ownsRow 0 e size (.slice ao n cap) n xs
  fr : Fr [] w w'
  new : ∀ x ∈ blk ao, w.heap.size ≤ x
  le : n ≤ cap
  max : cap ≤ maxLen
  nil : ao = none → cap = 0
theorem Made.none (w : World) (e : TypeId) (size : Nat) : Made w w e size none 0 0 [] := ⟨⟨by simp, .inl ⟨rfl, rfl⟩⟩, .refl _ w, by simp [blk], Nat.le_refl _, Nat.zero_le _, fun _ => rfl⟩
theorem Made.app {w w1 w2 : World} {e : TypeId} {size : Nat} {ao ao2 : Option Addr} {n m cap cap2 : Nat} {xs ys : List Value} (h : Made w w1 e size ao n cap xs) (h2 : Appended w1 w2 e size (blk ao) ao2 m cap2 ys) : Made w w2 e size ao2 m cap2 ys :=
  ⟨h2.own, h.fr.step h2.fr (fun x hx => .inr (h.new x hx)), fun x hx => by
    rcases h2.at_ x hx with k | k
    · exact h.new x k
    · rw [k]; exact h.fr.size, h2.le, h2.max, h2.nil⟩
theorem Made.fr2 {w w1 w2 : World} {e : TypeId} {size : Nat} {ao : Option Addr} {n cap : Nat} {xs : List Value} (h : Made w w1 e size ao n cap xs) (f : Fr [] w1 w2) : Made w w2 e size ao n cap xs :=
  ⟨ownsRow_fr h.own f (by simp), h.fr.trans f, h.new, h.le, h.max, h.nil⟩
theorem Made.lt {w w' : World} {e : TypeId} {size : Nat} {ao : Option Addr} {n cap : Nat} {xs : List Value} (h : Made w w' e size ao n cap xs) : ∀ x ∈ blk ao, x < w'.heap.size := fun _ hx => owns_lt h.own (blk_own hx)
theorem Made.pre {w0 w w' : World} {e : TypeId} {size : Nat} {ao : Option Addr} {n cap : Nat} {xs : List Value} (h : Made w w' e size ao n cap xs) (f : Fr [] w0 w) : Made w0 w' e size ao n cap xs :=
  ⟨h.own, f.trans h.fr, fun x hx => Nat.le_trans f.size (h.new x hx), h.le, h.max, h.nil⟩
theorem fresh_row {w : World} {e : TypeId} {size cap : Nat} {A : Array Value} (hs : A.size = cap * size) (hc : cap ≤ maxLen) : (w.alloc (.cells A e (0, 0))).ownsRow 0 e size (.slice (some ⟨w.heap.size, 0, none⟩) 0 cap) 0 [] :=
  ⟨by simp, .inr ⟨w.heap.size, cap, A, rfl, Nat.zero_le _, alloc_at w _, Nat.zero_le _, hc, hs, by simp⟩⟩

theorem sty_coin : SliceTy Tryz.prog 89 91 (.agg #[.int .i64 0, .slice none 0 0]) 2 32 := SliceTy.of Tryz.underlying89 (by kernel_rfl) rfl (by decide)
theorem info_coin : (Tryz.prog.info? 91).map (fun i => (i.zero, i.size, i.bytes)) = some (some (.agg #[.int .i64 0, .slice none 0 0]), 2, 32) := by kernel_rfl
set_option maxRecDepth 100000 in
theorem grow_coin (n : Nat) (w : World) (hn : n ≤ 1000000) :
    Calls Tryz.prog 55 #[.slice none 0 0, .int .i64 (n : Nat)] w fun e w' => ∃ ao cap, e = .returned (.slice ao 0 cap) ∧ Made w w' 91 2 ao 0 cap [] := by
  by_cases h0 : n = 0
  · subst h0
    go_enter Tryz.func55, Tryz.ntmps55
    go_wp2
    go_ret
    exact ⟨none, 0, rfl, .none w _ _⟩
  · obtain ⟨i, hi, hz, hs, hb⟩ := info_parts info_coin
    have hck : 0 + n = n := Nat.zero_add n
    have hrz : ∀ ty, (Builtin.append_ #[89, 3] ty #[.slice none 0 0, .int .i64 (n : Nat)]).run Tryz.prog w =
        .ok (.slice (some ⟨w.heap.size, 0, none⟩) n (grownCap w n 0 91)) (w.drew.alloc (.cells (#[] ++ Builtin.zeroCells (.agg #[.int .i64 0, .slice none 0 0] : Value).cells n ++ Builtin.zeroCells (.agg #[.int .i64 0, .slice none 0 0] : Value).cells (grownCap w n 0 91 - n)) 91)) := fun ty => by
      have h := Lib.run_append_grow_zeros (P := Tryz.prog) w 89 3 ty 91 i (.agg #[.int .i64 0, .slice none 0 0]) .i64 .i64 Tryz.underlying89 Tryz.underlying3 hi hz none 0 0 [] (by exact run_firstCells_none (w := w.drew) i.size 0 0 0) n (by omega) (by rw [hs]; decide) (by omega) (by omega)
        (by rw [hb]; omega) (by rw [hck, hb]; exact growslice_fits (by omega) (by omega))
      rw [hck] at h
      exact h
    have hGn : n ≤ grownCap w n 0 91 := grownCap_ge w _ _ _
    have hG63 := grownCap_le_maxLen w n 0 91 (by unfold maxLen; omega)
    obtain ⟨G, hG⟩ : ∃ G, G = grownCap w n 0 91 := ⟨_, rfl⟩
    rw [← hG] at hrz hGn hG63
    have hGM : G ≤ 9223372036854775807 := by unfold maxLen at hG63; omega
    have HM := Lib.hid hG63
    clear hG hck hi hz hs hb hG63
    go_enter Tryz.func55, Tryz.ntmps55
    go_wp2_with (at_builtin; refine Lib.wpList_append_run _ rfl _ _ _ _ rfl _ _ rfl rfl _ _ (hrz _) ?_)
    all_goals (go_ret; refine ⟨_, _, rfl, ?_⟩)
    all_goals exact ⟨fresh_row (w := w.drew) (by simp only [Array.size_append, size_zeroCells, show (.agg #[.int .i64 0, .slice none 0 0] : Value).cells.size = 2 from rfl]; simp; omega) HM.out, ((Fr.refl [] w).drew).alloc _, by simp [blk], Nat.zero_le _, HM.out, fun h => by cases h⟩
set_option maxRecDepth 100000 in
set_option maxHeartbeats 2000000 in
theorem concat_coin (q : Nat) (a1 a2 : Option Addr) (n1 n2 c1 c2 : Nat) (xs ys : List Value) (w : World)
    (hq : w.heap[q]? = some (.cells #[.slice a1 n1 c1, .slice a2 n2 c2] 89 (0, 0)))
    (h1 : Cs w a1 xs) (h2 : Cs w a2 ys) (l1 : xs.length = n1 * 2) (l2 : ys.length = n2 * 2) (k1 : n1 ≤ c1) (k2 : n2 ≤ c2) (z1 : a1 = none → c1 = 0) (z2 : a2 = none → c2 = 0)
    (u1 : ∀ u ∈ xs, u.oneCell' = true) (u2 : ∀ u ∈ ys, u.oneCell' = true) (b1 : n1 ≤ 400000) (b2 : n2 ≤ 400000) :
    Calls Tryz.prog 38 #[.slice (some ⟨q, 0, none⟩) 2 2] w fun e w' => ∃ ao cap, e = .returned (.slice ao (n1 + n2) cap) ∧ Made w w' 91 2 ao (n1 + n2) cap (xs ++ ys) := by
  have d0 := cell_of hq 0
  have d1 := cell_of hq 1
  simp only [List.getElem?_toArray, List.getElem?_cons_zero, List.getElem?_cons_succ] at d0 d1
  have H := Lib.hid (And.intro hq (And.intro h1 (And.intro h2 (And.intro l1 (And.intro l2 (And.intro k1 (And.intro k2 (And.intro z1 (And.intro z2 (And.intro u1 u2))))))))))
  clear hq h1 h2 l1 l2 k1 k2 z1 z2 u1 u2
  obtain ⟨s, hs⟩ : ∃ s, s = n1 + n2 := ⟨_, rfl⟩
  rw [← hs]
  have e1 : (n1 : Int) + (n2 : Int) = (s : Int) := by omega
  have HS := Lib.hid hs
  have hsb : s ≤ 1000000 := by omega
  clear hs
  go_enter Tryz.func38, Tryz.ntmps38
  go_wp2
  go_loopg [3, 5, 11] 2 (fun k s3 s5 s11 wr => ∃ i : Nat, s11 = .int .i64 (i : Nat) ∧ i + k = 2 ∧ (s3 = .int .i64 ((if i = 0 then 0 else if i = 1 then n1 else s : Nat) : Nat)) ∧ w = wr)
  case atStart => exact ⟨0, rfl, rfl, rfl, rfl⟩
  case round =>
    obtain ⟨i, rfl, hik, rfl, rfl⟩ := hrel
    match i, hik with
    | 0, hik =>
      simp only [if_true]
      go_wp2
      go_roundg 1
      case measure => omega
      case rel => exact ⟨1, rfl, rfl, by simp, rfl⟩
    | 1, hik =>
      simp only [Nat.one_ne_zero, if_false, if_true]
      go_wp2
      go_roundg 0
      case measure => omega
      case rel => exact ⟨2, rfl, rfl, by simp, rfl⟩
    | 2, hik =>
      simp only [show ¬ (2 = 0) from by decide, show ¬ (2 = 1) from by decide, if_false]
      go_wp2_with (go_at_call 55; refine (grow_coin s w hsb).mono ?_; rintro e w2 ⟨ao, cap, rfl, hm⟩; have HM := Lib.hid hm; clear hm)
      go_loopg [6, 8, 27] 2 (fun k s6 s8 s27 wr => ∃ (i : Nat) (ao : Option Addr) (cap n : Nat), s27 = .int .i64 (i : Nat) ∧ i + k = 2 ∧ s6 = .slice ao n cap ∧ n = (if i = 0 then 0 else if i = 1 then n1 else n1 + n2) ∧ Made w wr 91 2 ao n cap (if i = 0 then [] else if i = 1 then xs else xs ++ ys))
      case atStart => exact ⟨0, ao, cap, 0, rfl, rfl, rfl, rfl, HM.out⟩
      case round =>
        obtain ⟨i, ao, cap, n, rfl, hik, rfl, hn, hm⟩ := hrel
        obtain ⟨hq, h1, h2, l1, l2, k1, k2, z1, z2, u1, u2⟩ := H.out
        have d2 := hm.fr.cell d0 (by simp)
        have d3 := hm.fr.cell d1 (by simp)
        have h1' := h1.fr hm.fr (by simp)
        have h2' := h2.fr hm.fr (by simp)
        match i, hik with
        | 0, hik =>
          simp only [if_true] at hn hm
          subst hn
          have HK := Lib.hid (And.intro hm (And.intro h1' (And.intro l1 (And.intro k1 (And.intro z1 u1)))))
          clear hm h1' h2' hq h1 h2 l1 l2 k1 k2 z1 z2 u1 u2 d3
          go_wp2_with (refine wpList_append sty_coin rfl _ _ rfl (.slice ao 0 cap) 0 [] (blk ao) rfl (own_blk ao 0 cap) HK.out.1.own a1 n1 c1 xs rfl HK.out.2.2.2.1 HK.out.2.2.2.2.1 HK.out.2.1 HK.out.2.2.1 HK.out.2.2.2.2.2 (by omega) (by unfold maxLen; omega) ?_; intro ao2 cap2 w3 hap; have HA := Lib.hid hap; clear hap)
          go_roundg 1
          case measure => omega
          case rel => exact ⟨1, ao2, cap2, n1, rfl, rfl, by simp, by simp, by simpa using HK.out.1.app HA.out⟩
        | 1, hik =>
          simp only [Nat.one_ne_zero, if_false, if_true] at hn hm
          subst hn
          have HK := Lib.hid (And.intro hm (And.intro h2' (And.intro l2 (And.intro k2 (And.intro z2 u2)))))
          clear hm h1' h2' hq h1 h2 l1 l2 k1 k2 z1 z2 u1 u2 d2
          go_wp2_with (refine wpList_append sty_coin rfl _ _ rfl (.slice ao n cap) n xs (blk ao) rfl (own_blk ao n cap) HK.out.1.own a2 n2 c2 ys rfl HK.out.2.2.2.1 HK.out.2.2.2.2.1 HK.out.2.1 HK.out.2.2.1 HK.out.2.2.2.2.2 (by omega) (by unfold maxLen; omega) ?_; intro ao2 cap2 w3 hap; have HA := Lib.hid hap; clear hap)
          go_roundg 0
          case measure => omega
          case rel => exact ⟨2, ao2, cap2, n + n2, rfl, rfl, rfl, by simp, by simpa using HK.out.1.app HA.out⟩
        | 2, hik =>
          simp only [show ¬ (2 = 0) from by decide, show ¬ (2 = 1) from by decide, if_false] at hn hm
          rw [← HS.out] at hn
          subst hn
          have HK := Lib.hid hm
          clear hm h1' h2' hq h1 h2 l1 l2 k1 k2 z1 z2 u1 u2 d2 d3
          go_wp2
          go_ret
          exact ⟨ao, cap, rfl, by rw [HS.out]; have := HK.out; rwa [HS.out] at this⟩
        | k + 3, hik => omega
    | k + 3, hik => omega

theorem sty_int : SliceTy Tryz.prog 35 3 (.int .i64 0) 1 8 := SliceTy.of Tryz.underlying35 (by kernel_rfl) rfl (by decide)
theorem info_int : (Tryz.prog.info? 3).map (fun i => (i.zero, i.size, i.bytes)) = some (some (.int .i64 0), 1, 8) := by kernel_rfl
set_option maxRecDepth 100000 in
theorem grow_int (n : Nat) (w : World) (hn : n ≤ 1000000) :
    Calls Tryz.prog 74 #[.slice none 0 0, .int .i64 (n : Nat)] w fun e w' => ∃ ao cap, e = .returned (.slice ao 0 cap) ∧ Made w w' 3 1 ao 0 cap [] := by
  by_cases h0 : n = 0
  · subst h0
    go_enter Tryz.func74, Tryz.ntmps74
    go_wp2
    go_ret
    exact ⟨none, 0, rfl, .none w _ _⟩
  · obtain ⟨i, hi, hz, hs, hb⟩ := info_parts info_int
    have hck : 0 + n = n := Nat.zero_add n
    have hrz : ∀ ty, (Builtin.append_ #[35, 3] ty #[.slice none 0 0, .int .i64 (n : Nat)]).run Tryz.prog w =
        .ok (.slice (some ⟨w.heap.size, 0, none⟩) n (grownCap w n 0 3)) (w.drew.alloc (.cells (#[] ++ Builtin.zeroCells (.int .i64 0 : Value).cells n ++ Builtin.zeroCells (.int .i64 0 : Value).cells (grownCap w n 0 3 - n)) 3)) := fun ty => by
      have h := Lib.run_append_grow_zeros (P := Tryz.prog) w 35 3 ty 3 i (.int .i64 0) .i64 .i64 Tryz.underlying35 Tryz.underlying3 hi hz none 0 0 [] (by exact run_firstCells_none (w := w.drew) i.size 0 0 0) n (by omega) (by rw [hs]; decide) (by omega) (by omega)
        (by rw [hb]; omega) (by rw [hck, hb]; exact growslice_fits (by omega) (by omega))
      rw [hck] at h
      exact h
    have hGn : n ≤ grownCap w n 0 3 := grownCap_ge w _ _ _
    have hG63 := grownCap_le_maxLen w n 0 3 (by unfold maxLen; omega)
    obtain ⟨G, hG⟩ : ∃ G, G = grownCap w n 0 3 := ⟨_, rfl⟩
    rw [← hG] at hrz hGn hG63
    have hGM : G ≤ 9223372036854775807 := by unfold maxLen at hG63; omega
    have HM := Lib.hid hG63
    clear hG hck hi hz hs hb hG63
    go_enter Tryz.func74, Tryz.ntmps74
    go_wp2_with (at_builtin; refine Lib.wpList_append_run _ rfl _ _ _ _ rfl _ _ rfl rfl _ _ (hrz _) ?_)
    all_goals (go_ret; refine ⟨_, _, rfl, ?_⟩)
    all_goals exact ⟨fresh_row (w := w.drew) (by simp only [Array.size_append, size_zeroCells, show (.int .i64 0 : Value).cells.size = 1 from rfl]; simp; omega) HM.out, ((Fr.refl [] w).drew).alloc _, by simp [blk], Nat.zero_le _, HM.out, fun h => by cases h⟩
set_option maxRecDepth 100000 in
set_option maxHeartbeats 2000000 in
theorem concat_int (q : Nat) (a1 a2 : Option Addr) (n1 n2 c1 c2 : Nat) (xs ys : List Value) (w : World)
    (hq : w.heap[q]? = some (.cells #[.slice a1 n1 c1, .slice a2 n2 c2] 35 (0, 0)))
    (h1 : Cs w a1 xs) (h2 : Cs w a2 ys) (l1 : xs.length = n1 * 1) (l2 : ys.length = n2 * 1) (k1 : n1 ≤ c1) (k2 : n2 ≤ c2) (z1 : a1 = none → c1 = 0) (z2 : a2 = none → c2 = 0)
    (u1 : ∀ u ∈ xs, u.oneCell' = true) (u2 : ∀ u ∈ ys, u.oneCell' = true) (b1 : n1 ≤ 400000) (b2 : n2 ≤ 400000) :
    Calls Tryz.prog 56 #[.slice (some ⟨q, 0, none⟩) 2 2] w fun e w' => ∃ ao cap, e = .returned (.slice ao (n1 + n2) cap) ∧ Made w w' 3 1 ao (n1 + n2) cap (xs ++ ys) := by
  have d0 := cell_of hq 0
  have d1 := cell_of hq 1
  simp only [List.getElem?_toArray, List.getElem?_cons_zero, List.getElem?_cons_succ] at d0 d1
  have H := Lib.hid (And.intro hq (And.intro h1 (And.intro h2 (And.intro l1 (And.intro l2 (And.intro k1 (And.intro k2 (And.intro z1 (And.intro z2 (And.intro u1 u2))))))))))
  clear hq h1 h2 l1 l2 k1 k2 z1 z2 u1 u2
  obtain ⟨s, hs⟩ : ∃ s, s = n1 + n2 := ⟨_, rfl⟩
  rw [← hs]
  have e1 : (n1 : Int) + (n2 : Int) = (s : Int) := by omega
  have HS := Lib.hid hs
  have hsb : s ≤ 1000000 := by omega
  clear hs
  go_enter Tryz.func56, Tryz.ntmps56
  go_wp2
  go_loopg [3, 5, 11] 2 (fun k s3 s5 s11 wr => ∃ i : Nat, s11 = .int .i64 (i : Nat) ∧ i + k = 2 ∧ (s3 = .int .i64 ((if i = 0 then 0 else if i = 1 then n1 else s : Nat) : Nat)) ∧ w = wr)
  case atStart => exact ⟨0, rfl, rfl, rfl, rfl⟩
  case round =>
    obtain ⟨i, rfl, hik, rfl, rfl⟩ := hrel
    match i, hik with
    | 0, hik =>
      simp only [if_true]
      go_wp2
      go_roundg 1
      case measure => omega
      case rel => exact ⟨1, rfl, rfl, by simp, rfl⟩
    | 1, hik =>
      simp only [Nat.one_ne_zero, if_false, if_true]
      go_wp2
      go_roundg 0
      case measure => omega
      case rel => exact ⟨2, rfl, rfl, by simp, rfl⟩
    | 2, hik =>
      simp only [show ¬ (2 = 0) from by decide, show ¬ (2 = 1) from by decide, if_false]
      go_wp2_with (go_at_call 74; refine (grow_int s w hsb).mono ?_; rintro e w2 ⟨ao, cap, rfl, hm⟩; have HM := Lib.hid hm; clear hm)
      go_loopg [6, 8, 27] 2 (fun k s6 s8 s27 wr => ∃ (i : Nat) (ao : Option Addr) (cap n : Nat), s27 = .int .i64 (i : Nat) ∧ i + k = 2 ∧ s6 = .slice ao n cap ∧ n = (if i = 0 then 0 else if i = 1 then n1 else n1 + n2) ∧ Made w wr 3 1 ao n cap (if i = 0 then [] else if i = 1 then xs else xs ++ ys))
      case atStart => exact ⟨0, ao, cap, 0, rfl, rfl, rfl, rfl, HM.out⟩
      case round =>
        obtain ⟨i, ao, cap, n, rfl, hik, rfl, hn, hm⟩ := hrel
        obtain ⟨hq, h1, h2, l1, l2, k1, k2, z1, z2, u1, u2⟩ := H.out
        have d2 := hm.fr.cell d0 (by simp)
        have d3 := hm.fr.cell d1 (by simp)
        have h1' := h1.fr hm.fr (by simp)
        have h2' := h2.fr hm.fr (by simp)
        match i, hik with
        | 0, hik =>
          simp only [if_true] at hn hm
          subst hn
          have HK := Lib.hid (And.intro hm (And.intro h1' (And.intro l1 (And.intro k1 (And.intro z1 u1)))))
          clear hm h1' h2' hq h1 h2 l1 l2 k1 k2 z1 z2 u1 u2 d3
          go_wp2_with (refine wpList_append sty_int rfl _ _ rfl (.slice ao 0 cap) 0 [] (blk ao) rfl (own_blk ao 0 cap) HK.out.1.own a1 n1 c1 xs rfl HK.out.2.2.2.1 HK.out.2.2.2.2.1 HK.out.2.1 HK.out.2.2.1 HK.out.2.2.2.2.2 (by omega) (by unfold maxLen; omega) ?_; intro ao2 cap2 w3 hap; have HA := Lib.hid hap; clear hap)
          go_roundg 1
          case measure => omega
          case rel => exact ⟨1, ao2, cap2, n1, rfl, rfl, by simp, by simp, by simpa using HK.out.1.app HA.out⟩
        | 1, hik =>
          simp only [Nat.one_ne_zero, if_false, if_true] at hn hm
          subst hn
          have HK := Lib.hid (And.intro hm (And.intro h2' (And.intro l2 (And.intro k2 (And.intro z2 u2)))))
          clear hm h1' h2' hq h1 h2 l1 l2 k1 k2 z1 z2 u1 u2 d2
          go_wp2_with (refine wpList_append sty_int rfl _ _ rfl (.slice ao n cap) n xs (blk ao) rfl (own_blk ao n cap) HK.out.1.own a2 n2 c2 ys rfl HK.out.2.2.2.1 HK.out.2.2.2.2.1 HK.out.2.1 HK.out.2.2.1 HK.out.2.2.2.2.2 (by omega) (by unfold maxLen; omega) ?_; intro ao2 cap2 w3 hap; have HA := Lib.hid hap; clear hap)
          go_roundg 0
          case measure => omega
          case rel => exact ⟨2, ao2, cap2, n + n2, rfl, rfl, rfl, by simp, by simpa using HK.out.1.app HA.out⟩
        | 2, hik =>
          simp only [show ¬ (2 = 0) from by decide, show ¬ (2 = 1) from by decide, if_false] at hn hm
          rw [← HS.out] at hn
          subst hn
          have HK := Lib.hid hm
          clear hm h1' h2' hq h1 h2 l1 l2 k1 k2 z1 z2 u1 u2 d2 d3
          go_wp2
          go_ret
          exact ⟨ao, cap, rfl, by rw [HS.out]; have := HK.out; rwa [HS.out] at this⟩
        | k + 3, hik => omega
    | k + 3, hik => omega
end Go.Proofs.YtolkoidbkaidkaaGreat.huf
