/-
  Texts of this proof, one behind the other: HuffW, HuffX, InfB, RfA, InfC, RfD, RfE, InfD, RfF, InfE, RfG, InfH.
-/
import Derived.Test.YtkmpfgpfbmeihaaGreatDoorG3
import Derived.WalkMore
set_option maxRecDepth 100000
set_option linter.unusedVariables false
set_option linter.unusedSimpArgs false
namespace Go.Proofs.YtkmpfgpfbmeihaaGreatDoor.huf
open Go Go.RowKit lib bm bl
def symi (ls : List Nat) (l i : Nat) : List Nat := if l = 0 then [] else syms ls l i
theorem symi_succ (ls : List Nat) (l i : Nat) : symi ls l (i + 1) = symi ls l i ++ if lenAt ls i = l ∧ l ≠ 0 then [i] else [] := by
 unfold symi
 by_cases h : l = 0
 ·simp [h]
 ·simp [h, syms_succ]
theorem symi_length (ls : List Nat) (l : Nat) : (symi ls l ls.length).length = symn ls l := by
 unfold symi symn
 split <;> simp
theorem symi_le (ls : List Nat) (l i : Nat) : (symi ls l i).length ≤ i := by
 unfold symi
 split
 ·simp
 ·have := List.length_filter_le (fun s => lenAt ls s == l) (List.range i); rw [List.length_range] at this; exact this
theorem first_code {ls : List Nat} {i l : Nat} (hi : i < ls.length) (hl : lenAt ls i = l) (h0 : l ≠ 0) (he : (symi ls l i).length = 0) : code ls i = nxt ls l := by
 unfold symi at he
 rw [if_neg h0, syms_length ls l i (by omega)] at he
 unfold code
 rw [hl, he, Nat.add_zero]
structure TabI (w0 w : World) (P D : Nat) (ls : List Nat) (i : Nat) (first : Nat → Nat) (sa : Nat → Option Addr) (sc : Nat → Nat) : Prop where
 box : ∃ A, w.heap[P]? = some (.cells A 309 (0, 0)) ∧ A.size = 33 ∧ (∀ l, l < 16 → A[l]? = some (.int .u32 (first l : Nat))) ∧ (∀ l, l < 16 → A[16 + l]? = some (.slice (sa l) (symi ls l i).length (sc l))) ∧ A[32]? = some (.int .i64 (D : Nat))
 fst : ∀ l, 0 < (symi ls l i).length → first l = nxt ls l
 top : ∀ s, s < i → lenAt ls s ≤ D
 low : D ≤ 15
 low' : ∀ l, first l ≤ 32768
 rows : ∀ l, l < 16 → Made w0 w 3 1 (sa l) (symi ls l i).length (sc l) (ints (symi ls l i))
 sep : ∀ l m, l < 16 → m < 16 → l ≠ m → ∀ x ∈ blk (sa l), x ∉ blk (sa m)
 off : ∀ l, l < 16 → P ∉ blk (sa l)
 new : w0.heap.size ≤ P
theorem TabI.tab {w0 w : World} {P D : Nat} {ls : List Nat} {first : Nat → Nat} {sa : Nat → Option Addr} {sc : Nat → Nat} (h : TabI w0 w P D ls ls.length first sa sc) (hlen : ls.length ≤ 400) : Tab w P D ls first sa sc := by
 obtain ⟨A, hA, h1, h2, h3, h4⟩ := h.box
 refine ⟨⟨A, hA, h1, h2, fun l hl => by rw [h3 l hl, symi_length], h4⟩, fun l hl => h.fst l (by rw [symi_length]; exact hl), h.top, h.low, h.low', fun l hl h0 => ?_, hlen⟩
 have hr := h.rows l hl
 have e : symi ls l ls.length = syms ls l ls.length := by unfold symi; rw [if_neg (by omega)]
 rw [e] at hr
 exact ri_made hr rfl
def zeroT : Array Value := #[.int .u32 0, .int .u32 0, .int .u32 0, .int .u32 0, .int .u32 0, .int .u32 0, .int .u32 0, .int .u32 0, .int .u32 0, .int .u32 0, .int .u32 0, .int .u32 0, .int .u32 0, .int .u32 0, .int .u32 0, .int .u32 0, .slice none 0 0, .slice none 0 0, .slice none 0 0, .slice none 0 0, .slice none 0 0, .slice none 0 0, .slice none 0 0, .slice none 0 0, .slice none 0 0, .slice none 0 0, .slice none 0 0, .slice none 0 0, .slice none 0 0, .slice none 0 0, .slice none 0 0, .slice none 0 0, .int .i64 0]
theorem zero_lo : ∀ l, l < 16 → zeroT[l]? = some (.int .u32 (0 : Nat))
 | 0, _ => rfl
 | 1, _ => rfl
 | 2, _ => rfl
 | 3, _ => rfl
 | 4, _ => rfl
 | 5, _ => rfl
 | 6, _ => rfl
 | 7, _ => rfl
 | 8, _ => rfl
 | 9, _ => rfl
 | 10, _ => rfl
 | 11, _ => rfl
 | 12, _ => rfl
 | 13, _ => rfl
 | 14, _ => rfl
 | 15, _ => rfl
 | _ + 16, h => absurd h (by omega)
theorem zero_hi : ∀ l, l < 16 → zeroT[16 + l]? = some (.slice none 0 0)
 | 0, _ => rfl
 | 1, _ => rfl
 | 2, _ => rfl
 | 3, _ => rfl
 | 4, _ => rfl
 | 5, _ => rfl
 | 6, _ => rfl
 | 7, _ => rfl
 | 8, _ => rfl
 | 9, _ => rfl
 | 10, _ => rfl
 | 11, _ => rfl
 | 12, _ => rfl
 | 13, _ => rfl
 | 14, _ => rfl
 | 15, _ => rfl
 | _ + 16, h => absurd h (by omega)
theorem symi_zero (ls : List Nat) (l : Nat) : symi ls l 0 = [] := by unfold symi; split <;> simp [syms_zero]
theorem TabI.start (ls : List Nat) {w0 w1 : World} (f : Fr [] w0 w1) : TabI w0 (w1.alloc (.cells zeroT 309 (0, 0))) w1.heap.size 0 ls 0 (fun _ => 0) (fun _ => none) (fun _ => 0) := by
 have f2 : Fr [] w0 (w1.alloc (.cells zeroT 309 (0, 0))) := f.trans ((Fr.refl [] w1).alloc _)
 refine ⟨⟨zeroT, alloc_at w1 _, rfl, zero_lo, fun l hl => by rw [symi_zero]; exact zero_hi l hl, rfl⟩, fun l h => by rw [symi_zero] at h; simp at h, fun s hs => by omega, by omega, fun _ => by omega, fun l hl => ?_, fun l m _ _ _ x hx => by simp [blk] at hx, fun l _ => by simp [blk], f.size⟩
 rw [symi_zero]
 exact (Made.none w0 _ _).fr2 f2
theorem TabI.skip {w0 w : World} {P D i : Nat} {ls : List Nat} {first : Nat → Nat} {sa : Nat → Option Addr} {sc : Nat → Nat} (h : TabI w0 w P D ls i first sa sc) (h0 : lenAt ls i = 0) : TabI w0 w P D ls (i + 1) first sa sc := by
 have e : ∀ l, symi ls l (i + 1) = symi ls l i := fun l => by rw [symi_succ, if_neg (by omega), List.append_nil]
 obtain ⟨A, hA, h1, h2, h3, h4⟩ := h.box
 refine ⟨⟨A, hA, h1, h2, fun l hl => by rw [e]; exact h3 l hl, h4⟩, fun l hl => h.fst l (by rw [e] at hl; exact hl), fun s hs => ?_, h.low, h.low', fun l hl => by rw [e]; exact h.rows l hl, h.sep, h.off, h.new⟩
 rcases Nat.lt_succ_iff_lt_or_eq.1 hs with h5 | h5
 ·exact h.top s h5
 ·rw [h5, h0]; exact Nat.zero_le _
theorem TabI.fr {w0 w w' : World} {P D i : Nat} {ls : List Nat} {first : Nat → Nat} {sa : Nat → Option Addr} {sc : Nat → Nat} (h : TabI w0 w P D ls i first sa sc) (f : Fr [] w w') : TabI w0 w' P D ls i first sa sc := by
 obtain ⟨A, hA, h1⟩ := h.box
 exact ⟨⟨A, f.blk hA (by simp), h1⟩, h.fst, h.top, h.low, h.low', fun l hl => (h.rows l hl).fr2 f, h.sep, h.off, h.new⟩
theorem TabI.setFirst {w0 w : World} {P D i x : Nat} {ls : List Nat} {first : Nat → Nat} {sa : Nat → Option Addr} {sc : Nat → Nat} (h : TabI w0 w P D ls i first sa sc) (hx : x < 16) (hn : nxt ls x ≤ 32768) :
  TabI w0 (w.setCell ⟨P, x, none⟩ (.int .u32 (nxt ls x : Nat))) P D ls i (fun l => if l = x then nxt ls x else first l) sa sc := by
 obtain ⟨A, hA, h1, h2, h3, h4⟩ := h.box
 have f : Fr [P] w (w.setCell ⟨P, x, none⟩ (.int .u32 (nxt ls x : Nat))) := (Fr.refl [P] w).setCell (by simp) _
 refine ⟨⟨_, setCell_of hA _, by simp [h1], fun l hl => ?_, fun l hl => ?_, ?_⟩, fun l hl => ?_, h.top, h.low, fun l => ?_, fun l hl => ?_, h.sep, h.off, h.new⟩
 ·by_cases e : l = x
  ·subst e; rw [if_pos rfl, Array.getElem?_setIfInBounds_self_of_lt (by omega)]
  ·rw [if_neg e, Array.getElem?_setIfInBounds_ne (by omega)]; exact h2 l hl
 ·rw [Array.getElem?_setIfInBounds_ne (by omega)]; exact h3 l hl
 ·rw [Array.getElem?_setIfInBounds_ne (by omega)]; exact h4
 ·show (if l = x then nxt ls x else first l) = nxt ls l
  split
  ·rename_i e; rw [e]
  ·exact h.fst l hl
 ·show (if l = x then nxt ls x else first l) ≤ 32768
  split
  ·exact hn
  ·exact h.low' l
 ·have m := h.rows l hl
  exact ⟨ownsRow_fr m.own f (fun y hy hm => h.off l hl (by simp at hm; rw [← hm]; have e := own_blk (sa l) (symi ls l i).length (sc l); rw [← e, hy]; simp)), m.fr.step f (fun z hz => .inr (by simp at hz; rw [hz]; exact h.new)), m.new, m.le, m.max, m.nil⟩
theorem Made.frS {w0 w w' : World} {S : List Nat} {e : TypeId} {size : Nat} {ao : Option Addr} {n cap : Nat} {xs : List Value} (h : Made w0 w e size ao n cap xs) (f : Fr S w w') (hn : ∀ y ∈ blk ao, y ∉ S) (hS : ∀ z ∈ S, w0.heap.size ≤ z) : Made w0 w' e size ao n cap xs :=
 ⟨ownsRow_fr h.own f (fun y hy => hn y (by rw [← own_blk ao n cap, hy]; simp)), h.fr.step f (fun z hz => .inr (hS z hz)), h.new, h.le, h.max, h.nil⟩
theorem TabI.push {w0 w w2 w3 w4 w6 : World} {P D i x q cp : Nat} {ls : List Nat} {first : Nat → Nat} {sa : Nat → Option Addr} {sc : Nat → Nat} {ao : Option Addr} (h0 : TabI w0 w P D ls i first sa sc) (hfx : first x = nxt ls x) (hx : x < 16) (hx0 : x ≠ 0) (hl : lenAt ls i = x) (hq : q = (symi ls x i).length)
  (f1 : Fr [] w w2) (h2 : Appended w2 w3 3 1 (blk (sa x)) ao (q + 1) cp (ints (symi ls x i) ++ [.int .i64 (i : Nat)])) (f3 : Fr [] w3 w4) (f5 : Fr [] (w4.setCell ⟨P, 16 + x, none⟩ (.slice ao (q + 1) cp)) w6) :
  TabI w0 (w6.setCell ⟨P, 32, none⟩ (.int .i64 (max D x : Nat))) P (max D x) ls (i + 1) first (fun l => if l = x then ao else sa l) (fun l => if l = x then cp else sc l) := by
 have h := h0.fr f1
 obtain ⟨A, hA, h1, hlo, hhi, htop⟩ := h.box
 have hPS : P ∉ blk (sa x) := h.off x hx
 have hPw : P < w2.heap.size := lt_of_block hA
 have hPao : P ∉ blk ao := fun hP => by
  rcases h2.at_ P hP with k | k
  ·exact hPS k
  ·omega
 have hA4 := f3.blk (h2.fr.blk hA hPS) (by simp)
 have hA6 := f5.blk (setCell_of hA4 (o := 16 + x) (.slice ao (q + 1) cp)) (by simp)
 have g1 : Fr [P] w4 (w4.setCell ⟨P, 16 + x, none⟩ (.slice ao (q + 1) cp)) := (Fr.refl [P] _).setCell (by simp) _
 have g2 : Fr [P] w6 (w6.setCell ⟨P, 32, none⟩ (.int .i64 (max D x : Nat))) := (Fr.refl [P] _).setCell (by simp) _
 have hnew : ∀ z ∈ [P], w0.heap.size ≤ z := fun z hz => by simp at hz; rw [hz]; exact h.new
 have up : ∀ {ao' : Option Addr} {n' c' : Nat} {xs' : List Value}, Made w0 w3 3 1 ao' n' c' xs' → P ∉ blk ao' → Made w0 (w6.setCell ⟨P, 32, none⟩ (.int .i64 (max D x : Nat))) 3 1 ao' n' c' xs' := fun m hP =>
  (((m.fr2 f3).frS g1 (fun y hy => by simp; rintro rfl; exact hP hy) hnew).fr2 f5).frS g2 (fun y hy => by simp; rintro rfl; exact hP hy) hnew
 have es : ∀ l, l ≠ x → symi ls l (i + 1) = symi ls l i := fun l hlx => by rw [symi_succ, if_neg (by omega), List.append_nil]
 have ex : symi ls x (i + 1) = symi ls x i ++ [i] := by rw [symi_succ, if_pos ⟨hl, hx0⟩]
 have exl : (symi ls x (i + 1)).length = q + 1 := by rw [ex, hq]; simp
 have hnw : ∀ m, m < 16 → m ≠ x → ∀ y ∈ blk ao, y ∉ blk (sa m) := fun m hm hne y hy hym => by
  rcases h2.at_ y hy with k | k
  ·exact h.sep x m hx hm (fun e => hne e.symm) y k hym
  ·have := (h.rows m hm).lt y hym; omega
 refine ⟨⟨_, setCell_of hA6 _, by simp [h1], fun l hl16 => ?_, fun l hl16 => ?_, ?_⟩, fun l hl0 => ?_, fun s hs => ?_, ?_, h.low', fun l hl16 => ?_, fun l m hl16 hm16 hne y hy => ?_, fun l hl16 => ?_, h.new⟩
 ·rw [Array.getElem?_setIfInBounds_ne (by omega), Array.getElem?_setIfInBounds_ne (by omega)]; exact hlo l hl16
 ·rw [Array.getElem?_setIfInBounds_ne (by omega)]
  by_cases e : l = x
  ·subst e
   rw [Array.getElem?_setIfInBounds_self_of_lt (by omega), exl]
   simp
  ·rw [Array.getElem?_setIfInBounds_ne (by omega), es l e]
   simp only [if_neg e]
   exact hhi l hl16
 ·rw [Array.getElem?_setIfInBounds_self_of_lt (by simp [h1])]
 ·by_cases e : l = x
  ·rw [e]; exact hfx
  ·rw [es l e] at hl0; exact h.fst l hl0
 ·rcases Nat.lt_succ_iff_lt_or_eq.1 hs with h5 | h5
  ·have := h.top s h5; omega
  ·rw [h5, hl]; omega
 ·have := h.low; omega
 ·by_cases e : l = x
  ·subst e
   simp only [if_pos]
   rw [exl, ex]
   have m := (h.rows l hx).app h2
   have e2 : ints (symi ls l i ++ [i]) = ints (symi ls l i) ++ [.int .i64 (i : Nat)] := by simp [ints]
   rw [e2]
   exact up m hPao
  ·simp only [if_neg e]
   rw [es l e]
   exact up ((h.rows l hl16).frS h2.fr (fun y hy hyx => h.sep l x hl16 hx e y hy hyx) (fun z hz => (h.rows x hx).new z hz)) (h.off l hl16)
 ·by_cases e : l = x
  ·have e2 : m ≠ x := fun hm => hne (e.trans hm.symm)
   simp only [if_pos e] at hy
   simp only [if_neg e2]
   exact hnw m hm16 e2 y hy
  ·simp only [if_neg e] at hy
   by_cases e2 : m = x
   ·simp only [if_pos e2]
    intro hym
    exact hnw l hl16 e y hym hy
   ·simp only [if_neg e2]
    exact h.sep l m hl16 hm16 hne y hy
 ·by_cases e : l = x
  ·simp only [if_pos e]; exact hPao
  ·simp only [if_neg e]; exact h.off l hl16
theorem TabI.pre {w0 w1 w : World} {P D i : Nat} {ls : List Nat} {first : Nat → Nat} {sa : Nat → Option Addr} {sc : Nat → Nat} (h : TabI w1 w P D ls i first sa sc) (f : Fr [] w0 w1) : TabI w0 w P D ls i first sa sc :=
 ⟨h.box, h.fst, h.top, h.low, h.low', fun l hl => (h.rows l hl).pre f, h.sep, h.off, Nat.le_trans f.size h.new⟩
def NewGood (w : World) (ls : List Nat) (e : Ending) (w' : World) : Prop :=
 ∃ P D first sa sc, e = .returned (.tuple #[.pointer (some ⟨P, 0, none⟩), .int .i64 0]) ∧ TabI w w' P D ls ls.length first sa sc ∧ Fr [] w w'
set_option maxHeartbeats 4000000 in
theorem new_any (a : Option Addr) (cap : Nat) (ls : List Nat) (w : World) (h : Ri w a cap ls) (hle : ∀ l ∈ ls, l ≤ 15) (hlen : ls.length ≤ 400) (hw : weight ls ≤ 32768) :
  Calls Tryz.prog 187 #[.slice a ls.length cap] w (NewGood w ls) := by
 obtain ⟨N, hN⟩ : ∃ N, N = ls.length := ⟨_, rfl⟩
 have hc := codes_any a cap ls w h hle hlen hw
 unfold CodesGood at hc
 rw [← hN] at hlen hc ⊢
 have H := Lib.hid (And.intro h (And.intro hle (And.intro hN (And.intro hc hw))))
 clear h hle hN hc hw
 go_enter Tryz.func187, Tryz.ntmps187
 go_upto_block 0 with (go_at_call 205; refine H.out.2.2.2.1.mono ?_; rintro e w1 ⟨g, rfl, cg, ng, lg, f1⟩; have H1 := Lib.hid (And.intro cg (And.intro ng (And.intro lg f1))); clear cg ng lg f1)
 obtain ⟨P, hP⟩ : ∃ P, P = w1.heap.size := ⟨_, rfl⟩
 obtain ⟨w2, hw2⟩ : ∃ w2, w2 = w1.alloc (.cells zeroT 309 (0, 0)) := ⟨_, rfl⟩
 have T0 : TabI w1 w2 P 0 ls 0 (fun _ => 0) (fun _ => none) (fun _ => 0) := by rw [hw2, hP]; exact TabI.start ls (Fr.refl [] w1)
 unfold zeroT at hw2
 rw [← hw2, ← hP]
 have f2 : Fr [] w w2 := by rw [hw2]; exact H1.out.2.2.2.trans ((Fr.refl [] w1).alloc _)
 have cg2 : Cs w2 (some ⟨g, 0, none⟩) ((codesOf ls).map fun x => .int .u32 (x : Nat)) := by rw [hw2]; exact H1.out.1.fr ((Fr.refl [] w1).alloc _) (by simp)
 have H2 := Lib.hid (And.intro T0 (And.intro f2 (And.intro cg2 (And.intro hP hw2))))
 clear T0 f2 cg2 hP hw2
 go_wp2
 go_loopg [7, 8, 21] N (fun k s7 s8 s21 wr => ∃ (i D : Nat) (first : Nat → Nat) (sa : Nat → Option Addr) (sc : Nat → Nat), s21 = .int .i64 (i : Nat) ∧ i + k = N ∧ TabI w1 wr P D ls i first sa sc ∧ Fr [] w wr ∧ Cs wr (some ⟨g, 0, none⟩) ((codesOf ls).map fun x => .int .u32 (x : Nat)))
 case atStart => exact ⟨0, 0, _, _, _, rfl, by omega, H2.out.1, H2.out.2.1, H2.out.2.2.1⟩
 case round =>
  obtain ⟨i, D, first, sa, sc, rfl, hik, hT, hf, hcg⟩ := hrel
  by_cases hi : i < N
  ·obtain ⟨k, rfl⟩ : ∃ k, gk = k + 1 := ⟨gk - 1, by omega⟩
   have hil : i < ls.length := by rw [← H.out.2.2.1]; exact hi
   obtain ⟨ga, o, ha, hc⟩ := (H.out.1.fr hf).at hil
   subst ha
   have hx15 := H.out.2.1 _ (List.getElem_mem hil)
   have hla : lenAt ls i = ls[i] := by unfold lenAt; rw [List.getElem?_eq_getElem hil]; rfl
   obtain ⟨x, hx⟩ : ∃ x, x = ls[i] := ⟨_, rfl⟩
   rw [← hx] at hc hx15 hla
   have HI := Lib.hid (And.intro hT (And.intro hf (And.intro hcg (And.intro hla (And.intro hil hx)))))
   clear hT hf hcg hla hx
   by_cases hx0 : x = 0
   ·subst hx0
    go_wp2
    go_roundg k
    case measure => omega
    case rel => exact ⟨i + 1, D, first, sa, sc, by go_num, by omega, HI.out.1.skip HI.out.2.2.2.1, HI.out.2.1, HI.out.2.2.1⟩
   ·have b0 : ((x : Int) == 0) = false := by simp; omega
    have cells := fun (wc : World) (first : Nat → Nat) (T : TabI w1 wc P D ls i first sa sc) => show wc.cell? ⟨P, x, none⟩ = some (.int .u32 (first x : Nat)) ∧ wc.cell? ⟨P, 16 + x, none⟩ = some (.slice (sa x) (symi ls x i).length (sc x)) ∧ wc.cell? ⟨P, 32, none⟩ = some (.int .i64 (D : Nat)) ∧ wc.frozen? ⟨P, x, none⟩ = false ∧ wc.frozen? ⟨P, 16 + x, none⟩ = false ∧ wc.frozen? ⟨P, 32, none⟩ = false by
     obtain ⟨A, hA, h1, h2, h3, h4⟩ := T.box
     exact ⟨by rw [cell_of hA]; exact h2 x (by omega), by rw [cell_of hA]; exact h3 x (by omega), by rw [cell_of hA]; exact h4, frozen_of hA _, frozen_of hA _, frozen_of hA _⟩
    obtain ⟨c1, c2, c3, z1, z2, z3⟩ := cells wr first HI.out.1
    obtain ⟨q, hq⟩ : ∃ q, q = (symi ls x i).length := ⟨_, rfl⟩
    have hqi : q ≤ 400 := by rw [hq]; have := symi_le ls x i; omega
    have hcode : wr.cell? ⟨g, i, none⟩ = some (.int .u32 (code ls i : Nat)) := by
     obtain ⟨g', o', e, hcs⟩ := HI.out.2.2.1.at (by simp [codesOf]; omega)
     cases e
     rw [show (⟨g, i, none⟩ : Addr) = ⟨g, 0 + i, none⟩ by rw [Nat.zero_add]]
     refine hcs i _ ?_
     simp [codesOf, hil, codeAt]
     rw [if_neg (by rw [HI.out.2.2.2.1]; exact hx0)]
    rw [← hq] at c2 cells
    have HQ := Lib.hid (And.intro hq cells)
    have hN400 : i < 400 := by omega
    clear hq cells
    go_upto_if 35 with fail
    go_cut [] from 28 to 44 (fun wc => ∃ first', TabI w1 wc P D ls i first' sa sc ∧ first' x = nxt ls x ∧ Fr [] w wc ∧ Cs wc (some ⟨g, 0, none⟩) ((codesOf ls).map fun x => .int .u32 (x : Nat)))
    case first =>
     by_cases hq0 : q = 0
     ·have b1 : ((q : Int) == 0) = true := by simp; omega
      have hcx := first_code hil HI.out.2.2.2.1 hx0 (by rw [← HQ.out.1]; exact hq0)
      have hnx : nxt ls x ≤ 32768 := share_top ls (by exact H.out.2.1) H.out.2.2.2.2 x hx15
      rw [hcx] at hcode
      have HX := Lib.hid (And.intro hcx hnx)
      clear hcx hnx
      go_upto_region 10 with fail
      refine region_tail 9 (by kernel_rfl) (by kernel_rfl) ?_
      simp only [List.take_succ_cons, List.take_zero, List.drop_succ_cons, List.drop_zero]
      repeat (go_big_quiet_step (fail))
      refine wpQuiet_nil ?_
      go_wp2
      go_meet
      have fd : Fr [] wr wr.drew := Fr.drewN [] _ _
      case rel => exact ⟨_, (HI.out.1.fr fd).setFirst (by omega) HX.out.2, if_pos rfl, (HI.out.2.1.trans fd).step ((Fr.refl [P] _).setCell (by simp) _) (fun z hz => .inr (by simp at hz; rw [hz]; exact Nat.le_trans H1.out.2.2.2.size HI.out.1.new)), (HI.out.2.2.1.fr fd (by simp)).fr ((Fr.refl [P] _).setCell (by simp) _) (by intro z hz hm; have := H1.out.2.2.1; have := H2.out.2.2.2.1; simp [blk] at hz hm; omega)⟩
     ·have b1 : ((q : Int) == 0) = false := by simp; omega
      go_wp2
      go_meet
      case rel => exact ⟨first, HI.out.1, HI.out.1.fst x (by rw [← HQ.out.1]; omega), HI.out.2.1, HI.out.2.2.1⟩
    case rest =>
     obtain ⟨first', hT, hfx, hf, hcg⟩ := hcut
     obtain ⟨c1, c2, c3, z1, z2, z3⟩ := HQ.out.2 wc first' hT
     have hPS : P ∉ blk (sa x) := hT.off x (by omega)
     have q1 : ∀ y, (sup (blk (sa x)) wc.drew y).cell? ⟨P, 16 + x, none⟩ = some (.slice (sa x) q (sc x)) := fun y => (sup_fr (blk (sa x)) wc.drew y).cell ((Fr.drew1 [] wc).cell c2 (by simp)) hPS
     go_upto_region 11 with fail
     refine region_mixR 14 [(false, 0), (false, 1), (false, 2), (false, 3), (false, 4), (false, 5), (false, 6), (false, 7), (false, 8), (false, 11), (false, 12), (true, 9), (true, 10), (false, 13)] (blk (sa x)) (by kernel_rfl) (by kernel_rfl) (fun _ _ d _ _ h => by cases d <;> exact h) ?_
     simp only [List.map_cons, List.map_nil, List.getD_cons_zero, List.getD_cons_succ, List.drop_succ_cons, List.drop_zero, List.drop_nil]
     refine mixR_seg 11 rfl ?_
     simp only [List.take_succ_cons, List.take_zero, List.drop_succ_cons, List.drop_zero, List.map_cons, List.map_nil]
     repeat (go_big_quiet_step (fail))
     refine wpQuiet_nil ?_
     clear q1
     refine mixR_eff rfl ?_
     intro X hX
     go_wp2
     refine hX.out _ _ wc.drew (Fr.refl _ _) ((Fr.refl (blk (sa x)) wc.drew).alloc _) ?_
     clear hX X
     refine mixR_eff rfl ?_
     intro X hX
     obtain ⟨w4, hw4⟩ : ∃ w4, w4 = (wc.alloc (.cells #[.int .i64 (i : Nat)] 3)).drew := ⟨_, rfl⟩
     have f4 : Fr [] wc w4 := by rw [hw4]; exact ((Fr.refl [] wc).alloc _).drew
     have hcb : Cs w4 (some ⟨wc.heap.size, 0, none⟩) [.int .i64 (i : Nat)] := by rw [hw4]; exact cs_one _ _ _ _ ((Fr.drew1 [] _).blk (alloc_at wc _) (by simp))
     have fb4 : Fr (blk (sa x)) wc.drew w4 := by rw [hw4]; exact (((Fr.refl (blk (sa x)) wc).alloc _).drew).from_drew
     have HF := Lib.hid (And.intro hT (And.intro hfx (And.intro hf (And.intro hcg (And.intro f4 (And.intro hcb fb4))))))
     rw [← hw4]
     clear hT hfx hf hcg hw4 f4 hcb fb4
     refine wp_append sty_int _ _ rfl (.slice (sa x) q (sc x)) q (ints (symi ls x i)) (blk (sa x)) rfl (own_blk _ _ _) (by have := ((HF.out.1.rows x (by omega)).fr2 HF.out.2.2.2.2.1).own; rwa [← HQ.out.1] at this) (some ⟨wc.heap.size, 0, none⟩) 1 1 [.int .i64 (i : Nat)] rfl (Nat.le_refl _) (fun h => by cases h) HF.out.2.2.2.2.2.1 rfl (by intro u hu; simp only [List.mem_singleton] at hu; rw [hu]; rfl) (by omega) (by unfold maxLen; omega) ?_
     intro a5 c5 w5 A5
     have fb5 : Fr (blk (sa x)) wc.drew w5 := HF.out.2.2.2.2.2.2.step A5.fr fun y hy => .inl hy
     refine hX.out _ _ wc.drew (Fr.refl _ _) fb5 ?_
     clear hX X
     simp only [Act.put, List.setIfInBounds_toArray, List.set_cons_succ, List.set_cons_zero]
     clear c2 c3 z2 z3
     have T4 := HF.out.1.fr HF.out.2.2.2.2.1
     obtain ⟨A4, hA4, hs4, hlo4, hhi4, htp4⟩ := T4.box
     have hA5 := A5.fr.blk hA4 hPS
     have z2 := frozen_of hA5 (16 + x)
     have c2 := cell_of hA5 (16 + x)
     rw [hhi4 x (by omega)] at c2
     have hA6 := setCell_of hA5 (o := 16 + x) (.slice a5 (q + 1) c5)
     have c3 := cell_of hA6 32
     rw [Array.getElem?_setIfInBounds_ne (by omega), htp4] at c3
     have z3 := frozen_of hA6 32
     have HA := Lib.hid (And.intro A5 fb5)
     clear hA4 hs4 hlo4 hhi4 htp4 hA5 hA6 A5 fb5 T4 c1 z1
     refine mixR_seg 1 rfl ?_
     simp only [List.take_succ_cons, List.take_zero, List.drop_succ_cons, List.drop_zero, List.map_cons, List.map_nil]
     repeat (go_big_quiet_step (fail))
     refine wpQuiet_nil ?_
     refine mixR_nil ?_
     have hT6 := TabI.push (w6 := w5.setCell ⟨P, 16 + x, none⟩ (.slice a5 (q + 1) c5)) HF.out.1 HF.out.2.1 (by omega) hx0 HI.out.2.2.2.1 HQ.out.1 HF.out.2.2.2.2.1 HA.out.1 (Fr.refl [] _) (Fr.refl [] _)
     have hf6 : ∀ u : Value, Fr [] w ((w5.setCell ⟨P, 16 + x, none⟩ (.slice a5 (q + 1) c5)).setCell ⟨P, 32, none⟩ u) := fun u => by
      have f1 : Fr [] w wc := HF.out.2.2.1
      have f2 : Fr (P :: blk (sa x)) wc ((w5.setCell ⟨P, 16 + x, none⟩ (.slice a5 (q + 1) c5)).setCell ⟨P, 32, none⟩ u) := ((((Fr.refl _ wc).drew).trans (HA.out.2.mono (fun y hy => .inl (List.mem_cons_of_mem _ hy)))).setCell (by simp) _).setCell (by simp) _
      exact f1.step f2 fun z hz => by
       rcases List.mem_cons.1 hz with rfl | hz
       ·exact .inr (Nat.le_trans H1.out.2.2.2.size HF.out.1.new)
       ·exact .inr (Nat.le_trans H1.out.2.2.2.size ((HF.out.1.rows x (by omega)).new z hz))
     have hcg6 : ∀ u : Value, Cs ((w5.setCell ⟨P, 16 + x, none⟩ (.slice a5 (q + 1) c5)).setCell ⟨P, 32, none⟩ u) (some ⟨g, 0, none⟩) ((codesOf ls).map fun x => .int .u32 (x : Nat)) := fun u => by
      have f2 : Fr (P :: blk (sa x)) wc ((w5.setCell ⟨P, 16 + x, none⟩ (.slice a5 (q + 1) c5)).setCell ⟨P, 32, none⟩ u) := ((((Fr.refl _ wc).drew).trans (HA.out.2.mono (fun y hy => .inl (List.mem_cons_of_mem _ hy)))).setCell (by simp) _).setCell (by simp) _
      refine HF.out.2.2.2.1.fr f2 fun y hy hm => ?_
      simp [blk] at hy
      have hg : g < w1.heap.size := H1.out.2.2.1
      rcases List.mem_cons.1 hm with h1 | h1
      ·have := HF.out.1.new; omega
      ·have := (HF.out.1.rows x (by omega)).new y h1; omega
     have HZ := Lib.hid (And.intro hT6 (And.intro hf6 hcg6))
     clear hT6 hf6 hcg6
     go_wp2
     ·go_roundg k
      case measure => omega
      case rel =>
       have hD : max D x = x := by omega
       have hT6 := HZ.out.1
       rw [hD] at hT6
       exact ⟨i + 1, x, first', _, _, by go_num, by omega, hT6, HZ.out.2.1 _, HZ.out.2.2 _⟩
     ·go_roundg k
      case measure => omega
      case rel =>
       have hD : max D x = D := by omega
       have hT6 := HZ.out.1
       rw [hD] at hT6
       exact ⟨i + 1, D, first', _, _, by go_num, by omega, hT6, HZ.out.2.1 _, HZ.out.2.2 _⟩
  ·obtain rfl : i = N := by omega
   have HI := Lib.hid (And.intro hT hf)
   clear hT hf hcg hi hik
   go_wp2
   go_ret2
   have hT := HI.out.1
   rw [H.out.2.2.1] at hT
   exact ⟨P, D, first, sa, sc, rfl, hT.pre H1.out.2.2.2, HI.out.2⟩
end Go.Proofs.YtkmpfgpfbmeihaaGreatDoor.huf
namespace Go.Proofs.YtkmpfgpfbmeihaaGreatDoor.huf
open Go Go.RowKit lib bm bl
structure TabB (w : World) (P D : Nat) (ls : List Nat) (first : Nat → Nat) (sa : Nat → Option Addr) (sc : Nat → Nat) (B E : Nat) : Prop where
 tab : Tab w P D ls first sa sc
 at_ : B ≤ P ∧ P < E
 row : ∀ l, l < 16 → ∀ x ∈ blk (sa l), B ≤ x ∧ x < E
def NewTab (w : World) (ls : List Nat) (e : Ending) (w' : World) : Prop :=
 ∃ P D first sa sc, e = .returned (.tuple #[.pointer (some ⟨P, 0, none⟩), .int .i64 0]) ∧ TabB w' P D ls first sa sc w.heap.size w'.heap.size ∧ Fr [] w w'
theorem new_tab (a : Option Addr) (cap : Nat) (ls : List Nat) (w : World) (h : Ri w a cap ls) (hle : ∀ l ∈ ls, l ≤ 15) (hlen : ls.length ≤ 400) (hw : weight ls ≤ 32768) :
  Calls Tryz.prog 187 #[.slice a ls.length cap] w (NewTab w ls) :=
 (new_any a cap ls w h hle hlen hw).mono fun e w' ⟨P, D, first, sa, sc, h1, h2, h3⟩ => ⟨P, D, first, sa, sc, h1, ⟨h2.tab hlen, ⟨h2.new, by obtain ⟨A, hA, _⟩ := h2.box; exact lt_of_block hA⟩, fun l hl x hx => ⟨(h2.rows l hl).new x hx, (h2.rows l hl).lt x hx⟩⟩, h3⟩
theorem codes_bad (a : Option Addr) (cap : Nat) (ls : List Nat) (w : World) (h : Ri w a cap ls) (hle : ∀ l ∈ ls, l ≤ 15) (hlen : ls.length ≤ 400) (hw : 32768 < weight ls) :
  Calls Tryz.prog 205 #[.slice a ls.length cap] w fun e w' => e = .returned (.tuple #[.slice none 0 0, .int .i64 3]) ∧ Fr [] w w' := by
 have hc := count_any a cap ls w h hle (by omega)
 have hwl := weight_le ls
 obtain ⟨W, hW⟩ : ∃ W, W = weight ls := ⟨_, rfl⟩
 obtain ⟨N, hN⟩ : ∃ N, N = ls.length := ⟨_, rfl⟩
 rw [← hW] at hc hw hwl
 rw [← hN] at hc hlen hwl ⊢
 have H := Lib.hid hc
 clear hc hW hN h hle
 go_enter Tryz.func205, Tryz.ntmps205
 go_wp2_with (go_at_call 217; refine H.out.mono ?_; rintro e w1 ⟨rfl, rfl⟩)
 go_ret2
 exact ⟨rfl, .refl _ _⟩
theorem new_bad (a : Option Addr) (cap : Nat) (ls : List Nat) (w : World) (h : Ri w a cap ls) (hle : ∀ l ∈ ls, l ≤ 15) (hlen : ls.length ≤ 400) (hw : 32768 < weight ls) :
  Calls Tryz.prog 187 #[.slice a ls.length cap] w fun e w' => e = .returned (.tuple #[.pointer none, .int .i64 3]) ∧ Fr [] w w' := by
 have H := Lib.hid (codes_bad a cap ls w h hle hlen hw)
 obtain ⟨N, hN⟩ : ∃ N, N = ls.length := ⟨_, rfl⟩
 rw [← hN] at H ⊢
 clear h hle hw hN
 go_enter Tryz.func187, Tryz.ntmps187
 go_wp2_with (go_at_call 205; refine H.out.mono ?_; rintro e w1 ⟨rfl, f1⟩)
 go_ret2
 exact ⟨rfl, f1⟩
end Go.Proofs.YtkmpfgpfbmeihaaGreatDoor.huf
namespace Go.Proofs.YtkmpfgpfbmeihaaGreatDoor.inf
open Go Go.RowKit lib bm bl huf
theorem hsym_lt {ls : List Nat} {n v s : Nat} (h : hsym ls n v = some s) : s < ls.length ∧ 0 < n := by
 unfold hsym at h
 have h1 := List.mem_of_find?_eq_some h
 have h2 := List.find?_some h
 simp at h1 h2
 exact ⟨h1, h2.1⟩
theorem hread_spec (ls : List Nat) : ∀ (f n v : Nat) (bits : List Bool), ((hread ls f n v bits).2.2 = 0 ∨ (hread ls f n v bits).2.2 = 3 ∨ (hread ls f n v bits).2.2 = 4) ∧
  ((hread ls f n v bits).2.2 = 0 → (hread ls f n v bits).1 < ls.length ∧ 0 < (hread ls f n v bits).2.1)
 | 0, n, v, bits => by
  cases h : hsym ls n v with
  | some s => rw [hread_hit h]; exact ⟨.inl rfl, fun _ => hsym_lt h⟩
  | none => rw [hread_end h]; exact ⟨.inr (.inl rfl), fun h => by cases h⟩
 | f + 1, n, v, bits => by
  cases h : hsym ls n v with
  | some s => rw [hread_hit h]; exact ⟨.inl rfl, fun _ => hsym_lt h⟩
  | none =>
   by_cases hm : hmore ls n v = true
   ·cases bits with
    | nil => rw [hread_torn h hm]; exact ⟨.inr (.inr rfl), fun h => by cases h⟩
    | cons b t => rw [hread_step h hm]; exact hread_spec ls f (n + 1) _ t
   ·rw [hread_form h (by simpa using hm)]; exact ⟨.inr (.inl rfl), fun h => by cases h⟩
theorem isym_lt {bs : List UInt8} {ls : List Nat} {a s a1 : Nat} (h : isym bs ls a = .ok (s, a1)) : s < ls.length ∧ a < a1 := by
 unfold isym at h
 split at h
 ·rename_i hc
  have := (hread_spec ls 15 0 0 ((bytesBits bs).drop a)).2 hc
  simp only [Except.ok.injEq, Prod.mk.injEq] at h
  omega
 ·cases h
theorem itake_lt {bs : List UInt8} {a n v a1 : Nat} (h : itake bs a n = .ok (v, a1)) : v < 2 ^ n := by
 unfold itake at h
 split at h
 ·simp only [Except.ok.injEq, Prod.mk.injEq] at h
  rw [← h.1]
  exact bval_take_lt _ _
 ·cases h
structure Tb (w : World) (P : Nat) (ls : List Nat) (X : List Nat) : Prop where
 ex : ∃ D first sa sc, Tab w P D ls first sa sc ∧ P < w.heap.size ∧ P ∉ X ∧ ∀ l, l < 16 → ∀ x ∈ blk (sa l), x < w.heap.size ∧ x ∉ X
theorem Tb.fr {S : List Nat} {w w' : World} {P : Nat} {ls X : List Nat} (h : Tb w P ls X) (f : Fr S w w') (hS : ∀ x ∈ S, x ∈ X ∨ w.heap.size ≤ x) : Tb w' P ls X := by
 obtain ⟨D, first, sa, sc, ht, h1, h2, h3⟩ := h.ex
 refine ⟨D, first, sa, sc, ht.frS f (fun hP => ?_) (fun l hl _ x hx hx2 => ?_), Nat.lt_of_lt_of_le h1 f.size, h2, fun l hl x hx => ⟨Nat.lt_of_lt_of_le (h3 l hl x hx).1 f.size, (h3 l hl x hx).2⟩⟩
 ·rcases hS P hP with k | k
  ·exact h2 k
  ·omega
 ·rcases hS x hx2 with k | k
  ·exact (h3 l hl x hx).2 k
  ·have := (h3 l hl x hx).1; omega
theorem Tb.way {w w' : World} {R p P : Nat} {oa oa' : Option Addr} {ls : List Nat} (h : Tb w P ls (R :: p :: blk oa)) (f : Way w R p oa w' oa') : Tb w' P ls (R :: p :: blk oa') := by
 obtain ⟨D, first, sa, sc, ht, h1, h2, h3⟩ := h.ex
 exact ⟨D, first, sa, sc, ht.frS f.fr h2 (fun l hl _ x hx => (h3 l hl x hx).2), Nat.lt_of_lt_of_le h1 f.fr.size, f.old h1 h2, fun l hl x hx => ⟨Nat.lt_of_lt_of_le (h3 l hl x hx).1 f.fr.size, f.old (h3 l hl x hx).1 (h3 l hl x hx).2⟩⟩
theorem sym_any (R p P : Nat) (F : List Nat) (bs out : List UInt8) (ls : List Nat) (at_ oc most : Nat) (oa : Option Addr) (w : World) (h : St w R p F bs at_ out oa oc most) (hT : Tb w P ls (R :: p :: blk oa)) :
  Calls Tryz.prog 206 #[.pointer (some ⟨P, 0, none⟩), .pointer (some ⟨p, 0, none⟩)] w (RetV w R p F bs out oa oc most (isym bs ls at_)) := by
 obtain ⟨D, first, sa, sc, ht, h1, h2, h3⟩ := hT.ex
 have hp : P ≠ p := fun e => h2 (by simp [e])
 have hsp := hread_spec ls 15 0 0 ((bytesBits bs).drop at_)
 obtain ⟨r, hr0⟩ : ∃ r, r = hread ls 15 0 0 ((bytesBits bs).drop at_) := ⟨_, rfl⟩
 unfold isym
 rw [← hr0] at hsp ⊢
 obtain ⟨s, m, c⟩ := r
 refine (read_any P D ls first sa sc p F bs at_ w ht h.rd hp (fun l hl _ x hx e => (h3 l hl x hx).2 (by simp [e])) s m c hr0.symm).mono ?_
 rintro e w' ⟨rfl, hr, f⟩
 simp only at hsp ⊢
 by_cases hc : c = 0
 ·subst hc
  exact .inr ⟨s, at_ + m, by rw [if_pos rfl], rfl, h.take f hr, f⟩
 ·exact .inl ⟨_, c, by rw [if_neg hc], by omega, by omega, rfl, f.mono (by simp)⟩
set_option maxHeartbeats 1000000 in
theorem length_any (R p : Nat) (F : List Nat) (bs out : List UInt8) (at_ oc most s : Nat) (oa : Option Addr) (w : World) (h : St w R p F bs at_ out oa oc most) (h1 : 256 ≤ s) (h2 : s < 286) :
  Calls Tryz.prog 219 #[.pointer (some ⟨R, 0, none⟩), .int .i64 (s : Nat)] w (RetV w R p F bs out oa oc most (ilength bs s at_)) := by
 by_cases h3 : s < 265
 ·have e : ilength bs s at_ = .ok (s - 254, at_) := by unfold ilength; rw [if_pos h3]
  rw [e]
  have H := Lib.hid h
  clear h e
  go_enter Tryz.func219, Tryz.ntmps219
  go_wp2
  go_ret2
  exact .inr ⟨_, _, rfl, by rw [show ((s - 254 : Nat) : Int) = (s : Int) - 254 by omega]; rfl, H.out, .refl _ _⟩
 ·by_cases h4 : s = 285
  ·have e : ilength bs s at_ = .ok (258, at_) := by unfold ilength; rw [if_neg h3, if_pos h4]
   rw [e]
   subst h4
   have H := Lib.hid h
   clear h e
   go_enter Tryz.func219, Tryz.ntmps219
   go_wp2
   go_ret2
   exact .inr ⟨_, _, rfl, rfl, H.out, .refl _ _⟩
  ·have b4 : ((s : Int) == 285) = false := by simp; omega
   obtain ⟨n, hn⟩ : ∃ n, n = (s - 261) / 4 := ⟨_, rfl⟩
   have hn5 : n ≤ 5 := by omega
   have ht := take_any R p F bs out at_ oc most n oa w h (by omega)
   have hbad : ∀ c, itake bs at_ n = .error c → ilength bs s at_ = .error c := fun c hc => by unfold ilength; rw [if_neg h3, if_neg h4, ← hn, hc]
   have hgood : ∀ v a1, itake bs at_ n = .ok (v, a1) → ilength bs s at_ = .ok (3 + (4 + (s - 265) % 4) * 2 ^ n + v, a1) := fun v a1 hc => by unfold ilength; rw [if_neg h3, if_neg h4, ← hn, hc]
   obtain ⟨M, hM⟩ : ∃ M, M = ilength bs s at_ := ⟨_, rfl⟩
   rw [← hM] at hbad hgood ⊢
   obtain ⟨k, hk⟩ : ∃ k, k = (4 + (s - 265) % 4) * 2 ^ n := ⟨_, rfl⟩
   rw [← hk] at hgood
   have hk2 : k ≤ 7 * 2 ^ 5 := by rw [hk]; exact Nat.mul_le_mul (by omega) (Nat.pow_le_pow_right (by decide) hn5)
   have hk3 : (4 + ((s : Int) - 265) % 4) * 2 ^ n = (k : Nat) := by
    have e0 : ((s : Int) - 265) % 4 = ((s - 265) % 4 : Nat) := by omega
    rw [e0, hk]; push_cast; rfl
   have H := Lib.hid (And.intro ht (And.intro hn (And.intro hbad (And.intro hgood hk3))))
   have hM2 := Lib.hid hM
   clear hM hbad hgood hk hk3
   have e1 : ((s : Int) - 261) / 4 = (n : Nat) := by omega
   clear h ht hn
   go_enter Tryz.func219, Tryz.ntmps219
   go_wp2_with (go_at_call 134; refine H.out.1.mono ?_; rintro e w1 (⟨v, c, hm, hc0, hc1, rfl, f1⟩ | ⟨v, a1, hm, rfl, s1, f1⟩))
   ·go_ret2
    exact .inl ⟨_, c, H.out.2.2.1 c hm, hc0, hc1, rfl, f1⟩
   ·go_ret2
    refine .inr ⟨_, _, H.out.2.2.2.1 v a1 hm, ?_, s1, f1⟩
    have hv := itake_lt hm
    have hv2 : 2 ^ n ≤ 2 ^ 5 := Nat.pow_le_pow_right (by decide) hn5
    have e2 : wrap64 (wrap64 (3 + wrap64 ((4 + ((s : Int) - 265) % 4) * 2 ^ n)) + (v : Nat)) = ((3 + k + v : Nat) : Int) := by
     rw [H.out.2.2.2.2]
     unfold wrap64
     omega
    show Ending.returned (.tuple #[.int .i64 (wrap64 (wrap64 (3 + wrap64 ((4 + ((s : Int) - 265) % 4) * 2 ^ n)) + (v : Nat))), .int .i64 0]) = _
    rw [e2]
set_option maxHeartbeats 1000000 in
theorem distance_any (R p : Nat) (F : List Nat) (bs out : List UInt8) (at_ oc most s : Nat) (oa : Option Addr) (w : World) (h : St w R p F bs at_ out oa oc most) (h2 : s < 30) :
  Calls Tryz.prog 220 #[.pointer (some ⟨R, 0, none⟩), .int .i64 (s : Nat)] w (RetV w R p F bs out oa oc most (idist bs s at_)) := by
 by_cases h3 : s < 4
 ·have e : idist bs s at_ = .ok (s + 1, at_) := by unfold idist; rw [if_pos h3]
  rw [e]
  have H := Lib.hid h
  clear h e
  go_enter Tryz.func220, Tryz.ntmps220
  go_wp2
  go_ret2
  exact .inr ⟨_, _, rfl, rfl, H.out, .refl _ _⟩
 ·obtain ⟨n, hn⟩ : ∃ n, n = (s - 2) / 2 := ⟨_, rfl⟩
  have hn5 : n ≤ 13 := by omega
  have ht := take_any R p F bs out at_ oc most n oa w h (by omega)
  have hbad : ∀ c, itake bs at_ n = .error c → idist bs s at_ = .error c := fun c hc => by unfold idist; rw [if_neg h3, ← hn, hc]
  have hgood : ∀ v a1, itake bs at_ n = .ok (v, a1) → idist bs s at_ = .ok (1 + (2 + s % 2) * 2 ^ n + v, a1) := fun v a1 hc => by unfold idist; rw [if_neg h3, ← hn, hc]
  obtain ⟨M, hM⟩ : ∃ M, M = idist bs s at_ := ⟨_, rfl⟩
  rw [← hM] at hbad hgood ⊢
  obtain ⟨k, hk⟩ : ∃ k, k = (2 + s % 2) * 2 ^ n := ⟨_, rfl⟩
  rw [← hk] at hgood
  have hk2 : k ≤ 3 * 2 ^ 13 := by rw [hk]; exact Nat.mul_le_mul (by omega) (Nat.pow_le_pow_right (by decide) hn5)
  have hk3 : (2 + (s : Int) % 2) * 2 ^ n = (k : Nat) := by rw [hk]; push_cast; rfl
  have H := Lib.hid (And.intro ht (And.intro hn (And.intro hbad (And.intro hgood hk3))))
  have hM2 := Lib.hid hM
  clear hM hbad hgood hk hk3
  have e1 : ((s : Int) - 2) / 2 = (n : Nat) := by omega
  clear h ht hn
  go_enter Tryz.func220, Tryz.ntmps220
  go_wp2_with (go_at_call 134; refine H.out.1.mono ?_; rintro e w1 (⟨v, c, hm, hc0, hc1, rfl, f1⟩ | ⟨v, a1, hm, rfl, s1, f1⟩))
  ·go_ret2
   exact .inl ⟨_, c, H.out.2.2.1 c hm, hc0, hc1, rfl, f1⟩
  ·go_ret2
   refine .inr ⟨_, _, H.out.2.2.2.1 v a1 hm, ?_, s1, f1⟩
   have hv := itake_lt hm
   have hv2 : 2 ^ n ≤ 2 ^ 13 := Nat.pow_le_pow_right (by decide) hn5
   have e2 : wrap64 (wrap64 (1 + wrap64 ((2 + (s : Int) % 2) * 2 ^ n)) + (v : Nat)) = ((1 + k + v : Nat) : Int) := by
    rw [H.out.2.2.2.2]
    unfold wrap64
    omega
   show Ending.returned (.tuple #[.int .i64 (wrap64 (wrap64 (1 + wrap64 ((2 + (s : Int) % 2) * 2 ^ n)) + (v : Nat))), .int .i64 0]) = _
   rw [e2]
end Go.Proofs.YtkmpfgpfbmeihaaGreatDoor.inf
namespace Go.Proofs.YtkmpfgpfbmeihaaGreatDoor.inf
open Go Go.RowKit lib bm bl huf
structure Sw (w : World) (R p : Nat) (F : List Nat) (bs : List UInt8) (at_ : Nat) (out : List UInt8) (oa : Option Addr) (oc most E : Nat) : Prop where
 box : w.heap[R]? = some (.cells #[.pointer (some ⟨p, 0, none⟩), .slice oa out.length oc, .int .i64 (most : Nat), .int .i64 (E : Nat)] 225 (0, 0))
 rd : bits.Rf w p F bs at_
 own : w.ownsRow 0 5 1 (.slice oa out.length oc) out.length (out.map bv)
 r1 : R ∉ F
 r2 : R ∉ blk oa
 r3 : ∀ x ∈ blk oa, x ∉ F
 low : ∀ x ∈ F, x < w.heap.size
 sm : most ≤ 100000000
 sb : bs.length ≤ 100000000
 om : out.length ≤ most
theorem Sw.fr {w w' : World} {R p : Nat} {F S : List Nat} {bs out : List UInt8} {at_ oc most E : Nat} {oa : Option Addr} (h : Sw w R p F bs at_ out oa oc most E) (f : Fr S w w') (hR : R ∉ S) (hF : ∀ x ∈ F, x ∉ S) (ho : ∀ x ∈ blk oa, x ∉ S) : Sw w' R p F bs at_ out oa oc most E :=
 ⟨f.blk h.box hR, bits.rd_fr h.rd f hF, ownsRow_fr h.own f (fun k hk => ho k (by rw [← own_blk oa out.length oc, hk]; simp)), h.r1, h.r2, h.r3, fun x hx => Nat.lt_of_lt_of_le (h.low x hx) f.size, h.sm, h.sb, h.om⟩
theorem Sw.fr0 {w w' : World} {R p : Nat} {F : List Nat} {bs out : List UInt8} {at_ oc most E : Nat} {oa : Option Addr} (h : Sw w R p F bs at_ out oa oc most E) (f : Fr [] w w') : Sw w' R p F bs at_ out oa oc most E := h.fr f (by simp) (by simp) (by simp)
theorem Sw.pF {w : World} {R p : Nat} {F : List Nat} {bs out : List UInt8} {at_ oc most E : Nat} {oa : Option Addr} (h : Sw w R p F bs at_ out oa oc most E) : p ∈ F ∧ at_ ≤ 8 * bs.length := by
 obtain ⟨ao, cap, hr, hcs, rfl, hpb, hlen, hat, hcap, hmax⟩ := h.rd
 exact ⟨by simp, hat⟩
theorem Sw.take {w w' : World} {R p : Nat} {F : List Nat} {bs out : List UInt8} {at_ a' oc most E : Nat} {oa : Option Addr} (h : Sw w R p F bs at_ out oa oc most E) (f : Fr [p] w w') (hr : bits.Rf w' p F bs a') : Sw w' R p F bs a' out oa oc most E := by
 have hp := h.pF.1
 refine ⟨f.blk h.box (by simp; rintro rfl; exact h.r1 hp), hr, ownsRow_fr h.own f (fun k hk => ?_), h.r1, h.r2, h.r3, fun x hx => Nat.lt_of_lt_of_le (h.low x hx) f.size, h.sm, h.sb, h.om⟩
 have hk2 : k ∈ blk oa := by rw [← own_blk oa out.length oc, hk]; simp
 simp
 rintro rfl
 exact h.r3 _ hk2 hp
theorem Sw.err {w : World} {R p : Nat} {F : List Nat} {bs out : List UInt8} {at_ oc most E : Nat} {oa : Option Addr} (h : Sw w R p F bs at_ out oa oc most E) (E' : Nat) : Sw (w.setCell ⟨R, 3, none⟩ (.int .i64 (E' : Nat))) R p F bs at_ out oa oc most E' := by
 have f : Fr [R] w (w.setCell ⟨R, 3, none⟩ (.int .i64 (E' : Nat))) := (Fr.refl [R] w).setCell (by simp) _
 refine ⟨setCell_of h.box _, bits.rd_fr h.rd f (fun x hx => by simp; rintro rfl; exact h.r1 hx), ownsRow_fr h.own f (fun k hk => ?_), h.r1, h.r2, h.r3, fun x hx => Nat.lt_of_lt_of_le (h.low x hx) f.size, h.sm, h.sb, h.om⟩
 have hk2 : k ∈ blk oa := by rw [← own_blk oa out.length oc, hk]; simp
 simp
 rintro rfl
 exact h.r2 hk2
theorem Sw.put {w1 w2 : World} {R p n : Nat} {F : List Nat} {bs out : List UInt8} {at_ oc most cp2 E : Nat} {oa ao2 : Option Addr} {c : UInt8} {o : Obj} (h : Sw w1 R p F bs at_ out oa oc most E) (hn : n = out.length) (hl : n < most)
  (A : Appended (w1.alloc o) w2 5 1 (blk oa) ao2 (n + 1) cp2 (out.map bv ++ [bv c])) :
  Sw (w2.setCell ⟨R, 1, none⟩ (.slice ao2 (n + 1) cp2)) R p F bs at_ (out ++ [c]) ao2 cp2 most E ∧ Way w1 R p oa (w2.setCell ⟨R, 1, none⟩ (.slice ao2 (n + 1) cp2)) ao2 := by
 have f2 : Fr (blk oa) w1 w2 := ((Fr.refl _ w1).alloc _).trans A.fr
 have fR : Fr [R] w2 (w2.setCell ⟨R, 1, none⟩ (.slice ao2 (n + 1) cp2)) := (Fr.refl [R] w2).setCell (by simp) _
 have b2 := f2.blk h.box h.r2
 have hRw : R < w1.heap.size := lt_of_block h.box
 have hR2 : R ∉ blk ao2 := fun hx => by
  rcases A.at_ R hx with k | k
  ·exact h.r2 k
  ·rw [World.size_alloc] at k; omega
 have e : (out ++ [c]).length = n + 1 := by rw [hn]; simp
 have hpF := h.pF.1
 refine ⟨⟨?_, ?_, ?_, h.r1, hR2, fun x hx hF => ?_, fun x hx => Nat.lt_of_lt_of_le (h.low x hx) (Nat.le_trans f2.size fR.size), h.sm, h.sb, by rw [e]; omega⟩, ⟨?_, fun x hx => ?_⟩⟩
 ·rw [setCell_of b2, e]; rfl
 ·exact bits.rd_fr (bits.rd_fr h.rd f2 (fun x hx hb => h.r3 x hb hx)) fR (fun x hx hb => by simp at hb; rw [hb] at hx; exact h.r1 hx)
 ·rw [e, List.map_append]
  exact ownsRow_fr A.own fR (fun k hk => by
   have hk2 : k ∈ blk ao2 := by rw [← own_blk ao2 (n + 1) cp2, hk]; simp
   simp
   rintro rfl
   exact hR2 hk2)
 ·rcases A.at_ x hx with k | k
  ·exact h.r3 x k hF
  ·rw [World.size_alloc] at k
   have := h.low x hF
   omega
 ·exact (f2.mono (fun x hx => .inl (by simp [hx]))).trans (fR.mono (by simp))
 ·rcases A.at_ x hx with k | k
  ·exact .inl k
  ·rw [World.size_alloc] at k; exact .inr (by omega)
theorem Way.ofR (w w' : World) (R p : Nat) (oa : Option Addr) (f : Fr [R] w w') : Way w R p oa w' oa := ⟨f.mono (by simp), fun _ h => .inl h⟩
theorem Way.ofRp (w w' : World) (R p : Nat) (oa : Option Addr) (f : Fr [R, p] w w') : Way w R p oa w' oa := ⟨f.mono (by simp), fun _ h => .inl h⟩
set_option maxHeartbeats 1000000 in
theorem fail_any (R p : Nat) (F : List Nat) (bs out : List UInt8) (at_ oc most E c : Nat) (oa : Option Addr) (w : World) (h : Sw w R p F bs at_ out oa oc most E) :
  Calls Tryz.prog 144 #[.pointer (some ⟨R, 0, none⟩), .int .i64 (c : Nat)] w fun e w' => e = .returned (.tuple #[]) ∧ Sw w' R p F bs at_ out oa oc most (if E = 0 then c else E) ∧ Fr [R] w w' := by
 have c3 := cell_of h.box 3
 have z3 := frozen_of h.box 3
 simp only [List.getElem?_toArray, List.getElem?_cons_zero, List.getElem?_cons_succ] at c3
 have H := Lib.hid h
 clear h
 by_cases h0 : E = 0
 ·subst h0
  go_enter Tryz.func144, Tryz.ntmps144
  go_wp2
  go_end0
  exact ⟨rfl, by first | exact H.out.err c | (rw [if_pos rfl]; exact H.out.err c), (Fr.refl [R] w).setCell (by simp) _⟩
 ·have d0 : ((E : Int) == 0) = false := by simp; omega
  go_enter Tryz.func144, Tryz.ntmps144
  go_wp2
  go_end0
  exact ⟨rfl, by first | exact H.out | (rw [if_neg h0]; exact H.out), Fr.refl _ _⟩
def TakeR (w : World) (R p : Nat) (F : List Nat) (bs out : List UInt8) (oa : Option Addr) (oc most : Nat) (m : Except Nat (Nat × Nat)) (e : Ending) (w' : World) : Prop :=
 (∃ a, m = .error 4 ∧ e = .returned (.int .i64 0) ∧ Sw w' R p F bs a out oa oc most 4 ∧ Fr [R, p] w w') ∨
 (∃ v a, m = .ok (v, a) ∧ e = .returned (.int .i64 (v : Nat)) ∧ Sw w' R p F bs a out oa oc most 0 ∧ Fr [R, p] w w')
set_option maxHeartbeats 1000000 in
theorem rtake_any (R p : Nat) (F : List Nat) (bs out : List UInt8) (at_ oc most n : Nat) (oa : Option Addr) (w : World) (h : Sw w R p F bs at_ out oa oc most 0) (hn : n ≤ 31) :
  Calls Tryz.prog 139 #[.pointer (some ⟨R, 0, none⟩), .int .i64 (n : Nat)] w (TakeR w R p F bs out oa oc most (itake bs at_ n)) := by
 have c0 := cell_of h.box 0
 simp only [List.getElem?_toArray, List.getElem?_cons_zero, List.getElem?_cons_succ] at c0
 have H := Lib.hid h
 clear h
 by_cases hl : at_ + n ≤ 8 * bs.length
 ·have hv : bval (((bytesBits bs).drop at_).take n) < 4294967296 := Nat.lt_of_lt_of_le (bval_take_lt _ _) (Nat.le_trans (Nat.pow_le_pow_right (by decide) (show n ≤ 32 by omega)) (by decide))
  obtain ⟨v, hv2⟩ : ∃ v, v = bval (((bytesBits bs).drop at_).take n) := ⟨_, rfl⟩
  have ht := bits.rtake_good p F bs at_ n w H.out.rd (by omega) (by omega) (by omega)
  rw [Int.toNat_natCast, num_bits bs at_ n hl, ← hv2] at ht
  have e : itake bs at_ n = .ok (v, at_ + n) := by unfold itake; rw [if_pos hl, hv2]
  rw [e]
  rw [← hv2] at hv
  have HT := Lib.hid ht
  clear ht hv2 e
  go_enter Tryz.func139, Tryz.ntmps139
  go_wp2_with (go_at_call 170; refine HT.out.mono ?_; rintro e w1 ⟨rfl, hr, f1⟩)
  go_ret
  exact .inr ⟨v, at_ + n, rfl, rfl, H.out.take f1 hr, f1.mono (by simp)⟩
 ·have ht := bits.rtake_bad p F bs at_ n w H.out.rd (.inr (.inr (by omega)))
  have e : itake bs at_ n = .error 4 := by unfold itake; rw [if_neg hl]
  rw [e]
  have HT := Lib.hid ht
  clear ht e
  go_enter Tryz.func139, Tryz.ntmps139
  go_upto_region 2 with (go_at_call 170; refine HT.out.mono ?_; rintro e w1 ⟨rfl, hr, f1⟩)
  have S1 : Sw w1 R p F bs at_ out oa oc most 0 := H.out.take (f1.mono (by simp)) hr
  have c3 := cell_of S1.box 3
  have z3 := frozen_of S1.box 3
  simp only [List.getElem?_toArray, List.getElem?_cons_zero, List.getElem?_cons_succ] at c3
  have HS := Lib.hid (And.intro S1 f1)
  clear S1 hr f1
  go_wp2
  go_ret
  exact .inl ⟨at_, rfl, rfl, HS.out.1.err 4, (HS.out.2.mono (by simp)).trans ((Fr.refl [R, p] w1).setCell (by simp) _)⟩
set_option maxHeartbeats 1000000 in
theorem rtake_err (R p : Nat) (F : List Nat) (bs out : List UInt8) (at_ oc most n E : Nat) (oa : Option Addr) (w : World) (h : Sw w R p F bs at_ out oa oc most E) (hE : E ≠ 0) (hn : n ≤ 31) :
  Calls Tryz.prog 139 #[.pointer (some ⟨R, 0, none⟩), .int .i64 (n : Nat)] w fun e w' => ∃ v a : Nat, e = .returned (.int .i64 (v : Nat)) ∧ v < 2147483648 ∧ Sw w' R p F bs a out oa oc most E ∧ Fr [R, p] w w' := by
 have c0 := cell_of h.box 0
 simp only [List.getElem?_toArray, List.getElem?_cons_zero, List.getElem?_cons_succ] at c0
 have d0 : ((E : Int) == 0) = false := by simp; omega
 have H := Lib.hid h
 clear h
 by_cases hl : at_ + n ≤ 8 * bs.length
 ·have hv : bval (((bytesBits bs).drop at_).take n) < 2147483648 := Nat.lt_of_lt_of_le (bval_take_lt _ _) (Nat.le_trans (Nat.pow_le_pow_right (by decide) hn) (by decide))
  obtain ⟨v, hv2⟩ : ∃ v, v = bval (((bytesBits bs).drop at_).take n) := ⟨_, rfl⟩
  have ht := bits.rtake_good p F bs at_ n w H.out.rd (by omega) (by omega) (by omega)
  rw [Int.toNat_natCast, num_bits bs at_ n hl, ← hv2] at ht
  rw [← hv2] at hv
  have HT := Lib.hid ht
  clear ht hv2
  go_enter Tryz.func139, Tryz.ntmps139
  go_wp2_with (go_at_call 170; refine HT.out.mono ?_; rintro e w1 ⟨rfl, hr, f1⟩)
  go_ret
  exact ⟨v, at_ + n, rfl, hv, H.out.take f1 hr, f1.mono (by simp)⟩
 ·have ht := bits.rtake_bad p F bs at_ n w H.out.rd (.inr (.inr (by omega)))
  have HT := Lib.hid ht
  clear ht
  go_enter Tryz.func139, Tryz.ntmps139
  go_upto_region 2 with (go_at_call 170; refine HT.out.mono ?_; rintro e w1 ⟨rfl, hr, f1⟩)
  have S1 : Sw w1 R p F bs at_ out oa oc most E := H.out.take (f1.mono (by simp)) hr
  have c3 := cell_of S1.box 3
  simp only [List.getElem?_toArray, List.getElem?_cons_zero, List.getElem?_cons_succ] at c3
  have HS := Lib.hid (And.intro S1 f1)
  clear S1 hr f1
  go_wp2
  go_ret
  exact ⟨0, at_, rfl, by decide, HS.out.1, HS.out.2.mono (by simp)⟩
def RetW (w : World) (R p : Nat) (F : List Nat) (bs : List UInt8) (oa : Option Addr) (most : Nat) (m : Except Nat (List UInt8 × Nat)) (w' : World) : Prop :=
 ∃ a out oa' oc' E, Sw w' R p F bs a out oa' oc' most E ∧ Way w R p oa w' oa' ∧ ((m = .error E ∧ 0 < E ∧ E < 100) ∨ (m = .ok (out, a) ∧ E = 0))
set_option maxHeartbeats 1000000 in
theorem rput_any (R p : Nat) (F : List Nat) (bs out : List UInt8) (at_ oc most : Nat) (oa : Option Addr) (c : UInt8) (w : World) (h : Sw w R p F bs at_ out oa oc most 0) :
  Calls Tryz.prog 172 #[.pointer (some ⟨R, 0, none⟩), .int .u8 (c.toNat : Nat)] w fun e w' => e = .returned (.tuple #[]) ∧ RetW w R p F bs oa most ((iput most out c).map fun o => (o, at_)) w' := by
 have c1 := cell_of h.box 1
 have c2 := cell_of h.box 2
 simp only [List.getElem?_toArray, List.getElem?_cons_zero, List.getElem?_cons_succ] at c1 c2
 obtain ⟨n, hn⟩ : ∃ n, n = out.length := ⟨_, rfl⟩
 have hs := h.sm
 rw [← hn] at c1
 have H := Lib.hid (And.intro h hn)
 clear h
 by_cases hl : most ≤ n
 ·have e : iput most out c = .error 5 := by unfold iput; rw [if_pos (by omega)]
  rw [e]
  have hfl := fun w' (f : Fr [] w w') => fail_any R p F bs out at_ oc most 0 5 oa w' (H.out.1.fr0 f)
  have HF := Lib.hid hfl
  clear e hn hfl
  go_enter Tryz.func172, Tryz.ntmps172
  go_upto_region 0 with fail
  go_quiet (fail)
  go_wp2_with (go_at_call 144; refine (HF.out _ (Fr.drewN _ _ _)).mono ?_; rintro e w1 ⟨rfl, S1, f1⟩)
  refine bodyPost_ret (results_none rfl _ _ _) rfl ?_
  exact ⟨rfl, at_, out, oa, oc, 5, S1, (Way.of0 _ _ _ _ _ (Fr.drewN _ _ _)).trans (Way.ofR _ _ _ _ _ f1), .inl ⟨rfl, by decide, by decide⟩⟩
 ·have e : iput most out c = .ok (out ++ [c]) := by unfold iput; rw [if_neg (by omega)]
  rw [e]
  clear e hn
  go_enter Tryz.func172, Tryz.ntmps172
  go_upto_region 0 with fail
  go_quiet (fail)
  obtain ⟨w1, hw1⟩ : ∃ w1, w1 = w.drewN nq := ⟨_, rfl⟩
  have f1 : Fr [] w w1 := by rw [hw1]; exact .drewN _ _ _
  have S1 := H.out.1.fr0 f1
  have c1' := f1.cell c1 (by simp)
  rw [← hw1]
  clear hw1 c1 c2
  have HS := Lib.hid (And.intro f1 S1)
  clear f1 S1
  go_wp2_with (at_builtin; go_loud (refine wpList_append bits.sliceU8 rfl _ _ rfl (.slice oa n oc) n (out.map bv) (blk oa) rfl (own_blk oa n oc) (by rw [H.out.2]; exact ownsRow_fr HS.out.2.own ((Fr.refl [] w1).alloc _) (by simp)) (some ⟨w1.heap.size, 0, none⟩) 1 1 [bv c] (by first | rfl | simp) (Nat.le_refl _) (fun h => by cases h) (cs_one _ _ _ _ (alloc_at _ _)) rfl (by intro u hu; simp only [List.mem_singleton] at hu; rw [hu]; rfl) (by omega) (by unfold maxLen; omega) ?_); intro ao2 cp2 w2 A2; have f2 : Fr (blk oa) w1 w2 := (Fr.refl _ w1).trans (((Fr.refl _ w1).alloc _).trans A2.fr); have b2 := f2.blk HS.out.2.box H.out.1.r2; have z1 := frozen_of b2 1; have d1 := cell_of b2 1; rw [← H.out.2] at d1; simp only [List.getElem?_toArray, List.getElem?_cons_zero, List.getElem?_cons_succ] at d1; have HA := Lib.hid (And.intro A2 (And.intro f2 b2)); clear A2 f2 b2 c1')
  go_end0
  have hP := HS.out.2.put H.out.2 (by omega) HA.out.1
  exact ⟨rfl, _, _, ao2, cp2, 0, hP.1, (Way.of0 _ _ _ _ _ HS.out.1).trans hP.2, .inr ⟨rfl, rfl⟩⟩
def SymR (w : World) (R p : Nat) (F : List Nat) (bs out : List UInt8) (oa : Option Addr) (oc most : Nat) (m : Except Nat (Nat × Nat)) (e : Ending) (w' : World) : Prop :=
 (∃ a c, m = .error c ∧ 0 < c ∧ c < 100 ∧ e = .returned (.int .i64 0) ∧ Sw w' R p F bs a out oa oc most c ∧ Fr [R, p] w w') ∨
 (∃ v a, m = .ok (v, a) ∧ e = .returned (.int .i64 (v : Nat)) ∧ Sw w' R p F bs a out oa oc most 0 ∧ Fr [R, p] w w')
theorem hread_bad (ls : List Nat) : ∀ (f n v : Nat) (bits : List Bool), (hread ls f n v bits).2.2 ≠ 0 → (hread ls f n v bits).1 = 0
 | 0, n, v, bits, h => by
  cases hs : hsym ls n v with
  | some s => rw [hread_hit hs] at h; exact absurd rfl h
  | none => rw [hread_end hs]
 | f + 1, n, v, bits, h => by
  cases hs : hsym ls n v with
  | some s => rw [hread_hit hs] at h; exact absurd rfl h
  | none =>
   by_cases hm : hmore ls n v = true
   ·cases bits with
    | nil => rw [hread_torn hs hm]
    | cons b t => rw [hread_step hs hm] at h ⊢; exact hread_bad ls f (n + 1) _ t h
   ·rw [hread_form hs (by simpa using hm)]
set_option maxHeartbeats 2000000 in
theorem rsymbol_any (R p : Nat) (F : List Nat) (bs out : List UInt8) (at_ oc most : Nat) (oa : Option Addr) (a : Option Addr) (cap : Nat) (ls : List Nat) (w : World) (h : Sw w R p F bs at_ out oa oc most 0) (hl : Ri w a cap ls) (hle : ∀ l ∈ ls, l ≤ 15) (hlen : ls.length ≤ 400) (hw : weight ls ≤ 32768) (hap : ∀ x ∈ blk a, x ≠ p) :
  Calls Tryz.prog 173 #[.pointer (some ⟨R, 0, none⟩), .slice a ls.length cap] w (SymR w R p F bs out oa oc most (isym bs ls at_)) := by
 have c0 := cell_of h.box 0
 have c3 := cell_of h.box 3
 simp only [List.getElem?_toArray, List.getElem?_cons_zero, List.getElem?_cons_succ] at c0 c3
 have hsp := hread_spec ls 15 0 0 ((bytesBits bs).drop at_)
 have hbd := hread_bad ls 15 0 0 ((bytesBits bs).drop at_)
 obtain ⟨r, hr0⟩ : ∃ r, r = hread ls 15 0 0 ((bytesBits bs).drop at_) := ⟨_, rfl⟩
 unfold isym
 rw [← hr0] at hsp hbd ⊢
 obtain ⟨s, m, c⟩ := r
 have hrd := rread_any a cap ls p F bs at_ w hl hle hlen hw h.rd hap h.low s m c hr0.symm
 simp only at hsp hbd ⊢
 obtain ⟨L, hL⟩ : ∃ L, L = ls.length := ⟨_, rfl⟩
 rw [← hL] at hrd ⊢
 obtain ⟨M, hM⟩ : ∃ M : Except Nat (Nat × Nat), M = if c = 0 then .ok (s, at_ + m) else .error c := ⟨_, rfl⟩
 rw [← hM]
 have HM := Lib.hid hM
 clear hM
 have H := Lib.hid (And.intro h (And.intro hrd (And.intro hsp hbd)))
 clear h hl hle hap hr0 hrd hsp hbd hw hL hlen
 have hc4 : c = 0 ∨ c = 3 ∨ c = 4 := H.out.2.2.1.1
 go_enter Tryz.func173, Tryz.ntmps173
 go_upto_region 4 with (go_at_call 194; refine H.out.2.1.mono ?_; rintro e w1 ⟨rfl, hr, f1⟩)
 have S1 : Sw w1 R p F bs (at_ + m) out oa oc most 0 := H.out.1.take f1 hr
 have HS := Lib.hid (And.intro S1 (And.intro f1 (fail_any R p F bs out (at_ + m) oc most 0 c oa w1 S1)))
 clear S1 hr f1 c0 c3
 go_wp2_with (go_at_call 144; refine HS.out.2.2.mono ?_; rintro e w2 ⟨rfl, S2, f2⟩; have HS2 := Lib.hid (And.intro S2 f2); clear S2 f2)
 go_ret
 have f3 : Fr [R, p] w w2 := (HS.out.2.1.mono (by simp)).trans (HS2.out.2.mono (by simp))
 have S3 : Sw w2 R p F bs (at_ + m) out oa oc most c := HS2.out.1
 by_cases hc : c = 0
 ·subst hc
  exact .inr ⟨s, at_ + m, by rw [HM.out, if_pos rfl], rfl, S3, f3⟩
 ·have hs0 : s = 0 := H.out.2.2.2 hc
  subst hs0
  exact .inl ⟨at_ + m, c, by rw [HM.out, if_neg hc], by omega, by omega, rfl, S3, f3⟩
end Go.Proofs.YtkmpfgpfbmeihaaGreatDoor.inf
namespace Go.Proofs.YtkmpfgpfbmeihaaGreatDoor.inf
open Go Go.RowKit lib bm bl huf
theorem idist_pos {bs : List UInt8} {s a b a1 : Nat} (h : idist bs s a = .ok (b, a1)) : 0 < b ∧ b ≤ 100000 ∨ 30 ≤ s := by
 by_cases hs : 30 ≤ s
 ·exact .inr hs
 ·left
  unfold idist at h
  split at h
  ·simp only [Except.ok.injEq, Prod.mk.injEq] at h; omega
  ·have h13 : (s - 2) / 2 ≤ 13 := by omega
   have hp : (2 + s % 2) * 2 ^ ((s - 2) / 2) ≤ 3 * 2 ^ 13 := Nat.mul_le_mul (by omega) (Nat.pow_le_pow_right (by decide) h13)
   have hp2 : 2 ^ ((s - 2) / 2) ≤ 2 ^ 13 := Nat.pow_le_pow_right (by decide) h13
   cases ht : itake bs a ((s - 2) / 2) with
   | error e => rw [ht] at h; cases h
   | ok x =>
    obtain ⟨v, a2⟩ := x
    have hv := itake_lt ht
    rw [ht] at h
    simp only [Except.ok.injEq, Prod.mk.injEq] at h
    omega
theorem ilength_le {bs : List UInt8} {s a n a1 : Nat} (h : ilength bs s a = .ok (n, a1)) (hs : s < 286) : n ≤ 100000 := by
 unfold ilength at h
 split at h
 ·simp only [Except.ok.injEq, Prod.mk.injEq] at h; omega
 ·split at h
  ·simp only [Except.ok.injEq, Prod.mk.injEq] at h; omega
  ·have h13 : (s - 261) / 4 ≤ 6 := by omega
   have hp : (4 + (s - 265) % 4) * 2 ^ ((s - 261) / 4) ≤ 7 * 2 ^ 6 := Nat.mul_le_mul (by omega) (Nat.pow_le_pow_right (by decide) h13)
   have hp2 : 2 ^ ((s - 261) / 4) ≤ 2 ^ 6 := Nat.pow_le_pow_right (by decide) h13
   cases ht : itake bs a ((s - 261) / 4) with
   | error e => rw [ht] at h; cases h
   | ok x =>
    obtain ⟨v, a2⟩ := x
    have hv := itake_lt ht
    rw [ht] at h
    simp only [Except.ok.injEq, Prod.mk.injEq] at h
    omega
theorem iput_ok {most : Nat} {out o : List UInt8} {c : UInt8} (h : iput most out c = .ok o) : o = out ++ [c] ∧ out.length < most := by
 unfold iput at h
 split at h
 ·cases h
 ·simp only [Except.ok.injEq] at h; exact ⟨h.symm, by omega⟩
theorem St.byte {w : World} {R p : Nat} {F : List Nat} {bs out : List UInt8} {at_ oc most : Nat} {oa : Option Addr} (h : St w R p F bs at_ out oa oc most) {i : Nat} (hi : i < out.length) :
  ∃ g o, oa = some ⟨g, o, none⟩ ∧ w.cell? ⟨g, o + i, none⟩ = some (.int .u8 ((out[i]?.getD 0).toNat : Nat)) := by
 obtain ⟨g, o, e, hc⟩ := (cs_of_owns h.own).at (by simp; omega)
 refine ⟨g, o, e, hc i _ ?_⟩
 rw [List.getElem?_map, List.getElem?_eq_getElem hi]
 rfl
set_option maxHeartbeats 4000000 in
theorem match_any (R p Q : Nat) (F : List Nat) (bs out : List UInt8) (dl : List Nat) (at_ oc most s : Nat) (oa : Option Addr) (w : World) (h : St w R p F bs at_ out oa oc most) (hT : Tb w Q dl (R :: p :: blk oa)) (h1 : 256 ≤ s) (h2 : s < 286) :
  Calls Tryz.prog 207 #[.pointer (some ⟨R, 0, none⟩), .int .i64 (s : Nat), .pointer (some ⟨Q, 0, none⟩)] w (Ret w R p F bs oa most (imatch bs most dl s out at_)) := by
 obtain ⟨M, hM⟩ : ∃ M, M = imatch bs most dl s out at_ := ⟨_, rfl⟩
 rw [← hM]
 obtain ⟨N, hN⟩ : ∃ N, N = out.length := ⟨_, rfl⟩
 have H := Lib.hid (And.intro (length_any R p F bs out at_ oc most s oa w h h1 h2) (And.intro hT (And.intro hM (And.intro h hN))))
 have hsm := h.sm
 clear h hT hM hN
 go_enter Tryz.func207, Tryz.ntmps207
 go_upto_block 0 with (first | (go_at_call 219; refine H.out.1.mono ?_; rintro e w1 (⟨v, c, hm, hc0, hc1, rfl, f1⟩ | ⟨n, a1, hm, rfl, s1, f1⟩); all_goals (try (have c0 := cell_of s1.box 0; simp only [List.getElem?_toArray, List.getElem?_cons_zero, List.getElem?_cons_succ] at c0; have K1 := Lib.hid (And.intro hm (And.intro s1 f1)); clear hm s1 f1))) | (go_at_call 206; refine (sym_any R p Q F bs out dl a1 oc most oa w1 K1.out.2.1 (H.out.2.1.fr K1.out.2.2 (by simp))).mono ?_; rintro e w2 (⟨v2, c, hm, hc0, hc1, rfl, f1⟩ | ⟨d, a2, hm, rfl, s2, f2⟩); all_goals (try (have K2 := Lib.hid (And.intro hm (And.intro s2 f2)); clear hm s2 f2))) | (go_at_call 220; refine (distance_any R p F bs out a2 oc most d oa w2 K2.out.2.1 (by omega)).mono ?_; rintro e w3 (⟨v3, c, hm, hc0, hc1, rfl, f1⟩ | ⟨b, a3, hm, rfl, s3, f3⟩); all_goals (try (have c1 := cell_of s3.box 1; rw [← H.out.2.2.2.2] at c1; simp only [List.getElem?_toArray, List.getElem?_cons_zero, List.getElem?_cons_succ] at c1; have K3 := Lib.hid (And.intro hm (And.intro s3 f3)); clear hm s3 f3))))
 ·go_ret
  exact .inl ⟨c, by rw [H.out.2.2.1]; simp [imatch, hm], hc0, hc1, rfl, f1⟩
 ·go_ret
  exact .inl ⟨c, by rw [H.out.2.2.1]; simp [imatch, K1.out.1, hm], hc0, hc1, rfl, (K1.out.2.2.mono (by simp)).trans f1⟩
 ·go_ret
  exact .inl ⟨3, by rw [H.out.2.2.1]; simp [imatch, K1.out.1, K2.out.1, show 30 ≤ d by omega], by decide, by decide, rfl, (K1.out.2.2.trans K2.out.2.2).mono (by simp)⟩
 ·go_ret
  exact .inl ⟨c, by rw [H.out.2.2.1]; simp [imatch, K1.out.1, K2.out.1, hm, show ¬ 30 ≤ d by omega], hc0, hc1, rfl, ((K1.out.2.2.trans K2.out.2.2).mono (by simp)).trans f1⟩
 ·go_ret
  exact .inl ⟨3, by rw [H.out.2.2.1]; simp only [imatch, K1.out.1, K2.out.1, K3.out.1, if_neg (show ¬ 30 ≤ d by omega)]; rw [if_pos (by rw [← H.out.2.2.2.2]; omega)], by decide, by decide, rfl, ((K1.out.2.2.trans K2.out.2.2).trans K3.out.2.2).mono (by simp)⟩
 ·have hM3 : M = match icopy most b n out with
    | .error e => .error e
    | .ok o => .ok (o, a3) := by
   rw [H.out.2.2.1]
   simp only [imatch, K1.out.1, K2.out.1, K3.out.1, if_neg (show ¬ 30 ≤ d by omega)]
   rw [if_neg (by rw [← H.out.2.2.2.2]; omega)]
   rfl
  have hbp : 0 < b ∧ b ≤ 100000 := by
   rcases idist_pos K3.out.1 with k | k
   ·exact k
   ·omega
  have hnl := ilength_le K1.out.1 h2
  have HM := Lib.hid (And.intro hM3 hbp.1)
  have hbp1 := hbp.2
  clear hM3 hbp c0 c1
  have dN : decide (N < b) = false := by simp; omega
  simp only [dN]
  clear dN
  go_wp2
  go_loopg [6, 11, 52] n (fun k s6 s11 s52 wr => ∃ (j : Nat) (out1 : List UInt8) (oa1 : Option Addr) (oc1 : Nat), s52 = .int .i64 (j : Nat) ∧ j + k = n ∧ St wr R p F bs a3 out1 oa1 oc1 most ∧ Way w3 R p oa wr oa1 ∧ icopy most b k out1 = icopy most b n out ∧ b ≤ out1.length)
  case atStart => exact ⟨0, out, oa, oc, rfl, by omega, K3.out.2.1, .refl _ _ _ _, rfl, by rw [← H.out.2.2.2.2]; omega⟩
  case round =>
   obtain ⟨j, out1, oa1, oc1, rfl, hjk, hst, hway, hic, hbl⟩ := hrel
   have hW : Fr (R :: p :: blk oa) w wr := (((K1.out.2.2.trans K2.out.2.2).trans K3.out.2.2).mono (by simp)).trans hway.fr
   by_cases hj : j < n
   ·obtain ⟨k, rfl⟩ : ∃ k, gk = k + 1 := ⟨gk - 1, by omega⟩
    obtain ⟨N1, hN1⟩ : ∃ N1, N1 = out1.length := ⟨_, rfl⟩
    have hb0 := HM.out.2
    obtain ⟨g, o, rfl, hby⟩ := hst.byte (i := N1 - b) (by omega)
    obtain ⟨u, hu⟩ : ∃ u, u = out1[N1 - b]?.getD 0 := ⟨_, rfl⟩
    have c1 := cell_of hst.box 1
    simp only [List.getElem?_toArray, List.getElem?_cons_zero, List.getElem?_cons_succ] at c1
    rw [← hN1] at c1
    rw [← hu] at hby
    have hom : N1 ≤ most := by rw [hN1]; exact hst.om
    have hbl1 : b ≤ N1 := by rw [hN1]; exact hbl
    rw [show o + (N1 - b) = (o + (N1 - b) : Nat) from rfl] at hby
    have HJ := Lib.hid (And.intro hst (And.intro hway (And.intro hic (And.intro hbl (And.intro hN1 (And.intro hu hW))))))
    clear hst hway hic hbl hN1 hu hW
    go_upto_region 16 with fail
    refine region_tail 14 (by kernel_rfl) (by kernel_rfl) ?_
    simp only [List.take_succ_cons, List.take_zero, List.drop_succ_cons, List.drop_zero]
    repeat (go_big_quiet_step (fail))
    refine wpQuiet_nil ?_
    have sd := HJ.out.1.fr0 (Fr.drew1 [] wr)
    have HD := Lib.hid sd
    clear sd
    go_wp2_with (go_at_call 186; refine (put_any R p F bs out1 a3 oc1 most _ u wr.drew HD.out).mono ?_; rintro e w4 (⟨c, hm, hc0, hc1, rfl, f1⟩ | ⟨out2, a4, oa2, oc2, hm, rfl, s4, f4⟩); all_goals (have Km := Lib.hid hm; clear hm); all_goals (try (have K4 := Lib.hid (And.intro s4 f4); clear s4 f4)))
    ·go_ret
     have hm := Km.out
     cases hp : iput most out1 u with
     | error e =>
      rw [hp] at hm
      have hec : e = c := by simpa [Except.map] using hm
      have e1 : icopy most b n out = .error c := by rw [← HJ.out.2.2.1, icopy, ← HJ.out.2.2.2.2.1, ← HJ.out.2.2.2.2.2.1, hp, hec]
      exact .inl ⟨c, by rw [HM.out.1, e1], hc0, hc1, rfl, (HJ.out.2.2.2.2.2.2.drew).step f1 (fun x hx => by
       rcases List.mem_cons.1 hx with h3 | hx
       ·exact .inl (by simp [h3])
       ·rcases List.mem_cons.1 hx with h3 | hx
        ·exact .inl (by simp [h3])
        ·rcases HJ.out.2.1.new x hx with h3 | h3
         ·exact .inl (by simp [h3])
         ·exact .inr (Nat.le_trans (Nat.le_trans (Nat.le_trans K1.out.2.2.size K2.out.2.2.size) K3.out.2.2.size) h3))⟩
     | ok o2 => rw [hp] at hm; cases hm
    ·go_roundg k
     case measure => omega
     case rel =>
      have hm := Km.out
      cases hp : iput most out1 u with
      | error e => rw [hp] at hm; cases hm
      | ok o2 =>
       rw [hp] at hm
       have hm2 : o2 = out2 ∧ a3 = a4 := by simpa [Except.map] using hm
       obtain ⟨rfl, rfl⟩ := hm2
       have hi := iput_ok hp
       refine ⟨j + 1, o2, oa2, oc2, by go_num, by omega, K4.out.1, HJ.out.2.1.trans ((Way.of0 _ _ _ _ _ (Fr.drew1 [] wr)).trans K4.out.2), ?_, by rw [hi.1]; simp; have := HJ.out.2.2.2.1; omega⟩
       rw [← HJ.out.2.2.1, icopy, ← HJ.out.2.2.2.2.1, ← HJ.out.2.2.2.2.2.1, hp]
   ·have hk0 : gk = 0 := by omega
    subst hk0
    have e1 : icopy most b n out = .ok out1 := by rw [← hic, icopy]
    have HE := Lib.hid (And.intro hst (And.intro hway e1))
    clear hst hway hic hbl e1
    obtain rfl : j = n := by omega
    go_wp2
    go_ret
    exact .inr ⟨out1, a3, oa1, oc1, by rw [HM.out.1, HE.out.2.2], rfl, HE.out.1, (Way.of _ _ _ _ _ ((K1.out.2.2.trans K2.out.2.2).trans K3.out.2.2)).trans HE.out.2.1⟩
end Go.Proofs.YtkmpfgpfbmeihaaGreatDoor.inf
namespace Go.Proofs.YtkmpfgpfbmeihaaGreatDoor.inf
open Go Go.RowKit lib bm bl huf
def bw (k g st : Nat) : Nat := if k < st then 0 else (k - st) / g + 1
def bsum (first g st : Nat) : Nat → Nat
 | 0 => first
 | k + 1 => bsum first g st k + 2 ^ bw k g st
theorem bits_any (k g st : Nat) (w : World) (hk : k ≤ 30) (hg : 2 ≤ g) (hg2 : g ≤ 4) (hs : st ≤ 8) :
  Calls Tryz.prog 210 #[.int .i64 (k : Nat), .int .i64 (g : Nat), .int .i64 (st : Nat)] w fun e w' => e = .returned (.int .i64 (bw k g st : Nat)) ∧ w' = w := by
 by_cases h : k < st
 ·go_enter Tryz.func210, Tryz.ntmps210
  go_wp2
  go_ret
  exact ⟨by unfold bw; rw [if_pos h]; rfl, rfl⟩
 ·obtain ⟨d, hd⟩ : ∃ d, d = k - st := ⟨_, rfl⟩
  have e1 : (k : Int) - (st : Int) = (d : Int) := by omega
  have hb : bw k g st = d / g + 1 := by unfold bw; rw [if_neg h, hd]
  have hdb : d / g ≤ 30 := Nat.le_trans (Nat.div_le_self _ _) (by omega)
  have e2 : (d : Int) / (g : Int) = ((d / g : Nat) : Int) := by push_cast; rfl
  obtain ⟨q, hq⟩ : ∃ q, q = d / g := ⟨_, rfl⟩
  rw [← hq] at hb hdb e2
  have e3 : Int.tdiv (d : Int) (g : Int) = (q : Int) := by rw [Int.tdiv_eq_ediv_of_nonneg (by omega)]; exact e2
  rw [hb]
  have g0 : ((g : Int) == 0) = false := by simp; omega
  clear hd hq hb
  go_enter Tryz.func210, Tryz.ntmps210
  go_wp2
  go_ret
  exact ⟨by first | rfl | go_num, rfl⟩
theorem bw_le {k g st : Nat} (hk : k ≤ 30) (hg : 2 ≤ g) : bw k g st ≤ 16 := by
 unfold bw
 split
 ·omega
 ·have : (k - st) / g ≤ (k - st) / 2 := Nat.div_le_div_left hg (by decide)
  omega
theorem bsum_le {first g st : Nat} (hg : 2 ≤ g) : ∀ k, k ≤ 31 → bsum first g st k ≤ first + k * 65536
 | 0, _ => by simp [bsum]
 | k + 1, h => by
  have := bsum_le (first := first) (st := st) hg k (by omega)
  have h2 : 2 ^ bw k g st ≤ 65536 := Nat.le_trans (Nat.pow_le_pow_right (by decide) (bw_le (by omega) hg)) (by decide)
  rw [bsum]
  omega
theorem base_any (first k g st : Nat) (w : World) (hf : first ≤ 3) (hk : k ≤ 30) (hg : 2 ≤ g) (hg2 : g ≤ 4) (hs : st ≤ 8) :
  Calls Tryz.prog 195 #[.int .i64 (first : Nat), .int .i64 (k : Nat), .int .i64 (g : Nat), .int .i64 (st : Nat)] w fun e w' => e = .returned (.tuple #[.int .i64 (bsum first g st k : Nat), .int .i64 (bw k g st : Nat)]) ∧ w = w' := by
 obtain ⟨A0, hA0⟩ : ∃ A, A = bsum first g st k := ⟨_, rfl⟩
 obtain ⟨b0, hb0⟩ : ∃ b, b = bw k g st := ⟨_, rfl⟩
 rw [← hA0, ← hb0]
 have H0 := Lib.hid (And.intro hA0 hb0)
 clear hA0 hb0
 go_enter Tryz.func195, Tryz.ntmps195
 go_wp2
 go_loopg [10, 11] k (fun j s10 s11 wr => ∃ i : Nat, s11 = .int .i64 (i : Nat) ∧ s10 = .int .i64 (bsum first g st i : Nat) ∧ i + j = k ∧ w = wr)
 case atStart => exact ⟨0, rfl, rfl, by omega, rfl⟩
 case round =>
  obtain ⟨i, rfl, rfl, hij, rfl⟩ := hrel
  have hbl := bsum_le (first := first) (st := st) hg i (by omega)
  by_cases hi : i < k
  ·obtain ⟨j, rfl⟩ : ∃ j, gk = j + 1 := ⟨gk - 1, by omega⟩
   have hst : bsum first g st (i + 1) = bsum first g st i + 2 ^ bw i g st := rfl
   have hbw := bw_le (k := i) (st := st) (by omega) hg
   have hcl := bits_any i g st w (by omega) hg hg2 hs
   obtain ⟨z, hz⟩ : ∃ z, z = 2 ^ bw i g st := ⟨_, rfl⟩
   have hzb : z ≤ 65536 := by rw [hz]; exact Nat.le_trans (Nat.pow_le_pow_right (by decide) hbw) (by decide)
   have e2 : (2 : Int) ^ (bw i g st) = (z : Int) := by rw [hz]; exact cast_pow _
   rw [← hz] at hst
   generalize bsum first g st i = A at *
   generalize bw i g st = b at *
   have HC := Lib.hid (And.intro hcl hst)
   clear hcl hst hz
   go_wp2_with (go_at_call 210; refine HC.out.1.mono ?_; rintro e w1 ⟨rfl, rfl⟩)
   go_roundg j
   case measure => omega
   case rel => exact ⟨i + 1, by go_num, by rw [HC.out.2]; first | go_num | rfl, by omega, rfl⟩
  ·obtain rfl : i = k := by omega
   have hcl := bits_any i g st w hk hg hg2 hs
   rw [← H0.out.2] at hcl
   rw [← H0.out.1] at hbl ⊢
   have HC := Lib.hid hcl
   clear hcl
   go_wp2_with (go_at_call 210; refine HC.out.mono ?_; rintro e w1 ⟨rfl, rfl⟩)
   go_ret2
   exact ⟨rfl, rfl⟩
def ln (s : Nat) : Nat := if s = 285 then 258 else bsum 3 4 8 (s - 257)
def lk (s : Nat) : Nat := if s = 285 then 0 else bw (s - 257) 4 8
theorem take_zero {bs : List UInt8} {a : Nat} (h : a ≤ 8 * bs.length) : itake bs a 0 = .ok (0, a) := by
 unfold itake
 rw [if_pos (by omega)]
 rfl
theorem ln_all : ∀ s : Fin 286, 257 ≤ s.val → (s.val < 265 → ln s.val = s.val - 254 ∧ lk s.val = 0) ∧ (¬ s.val < 265 → s.val ≠ 285 → ln s.val = 3 + (4 + (s.val - 265) % 4) * 2 ^ ((s.val - 261) / 4) ∧ lk s.val = (s.val - 261) / 4) ∧ ln s.val ≤ 258 ∧ lk s.val ≤ 5 := by decide +kernel
theorem dn_all : ∀ t : Fin 30, (t.val < 4 → bsum 1 2 4 t.val = t.val + 1 ∧ bw t.val 2 4 = 0) ∧ (¬ t.val < 4 → bsum 1 2 4 t.val = 1 + (2 + t.val % 2) * 2 ^ ((t.val - 2) / 2) ∧ bw t.val 2 4 = (t.val - 2) / 2) ∧ bsum 1 2 4 t.val ≤ 24577 ∧ bw t.val 2 4 ≤ 13 := by decide +kernel
theorem ilength_by {bs : List UInt8} {s a : Nat} (h1 : 257 ≤ s) (h2 : s < 286) (ha : a ≤ 8 * bs.length) :
  ilength bs s a = match itake bs a (lk s) with | .error e => .error e | .ok (v, a1) => .ok (ln s + v, a1) := by
 obtain ⟨k1, k2, _, _⟩ := ln_all ⟨s, h2⟩ h1
 unfold ilength
 by_cases h3 : s < 265
 ·obtain ⟨e1, e2⟩ := k1 h3
  rw [if_pos h3, e1, e2, take_zero ha]
  dsimp only
  rw [Nat.add_zero]
 ·rw [if_neg h3]
  by_cases h4 : s = 285
  ·subst h4
   rw [if_pos rfl, show lk 285 = 0 from if_pos rfl, show ln 285 = 258 from if_pos rfl, take_zero ha]
  ·obtain ⟨e1, e2⟩ := k2 h3 h4
   rw [if_neg h4, e1, e2]
   rfl
theorem idist_by {bs : List UInt8} {t a : Nat} (h2 : t < 30) (ha : a ≤ 8 * bs.length) :
  idist bs t a = match itake bs a (bw t 2 4) with | .error e => .error e | .ok (v, a1) => .ok (bsum 1 2 4 t + v, a1) := by
 obtain ⟨k1, k2, _, _⟩ := dn_all ⟨t, h2⟩
 unfold idist
 by_cases h3 : t < 4
 ·obtain ⟨e1, e2⟩ := k1 h3
  rw [if_pos h3, e1, e2, take_zero ha]
 ·obtain ⟨e1, e2⟩ := k2 h3
  rw [if_neg h3, e1, e2]
  rfl
structure Ld (w : World) (a : Option Addr) (cap : Nat) (ls : List Nat) (X : List Nat) : Prop where
 ri : Ri w a cap ls
 low : ∀ x ∈ blk a, x < w.heap.size ∧ x ∉ X
 le : ∀ l ∈ ls, l ≤ 15
 len : ls.length ≤ 400
 wt : weight ls ≤ 32768
theorem Ld.fr {S : List Nat} {w w' : World} {a : Option Addr} {cap : Nat} {ls X : List Nat} (h : Ld w a cap ls X) (f : Fr S w w') (hS : ∀ x ∈ S, x ∈ X ∨ w.heap.size ≤ x) : Ld w' a cap ls X := by
 refine ⟨⟨h.ri.cs.fr f (fun x hx hx2 => ?_), h.ri.le, h.ri.max, h.ri.nil⟩, fun x hx => ⟨Nat.lt_of_lt_of_le (h.low x hx).1 f.size, (h.low x hx).2⟩, h.le, h.len, h.wt⟩
 rcases hS x hx2 with k | k
 ·exact (h.low x hx).2 k
 ·have := (h.low x hx).1; omega
theorem Ld.way {w w' : World} {R p : Nat} {oa oa' : Option Addr} {a : Option Addr} {cap : Nat} {ls : List Nat} (h : Ld w a cap ls (R :: p :: blk oa)) (f : Way w R p oa w' oa') : Ld w' a cap ls (R :: p :: blk oa') :=
 ⟨⟨h.ri.cs.fr f.fr (fun x hx => (h.low x hx).2), h.ri.le, h.ri.max, h.ri.nil⟩, fun x hx => ⟨Nat.lt_of_lt_of_le (h.low x hx).1 f.fr.size, f.old (h.low x hx).1 (h.low x hx).2⟩, h.le, h.len, h.wt⟩
theorem Ld.rp {w w' : World} {R p : Nat} {oa : Option Addr} {a : Option Addr} {cap : Nat} {ls : List Nat} (h : Ld w a cap ls (R :: p :: blk oa)) (f : Fr [R, p] w w') : Ld w' a cap ls (R :: p :: blk oa) :=
 h.way (Way.ofRp _ _ _ _ _ f)
theorem Ld.ne {w : World} {R p : Nat} {oa : Option Addr} {a : Option Addr} {cap : Nat} {ls : List Nat} (h : Ld w a cap ls (R :: p :: blk oa)) : ∀ x ∈ blk a, x ≠ p := fun x hx e => (h.low x hx).2 (by simp [e])
theorem sym_any' (R p : Nat) (F : List Nat) (bs out : List UInt8) (at_ oc most : Nat) (oa : Option Addr) (a : Option Addr) (cap L : Nat) (ls : List Nat) (w : World) (h : Sw w R p F bs at_ out oa oc most 0) (hl : Ld w a cap ls (R :: p :: blk oa)) (hL : L = ls.length) :
  Calls Tryz.prog 173 #[.pointer (some ⟨R, 0, none⟩), .slice a L cap] w (SymR w R p F bs out oa oc most (isym bs ls at_)) := by
 subst hL
 exact rsymbol_any R p F bs out at_ oc most oa a cap ls w h hl.ri hl.le hl.len hl.wt hl.ne
set_option maxHeartbeats 1000000 in
theorem rsymbol_err (R p : Nat) (F : List Nat) (bs out : List UInt8) (at_ oc most E : Nat) (oa : Option Addr) (v : Value) (w : World) (h : Sw w R p F bs at_ out oa oc most E) (hE : E ≠ 0) :
  Calls Tryz.prog 173 #[.pointer (some ⟨R, 0, none⟩), v] w fun e w' => e = .returned (.int .i64 0) ∧ w' = w := by
 have c3 := cell_of h.box 3
 simp only [List.getElem?_toArray, List.getElem?_cons_zero, List.getElem?_cons_succ] at c3
 have d0 : ((E : Int) != 0) = true := by simp; omega
 clear h hE
 go_enter Tryz.func173, Tryz.ntmps173
 go_wp2
 go_ret
 exact ⟨rfl, rfl⟩
end Go.Proofs.YtkmpfgpfbmeihaaGreatDoor.inf
namespace Go.Proofs.YtkmpfgpfbmeihaaGreatDoor.inf
open Go Go.RowKit lib bm bl huf
theorem Sw.byte {w : World} {R p : Nat} {F : List Nat} {bs out : List UInt8} {at_ oc most E : Nat} {oa : Option Addr} (h : Sw w R p F bs at_ out oa oc most E) {i : Nat} (hi : i < out.length) : ∃ g o, oa = some ⟨g, o, none⟩ ∧ w.cell? ⟨g, o + i, none⟩ = some (.int .u8 ((out[i]?.getD 0).toNat : Nat)) := by
 obtain ⟨g, o, rfl, hc⟩ := (cs_of_owns h.own).at (by simp; omega)
 refine ⟨g, o, rfl, hc i _ ?_⟩
 rw [List.getElem?_map, List.getElem?_eq_getElem hi]
 rfl
def imatch' (bs : List UInt8) (most : Nat) (dl : List Nat) (s : Nat) (out : List UInt8) (a : Nat) : Except Nat (List UInt8 × Nat) :=
 if 286 ≤ s then .error 3 else imatch bs most dl s out a
set_option maxHeartbeats 8000000 in
theorem rmatch_any (R p : Nat) (F : List Nat) (bs out : List UInt8) (da : Option Addr) (dcap D : Nat) (dl : List Nat) (at_ oc most s : Nat) (oa : Option Addr) (w : World) (h : Sw w R p F bs at_ out oa oc most 0) (hT : Ld w da dcap dl (R :: p :: blk oa)) (hD : D = dl.length) (h1 : 257 ≤ s) (h2 : s < 400) :
  Calls Tryz.prog 174 #[.pointer (some ⟨R, 0, none⟩), .int .i64 (s : Nat), .slice da D dcap] w fun e w' => e = .returned (.tuple #[]) ∧ RetW w R p F bs oa most (imatch' bs most dl s out at_) w' := by
 obtain ⟨M, hM⟩ : ∃ M, M = imatch' bs most dl s out at_ := ⟨_, rfl⟩
 rw [← hM]
 by_cases hbig : 286 ≤ s
 ·have hM3 : M = .error 3 := by rw [hM]; unfold imatch'; rw [if_pos hbig]
  have d0 : decide ((285 : Int) < s) = true := by simp; omega
  have H := Lib.hid (And.intro (fail_any R p F bs out at_ oc most 0 3 oa w h) hM3)
  clear h hT hM hM3 hD hbig
  go_enter Tryz.func174, Tryz.ntmps174
  go_wp2_with (go_at_call 144; refine H.out.1.mono ?_; rintro e w1 ⟨rfl, S1, f1⟩)
  refine bodyPost_ret (results_none rfl _ _ _) rfl ?_
  exact ⟨rfl, at_, out, oa, oc, 3, S1, Way.ofR _ _ _ _ _ f1, .inl ⟨H.out.2, by decide, by decide⟩⟩
 ·have d0 : decide ((285 : Int) < s) = false := by simp; omega
  have hn0 : ln s ≤ 258 := (ln_all ⟨s, by omega⟩ h1).2.2.1
  have hk0 : lk s ≤ 5 := (ln_all ⟨s, by omega⟩ h1).2.2.2
  have hil := ilength_by (bs := bs) (a := at_) h1 (show s < 286 by omega) h.pF.2
  have hMi : M = imatch bs most dl s out at_ := by rw [hM]; unfold imatch'; rw [if_neg hbig]
  obtain ⟨q, hq⟩ : ∃ q, q = s - 257 := ⟨_, rfl⟩
  have eq1 : (s : Int) - 257 = (q : Int) := by omega
  obtain ⟨n0, hn0'⟩ : ∃ n0, n0 = ln s := ⟨_, rfl⟩
  obtain ⟨k0, hk0'⟩ : ∃ k0, k0 = lk s := ⟨_, rfl⟩
  have hbase := base_any 3 q 4 8 w (by decide) (by omega) (by decide) (by decide) (by decide)
  have hnb : s ≠ 285 → bsum 3 4 8 q = n0 ∧ bw q 4 8 = k0 := fun hs => by rw [hn0', hk0', hq]; unfold ln lk; rw [if_neg hs, if_neg hs]; exact ⟨rfl, rfl⟩
  have hn5 : s = 285 → n0 = 258 ∧ k0 = 0 := fun hs => by rw [hn0', hk0', hs]; exact ⟨if_pos rfl, if_pos rfl⟩
  rw [← hn0', ← hk0'] at hil
  have hnl : n0 ≤ 258 := by rw [hn0']; exact hn0
  have hkl : k0 ≤ 5 := by rw [hk0']; exact hk0
  obtain ⟨N, hN⟩ : ∃ N, N = out.length := ⟨_, rfl⟩
  have htk := rtake_any R p F bs out at_ oc most k0 oa w h (by omega)
  obtain ⟨x0, hx0⟩ : ∃ x, x = bsum 3 4 8 q := ⟨_, rfl⟩
  obtain ⟨y0, hy0⟩ : ∃ x, x = bw q 4 8 := ⟨_, rfl⟩
  rw [← hx0, ← hy0] at hbase hnb
  have hsm := h.sm
  have H := Lib.hid (And.intro h (And.intro hT (And.intro hMi (And.intro hil (And.intro htk (And.intro hN hD))))))
  have HB := Lib.hid (And.intro hbase (And.intro hnb hn5))
  clear h hT hM hMi hil htk hN hD hbase hnb hn5 hn0' hk0' hx0 hy0 hn0 hk0 hq hbig
  go_enter Tryz.func174, Tryz.ntmps174
  go_upto_if 23 with (go_at_call 195; refine HB.out.1.mono ?_; rintro e w1 ⟨rfl, rfl⟩)
  clear d0 eq1
  obtain ⟨bq, hbq⟩ : ∃ b, b = ((s : Int) == 285) := ⟨_, rfl⟩
  rw [← hbq]
  have HQ := Lib.hid hbq
  clear hbq
  go_cut [6, 7] from 23 to 24 (fun s6 s7 wc => s6 = .int .i64 (n0 : Nat) ∧ s7 = .int .i64 (k0 : Nat) ∧ w = wc)
  case first =>
   cases bq
   ·go_wp2
    go_meet
    case rel =>
     obtain ⟨rfl, rfl⟩ := HB.out.2.1 (fun he => by have := HQ.out; rw [he] at this; cases this)
     exact ⟨rfl, rfl, rfl⟩
   ·go_wp2
    go_meet
    case rel =>
     obtain ⟨rfl, rfl⟩ := HB.out.2.2 (by have := beq_iff_eq.1 HQ.out.symm; omega)
     exact ⟨rfl, rfl, rfl⟩
  case rest =>
   obtain ⟨rfl, rfl, rfl⟩ := hcut
   go_upto_region 7 with (go_at_call 139; refine H.out.2.2.2.2.1.mono ?_; rintro e w1 (⟨a1, hm, rfl, s1, f1⟩ | ⟨v, a1, hm, rfl, s1, f1⟩))
   ·have c3 := cell_of s1.box 3
    simp only [List.getElem?_toArray, List.getElem?_cons_zero, List.getElem?_cons_succ] at c3
    have K1 := Lib.hid (And.intro hm (And.intro f1 s1))
    clear hm f1 s1
    go_wp2_with (go_at_call 173; refine (rsymbol_err R p F bs out a1 oc most 4 oa _ w1 K1.out.2.2 (by decide)).mono ?_; rintro e w2 ⟨rfl, rfl⟩)
    refine bodyPost_ret (results_none rfl _ _ _) rfl ?_
    refine ⟨rfl, a1, out, oa, oc, 4, K1.out.2.2, Way.ofRp _ _ _ _ _ K1.out.2.1, .inl ⟨?_, by decide, by decide⟩⟩
    rw [H.out.2.2.1]
    unfold imatch
    rw [H.out.2.2.2.1, K1.out.1]
   ·have hv := itake_lt hm
    have hvb : v < 32 := Nat.lt_of_lt_of_le hv (Nat.le_trans (Nat.pow_le_pow_right (by decide) hkl) (by decide))
    obtain ⟨n, hn⟩ : ∃ n, n = n0 + v := ⟨_, rfl⟩
    have hnb : n ≤ 300 := by omega
    have ew : wrap64 ((n0 : Int) + (v : Int)) = (n : Int) := by unfold wrap64; omega
    rw [ew]
    clear ew
    have hsy := sym_any' R p F bs out a1 oc most oa da dcap D dl w1 s1 (H.out.2.1.rp f1) H.out.2.2.2.2.2.2
    have e1 : ilength bs s at_ = .ok (n0 + v, a1) := by rw [H.out.2.2.2.1, hm]
    rw [← hn] at e1
    have K1 := Lib.hid (And.intro hsy (And.intro f1 (And.intro e1 s1)))
    clear hm f1 s1 hsy e1 hv hn
    go_upto_region 8 with (go_at_call 173; refine K1.out.1.mono ?_; rintro e w2 (⟨a2, c, hm, hc0, hc1, rfl, s2, f2⟩ | ⟨t, a2, hm, rfl, s2, f2⟩))
    ·have c3 := cell_of s2.box 3
     simp only [List.getElem?_toArray, List.getElem?_cons_zero, List.getElem?_cons_succ] at c3
     have d3 : ((c : Int) != 0) = true := by simp; omega
     have K2 := Lib.hid (And.intro hm (And.intro f2 s2))
     clear hm f2 s2
     go_wp2
     refine bodyPost_ret (results_none rfl _ _ _) rfl ?_
     refine ⟨rfl, a2, out, oa, oc, c, K2.out.2.2, Way.ofRp _ _ _ _ _ (K1.out.2.1.trans K2.out.2.1), .inl ⟨?_, hc0, hc1⟩⟩
     rw [H.out.2.2.1]
     unfold imatch
     rw [K1.out.2.2.1]
     dsimp only
     rw [K2.out.1]
    ·have c3 := cell_of s2.box 3
     simp only [List.getElem?_toArray, List.getElem?_cons_zero, List.getElem?_cons_succ] at c3
     have htl := (isym_lt hm).1
     have htb : t < 400 := Nat.lt_of_lt_of_le htl H.out.2.1.len
     have K2 := Lib.hid (And.intro hm (And.intro f2 s2))
     clear hm f2 s2 htl
     have f02 : Fr [R, p] w w2 := K1.out.2.1.trans K2.out.2.1
     by_cases ht : 30 ≤ t
     ·have d4 : decide ((29 : Int) < t) = true := by simp; omega
      have HF := Lib.hid (And.intro (fail_any R p F bs out a2 oc most 0 3 oa w2 K2.out.2.2) f02)
      clear f02
      go_wp2_with (go_at_call 144; refine HF.out.1.mono ?_; rintro e w3 ⟨rfl, S3, f3⟩)
      refine bodyPost_ret (results_none rfl _ _ _) rfl ?_
      refine ⟨rfl, a2, out, oa, oc, 3, S3, (Way.ofRp _ _ _ _ _ HF.out.2).trans (Way.ofR _ _ _ _ _ f3), .inl ⟨?_, by decide, by decide⟩⟩
      rw [H.out.2.2.1]
      unfold imatch
      rw [K1.out.2.2.1]
      dsimp only
      rw [K2.out.1]
      dsimp only
      rw [if_pos ht]
     ·have d4 : decide ((29 : Int) < t) = false := by simp; omega
      have hd13 : bw t 2 4 ≤ 13 := (dn_all ⟨t, by omega⟩).2.2.2
      have hd24 : bsum 1 2 4 t ≤ 24577 := (dn_all ⟨t, by omega⟩).2.2.1
      have hdi := idist_by (bs := bs) (t := t) (a := a2) (by omega) K2.out.2.2.pF.2
      have hbase := base_any 1 t 2 4 w2 (by decide) (by omega) (by decide) (by decide) (by decide)
      obtain ⟨x1, hx1⟩ : ∃ x, x = bsum 1 2 4 t := ⟨_, rfl⟩
      obtain ⟨y1, hy1⟩ : ∃ x, x = bw t 2 4 := ⟨_, rfl⟩
      rw [← hx1, ← hy1] at hbase hdi
      rw [← hx1] at hd24
      rw [← hy1] at hd13
      have htk := rtake_any R p F bs out a2 oc most y1 oa w2 K2.out.2.2 (by omega)
      have HB2 := Lib.hid (And.intro hbase (And.intro hdi (And.intro htk f02)))
      clear hbase hdi htk f02 hx1 hy1
      go_upto_region 12 with (go_at_call 195; refine HB2.out.1.mono ?_; rintro e w3 ⟨rfl, rfl⟩)
      clear d4 c3
      go_cut [9] from 46 to 50 (fun s9 wc => ∃ far a3 E : Nat, s9 = .int .i64 (far : Nat) ∧ far ≤ 100000 ∧ Sw wc R p F bs a3 out oa oc most E ∧ Fr [R, p] w wc ∧ ((E = 0 ∧ idist bs t a2 = .ok (far, a3)) ∨ (E = 4 ∧ idist bs t a2 = .error 4)))
      case first =>
       go_wp2_with (go_at_call 139; refine HB2.out.2.2.1.mono ?_; rintro e w3 (⟨a3, hm, rfl, s3, f3⟩ | ⟨v3, a3, hm, rfl, s3, f3⟩); all_goals (try (have hvb3 : v3 < 8192 := Nat.lt_of_lt_of_le (itake_lt hm) (Nat.le_trans (Nat.pow_le_pow_right (by decide) hd13) (by decide)))); all_goals (have K3 := Lib.hid (And.intro hm (And.intro f3 s3)); clear hm f3 s3))
       ·go_meet
        case rel => exact ⟨x1, a3, 4, rfl, by omega, K3.out.2.2, HB2.out.2.2.2.trans K3.out.2.1, .inr ⟨rfl, by rw [HB2.out.2.1, K3.out.1]⟩⟩
       ·go_meet
        case rel => exact ⟨x1 + v3, a3, 0, by go_num, by omega, K3.out.2.2, HB2.out.2.2.2.trans K3.out.2.1, .inl ⟨rfl, by rw [HB2.out.2.1, K3.out.1]⟩⟩
      case rest =>
       obtain ⟨far, a3, E, rfl, hfb, s3, f3, hE⟩ := hcut
       have c3 := cell_of s3.box 3
       have c1 := cell_of s3.box 1
       simp only [List.getElem?_toArray, List.getElem?_cons_zero, List.getElem?_cons_succ] at c1 c3
       rw [← H.out.2.2.2.2.2.1] at c1
       have hMe : idist bs t a2 = .error 4 → M = .error 4 := fun h => by
        rw [H.out.2.2.1]
        unfold imatch
        rw [K1.out.2.2.1]
        dsimp only
        rw [K2.out.1]
        dsimp only
        rw [if_neg ht, h]
       have hMo : idist bs t a2 = .ok (far, a3) → M = if N < far then .error 3 else match icopy most far n out with | .error e => .error e | .ok o => .ok (o, a3) := fun h => by
        rw [H.out.2.2.1]
        unfold imatch
        rw [K1.out.2.2.1]
        dsimp only
        rw [K2.out.1]
        dsimp only
        rw [if_neg ht, h, H.out.2.2.2.2.2.1]
        rfl
       have hfp : idist bs t a2 = .ok (far, a3) → 0 < far := fun h => by
        rcases idist_pos h with k | k
        ·exact k.1
        ·omega
       have hE4 : E = 0 ∨ E = 4 := by rcases hE with ⟨h, _⟩ | ⟨h, _⟩ <;> omega
       have hNm : N ≤ most := by rw [H.out.2.2.2.2.2.1]; exact s3.om
       have K3 := Lib.hid (And.intro s3 (And.intro f3 (And.intro hE (And.intro hMe (And.intro hMo (And.intro hfp (fail_any R p F bs out a3 oc most E 3 oa wc s3)))))))
       clear s3 f3 hE hMe hMo hfp
       go_upto_region 13 with fail
       go_cut [64] from 51 to 64 (fun s64 wd => s64 = .bool (decide (E = 0) && decide (N < far)) ∧ wc = wd)
       case first =>
        rcases hE4 with rfl | rfl
        ·go_wp2
         go_meet
         case rel => exact ⟨by simp, rfl⟩
        ·go_wp2
         go_meet
         case rel => exact ⟨by simp, rfl⟩
       case rest =>
        obtain ⟨rfl, rfl⟩ := hcut
        obtain ⟨bt, hbt⟩ : ∃ b : Bool, b = (decide (E = 0) && decide (N < far)) := ⟨_, rfl⟩
        rw [← hbt]
        have HT := Lib.hid hbt
        clear hbt
        go_upto_if 64 with fail
        go_cut [] from 65 to 66 (fun wd => ∃ E2 : Nat, Sw wd R p F bs a3 out oa oc most E2 ∧ Fr [R, p] w wd ∧ ((E2 = 0 ∧ idist bs t a2 = .ok (far, a3) ∧ far ≤ N) ∨ (E2 ≠ 0 ∧ E2 < 100 ∧ M = .error E2)))
        case first =>
         cases bt
         ·go_wp2
          go_meet
          case rel =>
           refine ⟨E, K3.out.1, K3.out.2.1, ?_⟩
           rcases K3.out.2.2.1 with ⟨k1, k2⟩ | ⟨k1, k2⟩
           ·refine .inl ⟨k1, k2, ?_⟩
            have := HT.out
            rw [k1] at this
            simpa using this
           ·exact .inr ⟨by omega, by omega, by rw [k1]; exact K3.out.2.2.2.1 k2⟩
         ·have hE0 : E = 0 ∧ N < far := by simpa using HT.out.symm
          obtain ⟨rfl, hlt⟩ := hE0
          have HL := Lib.hid hlt
          clear hlt c3 c1
          go_wp2_with (go_at_call 144; refine K3.out.2.2.2.2.2.2.mono ?_; rintro e w4 ⟨rfl, S4, f4⟩; have K4 := Lib.hid (And.intro S4 f4); clear S4 f4)
          go_meet
          case rel =>
           refine ⟨3, K4.out.1, K3.out.2.1.trans (K4.out.2.mono (by simp)), .inr ⟨by decide, by decide, ?_⟩⟩
           rcases K3.out.2.2.1 with ⟨k1, k2⟩ | ⟨k1, k2⟩
           ·rw [K3.out.2.2.2.2.1 k2, if_pos HL.out]
           ·cases k1
        case rest =>
         obtain ⟨E2, s4, f4, hE2⟩ := hcut
         have K4 := Lib.hid (And.intro s4 (And.intro f4 hE2))
         obtain ⟨w4, hw4⟩ : ∃ w4, w4 = wc := ⟨_, rfl⟩
         rw [← hw4] at K4 ⊢
         clear s4 f4 hE2 hw4 c1 c3
         go_wp2
         go_loopg [11] n (fun k s11 wr => ∃ (j : Nat) (a4 : Nat) (out1 : List UInt8) (oa1 : Option Addr) (oc1 E3 : Nat), s11 = .int .i64 (j : Nat) ∧ j + k = n ∧ Sw wr R p F bs a4 out1 oa1 oc1 most E3 ∧ Way w4 R p oa wr oa1 ∧
          ((E3 = 0 ∧ E2 = 0 ∧ a4 = a3 ∧ icopy most far k out1 = icopy most far n out ∧ far ≤ out1.length) ∨ (E3 ≠ 0 ∧ E3 < 100 ∧ M = .error E3)))
         case atStart =>
          refine ⟨0, a3, out, oa, oc, E2, rfl, by omega, K4.out.1, .refl _ _ _ _, ?_⟩
          rcases K4.out.2.2 with ⟨k1, k2, k3⟩ | k
          ·exact .inl ⟨k1, k1, rfl, rfl, by rw [← H.out.2.2.2.2.2.1]; exact k3⟩
          ·exact .inr k
         case round =>
          obtain ⟨j, a4, out1, oa1, oc1, E3, rfl, hjk, hst, hway, hcs⟩ := hrel
          have c3 := cell_of hst.box 3
          simp only [List.getElem?_toArray, List.getElem?_cons_zero, List.getElem?_cons_succ] at c3
          have hfin : ∀ (m : Except Nat (List UInt8 × Nat)), M = m → ((m = .error E3 ∧ 0 < E3 ∧ E3 < 100) ∨ (m = .ok (out1, a4) ∧ E3 = 0)) → RetW w R p F bs oa most M wr := fun m h1 h2 => by
           refine ⟨a4, out1, oa1, oc1, E3, hst, (Way.ofRp _ _ _ _ _ K4.out.2.1).trans hway, ?_⟩
           rw [h1]
           exact h2
          have hE2o : E2 = 0 → idist bs t a2 = .ok (far, a3) ∧ far ≤ N := fun h => by
           rcases K4.out.2.2 with ⟨_, k2, k3⟩ | ⟨k1, _, _⟩
           ·exact ⟨k2, k3⟩
           ·exact absurd h k1
          by_cases hj : j < n
          ·by_cases h0 : E3 = 0
           ·subst h0
            obtain ⟨k, rfl⟩ : ∃ k, gk = k + 1 := ⟨gk - 1, by omega⟩
            obtain ⟨hE2', hae, hic, hbl⟩ : E2 = 0 ∧ a4 = a3 ∧ icopy most far (k + 1) out1 = icopy most far n out ∧ far ≤ out1.length := by
             rcases hcs with ⟨_, k2, k3, k4, k5⟩ | ⟨k1, _, _⟩
             ·exact ⟨k2, k3, k4, k5⟩
             ·exact absurd rfl k1
            have hid := hE2o hE2'
            have hb0 := K3.out.2.2.2.2.2.1 hid.1
            obtain ⟨N1, hN1⟩ : ∃ N1, N1 = out1.length := ⟨_, rfl⟩
            obtain ⟨g, o, rfl, hby⟩ := hst.byte (i := N1 - far) (by omega)
            obtain ⟨u, hu⟩ : ∃ u, u = out1[N1 - far]?.getD 0 := ⟨_, rfl⟩
            have c1 := cell_of hst.box 1
            simp only [List.getElem?_toArray, List.getElem?_cons_zero, List.getElem?_cons_succ] at c1
            rw [← hN1] at c1
            rw [← hu] at hby
            have hom : N1 ≤ most := by rw [hN1]; exact hst.om
            have hbl1 : far ≤ N1 := by rw [hN1]; exact hbl
            have HJ := Lib.hid (And.intro hst (And.intro hway (And.intro hic (And.intro hbl (And.intro hN1 (And.intro hu (And.intro hae (And.intro hE2' hid))))))))
            clear hst hway hic hbl hN1 hu hae hE2' hid hcs hfin hE2o
            go_upto_region 18 with fail
            refine region_tail 14 (by kernel_rfl) (by kernel_rfl) ?_
            simp only [List.take_succ_cons, List.take_zero, List.drop_succ_cons, List.drop_zero]
            repeat (go_big_quiet_step (fail))
            refine wpQuiet_nil ?_
            have sd := HJ.out.1.fr0 (Fr.drew1 [] wr)
            have HD := Lib.hid sd
            clear sd c1 c3 hby
            go_wp2_with (go_at_call 172; refine (rput_any R p F bs out1 a4 oc1 most _ u wr.drew HD.out).mono ?_; rintro e w5 ⟨rfl, hR5⟩; have K5 := Lib.hid hR5; clear hR5)
            go_roundg k
            case measure => omega
            case rel =>
             obtain ⟨a5, out2, oa2, oc2, E5, s5, y5, h5⟩ := K5.out
             obtain ⟨j1, j2, j3, j4, j5, j6, j7, j8, j9⟩ := HJ.out
             refine ⟨j + 1, a5, out2, oa2, oc2, E5, by go_num, by omega, s5, j2.trans ((Way.of0 _ _ _ _ _ (Fr.drew1 [] wr)).trans y5), ?_⟩
             cases hp : iput most out1 u with
             | error e =>
              rw [hp] at h5
              rcases h5 with ⟨k1, k2, k3⟩ | ⟨k1, _⟩
              ·refine .inr ⟨by omega, k3, ?_⟩
               have hec : e = E5 := by simpa [Except.map] using k1
               have e1 : icopy most far n out = .error e := by rw [← j3, icopy, ← j5, ← j6, hp]
               rw [K3.out.2.2.2.2.1 j9.1, if_neg (by omega), e1, hec]
              ·cases k1
             | ok o2 =>
              rw [hp] at h5
              rcases h5 with ⟨k1, _, _⟩ | ⟨k1, k2⟩
              ·cases k1
              ·have hm2 : o2 = out2 ∧ a4 = a5 := by simpa [Except.map] using k1
               obtain ⟨rfl, rfl⟩ := hm2
               have hi := iput_ok hp
               refine .inl ⟨k2, j8, j7, ?_, by rw [hi.1]; simp; omega⟩
               rw [← j3, icopy, ← j5, ← j6, hp]
           ·have d0 : ((E3 : Int) == 0) = false := by simp; omega
            have hM3 : M = .error E3 ∧ E3 < 100 := by
             rcases hcs with ⟨k1, _⟩ | ⟨k1, k2, k3⟩
             ·exact absurd k1 h0
             ·exact ⟨k3, k2⟩
            have HFin := Lib.hid (hfin _ hM3.1 (.inl ⟨rfl, by omega, hM3.2⟩))
            clear hst hway hcs hfin hE2o hM3 h0
            go_wp2
            refine bodyPost_end (results_none rfl _ _ _) rfl ?_
            exact ⟨rfl, HFin.out⟩
          ·obtain rfl : j = n := by omega
           obtain rfl : gk = 0 := by omega
           have HFin : Go.RowKit.Hid (RetW w R p F bs oa most M wr) := Lib.hid (by
            rcases hcs with ⟨k1, k2, k3, k4, k5⟩ | ⟨k1, k2, k3⟩
            ·obtain ⟨q1, q2⟩ := hE2o k2
             refine hfin _ (K3.out.2.2.2.2.1 q1) (.inr ⟨?_, k1⟩)
             rw [if_neg (by omega), ← k4, k3]
             rfl
            ·exact hfin _ k3 (.inl ⟨rfl, by omega, k2⟩))
           clear hst hway hcs hfin hE2o
           go_wp2
           refine bodyPost_end (results_none rfl _ _ _) rfl ?_
           exact ⟨rfl, HFin.out⟩
end Go.Proofs.YtkmpfgpfbmeihaaGreatDoor.inf
namespace Go.Proofs.YtkmpfgpfbmeihaaGreatDoor.inf
open Go Go.RowKit lib bm bl huf
theorem put_n (R p : Nat) (F : List Nat) (bs out : List UInt8) (at_ oc most s : Nat) (oa : Option Addr) (w : World) (h : St w R p F bs at_ out oa oc most) (hs : s < 256) :
  Calls Tryz.prog 186 #[.pointer (some ⟨R, 0, none⟩), .int .u8 (s : Nat)] w (Ret w R p F bs oa most ((iput most out (UInt8.ofNat s)).map fun o => (o, at_))) := by
 have := put_any R p F bs out at_ oc most oa (UInt8.ofNat s) w h
 rwa [show ((UInt8.ofNat s).toNat : Int) = (s : Int) from by simp [UInt8.toNat_ofNat']; omega] at this
theorem imatch_at {bs : List UInt8} {most : Nat} {dl : List Nat} {s a a1 : Nat} {out o : List UInt8} (h : imatch bs most dl s out a = .ok (o, a1)) : a ≤ a1 := by
 have ht : ∀ {n a v b : Nat}, itake bs a n = .ok (v, b) → a ≤ b := fun {n a v b} h => by
  unfold itake at h
  split at h
  ·simp only [Except.ok.injEq, Prod.mk.injEq] at h; omega
  ·cases h
 unfold imatch at h
 split at h
 ·cases h
 ·rename_i n a2 h1
  have e1 : a ≤ a2 := by
   unfold ilength at h1
   split at h1
   ·simp only [Except.ok.injEq, Prod.mk.injEq] at h1; omega
   ·split at h1
    ·simp only [Except.ok.injEq, Prod.mk.injEq] at h1; omega
    ·split at h1
     ·cases h1
     ·rename_i hh; have := ht hh; simp only [Except.ok.injEq, Prod.mk.injEq] at h1; omega
  split at h
  ·cases h
  ·rename_i d a3 h2
   have e2 := (isym_lt h2).2
   split at h
   ·cases h
   ·split at h
    ·cases h
    ·rename_i b a4 h3
     have e3 : a3 ≤ a4 := by
      unfold idist at h3
      split at h3
      ·simp only [Except.ok.injEq, Prod.mk.injEq] at h3; omega
      ·split at h3
       ·cases h3
       ·rename_i hh; have := ht hh; simp only [Except.ok.injEq, Prod.mk.injEq] at h3; omega
     split at h
     ·cases h
     ·split at h
      ·cases h
      ·simp only [Except.ok.injEq, Prod.mk.injEq] at h; omega
set_option maxHeartbeats 4000000 in
theorem symbols_any (R p PL PD : Nat) (F : List Nat) (bs out : List UInt8) (ll dl : List Nat) (at_ oc most : Nat) (oa : Option Addr) (w : World) (h : St w R p F bs at_ out oa oc most) (hL : Tb w PL ll (R :: p :: blk oa)) (hD : Tb w PD dl (R :: p :: blk oa)) :
  Calls Tryz.prog 188 #[.pointer (some ⟨R, 0, none⟩), .pointer (some ⟨PL, 0, none⟩), .pointer (some ⟨PD, 0, none⟩)] w (Ret w R p F bs oa most (isyms bs most ll dl (fuel bs) out at_)) := by
 obtain ⟨M, hM⟩ : ∃ M, M = isyms bs most ll dl (fuel bs) out at_ := ⟨_, rfl⟩
 rw [← hM]
 have H := Lib.hid (And.intro h (And.intro hL (And.intro hD hM)))
 clear h hL hD hM
 go_enter Tryz.func188, Tryz.ntmps188
 go_wp2
 go_step3
 go_wp2
 go_step3
 go_wp2
 go_loopg [6, 7, 8, 9, 10] (fuel bs) (fun k s6 s7 s8 s9 s10 wr => ∃ (a1 : Nat) (out1 : List UInt8) (oa1 : Option Addr) (oc1 : Nat), St wr R p F bs a1 out1 oa1 oc1 most ∧ Way w R p oa wr oa1 ∧ isyms bs most ll dl k out1 a1 = M ∧ 8 * bs.length + 1 ≤ a1 + k)
 case atStart => exact ⟨at_, out, oa, oc, H.out.1, .refl _ _ _ _, H.out.2.2.2.symm, by unfold fuel; omega⟩
 case round =>
  obtain ⟨a1, out1, oa1, oc1, hst, hway, his, hfu⟩ := hrel
  have ha1 := hst.pF.2
  obtain ⟨k, rfl⟩ : ∃ k, gk = k + 1 := ⟨gk - 1, by omega⟩
  have c0 := cell_of hst.box 0
  simp only [List.getElem?_toArray, List.getElem?_cons_zero, List.getElem?_cons_succ] at c0
  have HJ := Lib.hid (And.intro hst (And.intro hway (And.intro his (And.intro (H.out.2.1.way hway) (H.out.2.2.1.way hway)))))
  clear hst hway his
  go_wp2_with (first | (go_at_call 206; refine (sym_any R p PL F bs out1 ll a1 oc1 most oa1 wr HJ.out.1 HJ.out.2.2.2.1).mono ?_; rintro e w2 (⟨v2, c, hm, hc0, hc1, rfl, f1⟩ | ⟨s, a2, hm, rfl, s2, f2⟩); all_goals (try (have K2 := Lib.hid (And.intro hm (And.intro s2 f2)); clear hm s2 f2))) | (go_at_call 186; refine (put_n R p F bs out1 a2 oc1 most s oa1 w2 K2.out.2.1 (by omega)).mono ?_; rintro e w4 (⟨c, hm, hc0, hc1, rfl, f1⟩ | ⟨out2, a4, oa2, oc2, hm, rfl, s4, f4⟩); all_goals (have Km := Lib.hid hm; clear hm); all_goals (try (have K4 := Lib.hid (And.intro s4 f4); clear s4 f4))) | (go_at_call 207; refine (match_any R p PD F bs out1 dl a2 oc1 most s oa1 w2 K2.out.2.1 (HJ.out.2.2.2.2.fr K2.out.2.2 (by simp)) (by omega) (by omega)).mono ?_; rintro e w4 (⟨c, hm, hc0, hc1, rfl, f1⟩ | ⟨out2, a4, oa2, oc2, hm, rfl, s4, f4⟩); all_goals (have Km := Lib.hid hm; clear hm); all_goals (try (have K4 := Lib.hid (And.intro s4 f4); clear s4 f4))))
  ·rw [Exit.noGoto_ret]
   go_ret
   exact .inl ⟨c, by rw [← HJ.out.2.2.1, isyms, hm], hc0, hc1, rfl, HJ.out.2.1.frW f1⟩
  ·rw [Exit.noGoto_ret]
   go_ret
   have hm := Km.out
   cases hp : iput most out1 (UInt8.ofNat s) with
   | ok o2 => rw [hp] at hm; cases hm
   | error e =>
    rw [hp] at hm
    have hec : e = c := by simpa [Except.map] using hm
    have e1 : isyms bs most ll dl (k + 1) out1 a1 = .error c := by
     rw [isyms, K2.out.1]
     simp only [if_pos (show s < 256 by omega), hp, hec]
    exact .inl ⟨c, by rw [← HJ.out.2.2.1, e1], hc0, hc1, rfl, (HJ.out.2.1.trans (Way.of _ _ _ _ _ K2.out.2.2)).frW f1⟩
  ·go_roundg k
   case measure => omega
   case rel =>
    have hm := Km.out
    cases hp : iput most out1 (UInt8.ofNat s) with
    | error e => rw [hp] at hm; cases hm
    | ok o2 =>
     rw [hp] at hm
     have hm2 : o2 = out2 ∧ a2 = a4 := by simpa [Except.map] using hm
     obtain ⟨rfl, rfl⟩ := hm2
     have hlt := (isym_lt K2.out.1).2
     refine ⟨a2, o2, oa2, oc2, K4.out.1, (HJ.out.2.1.trans (Way.of _ _ _ _ _ K2.out.2.2)).trans K4.out.2, ?_, by omega⟩
     rw [← HJ.out.2.2.1, isyms, K2.out.1]
     simp only [if_pos (show s < 256 by omega), hp]
  ·have hse : ((s : Int) == 256) = true := by assumption
   have hs : s = 256 := by have := beq_iff_eq.1 hse; omega
   rw [Exit.noGoto_ret]
   go_ret
   have e1 : isyms bs most ll dl (k + 1) out1 a1 = .ok (out1, a2) := by
    rw [isyms, K2.out.1]
    simp only [if_neg (show ¬ s < 256 by omega), if_pos hs]
   exact .inr ⟨out1, a2, oa1, oc1, by rw [← HJ.out.2.2.1, e1], rfl, K2.out.2.1, HJ.out.2.1.trans (Way.of _ _ _ _ _ K2.out.2.2)⟩
  ·have hse : ((s : Int) == 256) = false := by assumption
   have hs : s ≠ 256 := fun he => by rw [he] at hse; cases hse
   rw [Exit.noGoto_ret]
   go_ret
   have e1 : isyms bs most ll dl (k + 1) out1 a1 = .error 3 := by
    rw [isyms, K2.out.1]
    simp only [if_neg (show ¬ s < 256 by omega), if_neg hs, if_pos (show 286 ≤ s by omega)]
   exact .inl ⟨3, by rw [← HJ.out.2.2.1, e1], by decide, by decide, rfl, HJ.out.2.1.frW (K2.out.2.2.mono (by simp))⟩
  ·have hse : ((s : Int) == 256) = false := by assumption
   rw [Exit.noGoto_ret]
   go_ret
   have hs : s ≠ 256 := fun he => by rw [he] at hse; cases hse
   have e1 : isyms bs most ll dl (k + 1) out1 a1 = .error c := by
    rw [isyms, K2.out.1]
    simp only [if_neg (show ¬ s < 256 by omega), if_neg hs, if_neg (show ¬ 286 ≤ s by omega), Km.out]
   exact .inl ⟨c, by rw [← HJ.out.2.2.1, e1], hc0, hc1, rfl, (HJ.out.2.1.trans (Way.of _ _ _ _ _ K2.out.2.2)).frW f1⟩
  ·have hse : ((s : Int) == 256) = false := by assumption
   go_roundg k
   case measure => omega
   case rel =>
    have hs : s ≠ 256 := fun he => by rw [he] at hse; cases hse
    have hlt := (isym_lt K2.out.1).2
    have hlt2 := imatch_at Km.out
    refine ⟨a4, out2, oa2, oc2, K4.out.1, (HJ.out.2.1.trans (Way.of _ _ _ _ _ K2.out.2.2)).trans K4.out.2, ?_, by omega⟩
    rw [← HJ.out.2.2.1, isyms, K2.out.1]
    simp only [if_neg (show ¬ s < 256 by omega), if_neg hs, if_neg (show ¬ 286 ≤ s by omega), Km.out]
end Go.Proofs.YtkmpfgpfbmeihaaGreatDoor.inf
namespace Go.Proofs.YtkmpfgpfbmeihaaGreatDoor.inf
open Go Go.RowKit lib bm bl huf
theorem rput_n (R p : Nat) (F : List Nat) (bs out : List UInt8) (at_ oc most s : Nat) (oa : Option Addr) (w : World) (h : Sw w R p F bs at_ out oa oc most 0) (hs : s < 256) :
  Calls Tryz.prog 172 #[.pointer (some ⟨R, 0, none⟩), .int .u8 (s : Nat)] w fun e w' => e = .returned (.tuple #[]) ∧ RetW w R p F bs oa most ((iput most out (UInt8.ofNat s)).map fun o => (o, at_)) w' := by
 have := rput_any R p F bs out at_ oc most oa (UInt8.ofNat s) w h
 rwa [show ((UInt8.ofNat s).toNat : Int) = (s : Int) from by simp [UInt8.toNat_ofNat']; omega] at this
theorem map_err {o : Except Nat (List UInt8)} {a E : Nat} (h : o.map (fun o => (o, a)) = .error E) : o = .error E := by
 cases o with
 | error e => simpa [Except.map] using h
 | ok x => cases h
theorem map_ok {o : Except Nat (List UInt8)} {a a' : Nat} {x : List UInt8} (h : o.map (fun o => (o, a)) = .ok (x, a')) : o = .ok x ∧ a' = a := by
 cases o with
 | error e => cases h
 | ok y =>
  have : y = x ∧ a = a' := by simpa [Except.map] using h
  exact ⟨by rw [this.1], this.2.symm⟩
set_option maxHeartbeats 8000000 in
theorem rcoded_any (R p : Nat) (F : List Nat) (bs out : List UInt8) (la da : Option Addr) (lcap dcap L D : Nat) (ll dl : List Nat) (at_ oc most : Nat) (oa : Option Addr) (w : World) (h : Sw w R p F bs at_ out oa oc most 0) (hl : Ld w la lcap ll (R :: p :: blk oa)) (hd : Ld w da dcap dl (R :: p :: blk oa)) (hL : L = ll.length) (hD : D = dl.length) :
  Calls Tryz.prog 142 #[.pointer (some ⟨R, 0, none⟩), .slice la L lcap, .slice da D dcap] w fun e w' => e = .returned (.tuple #[]) ∧ RetW w R p F bs oa most (isyms bs most ll dl (fuel bs) out at_) w' := by
 obtain ⟨M, hM⟩ : ∃ M, M = isyms bs most ll dl (fuel bs) out at_ := ⟨_, rfl⟩
 rw [← hM]
 have H := Lib.hid (And.intro h (And.intro hl (And.intro hd (And.intro hL (And.intro hD hM)))))
 clear h hl hd hL hD hM
 go_enter Tryz.func142, Tryz.ntmps142
 go_wp2
 go_loopg [6] (fuel bs) (fun k s6 wr => ∃ (a1 : Nat) (out1 : List UInt8) (oa1 : Option Addr) (oc1 E : Nat), Sw wr R p F bs a1 out1 oa1 oc1 most E ∧ Way w R p oa wr oa1 ∧ ((E = 0 ∧ isyms bs most ll dl k out1 a1 = M ∧ 8 * bs.length + 1 ≤ a1 + k) ∨ (E ≠ 0 ∧ E < 100 ∧ M = .error E)))
 case atStart => exact ⟨at_, out, oa, oc, 0, H.out.1, .refl _ _ _ _, .inl ⟨rfl, H.out.2.2.2.2.2.symm, by unfold fuel; omega⟩⟩
 case round =>
  obtain ⟨a1, out1, oa1, oc1, E, hst, hway, hcs⟩ := hrel
  have c3 := cell_of hst.box 3
  simp only [List.getElem?_toArray, List.getElem?_cons_zero, List.getElem?_cons_succ] at c3
  by_cases h0 : E = 0
  ·subst h0
   obtain ⟨his, hfu⟩ : isyms bs most ll dl gk out1 a1 = M ∧ 8 * bs.length + 1 ≤ a1 + gk := by
    rcases hcs with ⟨_, k⟩ | ⟨k, _⟩
    ·exact k
    ·exact absurd rfl k
   have ha1 := hst.pF.2
   obtain ⟨k, rfl⟩ : ∃ k, gk = k + 1 := ⟨gk - 1, by omega⟩
   have hsy := sym_any' R p F bs out1 a1 oc1 most oa1 la lcap L ll wr hst (H.out.2.1.way hway) H.out.2.2.2.1
   have HJ := Lib.hid (And.intro hst (And.intro hway (And.intro his (And.intro hfu (And.intro (H.out.2.2.1.way hway) hsy)))))
   clear hst hway his hcs hsy hfu
   go_upto_region 3 with (go_at_call 173; refine HJ.out.2.2.2.2.2.mono ?_; rintro e w2 (⟨a2, c, hm, hc0, hc1, rfl, s2, f2⟩ | ⟨s, a2, hm, rfl, s2, f2⟩))
   ·have c3 := cell_of s2.box 3
    simp only [List.getElem?_toArray, List.getElem?_cons_zero, List.getElem?_cons_succ] at c3
    have d3 : ((c : Int) != 0) = true := by simp; omega
    have hMe : M = .error c := by rw [← HJ.out.2.2.1, isyms, hm]
    have K2 := Lib.hid (And.intro hMe (And.intro f2 s2))
    clear hm f2 s2 hMe
    go_wp2
    go_roundg k
    case measure => omega
    case rel => exact ⟨a2, out1, oa1, oc1, c, K2.out.2.2, HJ.out.2.1.trans (Way.ofRp _ _ _ _ _ K2.out.2.1), .inr ⟨by omega, hc1, K2.out.1⟩⟩
   ·have c3 := cell_of s2.box 3
    simp only [List.getElem?_toArray, List.getElem?_cons_zero, List.getElem?_cons_succ] at c3
    have hsl := (isym_lt hm).1
    have hlt := (isym_lt hm).2
    have hsb : s < 400 := Nat.lt_of_lt_of_le hsl H.out.2.1.len
    have f02 := HJ.out.2.1.trans (Way.ofRp _ _ _ _ _ f2)
    by_cases b1 : s < 256
    ·have d1 : decide ((s : Int) < 256) = true := by simp; omega
     have hpt := rput_n R p F bs out1 a2 oc1 most s oa1 w2 s2 b1
     have hsi : isyms bs most ll dl (k + 1) out1 a1 = match iput most out1 (UInt8.ofNat s) with | .error e => .error e | .ok o => isyms bs most ll dl k o a2 := by
      rw [isyms, hm]
      simp only [if_pos b1]
      cases iput most out1 (UInt8.ofNat s) <;> rfl
     rw [HJ.out.2.2.1] at hsi
     have K2 := Lib.hid (And.intro hpt (And.intro f02 (And.intro hsi hlt)))
     clear hm f2 s2 hpt f02 hsi hsl hlt
     go_wp2_with (go_at_call 172; refine K2.out.1.mono ?_; rintro e w4 ⟨rfl, h4⟩; have K4 := Lib.hid h4; clear h4)
     go_roundg k
     case measure => omega
     case rel =>
      obtain ⟨a4, o4, oa4, oc4, E4, s4, y4, h4⟩ := K4.out
      have hfu := HJ.out.2.2.2.1
      have hlt := K2.out.2.2.2
      refine ⟨a4, o4, oa4, oc4, E4, s4, K2.out.2.1.trans y4, ?_⟩
      rcases h4 with ⟨k1, k2, k3⟩ | ⟨k1, k2⟩
      ·exact .inr ⟨by omega, k3, by rw [K2.out.2.2.1, map_err k1]⟩
      ·obtain ⟨q1, q2⟩ := map_ok k1
       exact .inl ⟨k2, by rw [K2.out.2.2.1, q1, q2], by omega⟩
    ·have d1 : decide ((s : Int) < 256) = false := by simp; omega
     by_cases b2 : s = 256
     ·have hsi : isyms bs most ll dl (k + 1) out1 a1 = .ok (out1, a2) := by
       rw [isyms, hm]
       simp only [if_neg b1, if_pos b2]
      rw [HJ.out.2.2.1] at hsi
      have K2 := Lib.hid (And.intro f02 (And.intro hsi s2))
      clear hm f2 s2 f02 hsi hsl hlt b1
      subst b2
      go_wp2
      refine bodyPost_ret (results_none rfl _ _ _) rfl ?_
      exact ⟨rfl, a2, out1, oa1, oc1, 0, K2.out.2.2, K2.out.1, .inr ⟨K2.out.2.1, rfl⟩⟩
     ·have d2 : ((s : Int) == 256) = false := by simp; omega
      have hmt := rmatch_any R p F bs out1 da dcap D dl a2 oc1 most s oa1 w2 s2 (HJ.out.2.2.2.2.1.rp f2) H.out.2.2.2.2.1 (by omega) hsb
      have hsi : isyms bs most ll dl (k + 1) out1 a1 = match imatch' bs most dl s out1 a2 with | .error e => .error e | .ok (o, a3) => isyms bs most ll dl k o a3 := by
       rw [isyms, hm]
       simp only [if_neg b1, if_neg b2]
       unfold imatch'
       by_cases b3 : 286 ≤ s
       ·rw [if_pos b3, if_pos b3]
       ·rw [if_neg b3, if_neg b3]
        cases imatch bs most dl s out1 a2 <;> rfl
      have hle : ∀ o a3, imatch' bs most dl s out1 a2 = .ok (o, a3) → a2 ≤ a3 := fun o a3 h => by
       unfold imatch' at h
       split at h
       ·cases h
       ·exact imatch_at h
      rw [HJ.out.2.2.1] at hsi
      have K2 := Lib.hid (And.intro hmt (And.intro f02 (And.intro hsi (And.intro hlt hle))))
      clear hm f2 s2 hmt f02 hsi hsl hlt hle b1 b2
      go_wp2_with (go_at_call 174; refine K2.out.1.mono ?_; rintro e w4 ⟨rfl, h4⟩; have K4 := Lib.hid h4; clear h4)
      go_roundg k
      case measure => omega
      case rel =>
       obtain ⟨a4, o4, oa4, oc4, E4, s4, y4, h4⟩ := K4.out
       have hfu := HJ.out.2.2.2.1
       have hlt := K2.out.2.2.2.1
       refine ⟨a4, o4, oa4, oc4, E4, s4, K2.out.2.1.trans y4, ?_⟩
       rcases h4 with ⟨k1, k2, k3⟩ | ⟨k1, k2⟩
       ·exact .inr ⟨by omega, k3, by rw [K2.out.2.2.1, k1]⟩
       ·have := K2.out.2.2.2.2 _ _ k1
        exact .inl ⟨k2, by rw [K2.out.2.2.1, k1], by omega⟩
  ·have d0 : ((E : Int) == 0) = false := by simp; omega
   have hM3 : M = .error E ∧ E < 100 := by
    rcases hcs with ⟨k1, _⟩ | ⟨k1, k2, k3⟩
    ·exact absurd k1 h0
    ·exact ⟨k3, k2⟩
   have HFin : Go.RowKit.Hid (RetW w R p F bs oa most M wr) := Lib.hid ⟨a1, out1, oa1, oc1, E, hst, hway, .inl ⟨hM3.1, by omega, hM3.2⟩⟩
   clear hst hway hcs hM3 h0
   go_wp2
   refine bodyPost_end (results_none rfl _ _ _) rfl ?_
   exact ⟨rfl, HFin.out⟩
end Go.Proofs.YtkmpfgpfbmeihaaGreatDoor.inf
namespace Go.Proofs.YtkmpfgpfbmeihaaGreatDoor.inf
open Go Go.RowKit lib bm bl huf
theorem fresh_at {w : World} {B : Nat} {e : TypeId} {ao : Option Addr} {vs : List Value} (h : Fresh w B e ao vs) (h0 : 0 < vs.length) : ∃ g, ao = some ⟨g, 0, none⟩ ∧ B ≤ g ∧ ∀ j v, vs[j]? = some v → w.cell? ⟨g, j, none⟩ = some v := by
 rcases h with h | ⟨g, cur, rfl, hB, hg, ht⟩
 ·rw [h] at h0; simp at h0
 ·refine ⟨g, rfl, hB, fun j v hv => ?_⟩
  rw [cell_of hg]
  rw [← ht, List.getElem?_take] at hv
  split at hv
  ·simpa using hv
  ·cases hv
theorem or_two (x y : Nat) (hx : x < 256) (hy : y < 256) : bits .or .i64 (x : Int) ((y : Int) * 256) = ((x + 256 * y : Nat) : Int) := by
 have h1 := or_add x y 8 (by simpa using hx)
 rw [show (y : Int) * 256 = ((y * 256 : Nat) : Int) by omega, i64_or_nat x (y * 256) (by omega) (by omega), show y * 256 = y * 2 ^ 8 from rfl, h1]
theorem xor_255 (x : Nat) (h : x < 256) : bits .xor .u8 (if IntKind.u8.signed = true then -1 else IntKind.u8.max) ((x : Nat) : Int) = ((255 - x : Nat) : Int) := by
 have hall : ∀ y : Fin 256, bits .xor .u8 (if IntKind.u8.signed = true then -1 else IntKind.u8.max) ((y.val : Nat) : Int) = ((255 - y.val : Nat) : Int) := by decide +kernel
 exact hall ⟨x, h⟩
theorem byteAt_lt (bs : List UInt8) (i : Nat) : byteAt bs i < 256 := UInt8.toNat_lt _
theorem cut_at {bs : List UInt8} {q n j : Nat} (hj : j < n) (hq : q + j < bs.length) : (((bs.drop q).take n).map bv)[j]? = some (.int .u8 (byteAt bs (q + j) : Nat)) := by
 rw [List.getElem?_map, List.getElem?_take, if_pos hj, List.getElem?_drop, List.getElem?_eq_getElem hq]
 simp [bv, byteAt, hq]
set_option maxHeartbeats 4000000 in
theorem stored_any (R p : Nat) (F : List Nat) (bs out : List UInt8) (at_ oc most : Nat) (oa : Option Addr) (w : World) (h : St w R p F bs at_ out oa oc most) :
  Calls Tryz.prog 166 #[.pointer (some ⟨R, 0, none⟩)] w (Ret w R p F bs oa most (istored bs most out at_)) := by
 obtain ⟨M, hM⟩ : ∃ M, M = istored bs most out at_ := ⟨_, rfl⟩
 rw [← hM]
 have c0 := cell_of h.box 0
 simp only [List.getElem?_toArray, List.getElem?_cons_zero, List.getElem?_cons_succ] at c0
 obtain ⟨q, hq⟩ : ∃ q, q = (at_ + 7) / 8 := ⟨_, rfl⟩
 by_cases hl : q + 4 ≤ bs.length
 ·have hb4 : Calls Tryz.prog 185 #[.pointer (some ⟨p, 0, none⟩), .int .i64 4] w (bits.BytesGood p F bs at_ 4 w) := bits.bytes_good p F bs at_ 4 w h.rd (by omega) (by omega)
  have hM2 : M = if byteAt bs q + byteAt bs (q + 2) = 255 ∧ byteAt bs (q + 1) + byteAt bs (q + 3) = 255 then ibytes bs most (byteAt bs q + 256 * byteAt bs (q + 1)) out (q + 4) else .error 3 := by
   rw [hM]; unfold istored; rw [← hq, if_pos hl]
  have e0 : (((bs.drop q).take 4).map bv).length = 4 := by simp; omega
  obtain ⟨x0, hx0⟩ : ∃ x, x = byteAt bs q := ⟨_, rfl⟩
  obtain ⟨x1, hx1⟩ : ∃ x, x = byteAt bs (q + 1) := ⟨_, rfl⟩
  obtain ⟨x2, hx2⟩ : ∃ x, x = byteAt bs (q + 2) := ⟨_, rfl⟩
  obtain ⟨x3, hx3⟩ : ∃ x, x = byteAt bs (q + 3) := ⟨_, rfl⟩
  have g0 := cut_at (bs := bs) (q := q) (n := 4) (j := 0) (by omega) (by omega)
  have g1 := cut_at (bs := bs) (q := q) (n := 4) (j := 1) (by omega) (by omega)
  have g2 := cut_at (bs := bs) (q := q) (n := 4) (j := 2) (by omega) (by omega)
  have g3 := cut_at (bs := bs) (q := q) (n := 4) (j := 3) (by omega) (by omega)
  rw [Nat.add_zero, ← hx0] at g0
  rw [← hx1] at g1
  rw [← hx2] at g2
  rw [← hx3] at g3
  rw [← hx0, ← hx1, ← hx2, ← hx3] at hM2
  have b0 : x0 < 256 := by rw [hx0]; exact byteAt_lt _ _
  have b1 : x1 < 256 := by rw [hx1]; exact byteAt_lt _ _
  have b2 : x2 < 256 := by rw [hx2]; exact byteAt_lt _ _
  have b3 : x3 < 256 := by rw [hx3]; exact byteAt_lt _ _
  have G := Lib.hid (And.intro g0 (And.intro g1 (And.intro g2 (And.intro g3 e0))))
  have H := Lib.hid (And.intro h (And.intro hb4 (And.intro hM2 hq)))
  clear h hb4 hM2 hM hq hx0 hx1 hx2 hx3 g0 g1 g2 g3 e0
  go_enter Tryz.func166, Tryz.ntmps166
  go_upto_region 4 with (go_at_call 185; refine H.out.2.1.mono ?_; rintro e w1 ⟨ao, rfl, hfr, _, _, hrd, f1⟩; rw [← H.out.2.2.2] at hfr hrd; obtain ⟨g, rfl, _, hc⟩ := fresh_at hfr (by rw [G.out.2.2.2.2]; decide); have d0 := hc 0 _ G.out.1; have d1 := hc 1 _ G.out.2.1; have d2 := hc 2 _ G.out.2.2.1; have d3 := hc 3 _ G.out.2.2.2.1; have K1 := Lib.hid (And.intro (H.out.1.take f1 hrd) f1); clear hc hfr hrd f1)
  obtain ⟨n, hn⟩ : ∃ n, n = x0 + 256 * x1 := ⟨_, rfl⟩
  obtain ⟨y2, hy2⟩ : ∃ y, y = 255 - x2 := ⟨_, rfl⟩
  obtain ⟨y3, hy3⟩ : ∃ y, y = 255 - x3 := ⟨_, rfl⟩
  have hor := or_two x0 x1 b0 b1
  have hxo2 := xor_255 x2 b2
  have hxo3 := xor_255 x3 b3
  rw [← hn] at hor
  rw [← hy2] at hxo2
  rw [← hy3] at hxo3
  have hnb : n < 65536 := by omega
  have hnN := Lib.hid (And.intro hn (And.intro hy2 hy3))
  have c02 : x0 + x2 = 255 ↔ x0 = y2 := by omega
  have c13 : x1 + x3 = 255 ↔ x1 = y3 := by omega
  have hC := Lib.hid (And.intro c02 c13)
  have by2 : y2 < 256 := by omega
  have by3 : y3 < 256 := by omega
  clear hn hy2 hy3 c02 c13
  go_quiet (fail)
  obtain ⟨w2, hw2⟩ : ∃ w2, w2 = w1.drewN nq := ⟨_, rfl⟩
  have f2 : Fr [] w1 w2 := by rw [hw2]; exact .drewN _ _ _
  replace d0 := f2.cell d0 (by simp)
  replace d1 := f2.cell d1 (by simp)
  replace d2 := f2.cell d2 (by simp)
  replace d3 := f2.cell d3 (by simp)
  rw [← hw2]
  have K2 := Lib.hid (And.intro (K1.out.1.fr0 f2) f2)
  clear hw2 f2 hor
  go_upto_region 5 with fail
  have bad : ¬ (x0 + x2 = 255 ∧ x1 + x3 = 255) → M = .error 3 := fun hne => by rw [H.out.2.2.1, if_neg hne]
  have hB := Lib.hid bad
  clear bad
  by_cases p0 : x0 = y2
  ·have n0 : ((x0 : Int) != (y2 : Int)) = false := by rw [p0]; simp
   by_cases p1 : x1 = y3
   ·have n1 : ((x1 : Int) != (y3 : Int)) = false := by rw [p1]; simp
    have hM3 : M = ibytes bs most n out (q + 4) := by rw [H.out.2.2.1, if_pos ⟨hC.out.1.2 p0, hC.out.2.2 p1⟩, hnN.out.1]
    have HM := Lib.hid (And.intro p0 (And.intro p1 hM3))
    clear p0 p1 hM3
    go_quiet (fail)
    obtain ⟨w3, hw3⟩ : ∃ w3, w3 = w2.drewN nq := ⟨_, rfl⟩
    have f3 : Fr [] w2 w3 := by rw [hw3]; exact .drewN _ _ _
    have s3 := K2.out.1.fr0 f3
    rw [show q * 8 + 8 * 4 = 8 * (q + 4) by omega] at s3
    rw [← hw3]
    have K3 := Lib.hid (And.intro s3 (And.intro f3 (((Way.of _ _ _ _ _ K1.out.2).trans (Way.of0 _ _ R p oa K2.out.2)).trans (Way.of0 _ _ _ _ _ f3))))
    clear hw3 s3 f3 d0 d1 d2 d3 c0 n0 n1 hxo2 hxo3
    go_wp2
    go_loopg [2, 6, 7, 8, 48] n (fun k s2 s6 s7 s8 s48 wr => ∃ (j : Nat) (out1 : List UInt8) (oa1 : Option Addr) (oc1 : Nat), s48 = .int .i64 (j : Nat) ∧ j + k = n ∧ St wr R p F bs (8 * (q + 4 + j)) out1 oa1 oc1 most ∧ Way w R p oa wr oa1 ∧ ibytes bs most k out1 (q + 4 + j) = ibytes bs most n out (q + 4))
    case atStart => exact ⟨0, out, oa, oc, rfl, by omega, K3.out.1, K3.out.2.2, rfl⟩
    case round =>
     obtain ⟨j, out1, oa1, oc1, rfl, hjk, hst, hway, hib⟩ := hrel
     obtain ⟨m, hm⟩ : ∃ m, m = q + 4 + j := ⟨_, rfl⟩
     rw [← hm] at hst hib
     by_cases hj : j < n
     ·obtain ⟨k, rfl⟩ : ∃ k, gk = k + 1 := ⟨gk - 1, by omega⟩
      have c0 := cell_of hst.box 0
      simp only [List.getElem?_toArray, List.getElem?_cons_zero, List.getElem?_cons_succ] at c0
      by_cases hl2 : m < bs.length
      ·have hb1 : Calls Tryz.prog 185 #[.pointer (some ⟨p, 0, none⟩), .int .i64 1] wr (bits.BytesGood p F bs (8 * m) 1 wr) := bits.bytes_good p F bs (8 * m) 1 wr hst.rd (by omega) (by omega)
       obtain ⟨u, hu⟩ : ∃ u, u = bs[m]?.getD 0 := ⟨_, rfl⟩
       have g0 := cut_at (bs := bs) (q := m) (n := 1) (j := 0) (by omega) (by omega)
       have gl : (((bs.drop m).take 1).map bv).length = 1 := by simp; omega
       rw [Nat.add_zero, show byteAt bs m = u.toNat by rw [hu]; rfl] at g0
       have HJ := Lib.hid (And.intro hst (And.intro hway (And.intro hib (And.intro hb1 (And.intro g0 (And.intro gl (And.intro hm hu)))))))
       clear hst hway hib hb1 g0 gl hm hu
       go_wp2_with (first | (go_at_call 185; refine HJ.out.2.2.2.1.mono ?_; rintro e w4 ⟨ao, rfl, hfr, _, _, hrd, f1⟩; rw [show (8 * m + 7) / 8 = m by omega] at hfr hrd; obtain ⟨g4, rfl, _, hc⟩ := fresh_at hfr (by rw [HJ.out.2.2.2.2.2.1]; decide); have d0 := hc 0 _ HJ.out.2.2.2.2.1; have K4 := Lib.hid (And.intro (HJ.out.1.take f1 hrd) f1); clear hc hfr hrd f1) | (go_at_call 186; refine (put_any R p F bs out1 _ oc1 most oa1 u w4 K4.out.1).mono ?_; rintro e w5 (⟨c, hm, hc0, hc1, rfl, f1⟩ | ⟨out2, a4, oa2, oc2, hm, rfl, s4, f4⟩); all_goals (have Km := Lib.hid hm; clear hm); all_goals (try (have K5 := Lib.hid (And.intro s4 f4); clear s4 f4))))
       ·go_ret
        have hmm := Km.out
        cases hp : iput most out1 u with
        | ok o2 => rw [hp] at hmm; cases hmm
        | error e =>
         rw [hp] at hmm
         have hec : e = c := by simpa [Except.map] using hmm
         have e1 : ibytes bs most (k + 1) out1 m = .error c := by rw [ibytes, if_pos hl2, ← HJ.out.2.2.2.2.2.2.2, hp, hec]
         exact .inl ⟨c, by rw [HM.out.2.2, ← HJ.out.2.2.1, e1], hc0, hc1, rfl, (HJ.out.2.1.trans (Way.of _ _ _ _ _ K4.out.2)).frW f1⟩
       ·go_roundg k
        case measure => omega
        case rel =>
         have hmm := Km.out
         cases hp : iput most out1 u with
         | error e => rw [hp] at hmm; cases hmm
         | ok o2 =>
          rw [hp] at hmm
          have hm2 : o2 = out2 ∧ m * 8 + 8 * 1 = a4 := by simpa [Except.map] using hmm
          obtain ⟨rfl, rfl⟩ := hm2
          have s5 := K5.out.1
          rw [show m * 8 + 8 * 1 = 8 * (q + 4 + (j + 1)) by have := HJ.out.2.2.2.2.2.2.1; omega] at s5
          refine ⟨j + 1, o2, oa2, oc2, by go_num, by omega, s5, (HJ.out.2.1.trans (Way.of _ _ _ _ _ K4.out.2)).trans K5.out.2, ?_⟩
          rw [← HJ.out.2.2.1, ibytes, if_pos hl2, ← HJ.out.2.2.2.2.2.2.2, hp, show q + 4 + (j + 1) = m + 1 by have := HJ.out.2.2.2.2.2.2.1; omega]
      ·have hb1 : Calls Tryz.prog 185 #[.pointer (some ⟨p, 0, none⟩), .int .i64 1] wr _ := bits.bytes_bad p F bs (8 * m) 1 wr hst.rd (.inr (by omega))
       have e1 : ibytes bs most (k + 1) out1 m = .error 4 := by rw [ibytes, if_neg hl2]
       have HJ := Lib.hid (And.intro hst (And.intro hway (And.intro hib (And.intro hb1 e1))))
       clear hst hway hib hb1 e1 hm
       go_wp2_with (go_at_call 185; refine HJ.out.2.2.2.1.mono ?_; rintro e w4 ⟨rfl, _, f1⟩)
       go_ret
       exact .inl ⟨4, by rw [HM.out.2.2, ← HJ.out.2.2.1, HJ.out.2.2.2.2], by decide, by decide, rfl, HJ.out.2.1.frW (f1.mono (by simp))⟩
     ·have hk0 : gk = 0 := by omega
      subst hk0
      have e1 : ibytes bs most n out (q + 4) = .ok (out1, 8 * m) := by rw [← hib, ibytes]
      have HE := Lib.hid (And.intro hst (And.intro hway e1))
      clear hst hway hib e1 hm
      obtain rfl : j = n := by omega
      go_wp2
      go_ret
      exact .inr ⟨out1, _, oa1, oc1, by rw [HM.out.2.2, HE.out.2.2], rfl, HE.out.1, HE.out.2.1⟩
   ·have n1 : ((x1 : Int) != (y3 : Int)) = true := by simp; omega
    have hM3 : M = .error 3 := hB.out (fun h => p1 (hC.out.2.1 h.2))
    have HM := Lib.hid (And.intro p0 (And.intro p1 hM3))
    clear p0 p1 hM3
    go_quiet (fail)
    go_wp2
    go_ret
    exact .inl ⟨3, HM.out.2.2, by decide, by decide, rfl, ((K1.out.2.trans (K2.out.2.mono (by simp))).trans (Fr.drewN _ _ _)).mono (by simp)⟩
  ·have n0 : ((x0 : Int) != (y2 : Int)) = true := by simp; omega
   have hM3 : M = .error 3 := hB.out (fun h => p0 (hC.out.1.1 h.1))
   have HM := Lib.hid (And.intro p0 hM3)
   clear p0 hM3
   go_quiet (fail)
   go_wp2
   go_ret
   exact .inl ⟨3, HM.out.2, by decide, by decide, rfl, ((K1.out.2.trans (K2.out.2.mono (by simp))).trans (Fr.drewN _ _ _)).mono (by simp)⟩
 ·have hb4 : Calls Tryz.prog 185 #[.pointer (some ⟨p, 0, none⟩), .int .i64 4] w _ := bits.bytes_bad p F bs at_ 4 w h.rd (.inr (by omega))
  have hM2 : M = .error 4 := by rw [hM]; unfold istored; rw [← hq, if_neg hl]
  have H := Lib.hid (And.intro hb4 hM2)
  clear h hb4 hM2 hM hq
  go_enter Tryz.func166, Tryz.ntmps166
  go_wp2_with (go_at_call 185; refine H.out.1.mono ?_; rintro e w1 ⟨rfl, _, f1⟩)
  go_ret
  exact .inl ⟨4, H.out.2, by decide, by decide, rfl, f1.mono (by simp)⟩
end Go.Proofs.YtkmpfgpfbmeihaaGreatDoor.inf
namespace Go.Proofs.YtkmpfgpfbmeihaaGreatDoor.inf
open Go Go.RowKit lib bm bl huf
theorem take_b1 {bs : List UInt8} {q : Nat} (h : q < bs.length) : itake bs (8 * q) 8 = .ok (byteAt bs q, 8 * (q + 1)) := by
 unfold itake
 have e := bytes_drop bs q 1
 rw [Nat.mul_one] at e
 rw [if_pos (by omega), ← e, bval_bytes, List.drop_eq_getElem_cons h, List.take_succ_cons, List.take_zero]
 have : byteAt bs q = bs[q].toNat := by unfold byteAt; rw [List.getElem?_eq_getElem h]; rfl
 rw [this]
 simp only [num]
 congr 2
theorem take_b2 {bs : List UInt8} {q : Nat} (h : q + 2 ≤ bs.length) : itake bs (8 * q) 16 = .ok (byteAt bs q + 256 * byteAt bs (q + 1), 8 * (q + 2)) := by
 unfold itake
 have e := bytes_drop bs q 2
 rw [if_pos (by omega), show 16 = 8 * 2 from rfl, ← e, bval_bytes, List.drop_eq_getElem_cons (show q < bs.length by omega), List.take_succ_cons, List.drop_eq_getElem_cons (show q + 1 < bs.length by omega), List.take_succ_cons, List.take_zero]
 have e0 : byteAt bs q = bs[q].toNat := by unfold byteAt; rw [List.getElem?_eq_getElem (by omega)]; rfl
 have e1 : byteAt bs (q + 1) = bs[q + 1].toNat := by unfold byteAt; rw [List.getElem?_eq_getElem (by omega)]; rfl
 rw [e0, e1]
 simp only [num]
 congr 2
theorem take_torn {bs : List UInt8} {a n : Nat} (h : 8 * bs.length < a + n) : itake bs a n = .error 4 := by unfold itake; rw [if_neg (by omega)]
theorem and_compl {n m : Nat} (h : n + m = 65535) : n &&& m = 0 := by
 obtain rfl : m = 2 ^ 16 - (n + 1) := by omega
 refine Nat.eq_of_testBit_eq fun i => ?_
 rw [Nat.testBit_and, Nat.testBit_two_pow_sub_succ (by omega), Nat.zero_testBit]
 cases n.testBit i <;> simp
theorem i64_and_nat (a b : Nat) (ha : a < 9223372036854775808) (hb : b < 9223372036854775808) : bits .and .i64 (a : Int) (b : Int) = ((a &&& b : Nat) : Int) := by
 have hx : a &&& b < 2 ^ 63 := Nat.and_lt_two_pow _ (by omega)
 show IntKind.i64.wrap ((BitVec.ofInt 64 (a : Int) &&& BitVec.ofInt 64 (b : Int)).toNat : Int) = _
 rw [BitVec.toNat_and, ofInt_i64 a ha, ofInt_i64 b hb, IntKind.wrap_i64]
 omega
theorem i64_and_compl {n m : Nat} (h : n + m = 65535) : bits .and .i64 (n : Int) (m : Int) = 0 := by
 rw [i64_and_nat n m (by omega) (by omega), and_compl h]
 rfl
set_option maxHeartbeats 8000000 in
theorem rstored_any (R p : Nat) (F : List Nat) (bs out : List UInt8) (at_ oc most : Nat) (oa : Option Addr) (w : World) (h : Sw w R p F bs at_ out oa oc most 0) :
  Calls Tryz.prog 140 #[.pointer (some ⟨R, 0, none⟩)] w fun e w' => e = .returned (.tuple #[]) ∧ RetW w R p F bs oa most (istored bs most out at_) w' := by
 obtain ⟨M, hM⟩ : ∃ M, M = istored bs most out at_ := ⟨_, rfl⟩
 rw [← hM]
 have c0 := cell_of h.box 0
 simp only [List.getElem?_toArray, List.getElem?_cons_zero, List.getElem?_cons_succ] at c0
 obtain ⟨q, hq⟩ : ∃ q, q = (at_ + 7) / 8 := ⟨_, rfl⟩
 have hal := bits.ralign_any p F bs at_ w h.rd
 rw [← hq, Nat.mul_comm] at hal
 have hql : q ≤ bs.length := by have := h.pF.2; omega
 have hsb := h.sb
 obtain ⟨n0, hn0⟩ : ∃ n0, n0 = byteAt bs q + 256 * byteAt bs (q + 1) := ⟨_, rfl⟩
 obtain ⟨m0, hm0⟩ : ∃ m0, m0 = byteAt bs (q + 2) + 256 * byteAt bs (q + 2 + 1) := ⟨_, rfl⟩
 have hnb : n0 < 65536 := by have := byteAt_lt bs q; have := byteAt_lt bs (q + 1); omega
 have hmb : m0 < 65536 := by have := byteAt_lt bs (q + 2); have := byteAt_lt bs (q + 2 + 1); omega
 have hM4 : bs.length < q + 4 → M = .error 4 := fun hl => by rw [hM]; unfold istored; rw [← hq, if_neg (by omega)]
 have hMg : q + 4 ≤ bs.length → M = if n0 + m0 = 65535 then ibytes bs most n0 out (q + 4) else .error 3 := fun hl => by
  rw [hM]
  unfold istored
  rw [← hq, if_pos hl]
  have b0 := byteAt_lt bs q
  have b1 := byteAt_lt bs (q + 1)
  have b2 := byteAt_lt bs (q + 2)
  have b3 := byteAt_lt bs (q + 2 + 1)
  rw [show q + 3 = q + 2 + 1 from rfl]
  by_cases hc : n0 + m0 = 65535
  ·rw [if_pos hc, if_pos (by omega), hn0]
  ·rw [if_neg hc, if_neg (by omega)]
 have H := Lib.hid (And.intro h (And.intro hal (And.intro hn0 (And.intro hm0 (And.intro hM4 hMg)))))
 clear h hal hn0 hm0 hM4 hMg hM hq
 go_enter Tryz.func140, Tryz.ntmps140
 go_upto_region 1 with (go_at_call 171; refine H.out.2.1.mono ?_; rintro e w1 ⟨rfl, hr, f1⟩)
 have s1 : Sw w1 R p F bs (8 * q) out oa oc most 0 := H.out.1.take f1 hr
 have K1 := Lib.hid (And.intro s1 (And.intro (f1.mono (T := [R, p]) (by simp)) (rtake_any R p F bs out (8 * q) oc most 16 oa w1 s1 (by decide))))
 clear s1 f1 hr c0
 go_cut [2] from 11 to 12 (fun s2 wc => ∃ n a1 E : Nat, s2 = .int .i64 (n : Nat) ∧ n < 65536 ∧ Sw wc R p F bs a1 out oa oc most E ∧ Fr [R, p] w wc ∧ ((E = 0 ∧ q + 2 ≤ bs.length ∧ n = n0 ∧ a1 = 8 * (q + 2)) ∨ (E = 4 ∧ bs.length < q + 2)))
 case first =>
  go_wp2_with (go_at_call 139; refine K1.out.2.2.mono ?_; rintro e w2 (⟨a1, hm, rfl, s2, f2⟩ | ⟨v, a1, hm, rfl, s2, f2⟩); all_goals (have K2 := Lib.hid (And.intro hm (And.intro s2 f2)); clear hm s2 f2))
  ·go_meet
   case rel =>
    refine ⟨0, a1, 4, rfl, by decide, K2.out.2.1, K1.out.2.1.trans K2.out.2.2, .inr ⟨rfl, ?_⟩⟩
    rcases Nat.lt_or_ge bs.length (q + 2) with k | k
    ·exact k
    ·have := K2.out.1
     rw [take_b2 k] at this
     cases this
  ·go_meet
   case rel =>
    rcases Nat.lt_or_ge bs.length (q + 2) with k | k
    ·have := K2.out.1
     rw [take_torn (by omega)] at this
     cases this
    ·have := K2.out.1
     rw [take_b2 k, ← H.out.2.2.1] at this
     simp only [Except.ok.injEq, Prod.mk.injEq] at this
     obtain ⟨rfl, rfl⟩ := this
     exact ⟨_, _, 0, rfl, hnb, K2.out.2.1, K1.out.2.1.trans K2.out.2.2, .inl ⟨rfl, k, rfl, rfl⟩⟩
 case rest =>
  obtain ⟨n, a1, E, rfl, hnb1, s2, f2, hE⟩ := hcut
  have K2 := Lib.hid (And.intro s2 (And.intro f2 hE))
  obtain ⟨w2, hw2⟩ : ∃ w2, w2 = wc := ⟨_, rfl⟩
  rw [← hw2] at K2 ⊢
  clear s2 f2 hE hw2 K1
  go_upto_region 2 with fail
  go_cut [3] from 13 to 14 (fun s3 wc => ∃ m a2 E2 : Nat, s3 = .int .i64 (m : Nat) ∧ m < 2147483648 ∧ Sw wc R p F bs a2 out oa oc most E2 ∧ Fr [R, p] w wc ∧ ((E2 = 0 ∧ q + 4 ≤ bs.length ∧ n = n0 ∧ m = m0 ∧ a2 = 8 * (q + 4)) ∨ (E2 = 4 ∧ bs.length < q + 4)))
  case first =>
   by_cases h0 : E = 0
   ·subst h0
    obtain ⟨k1, hnn, rfl⟩ : q + 2 ≤ bs.length ∧ n = n0 ∧ a1 = 8 * (q + 2) := by
     rcases K2.out.2.2 with ⟨_, k⟩ | ⟨k, _⟩
     ·exact k
     ·cases k
    have htk := Lib.hid (rtake_any R p F bs out (8 * (q + 2)) oc most 16 oa w2 K2.out.1 (by decide))
    have HNN := Lib.hid hnn
    clear hnn
    go_wp2_with (go_at_call 139; refine htk.out.mono ?_; rintro e w3 (⟨a2, hm, rfl, s3, f3⟩ | ⟨v, a2, hm, rfl, s3, f3⟩); all_goals (have K3 := Lib.hid (And.intro hm (And.intro s3 f3)); clear hm s3 f3))
    ·go_meet
     case rel =>
      refine ⟨0, a2, 4, rfl, by decide, K3.out.2.1, K2.out.2.1.trans K3.out.2.2, .inr ⟨rfl, ?_⟩⟩
      rcases Nat.lt_or_ge bs.length (q + 4) with k | k
      ·exact k
      ·have := K3.out.1
       rw [take_b2 (by omega)] at this
       cases this
    ·go_meet
     case rel =>
      rcases Nat.lt_or_ge bs.length (q + 4) with k | k
      ·have := K3.out.1
       rw [take_torn (by omega)] at this
       cases this
      ·have := K3.out.1
       rw [take_b2 (by omega), ← H.out.2.2.2.1] at this
       simp only [Except.ok.injEq, Prod.mk.injEq] at this
       obtain ⟨rfl, rfl⟩ := this
       exact ⟨_, _, 0, rfl, by omega, K3.out.2.1, K2.out.2.1.trans K3.out.2.2, .inl ⟨rfl, k, HNN.out, rfl, rfl⟩⟩
   ·have hE4 : E = 4 ∧ bs.length < q + 2 := by
     rcases K2.out.2.2 with ⟨k, _⟩ | k
     ·exact absurd k h0
     ·exact k
    have htk := Lib.hid (And.intro hE4 (rtake_err R p F bs out a1 oc most 16 E oa w2 K2.out.1 h0 (by decide)))
    clear hE4 h0
    go_wp2_with (go_at_call 139; refine htk.out.2.mono ?_; rintro e w3 ⟨v, a2, rfl, hv, s3, f3⟩; have K3 := Lib.hid (And.intro s3 f3); clear s3 f3)
    go_meet
    case rel => exact ⟨v, a2, E, rfl, hv, K3.out.1, K2.out.2.1.trans K3.out.2, .inr ⟨htk.out.1.1, by have := htk.out.1.2; omega⟩⟩
  case rest =>
   obtain ⟨m, a2, E2, rfl, hmb1, s3, f3, hE2⟩ := hcut
   have K3 := Lib.hid (And.intro s3 (And.intro f3 (And.intro hE2 (fail_any R p F bs out a2 oc most E2 3 oa wc s3))))
   clear s3 f3 hE2 K2
   go_upto_region 3 with fail
   go_cut [24] from 15 to 24 (fun s24 wd => s24 = .bool (decide (n + m ≠ 65535)) ∧ wc = wd)
   case first =>
    by_cases hs : n + m = 65535
    ·have e1 : (n : Int) + (m : Int) = 65535 := by omega
     have e2 := i64_and_compl hs
     have e3 := Lib.hid hs
     clear hs
     go_wp2
     go_meet
     case rel => exact ⟨by have := e3.out; simp [this], rfl⟩
    ·have e1 : (((n : Int) + (m : Int)) != 65535) = true := by simp; omega
     have e3 := Lib.hid hs
     clear hs
     go_wp2
     go_meet
     case rel => exact ⟨by have := e3.out; simp [this], rfl⟩
   case rest =>
    obtain ⟨rfl, rfl⟩ := hcut
    obtain ⟨bt, hbt⟩ : ∃ b : Bool, b = decide (n + m ≠ 65535) := ⟨_, rfl⟩
    rw [← hbt]
    have HT := Lib.hid hbt
    clear hbt
    go_upto_if 24 with fail
    go_cut [] from 25 to 26 (fun wd => ∃ E3 : Nat, Sw wd R p F bs a2 out oa oc most E3 ∧ Fr [R, p] w wd ∧ ((E3 = 0 ∧ M = ibytes bs most n out (q + 4) ∧ a2 = 8 * (q + 4)) ∨ (E3 ≠ 0 ∧ E3 < 100 ∧ M = .error E3)))
    case first =>
     cases bt
     ·go_wp2
      go_meet
      case rel =>
       refine ⟨E2, K3.out.1, K3.out.2.1, ?_⟩
       rcases K3.out.2.2.1 with ⟨k1, k2, k3, k4, k5⟩ | ⟨k1, k2⟩
       ·have hs : n + m = 65535 := by simpa using HT.out
        refine .inl ⟨k1, ?_, k5⟩
        rw [H.out.2.2.2.2.2 k2, ← k3, ← k4, if_pos hs]
       ·exact .inr ⟨by omega, by omega, by rw [k1]; exact H.out.2.2.2.2.1 k2⟩
     ·go_wp2_with (go_at_call 144; refine K3.out.2.2.2.mono ?_; rintro e w4 ⟨rfl, S4, f4⟩; have K4 := Lib.hid (And.intro S4 f4); clear S4 f4)
      go_meet
      case rel =>
       have hs : n + m ≠ 65535 := by simpa using HT.out
       refine ⟨_, K4.out.1, K3.out.2.1.trans (K4.out.2.mono (by simp)), .inr ?_⟩
       rcases K3.out.2.2.1 with ⟨k1, k2, k3, k4, k5⟩ | ⟨k1, k2⟩
       ·rw [if_pos k1]
        refine ⟨by decide, by decide, ?_⟩
        rw [H.out.2.2.2.2.2 k2, ← k3, ← k4, if_neg hs]
       ·rw [if_neg (by omega), k1]
        exact ⟨by decide, by decide, H.out.2.2.2.2.1 k2⟩
    case rest =>
     obtain ⟨E3, s4, f4, hE3⟩ := hcut
     have K4 := Lib.hid (And.intro s4 (And.intro f4 hE3))
     obtain ⟨w4, hw4⟩ : ∃ w4, w4 = wc := ⟨_, rfl⟩
     rw [← hw4] at K4 ⊢
     clear s4 f4 hE3 hw4 K3
     go_wp2
     go_loopg [4, 5] n (fun k s4 s5 wr => ∃ (i : Nat) (a4 : Nat) (out1 : List UInt8) (oa1 : Option Addr) (oc1 E4 : Nat), s4 = .int .i64 (i : Nat) ∧ i + k = n ∧ Sw wr R p F bs a4 out1 oa1 oc1 most E4 ∧ Way w4 R p oa wr oa1 ∧
      ((E4 = 0 ∧ M = ibytes bs most k out1 (q + 4 + i) ∧ a4 = 8 * (q + 4 + i)) ∨ (E4 ≠ 0 ∧ E4 < 100 ∧ M = .error E4)))
     case atStart => exact ⟨0, a2, out, oa, oc, E3, rfl, by omega, K4.out.1, .refl _ _ _ _, K4.out.2.2⟩
     case round =>
      obtain ⟨i, a4, out1, oa1, oc1, E4, rfl, hik, hst, hway, hcs⟩ := hrel
      have c3 := cell_of hst.box 3
      simp only [List.getElem?_toArray, List.getElem?_cons_zero, List.getElem?_cons_succ] at c3
      have hW := (Way.ofRp _ _ _ _ _ K4.out.2.1).trans hway
      by_cases hi : i < n
      ·by_cases h0 : E4 = 0
       ·subst h0
        obtain ⟨k, rfl⟩ : ∃ k, gk = k + 1 := ⟨gk - 1, by omega⟩
        obtain ⟨hib, rfl⟩ : M = ibytes bs most (k + 1) out1 (q + 4 + i) ∧ a4 = 8 * (q + 4 + i) := by
         rcases hcs with ⟨_, k⟩ | ⟨k, _⟩
         ·exact k
         ·exact absurd rfl k
        have htk := rtake_any R p F bs out1 (8 * (q + 4 + i)) oc1 most 8 oa1 wr hst (by decide)
        have HJ := Lib.hid (And.intro hst (And.intro hway (And.intro hib (And.intro htk hik))))
        clear hst hway hcs hib htk hW
        go_upto_region 9 with (go_at_call 139; refine HJ.out.2.2.2.1.mono ?_; rintro e w5 (⟨a5, hm, rfl, s5, f5⟩ | ⟨v, a5, hm, rfl, s5, f5⟩))
        ·have c3 := cell_of s5.box 3
         simp only [List.getElem?_toArray, List.getElem?_cons_zero, List.getElem?_cons_succ] at c3
         have K5 := Lib.hid (And.intro hm (And.intro s5 f5))
         clear hm s5 f5
         go_wp2
         go_roundg k
         case measure => have := HJ.out.2.2.2.2; omega
         case rel =>
          obtain ⟨j1, j2, j3, j4, j5⟩ := HJ.out
          refine ⟨i + 1, a5, out1, oa1, oc1, 4, by go_num, by omega, K5.out.2.1, j2.trans (Way.ofRp _ _ _ _ _ K5.out.2.2), .inr ⟨by decide, by decide, ?_⟩⟩
          rw [j3, ibytes, if_neg]
          intro hq
          have := K5.out.1
          rw [take_b1 hq] at this
          cases this
        ·have c3 := cell_of s5.box 3
         simp only [List.getElem?_toArray, List.getElem?_cons_zero, List.getElem?_cons_succ] at c3
         have hql : q + 4 + i < bs.length := by
          rcases Nat.lt_or_ge (q + 4 + i) bs.length with k | k
          ·exact k
          ·rw [take_torn (by omega)] at hm
           cases hm
         have hm2 := hm
         rw [take_b1 hql] at hm2
         simp only [Except.ok.injEq, Prod.mk.injEq] at hm2
         obtain ⟨hv, rfl⟩ := hm2
         have hvb : v < 256 := by rw [← hv]; exact byteAt_lt _ _
         have hvu : UInt8.ofNat v = bs[q + 4 + i]?.getD 0 := by
          rw [← hv]
          unfold byteAt
          exact UInt8.ofNat_toNat
         have hpt := rput_n R p F bs out1 (8 * (q + 4 + i + 1)) oc1 most v oa1 w5 s5 hvb
         rw [hvu] at hpt
         have hpu := Lib.hid hvu
         have K5 := Lib.hid (And.intro hpt (And.intro f5 hql))
         clear hm s5 f5 hv hvu hpt hql
         go_wp2_with (go_at_call 172; refine K5.out.1.mono ?_; rintro e w6 ⟨rfl, h6⟩; have K6 := Lib.hid h6; clear h6)
         go_roundg k
         case measure => have := HJ.out.2.2.2.2; omega
         case rel =>
          obtain ⟨j1, j2, j3, j4, j5⟩ := HJ.out
          obtain ⟨a6, o6, oa6, oc6, E6, s6, y6, h6⟩ := K6.out
          refine ⟨i + 1, a6, o6, oa6, oc6, E6, by go_num, by omega, s6, j2.trans ((Way.ofRp _ _ _ _ _ K5.out.2.1).trans y6), ?_⟩
          have hib := j3
          rw [ibytes, if_pos K5.out.2.2] at hib
          rcases h6 with ⟨k1, k2, k3⟩ | ⟨k1, k2⟩
          ·exact .inr ⟨by omega, k3, by rw [hib, map_err k1]⟩
          ·obtain ⟨q1, q2⟩ := map_ok k1
           rw [q1] at hib
           exact .inl ⟨k2, hib, q2⟩
       ·have d0 : ((E4 : Int) == 0) = false := by simp; omega
        have hM3 : M = .error E4 ∧ E4 < 100 := by
         rcases hcs with ⟨k1, _⟩ | ⟨k1, k2, k3⟩
         ·exact absurd k1 h0
         ·exact ⟨k3, k2⟩
        have HFin : Go.RowKit.Hid (RetW w R p F bs oa most M wr) := Lib.hid ⟨a4, out1, oa1, oc1, E4, hst, hW, .inl ⟨hM3.1, by omega, hM3.2⟩⟩
        clear hst hway hcs hM3 h0 hW
        go_wp2
        refine bodyPost_end (results_none rfl _ _ _) rfl ?_
        exact ⟨rfl, HFin.out⟩
      ·obtain rfl : i = n := by omega
       obtain rfl : gk = 0 := by omega
       have HFin : Go.RowKit.Hid (RetW w R p F bs oa most M wr) := Lib.hid ⟨a4, out1, oa1, oc1, E4, hst, hW, by
        rcases hcs with ⟨k1, k2, k3⟩ | ⟨k1, k2, k3⟩
        ·exact .inr ⟨by rw [k2, ibytes, k3], k1⟩
        ·exact .inl ⟨k3, by omega, k2⟩⟩
       clear hst hway hcs hW
       go_wp2
       refine bodyPost_end (results_none rfl _ _ _) rfl ?_
       exact ⟨rfl, HFin.out⟩
end Go.Proofs.YtkmpfgpfbmeihaaGreatDoor.inf
namespace Go.Proofs.YtkmpfgpfbmeihaaGreatDoor.inf
open Go Go.RowKit lib bm bl huf
theorem ifix_1 {i : Nat} (h : i < 144) : ifix i = 8 := by unfold ifix; rw [if_pos h]
theorem ifix_2 {i : Nat} (h1 : ¬ i < 144) (h : i < 256) : ifix i = 9 := by unfold ifix; rw [if_neg h1, if_pos h]
theorem ifix_3 {i : Nat} (h1 : ¬ i < 144) (h2 : ¬ i < 256) (h : i < 280) : ifix i = 7 := by unfold ifix; rw [if_neg h1, if_neg h2, if_pos h]
theorem ifix_4 {i : Nat} (h1 : ¬ i < 144) (h2 : ¬ i < 256) (h : ¬ i < 280) : ifix i = 8 := by unfold ifix; rw [if_neg h1, if_neg h2, if_neg h]
theorem ifix_le (i : Nat) : ifix i ≤ 15 := by unfold ifix; split; omega; split; omega; split <;> omega
theorem fixed_le : ∀ l ∈ fixed 288, l ≤ 15 := fun l hl => by
 obtain ⟨i, _, rfl⟩ := List.mem_map.1 hl
 exact ifix_le i
theorem fixed_weight : weight (fixed 288) = 32768 := by decide +kernel
theorem five_weight : weight (List.replicate 32 5) = 32768 := by decide +kernel
theorem five_map : (List.range 32).map (fun _ => 5) = List.replicate 32 5 := by decide +kernel
theorem fill_step {i v s : Nat} (hv : ifix i = v) : (if s = i then v else if s < i then ifix s else 0) = if s < i + 1 then ifix s else 0 := by
 by_cases e : s = i
 ·rw [if_pos e, if_pos (by omega), e, hv]
 ·rw [if_neg e]
  by_cases e2 : s < i
  ·rw [if_pos e2, if_pos (by omega)]
  ·rw [if_neg e2, if_neg (by omega)]
theorem tabb_tb {w : World} {P D B E : Nat} {ls X : List Nat} {first : Nat → Nat} {sa : Nat → Option Addr} {sc : Nat → Nat} (h : TabB w P D ls first sa sc B E) (hE : E ≤ w.heap.size) (hX : ∀ x ∈ X, x < B) : Tb w P ls X :=
 ⟨D, first, sa, sc, h.tab, Nat.lt_of_lt_of_le h.at_.2 hE, fun hP => by have := hX P hP; have := h.at_.1; omega, fun l hl x hx => ⟨Nat.lt_of_lt_of_le (h.row l hl x hx).2 hE, fun hxX => by have := hX x hxX; have := (h.row l hl x hx).1; omega⟩⟩
theorem St.under {w : World} {R p : Nat} {F : List Nat} {bs out : List UInt8} {at_ oc most : Nat} {oa : Option Addr} (h : St w R p F bs at_ out oa oc most) : ∀ x ∈ R :: p :: blk oa, x < w.heap.size := fun x hx => by
 simp only [List.mem_cons] at hx
 rcases hx with rfl | rfl | hx
 ·exact lt_of_block h.box
 ·exact h.low _ h.pF.1
 ·exact owns_lt h.own (blk_own hx)
set_option maxHeartbeats 4000000 in
theorem fixed_any (R p : Nat) (F : List Nat) (bs out : List UInt8) (at_ oc most : Nat) (oa : Option Addr) (w : World) (h : St w R p F bs at_ out oa oc most) :
  Calls Tryz.prog 167 #[.pointer (some ⟨R, 0, none⟩)] w (Ret w R p F bs oa most (ifixed bs most out at_)) := by
 obtain ⟨hu, ⟨ti, hi', hz', hs', hb'⟩, hcz, hp⟩ := huf.sty_int
 have H := Lib.hid h
 clear h
 go_enter Tryz.func167, Tryz.ntmps167
 obtain ⟨Q, hQ⟩ : ∃ Q, Q = w.heap.size := ⟨_, rfl⟩
 have HQ := Lib.hid hQ
 clear hQ
 go_upto_block 0 with (refine wpList_make_full _ rfl _ _ 28 rfl 0 3 ti (.int .i64 0) 1 hu hi' hz' hs' .i64 .i64 288 288 288 rfl rfl rfl rfl (by rw [hb']; omega) (by unfold maxLen; omega) (by omega) ?_; intro w1 own1 grow1; have H1 := Lib.hid (And.intro own1 grow1); clear own1 grow1)
 rw [← HQ.out] at H1 ⊢
 have hq1 : Ow w1 Q 288 (fun _ => 0) := ow_made H1.out.1
 have f1 : Fr [] w w1 := (Fr.refl [] w).grown H1.out.2 (fun k hk => by cases hk)
 have HS := Lib.hid (And.intro hq1 f1)
 clear hq1 f1 H1
 go_wp2
 go_loopg [4, 14, 20, 26, 32] 288 (fun k s4 s14 s20 s26 s32 wr => ∃ i : Nat, s14 = .int .i64 (i : Nat) ∧ i + k = 288 ∧ Ow wr Q 288 (fun j => if j < i then ifix j else 0) ∧ Fr [] w wr)
 case atStart => exact ⟨0, rfl, rfl, HS.out.1.congr fun s _ => by simp, HS.out.2⟩
 case round =>
  obtain ⟨i, rfl, hik, how, hf⟩ := hrel
  by_cases hi : i < 288
  ·obtain ⟨k, rfl⟩ : ∃ k, gk = k + 1 := ⟨gk - 1, by omega⟩
   have c1 := how.cell hi
   have z1 := how.frozen i
   have HI := Lib.hid (And.intro how hf)
   clear how hf
   go_wp2
   ·go_roundg k
    case measure => omega
    case rel => exact ⟨i + 1, by go_num, by omega, (HI.out.1.set hi 8).congr (fun s _ => fill_step (ifix_1 (by omega))), HI.out.2.step ((Fr.refl [Q] wr).setCell (by simp) _) (fun z hz => .inr (by simp at hz; rw [hz, HQ.out]; exact Nat.le_refl _))⟩
   ·go_roundg k
    case measure => omega
    case rel => exact ⟨i + 1, by go_num, by omega, (HI.out.1.set hi 9).congr (fun s _ => fill_step (ifix_2 (by omega) (by omega))), HI.out.2.step ((Fr.refl [Q] wr).setCell (by simp) _) (fun z hz => .inr (by simp at hz; rw [hz, HQ.out]; exact Nat.le_refl _))⟩
   ·go_roundg k
    case measure => omega
    case rel => exact ⟨i + 1, by go_num, by omega, (HI.out.1.set hi 7).congr (fun s _ => fill_step (ifix_3 (by omega) (by omega) (by omega))), HI.out.2.step ((Fr.refl [Q] wr).setCell (by simp) _) (fun z hz => .inr (by simp at hz; rw [hz, HQ.out]; exact Nat.le_refl _))⟩
   ·go_roundg k
    case measure => omega
    case rel => exact ⟨i + 1, by go_num, by omega, (HI.out.1.set hi 8).congr (fun s _ => fill_step (ifix_4 (by omega) (by omega) (by omega))), HI.out.2.step ((Fr.refl [Q] wr).setCell (by simp) _) (fun z hz => .inr (by simp at hz; rw [hz, HQ.out]; exact Nat.le_refl _))⟩
  ·obtain rfl : i = 288 := by omega
   have hfix : Ow wr Q 288 ifix := how.congr fun s hs => if_pos hs
   obtain ⟨w2, rfl⟩ : ∃ w2 : World, w2 = wr := ⟨_, rfl⟩
   obtain ⟨Q2, hQ2⟩ : ∃ Q2, Q2 = w2.heap.size := ⟨_, rfl⟩
   have HI := Lib.hid (And.intro hfix (And.intro hf hQ2))
   clear how hf hfix hQ2 hik
   go_upto_block 3 with (refine wpList_make_full _ rfl _ _ 28 rfl 0 3 ti (.int .i64 0) 1 hu hi' hz' hs' .i64 .i64 32 32 32 rfl rfl rfl rfl (by rw [hb']; omega) (by unfold maxLen; omega) (by omega) ?_; intro w3 own3 grow3; have H3 := Lib.hid (And.intro own3 grow3); clear own3 grow3)
   rw [← HI.out.2.2] at H3 ⊢
   have hq3 : Ow w3 Q2 32 (fun _ => 0) := ow_made H3.out.1
   have f3 : Fr [] w2 w3 := (Fr.refl [] w2).grown H3.out.2 (fun k hk => by cases hk)
   have HT := Lib.hid (And.intro hq3 (And.intro f3 (HI.out.1.fr f3 (by simp))))
   clear hq3 f3 H3 hu hi' hz' hs' hb' hcz hp
   go_wp2
   go_loopg [6, 42] 32 (fun k s6 s42 wr => ∃ i : Nat, s42 = .int .i64 (i : Nat) ∧ i + k = 32 ∧ Ow wr Q2 32 (fun j => if j < i then 5 else 0) ∧ Ow wr Q 288 ifix ∧ Fr [] w wr)
   case atStart => exact ⟨0, rfl, rfl, HT.out.1.congr fun s _ => by simp, HT.out.2.2, HI.out.2.1.trans HT.out.2.1⟩
   case round =>
    obtain ⟨j, rfl, hjk, how, how0, hf⟩ := hrel
    have hQQ : Q < Q2 := by
     obtain ⟨A, hA, _⟩ := HI.out.1
     rw [HI.out.2.2]
     exact lt_of_block hA
    by_cases hj : j < 32
    ·obtain ⟨k, rfl⟩ : ∃ k, gk = k + 1 := ⟨gk - 1, by omega⟩
     have c1 := how.cell hj
     have z1 := how.frozen j
     have HJ := Lib.hid (And.intro how (And.intro how0 hf))
     clear how how0 hf
     go_wp2
     go_roundg k
     case measure => omega
     case rel => exact ⟨j + 1, by go_num, by omega, (HJ.out.1.set hj 5).congr (fun s _ => by
      by_cases e : s = j
      ·rw [if_pos e, if_pos (by omega)]
      ·rw [if_neg e]
       by_cases e2 : s < j
       ·rw [if_pos e2, if_pos (by omega)]
       ·rw [if_neg e2, if_neg (by omega)]), HJ.out.2.1.fr ((Fr.refl [Q2] wr).setCell (by simp) _) (by simp; omega), HJ.out.2.2.step ((Fr.refl [Q2] wr).setCell (by simp) _) (fun z hz => .inr (by simp at hz; rw [hz, HI.out.2.2]; exact HI.out.2.1.size))⟩
    ·obtain rfl : j = 32 := by omega
     have h5 : Ow wr Q2 32 (fun _ => 5) := how.congr fun s hs => if_pos hs
     have r1 : Ri wr (some ⟨Q, 0, none⟩) 288 (fixed 288) := ⟨how0.cs, by decide +kernel, by decide, fun h => by cases h⟩
     have r2 : Ri wr (some ⟨Q2, 0, none⟩) 32 (List.replicate 32 5) := ⟨by have := h5.cs; rw [five_map] at this; exact this, by decide, by decide, fun h => by cases h⟩
     obtain ⟨wo, rfl⟩ : ∃ wo : World, wo = wr := ⟨_, rfl⟩
     have N1 : Calls Tryz.prog 187 #[.slice (some ⟨Q, 0, none⟩) 288 288] wo (NewTab wo (fixed 288)) := new_tab (some ⟨Q, 0, none⟩) 288 (fixed 288) wo r1 fixed_le (by decide +kernel) (by rw [fixed_weight]; exact Nat.le_refl _)
     have N2 : ∀ w5, Fr [] wo w5 → Calls Tryz.prog 187 #[.slice (some ⟨Q2, 0, none⟩) 32 32] w5 (NewTab w5 (List.replicate 32 5)) := fun w5 f5 => new_tab (some ⟨Q2, 0, none⟩) 32 (List.replicate 32 5) w5 (r2.fr f5) (fun l hl => by rw [(List.mem_replicate.1 hl).2]; decide) (by decide) (by rw [five_weight]; exact Nat.le_refl _)
     have HN := Lib.hid (And.intro N1 (And.intro N2 hf))
     clear how how0 hf h5 r1 r2 N1 N2 hj hjk
     go_wp2_with (first | (go_at_call 187; (with_reducible refine HN.out.1.mono ?_); rintro e w4 ⟨P, D, first, sa, sc, rfl, htb, f4⟩; have K4 := Lib.hid (And.intro htb f4); clear htb f4) | (go_at_call 187; (with_reducible refine (HN.out.2.1 _ K4.out.2).mono ?_); rintro e w5 ⟨P5, D5, first5, sa5, sc5, rfl, htb, f5⟩; have K5 := Lib.hid (And.intro htb f5); clear htb f5) | (go_at_call 188; have hu := H.out.under; go_loud (refine (symbols_any R p P P5 F bs out (fixed 288) (List.replicate 32 5) at_ oc most oa w5 (H.out.fr0 ((HN.out.2.2.trans K4.out.2).trans K5.out.2)) ((tabb_tb K4.out.1 (Nat.le_refl _) (fun x hx => Nat.lt_of_lt_of_le (hu x hx) HN.out.2.2.size)).fr K5.out.2 (by simp)) (tabb_tb K5.out.1 (Nat.le_refl _) (fun x hx => Nat.lt_of_lt_of_le (hu x hx) (HN.out.2.2.trans K4.out.2).size))).mono ?_); rintro e w6 (⟨c, hm, hc0, hc1, rfl, f6⟩ | ⟨o6, a6, oa6, oc6, hm, rfl, s6, f6⟩); all_goals (have Km := Lib.hid hm; clear hm); all_goals (try (have K6 := Lib.hid (And.intro s6 f6); clear s6 f6))))
     ·go_ret
      exact .inl ⟨c, Km.out, hc0, hc1, rfl, (((HN.out.2.2.trans K4.out.2).trans K5.out.2).mono (by simp)).trans f6⟩
     ·go_ret
      exact .inr ⟨o6, a6, oa6, oc6, Km.out, rfl, K6.out.1, (Way.of0 _ _ _ _ _ ((HN.out.2.2.trans K4.out.2).trans K5.out.2)).trans K6.out.2⟩
end Go.Proofs.YtkmpfgpfbmeihaaGreatDoor.inf
