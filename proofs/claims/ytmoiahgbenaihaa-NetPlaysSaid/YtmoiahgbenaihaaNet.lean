/-
  net.Net: what a net is in memory; New, Len, Lost, At.
-/
import Derived.Test.YtmoiahgbenaihaaNetLib
import Derived.Test.YtmoiahgbenaihaaMix
namespace Go.Proofs.Ytmoiahgbenaihaa.net
open Go Go.RowKit Go.Proofs.Ytmoiahgbenaihaa.lib

/-- A datagram on its way. -/
structure Gr where
  src : Int
  dst : Int
  ao : Option Addr
  cap : Nat
  bs : List UInt8
def Gr.cells (g : Gr) : List Value := [.int .i64 g.src, .int .i64 g.dst, .slice g.ao g.bs.length g.cap]
structure Gr.Ok (w : World) (g : Gr) : Prop where
  cs : Cs w g.ao (g.bs.map bv)
  le : g.bs.length ≤ g.cap
  nil : g.ao = none → g.cap = 0
  lim : g.bs.length ≤ 1500
  lt : ∀ x ∈ blk g.ao, x < w.heap.size
def cellsOf : List Gr → List Value
  | [] => []
  | g :: r => g.cells ++ cellsOf r
theorem cellsOf_append : ∀ a b : List Gr, cellsOf (a ++ b) = cellsOf a ++ cellsOf b
  | [], b => rfl
  | g :: a, b => by simp only [List.cons_append, cellsOf, cellsOf_append a b, List.append_assoc]
theorem cellsOf_length : ∀ a : List Gr, (cellsOf a).length = a.length * 3
  | [] => rfl
  | g :: a => by simp only [cellsOf, List.length_append, cellsOf_length a, Gr.cells, List.length_cons, List.length_nil]; omega
theorem cellsOf_one : ∀ (a : List Gr), ∀ u ∈ cellsOf a, u.oneCell' = true
  | [], u, h => by cases h
  | g :: a, u, h => by
    rcases List.mem_append.1 h with h | h
    · simp only [Gr.cells, List.mem_cons, List.not_mem_nil, or_false] at h
      rcases h with rfl | rfl | rfl <;> rfl
    · exact cellsOf_one a u h
theorem cellsOf_at : ∀ (l : List Gr) (i : Nat) (h : i < l.length), (cellsOf l)[i * 3]? = some (.int .i64 l[i].src) ∧ (cellsOf l)[i * 3 + 1]? = some (.int .i64 l[i].dst) ∧ (cellsOf l)[i * 3 + 2]? = some (.slice l[i].ao l[i].bs.length l[i].cap)
  | g :: l, 0, h => ⟨rfl, rfl, rfl⟩
  | g :: l, i + 1, h => by
    have h' : i < l.length := by simpa using h
    have hs : ∀ k, (cellsOf (g :: l))[(i + 1) * 3 + k]? = (cellsOf l)[i * 3 + k]? := fun k => by
      simp only [cellsOf]
      rw [List.getElem?_append_right (by simp [Gr.cells]; omega)]
      congr 1
      simp [Gr.cells]; omega
    have h0 := hs 0
    simp only [Nat.add_zero] at h0
    rw [h0, hs 1, hs 2]
    exact cellsOf_at l i h'
theorem cellsOf_take : ∀ (l : List Gr) (i : Nat), cellsOf (l.take i) = (cellsOf l).take (3 * i)
  | [], i => by simp [cellsOf]
  | g :: l, 0 => by simp [cellsOf]
  | g :: l, i + 1 => by
    rw [show 3 * (i + 1) = 3 * i + 1 + 1 + 1 from by omega]
    simp only [List.take_succ_cons, cellsOf, cellsOf_take l i, Gr.cells, List.cons_append, List.nil_append]
theorem cellsOf_drop : ∀ (l : List Gr) (i : Nat), cellsOf (l.drop i) = (cellsOf l).drop (3 * i)
  | [], i => by simp [cellsOf]
  | g :: l, 0 => by simp [cellsOf]
  | g :: l, i + 1 => by
    rw [show 3 * (i + 1) = 3 * i + 1 + 1 + 1 from by omega]
    simp only [List.drop_succ_cons, cellsOf, cellsOf_drop l i, Gr.cells, List.cons_append, List.nil_append]

structure NtV (w : World) (p : Nat) (v : Value) (mtu most lost : Nat) (l : List Gr) : Prop where
  hr : w.heap[p]? = some (.cells #[.int .i64 mtu, .int .i64 most, v, .int .i64 lost] 53 (0, 0))
  own : w.ownsRow 0 56 3 v l.length (cellsOf l)
  pb : v.ownBlock ≠ some p
  ok : ∀ g ∈ l, g.Ok w
  far : ∀ g ∈ l, ∀ x ∈ blk g.ao, x ≠ p ∧ v.ownBlock ≠ some x
  mtuLe : mtu ≤ 1500
  mostLe : most ≤ 1000
  len : l.length ≤ most
/-- The blocks that a net lies in. -/
def feet (p : Nat) (v : Value) (l : List Gr) : List Nat := p :: (v.ownBlock.toList ++ l.flatMap fun g => blk g.ao)
def Nt (w : World) (p : Nat) (F : List Nat) (mtu most lost : Nat) (l : List Gr) : Prop := ∃ v, NtV w p v mtu most lost l ∧ F = feet p v l
theorem Gr.Ok.fr {w w' : World} {g : Gr} {S : List Nat} (h : g.Ok w) (f : Fr S w w') (hn : ∀ x ∈ blk g.ao, x ∉ S) : g.Ok w' :=
  ⟨h.cs.fr f hn, h.le, h.nil, h.lim, fun x hx => Nat.lt_of_lt_of_le (h.lt x hx) f.size⟩
theorem nt_fr {w w' : World} {p : Nat} {F S : List Nat} {mtu most lost : Nat} {l : List Gr} (h : Nt w p F mtu most lost l) (f : Fr S w w') (hn : ∀ x ∈ F, x ∉ S) : Nt w' p F mtu most lost l := by
  obtain ⟨v, h, rfl⟩ := h
  refine ⟨v, ⟨f.blk h.hr (hn p (by simp [feet])), ownsRow_fr h.own f (fun k hk => hn k (by simp [feet, hk])), h.pb, fun g hg => (h.ok g hg).fr f fun x hx => hn x ?_, h.far, h.mtuLe, h.mostLe, h.len⟩, rfl⟩
  simp only [feet, List.mem_cons, List.mem_append, List.mem_flatMap]
  exact .inr (.inr ⟨g, hg, hx⟩)
theorem nt_lt {w : World} {p : Nat} {F : List Nat} {mtu most lost : Nat} {l : List Gr} (h : Nt w p F mtu most lost l) : ∀ x ∈ F, x < w.heap.size := by
  obtain ⟨v, h, rfl⟩ := h
  intro x hx
  simp only [feet, List.mem_cons, List.mem_append, List.mem_flatMap] at hx
  rcases hx with rfl | hx | ⟨g, hg, hx⟩
  · exact lt_of_block h.hr
  · exact owns_lt h.own (by simpa using hx)
  · exact (h.ok g hg).lt x hx
theorem nt_mem {w : World} {p : Nat} {F : List Nat} {mtu most lost : Nat} {l : List Gr} (h : Nt w p F mtu most lost l) : p ∈ F := by
  obtain ⟨v, h, rfl⟩ := h
  simp [feet]
theorem nt_len {w : World} {p : Nat} {F : List Nat} {mtu most lost : Nat} {l : List Gr} (h : Nt w p F mtu most lost l) : l.length ≤ most ∧ most ≤ 1000 ∧ mtu ≤ 1500 := by
  obtain ⟨v, h, rfl⟩ := h
  exact ⟨h.len, h.mostLe, h.mtuLe⟩

/-! ### New, Len, Lost -/
def Made (mtu most : Nat) (w : World) (e : Ending) (w' : World) : Prop :=
  ∃ p, e = .returned (.tuple #[.pointer (some ⟨p, 0, none⟩), .int .i64 0]) ∧ Nt w' p [p] mtu most 0 [] ∧ Fr [] w w' ∧ w.heap.size ≤ p
set_option maxHeartbeats 1000000 in
theorem new_good (mtu most : Nat) (w : World) (h1 : 64 ≤ mtu) (h2 : mtu ≤ 1500) (h3 : 1 ≤ most) (h4 : most ≤ 1000) :
    Calls Try.prog 6 #[.int .i64 mtu, .int .i64 most] w (Made mtu most w) := by
  have g1 : decide ((mtu : Int) < 64) = false := by simp; omega
  have g2 : decide ((1500 : Int) < mtu) = false := by simp; omega
  have g3 : decide ((most : Int) < 1) = false := by simp; omega
  have g4 : decide ((1000 : Int) < most) = false := by simp; omega
  go_enter Try.func6, Try.ntmps6
  go_wp2
  go_ret2
  exact ⟨w.heap.size, rfl, ⟨.slice none 0 0, ⟨alloc_at _ _, World.ownsRow_nil _ _ _ _, by simp [Value.ownBlock], by simp, by simp, h2, h4, by simp⟩, by simp [feet, Value.ownBlock]⟩, (Fr.refl _ w).alloc _, Nat.le_refl _⟩
theorem new_bad (mtu most : Int) (w : World) (h : mtu < 64 ∨ 1500 < mtu ∨ most < 1 ∨ 1000 < most) :
    Calls Try.prog 6 #[.int .i64 mtu, .int .i64 most] w fun e w' => e = .returned (.tuple #[.pointer none, .int .i64 1]) ∧ w' = w := by
  by_cases h1 : mtu < 64
  · have g1 : decide (mtu < 64) = true := by simp; omega
    go_enter Try.func6, Try.ntmps6
    go_wp2
    go_ret2
    exact ⟨rfl, rfl⟩
  · have g1 : decide (mtu < 64) = false := by simp; omega
    by_cases h2 : 1500 < mtu
    · have g2 : decide (1500 < mtu) = true := by simp; omega
      go_enter Try.func6, Try.ntmps6
      go_wp2
      go_ret2
      exact ⟨rfl, rfl⟩
    · have g2 : decide (1500 < mtu) = false := by simp; omega
      by_cases h3 : most < 1
      · have g3 : decide (most < 1) = true := by simp; omega
        go_enter Try.func6, Try.ntmps6
        go_wp2
        go_ret2
        exact ⟨rfl, rfl⟩
      · have g3 : decide (most < 1) = false := by simp; omega
        have g4 : decide (1000 < most) = true := by simp; omega
        go_enter Try.func6, Try.ntmps6
        go_wp2
        go_ret2
        exact ⟨rfl, rfl⟩
theorem len_any (p : Nat) (F : List Nat) (mtu most lost : Nat) (l : List Gr) (w : World) (h : Nt w p F mtu most lost l) :
    Calls Try.prog 7 #[.pointer (some ⟨p, 0, none⟩)] w fun e w' => e = .returned (.int .i64 l.length) ∧ w' = w := by
  obtain ⟨v, h, rfl⟩ := h
  obtain ⟨ao, cap, rfl, _, _⟩ := owns_shape h.own
  have c2 := cell_of h.hr 2
  simp only [List.getElem?_toArray, List.getElem?_cons_zero, List.getElem?_cons_succ] at c2
  clear h
  go_enter Try.func7, Try.ntmps7
  go_wp2
  go_ret
  exact ⟨rfl, rfl⟩
theorem lost_any (p : Nat) (F : List Nat) (mtu most lost : Nat) (l : List Gr) (w : World) (h : Nt w p F mtu most lost l) :
    Calls Try.prog 10 #[.pointer (some ⟨p, 0, none⟩)] w fun e w' => e = .returned (.int .i64 lost) ∧ w' = w := by
  obtain ⟨v, h, rfl⟩ := h
  have c3 := cell_of h.hr 3
  simp only [List.getElem?_toArray, List.getElem?_cons_zero, List.getElem?_cons_succ] at c3
  clear h
  go_enter Try.func10, Try.ntmps10
  go_wp2
  go_ret
  exact ⟨rfl, rfl⟩

/-! ### At -/
theorem at_bad (p : Nat) (F : List Nat) (mtu most lost : Nat) (l : List Gr) (i : Int) (w : World) (h : Nt w p F mtu most lost l) (hi : i < 0 ∨ l.length ≤ i) :
    Calls Try.prog 17 #[.pointer (some ⟨p, 0, none⟩), .int .i64 i] w fun e w' => e = .returned (.tuple #[.int .i64 0, .int .i64 0, .slice none 0 0, .bool false]) ∧ w' = w := by
  obtain ⟨v, h, rfl⟩ := h
  obtain ⟨ao, cap, rfl, _, _⟩ := owns_shape h.own
  have c2 := cell_of h.hr 2
  simp only [List.getElem?_toArray, List.getElem?_cons_zero, List.getElem?_cons_succ] at c2
  clear h
  by_cases h0 : i < 0
  · have g1 : decide (i < 0) = true := by simpa using h0
    go_enter Try.func17, Try.ntmps17
    go_wp2
    (try simp only [Exit.inBlock, Exit.then])
    refine bodyPost_ret (results_tmp4 rfl _ _ _) rfl ?_
    exact ⟨rfl, rfl⟩
  · have g1 : decide (i < 0) = false := by simpa using h0
    have g2 : decide ((l.length : Int) ≤ i) = true := by simp; omega
    go_enter Try.func17, Try.ntmps17
    go_wp2
    (try simp only [Exit.inBlock, Exit.then])
    refine bodyPost_ret (results_tmp4 rfl _ _ _) rfl ?_
    exact ⟨rfl, rfl⟩
def Shown (w : World) (g : Gr) (e : Ending) (w' : World) : Prop :=
  ∃ ao, e = .returned (.tuple #[.int .i64 g.src, .int .i64 g.dst, .slice ao g.bs.length g.bs.length, .bool true]) ∧ Fresh w' w.heap.size 5 ao (g.bs.map bv) ∧ (∀ x ∈ blk ao, w.heap.size ≤ x) ∧ Fr [] w w'
set_option maxHeartbeats 1000000 in
theorem at_good (p : Nat) (F : List Nat) (mtu most lost : Nat) (l : List Gr) (i : Nat) (w : World) (h : Nt w p F mtu most lost l) (hi : i < l.length) :
    Calls Try.prog 17 #[.pointer (some ⟨p, 0, none⟩), .int .i64 i] w (Shown w l[i]) := by
  obtain ⟨v, h, rfl⟩ := h
  obtain ⟨g, o, rfl, hc⟩ : ∃ g cap, v = .slice (some ⟨g, 0, none⟩) l.length cap ∧ ∀ j, j < l.length * 3 → w.cell? ⟨g, j, none⟩ = (cellsOf l)[j]? := by
    rcases h.own.2 with ⟨h2, h3⟩ | ⟨g, cap, cur, rfl, _⟩
    · omega
    · exact ⟨g, cap, rfl, fun j hj => h.own.cellAt j hj⟩
  obtain ⟨x0, x1, x2⟩ := cellsOf_at l i hi
  have d0 := (hc (i * 3) (by omega)).trans x0
  have d1 := (hc (i * 3 + 1) (by omega)).trans x1
  have d2 := (hc (i * 3 + 2) (by omega)).trans x2
  have c2 := cell_of h.hr 2
  simp only [List.getElem?_toArray, List.getElem?_cons_zero, List.getElem?_cons_succ] at c2
  have hok := h.ok l[i] (List.getElem_mem hi)
  have g1 : decide ((i : Int) < 0) = false := by simp
  have g2 : decide ((l.length : Int) ≤ i) = false := by simp; omega
  generalize l[i] = x at *
  obtain ⟨src, dst, ao, cap, bs⟩ := x
  simp only at d0 d1 d2
  have hle := hok.le
  have hlim := hok.lim
  have hnil := hok.nil
  have Hcs := Lib.hid hok.cs
  clear h hc x0 x1 x2 hok
  simp only at hle hlim hnil Hcs
  go_enter Try.func17, Try.ntmps17
  go_upto_region 4 with fail
  obtain ⟨w0, hw0⟩ : ∃ w0, w0 = w.alloc (.cells #[.int .i64 src, .int .i64 dst, .slice ao bs.length cap] 56) := ⟨_, rfl⟩
  rw [← hw0]
  have e0 : w0.drew.cell? ⟨w.heap.size, 0, none⟩ = some (.int .i64 src) := by rw [hw0]; exact cell_of (w := w.alloc _) (alloc_at w _) 0
  have e1 : w0.drew.cell? ⟨w.heap.size, 1, none⟩ = some (.int .i64 dst) := by rw [hw0]; exact cell_of (w := w.alloc _) (alloc_at w _) 1
  have e2 : w0.drew.cell? ⟨w.heap.size, 2, none⟩ = some (.slice ao bs.length cap) := by rw [hw0]; exact cell_of (w := w.alloc _) (alloc_at w _) 2
  have hfr : Fr [] w w0.drew := by rw [hw0]; exact ((Fr.refl [] w).alloc _).drew
  have Hw0 := Lib.hid hw0
  clear hw0
  refine region_mix 12 [(false, 0), (false, 1), (false, 2), (false, 3), (false, 4), (false, 5), (true, 6), (true, 7), (false, 8), (false, 9), (false, 10), (false, 11)] [] (by kernel_rfl) (by kernel_rfl) (fun _ _ d _ _ h => by cases d <;> exact h) ?_
  simp only [List.map_cons, List.map_nil, List.getD_cons_zero, List.getD_cons_succ, List.drop_succ_cons, List.drop_zero, List.drop_nil]
  refine mix_seg 6 rfl ?_
  simp only [List.take_succ_cons, List.take_zero, List.drop_succ_cons, List.drop_zero, List.map_cons, List.map_nil]
  repeat (go_big_quiet_step (fail))
  refine wpQuiet_nil ?_
  refine mix_eff rfl ?_
  intro K hK
  go_wp2_with (go_at_call 19; refine (clone_any ao cap bs _ (Hcs.out.fr hfr (by simp)) hle hnil (by omega)).mono ?_; rintro e w1 ⟨ao1, cap1, rfl, f1, l1, m1, n1, b1, fr1⟩)
  refine hK.out _ _ fr1 ?_
  clear hK K
  refine mix_eff rfl ?_
  intro K hK
  go_wp2_with (go_at_call 21; refine (clip_any ao1 bs.length cap1 _ l1 m1).mono ?_; rintro e w2 ⟨rfl, rfl⟩)
  refine hK.out _ _ (Fr.refl _ _) ?_
  clear hK K
  refine mix_seg 4 rfl ?_
  simp only [List.take_succ_cons, List.take_zero, List.drop_succ_cons, List.drop_zero, List.map_cons, List.map_nil]
  repeat (go_big_quiet_step (fail))
  refine wpQuiet_nil ?_
  refine mix_nil ?_
  go_wp2
  (try simp only [Exit.inBlock, Exit.then])
  refine bodyPost_ret (results_tmp4 rfl _ _ _) rfl ?_
  have hsz := hfr.size
  exact ⟨ao1, rfl, f1.mono hsz, fun x hx => Nat.le_trans hsz (b1 x hx).1, hfr.trans fr1⟩
end Go.Proofs.Ytmoiahgbenaihaa.net
