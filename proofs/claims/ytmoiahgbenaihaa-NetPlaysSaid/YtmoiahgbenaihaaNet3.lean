/-
  net.Net: Send, Twice.
-/
import Derived.Test.YtmoiahgbenaihaaNet2
namespace Go.Proofs.Ytmoiahgbenaihaa.net
open Go Go.RowKit Go.Proofs.Ytmoiahgbenaihaa.lib

theorem sliceGr : SliceTy Try.prog 51 56 (.agg #[.int .i64 0, .int .i64 0, .slice none 0 0]) 3 40 := SliceTy.of Try.underlying51 (by kernel_rfl) (by kernel_rfl) (by decide)
theorem send_neg (p : Nat) (s t : Int) (v : Value) (w : World) (h : s < 0 ∨ t < 0) :
    Calls Try.prog 8 #[.pointer (some ⟨p, 0, none⟩), .int .i64 s, .int .i64 t, v] w fun e w' => e = .returned (.int .i64 1) ∧ w' = w := by
  by_cases h1 : s < 0
  · have g1 : decide (s < 0) = true := by simpa using h1
    go_enter Try.func8, Try.ntmps8
    go_wp2
    go_ret
    exact ⟨rfl, rfl⟩
  · have g1 : decide (s < 0) = false := by simpa using h1
    have g2 : decide (t < 0) = true := by simp; omega
    go_enter Try.func8, Try.ntmps8
    go_wp2
    go_ret
    exact ⟨rfl, rfl⟩
theorem send_long (p : Nat) (F : List Nat) (mtu most lost : Nat) (l : List Gr) (s t : Int) (ao : Option Addr) (len cap : Nat) (w : World) (h : Nt w p F mtu most lost l) (hs : 0 ≤ s) (ht : 0 ≤ t) (hl : mtu < len) :
    Calls Try.prog 8 #[.pointer (some ⟨p, 0, none⟩), .int .i64 s, .int .i64 t, .slice ao len cap] w fun e w' => e = .returned (.int .i64 2) ∧ w' = w := by
  obtain ⟨v, h, rfl⟩ := h
  have c0 := cell_of h.hr 0
  simp only [List.getElem?_toArray, List.getElem?_cons_zero] at c0
  clear h
  have g1 : decide (s < 0) = false := by simp; omega
  have g2 : decide (t < 0) = false := by simp; omega
  have g3 : decide ((mtu : Int) < len) = true := by simp; omega
  clear hs ht
  go_enter Try.func8, Try.ntmps8
  go_wp2
  go_ret
  exact ⟨rfl, rfl⟩
def Full (p : Nat) (F : List Nat) (mtu most lost : Nat) (l : List Gr) (w : World) (e : Ending) (w' : World) : Prop :=
  e = .returned (.int .i64 60) ∧ Nt w' p F mtu most (lost + 1) l ∧ Fr F w w'
set_option maxHeartbeats 1000000 in
theorem send_full (p : Nat) (F : List Nat) (mtu most lost : Nat) (l : List Gr) (s t : Int) (ao : Option Addr) (len cap : Nat) (w : World) (h : Nt w p F mtu most lost l) (hs : 0 ≤ s) (ht : 0 ≤ t) (hl : len ≤ mtu) (hm : most ≤ l.length) (hlo : lost ≤ 1000000) :
    Calls Try.prog 8 #[.pointer (some ⟨p, 0, none⟩), .int .i64 s, .int .i64 t, .slice ao len cap] w (Full p F mtu most lost l w) := by
  obtain ⟨v, h, rfl⟩ := h
  obtain ⟨g, c, rfl, _, _⟩ := owns_shape h.own
  have c0 := cell_of h.hr 0
  have c1 := cell_of h.hr 1
  have c2 := cell_of h.hr 2
  have c3 := cell_of h.hr 3
  have f3 := frozen_of h.hr 3
  simp only [List.getElem?_toArray, List.getElem?_cons_zero, List.getElem?_cons_succ] at c0 c1 c2 c3
  have H := Lib.hid h
  clear h
  have g1 : decide (s < 0) = false := by simp; omega
  have g2 : decide (t < 0) = false := by simp; omega
  have g3 : decide ((mtu : Int) < len) = false := by simp; omega
  have g4 : decide ((most : Int) ≤ l.length) = true := by simp; omega
  clear hs ht
  go_enter Try.func8, Try.ntmps8
  go_upto_region 5 with fail
  go_quiet (fail)
  go_wp2
  go_ret
  have fr : Fr [p] w ((w.drewN nq).setCell ⟨p, 3, none⟩ (.int .i64 (lost + 1))) := ((Fr.refl [p] w).drewsN nq).setCell (by simp) _
  have h := H.out
  exact ⟨rfl, ⟨_, ⟨(setCell_of (w := w.drewN nq) h.hr _).trans rfl, ownsRow_fr h.own fr (fun k hk => by simp; rintro rfl; exact h.pb hk), h.pb, fun y hy => (h.ok y hy).fr fr (fun x hx => by simpa using (h.far y hy x hx).1), h.far, h.mtuLe, h.mostLe, h.len⟩, rfl⟩, fr.mono (by simp [feet])⟩
def Sent (p : Nat) (F : List Nat) (mtu most lost : Nat) (l : List Gr) (s t : Int) (bs : List UInt8) (w : World) (e : Ending) (w' : World) : Prop :=
  e = .returned (.int .i64 0) ∧ ∃ F' ao cap, Nt w' p F' mtu most lost (l ++ [⟨s, t, ao, cap, bs⟩]) ∧ Fr F w w' ∧ ∀ x ∈ F', x ∈ F ∨ w.heap.size ≤ x
set_option maxHeartbeats 2000000 in
theorem send_good (p : Nat) (F : List Nat) (mtu most lost : Nat) (l : List Gr) (s t : Int) (ao : Option Addr) (cap : Nat) (bs : List UInt8) (w : World) (h : Nt w p F mtu most lost l) (hs : 0 ≤ s) (ht : 0 ≤ t) (hl : bs.length ≤ mtu) (hm : l.length < most)
    (hcs : Cs w ao (bs.map bv)) (hle : bs.length ≤ cap) (hnil : ao = none → cap = 0) :
    Calls Try.prog 8 #[.pointer (some ⟨p, 0, none⟩), .int .i64 s, .int .i64 t, .slice ao bs.length cap] w (Sent p F mtu most lost l s t bs w) := by
  obtain ⟨v, h, rfl⟩ := h
  obtain ⟨g, c, rfl, hc1, hc2⟩ := owns_shape h.own
  have c0 := cell_of h.hr 0
  have c1 := cell_of h.hr 1
  have c2 := cell_of h.hr 2
  simp only [List.getElem?_toArray, List.getElem?_cons_zero, List.getElem?_cons_succ] at c0 c1 c2
  have hmo := h.mostLe
  have hmt := h.mtuLe
  have H := Lib.hid h
  have Hcs := Lib.hid hcs
  clear h hcs
  have g1 : decide (s < 0) = false := by simp; omega
  have g2 : decide (t < 0) = false := by simp; omega
  have g3 : decide ((mtu : Int) < bs.length) = false := by simp; omega
  have g4 : decide ((most : Int) ≤ l.length) = false := by simp; omega
  clear hs ht
  obtain ⟨S, hS⟩ : ∃ S, S = blk g := ⟨_, rfl⟩
  have hpS : p ∉ S := fun hx => H.out.pb (by rw [hS] at hx; exact blk_own hx)
  have HS := Lib.hid hS
  clear hS
  go_enter Try.func8, Try.ntmps8
  go_upto_region 5 with fail
  go_quiet (fail)
  obtain ⟨w0, hw0⟩ : ∃ w0, w0 = w.drewN nq := ⟨_, rfl⟩
  rw [← hw0]
  have fr0 : Fr [] w w0 := by rw [hw0]; exact (Fr.refl [] w).drewsN nq
  clear c0 c1 hw0
  have c2 := fr0.cell c2 (by simp)
  go_upto_region 8 with fail
  have c2' : w0.drew.cell? ⟨p, 2, none⟩ = some (.slice g l.length c) := c2
  have cS : ∀ x, (sup S w0.drew x).cell? ⟨p, 2, none⟩ = some (.slice g l.length c) := fun x => by rw [cell?_sup (by rw [c2']; rfl) hpS]; exact c2'
  clear c2 c2'
  refine region_mix 12 [(false, 0), (false, 1), (false, 2), (false, 3), (false, 4), (false, 5), (false, 6), (false, 7), (true, 8), (true, 9), (true, 10), (true, 11)] S (by kernel_rfl) (by kernel_rfl) (fun _ _ d _ _ h => by cases d <;> exact h) ?_
  simp only [List.map_cons, List.map_nil, List.getD_cons_zero, List.getD_cons_succ, List.drop_succ_cons, List.drop_zero, List.drop_nil]
  refine mix_seg 8 rfl ?_
  simp only [List.take_succ_cons, List.take_zero, List.drop_succ_cons, List.drop_zero, List.map_cons, List.map_nil]
  repeat (go_big_quiet_step (fail))
  refine wpQuiet_nil ?_
  clear cS
  refine mix_eff rfl ?_
  intro K hK
  go_wp2_with (go_at_call 19; refine (clone_any ao cap bs _ (Hcs.out.fr fr0.drew (by simp)) hle hnil (by omega)).mono ?_; rintro e w1 ⟨ao1, cap1, rfl, f1, l1, m1, n1, b1, fr1⟩)
  refine hK.out _ _ (fr1.mono (by simp)) ?_
  clear hK K
  refine mix_eff rfl ?_
  intro K hK
  go_wp2
  refine hK.out _ _ (Fr.refl _ _) ?_
  clear hK K
  refine mix_eff rfl ?_
  intro K hK
  go_wp2
  refine hK.out _ _ ((Fr.refl S w1).alloc _) ?_
  clear hK K
  have frA : Fr [] w w1 := fr0.drew.trans fr1
  have ownA := ownsRow_fr H.out.own (frA.alloc (.cells #[.int .i64 s, .int .i64 t, .slice ao1 bs.length cap1] 56)) (by simp)
  have cA : Cs (w1.alloc (.cells #[.int .i64 s, .int .i64 t, .slice ao1 bs.length cap1] 56)) (some ⟨w1.heap.size, 0, none⟩) [.int .i64 s, .int .i64 t, .slice ao1 bs.length cap1] :=
    .inr ⟨w1.heap.size, 0, rfl, fun j u hj => by rw [cell_of (alloc_at w1 _)]; simpa using hj⟩
  refine mix_eff rfl ?_
  intro K hK
  refine wp_append sliceGr _ _ rfl (.slice g l.length c) l.length (cellsOf l) S rfl (by rw [own_blk, HS.out]) ownA (some ⟨w1.heap.size, 0, none⟩) 1 1 [.int .i64 s, .int .i64 t, .slice ao1 bs.length cap1] rfl (by decide) (by simp) cA (by rfl) (by simp [Value.oneCell']) (by omega) (by unfold maxLen; omega) ?_
  intro ao2 cap2 w2 A1
  refine hK.out _ _ A1.fr ?_
  clear hK K
  have frB : Fr S w w2 := ((frA.alloc _).mono (by simp)).trans A1.fr
  have hb2 := frB.blk H.out.hr hpS
  have d2 := cell_of hb2 2
  have z2 := frozen_of hb2 2
  simp only [List.getElem?_toArray, List.getElem?_cons_zero, List.getElem?_cons_succ] at d2
  have hlt := lt_of_block H.out.hr
  have hsz := frA.size
  have hat := A1.at_
  simp only [World.size_alloc] at hat
  have Hat := Lib.hid hat
  have Hb2 := Lib.hid hb2
  clear hat hb2
  refine mix_nil ?_
  go_wp2
  go_ret
  have h := H.out
  have hnp : p ∉ blk ao2 := fun hx => by
    rcases Hat.out p hx with h1 | h1
    · exact hpS h1
    · omega
  have fr4 : Fr (p :: S) w (w2.setCell ⟨p, 2, none⟩ (.slice ao2 (l.length + 1) cap2)) := (frB.mono (by simp; intro x hx; exact .inl (.inr hx))).setCell (by simp) _
  have frC : Fr (p :: S) w1 (w2.setCell ⟨p, 2, none⟩ (.slice ao2 (l.length + 1) cap2)) := ((((Fr.refl [] w1).alloc _).mono (by simp)).trans (A1.fr.mono (by simp; intro x hx; exact .inl (.inr hx)))).setCell (by simp) _
  have hB1 : ∀ x ∈ blk ao1, w.heap.size ≤ x := fun x hx => Nat.le_trans fr0.drew.size (b1 x hx).1
  have hSlt : ∀ x ∈ S, x < w.heap.size := fun x hx => owns_lt h.own (blk_own (by rw [← HS.out]; exact hx))
  have hSf : ∀ x ∈ S, x ∈ feet p (.slice g l.length c) l := fun x hx => by
    simp only [feet, List.mem_cons, List.mem_append, own_blk]
    exact .inr (.inl (by rw [← HS.out]; exact hx))
  refine ⟨rfl, feet p (.slice ao2 (l.length + 1) cap2) (l ++ [⟨s, t, ao1, cap1, bs⟩]), ao1, cap1, ⟨_, ⟨(setCell_of Hb2.out _).trans rfl, ?_, fun e => hnp (by rw [← own_blk ao2 (l.length + 1) cap2, e]; simp), fun y hy => ?_, fun y hy x hx => ?_, h.mtuLe, h.mostLe, by rw [List.length_append]; simp; omega⟩, rfl⟩, fr4.mono ?_, fun y hy => ?_⟩
  · rw [List.length_append, cellsOf_append]
    exact ownsRow_setCell_other A1.own (fun e => hnp (by rw [← own_blk ao2 (l.length + 1) cap2, e]; simp)) _
  · rcases List.mem_append.1 hy with hy | hy
    · refine (h.ok y hy).fr fr4 fun x hx => ?_
      have := h.far y hy x hx
      simp only [List.mem_cons, not_or]
      exact ⟨this.1, fun e => this.2 (blk_own (by rw [← HS.out]; exact e))⟩
    · obtain rfl := List.mem_singleton.1 hy
      refine ⟨f1.cs.fr frC (fun x hx => ?_), l1, n1, (by show bs.length ≤ 1500; omega), fun x hx => Nat.lt_of_lt_of_le (b1 x hx).2 frC.size⟩
      have hx1 := hB1 x hx
      simp only [List.mem_cons, not_or]
      exact ⟨by omega, fun e => by have := hSlt x e; omega⟩
  · rcases List.mem_append.1 hy with hy | hy
    · have h1 := h.far y hy x hx
      have h2 := (h.ok y hy).lt x hx
      refine ⟨h1.1, fun e => ?_⟩
      rcases Hat.out x (by rw [← own_blk ao2 (l.length + 1) cap2, e]; simp) with h3 | h3
      · exact h1.2 (blk_own (by rw [← HS.out]; exact h3))
      · omega
    · obtain rfl := List.mem_singleton.1 hy
      have hx1 := hB1 x hx
      have hx2 := (b1 x hx).2
      refine ⟨by omega, fun e => ?_⟩
      rcases Hat.out x (by rw [← own_blk ao2 (l.length + 1) cap2, e]; simp) with h3 | h3
      · have := hSlt x h3
        omega
      · omega
  · intro x hx
    rcases List.mem_cons.1 hx with rfl | hx
    · simp [feet]
    · exact .inl (hSf x hx)
  · simp only [feet, List.mem_cons, List.mem_append, List.flatMap_append, List.flatMap_cons, List.flatMap_nil, List.append_nil, own_blk] at hy
    rcases hy with rfl | hy | hy | hy
    · left; simp [feet]
    · rcases Hat.out y hy with h3 | h3
      · exact .inl (hSf y h3)
      · right; omega
    · left
      simp only [feet, List.mem_cons, List.mem_append]
      exact .inr (.inr hy)
    · right
      exact hB1 y hy
end Go.Proofs.Ytmoiahgbenaihaa.net
