/-
  net.Net: Twice; stemmalaw2.awake.
-/
import Derived.Test.YtmoiahgbenaihaaNet3
namespace Go.Proofs.Ytmoiahgbenaihaa.net
open Go Go.RowKit Go.Proofs.Ytmoiahgbenaihaa.lib

set_option maxHeartbeats 1000000 in
theorem twice_bad (p : Nat) (F : List Nat) (mtu most lost : Nat) (l : List Gr) (i : Int) (w : World) (h : Nt w p F mtu most lost l) (hi : i < 0 ∨ l.length ≤ i ∨ most ≤ l.length) :
    Calls Try.prog 15 #[.pointer (some ⟨p, 0, none⟩), .int .i64 i] w fun e w' => e = .returned (.bool false) ∧ Fr [] w w' := by
  obtain ⟨v, h, rfl⟩ := h
  obtain ⟨g, c, rfl, _, _⟩ := owns_shape h.own
  have c1 := cell_of h.hr 1
  have c2 := cell_of h.hr 2
  simp only [List.getElem?_toArray, List.getElem?_cons_zero, List.getElem?_cons_succ] at c1 c2
  clear h
  by_cases h0 : i < 0
  · have g1 : decide (i < 0) = true := by simpa using h0
    go_enter Try.func15, Try.ntmps15
    go_upto_region 1 with fail
    go_quiet (fail)
    go_wp2
    go_ret
    exact ⟨rfl, (Fr.refl _ _).drewsN _⟩
  · have g1 : decide (i < 0) = false := by simpa using h0
    by_cases h2 : l.length ≤ i
    · have g2 : decide ((l.length : Int) ≤ i) = true := by simpa using h2
      go_enter Try.func15, Try.ntmps15
      go_upto_region 1 with fail
      go_quiet (fail)
      go_wp2
      go_ret
      exact ⟨rfl, (Fr.refl _ _).drewsN _⟩
    · have g2 : decide ((l.length : Int) ≤ i) = false := by simpa using h2
      have h3 : most ≤ l.length := by omega
      have g3 : decide ((most : Int) ≤ l.length) = true := by simpa using h3
      go_enter Try.func15, Try.ntmps15
      go_upto_region 1 with fail
      go_quiet (fail)
      go_wp2
      go_ret
      exact ⟨rfl, (Fr.refl _ _).drewsN _⟩
def Doubled (p : Nat) (F : List Nat) (mtu most lost : Nat) (l : List Gr) (g : Gr) (w : World) (e : Ending) (w' : World) : Prop :=
  e = .returned (.bool true) ∧ ∃ F', Nt w' p F' mtu most lost (l ++ [g]) ∧ Fr F w w' ∧ ∀ x ∈ F', x ∈ F ∨ w.heap.size ≤ x
set_option maxHeartbeats 2000000 in
theorem twice_good (p : Nat) (F : List Nat) (mtu most lost : Nat) (l : List Gr) (i : Nat) (w : World) (h : Nt w p F mtu most lost l) (hi : i < l.length) (hm : l.length < most) :
    Calls Try.prog 15 #[.pointer (some ⟨p, 0, none⟩), .int .i64 i] w (Doubled p F mtu most lost l l[i] w) := by
  obtain ⟨v, h, rfl⟩ := h
  obtain ⟨b, c, rfl⟩ : ∃ b c, v = .slice (some ⟨b, 0, none⟩) l.length c := by
    rcases h.own.2 with ⟨h2, h3⟩ | ⟨g, cap, cur, rfl, _⟩
    · omega
    · exact ⟨g, cap, rfl⟩
  have hc : ∀ j, j < l.length * 3 → w.cell? ⟨b, j, none⟩ = (cellsOf l)[j]? := fun j hj => h.own.cellAt j hj
  obtain ⟨x0, x1, x2⟩ := cellsOf_at l i hi
  have d0 := (hc (i * 3) (by omega)).trans x0
  have d1 := (hc (i * 3 + 1) (by omega)).trans x1
  have d2 := (hc (i * 3 + 2) (by omega)).trans x2
  have c1 := cell_of h.hr 1
  have c2 := cell_of h.hr 2
  simp only [List.getElem?_toArray, List.getElem?_cons_zero, List.getElem?_cons_succ] at c1 c2
  have hmo := h.mostLe
  have hmem : l[i] ∈ l := List.getElem_mem hi
  generalize l[i] = x at *
  obtain ⟨s, t, ao1, cap1, bs⟩ := x
  simp only at d0 d1 d2
  have Hmem := Lib.hid hmem
  have H := Lib.hid h
  clear h hc x0 x1 x2 hmem
  have g1 : decide ((i : Int) < 0) = false := by simp
  have g2 : decide ((l.length : Int) ≤ i) = false := by simp; omega
  have g3 : decide ((most : Int) ≤ l.length) = false := by simp; omega
  have hpb : p ≠ b := fun e => H.out.pb (by simp [Value.ownBlock, e])
  obtain ⟨S, hS⟩ : ∃ S, S = [b] := ⟨_, rfl⟩
  have hpS : p ∉ S := by rw [hS]; simpa using hpb
  have HS := Lib.hid hS
  clear hS
  go_enter Try.func15, Try.ntmps15
  go_upto_region 1 with fail
  go_quiet (fail)
  obtain ⟨w0, hw0⟩ : ∃ w0, w0 = w.drewN nq := ⟨_, rfl⟩
  rw [← hw0]
  have fr0 : Fr [] w w0 := by rw [hw0]; exact (Fr.refl [] w).drewsN nq
  clear c1 hw0
  have c2 := fr0.drew.cell c2 (by simp)
  have d0 := fr0.drew.cell d0 (by simp)
  have d1 := fr0.drew.cell d1 (by simp)
  have d2 := fr0.drew.cell d2 (by simp)
  go_upto_region 3 with fail
  have cS : ∀ x, (sup S w0.drew x).cell? ⟨p, 2, none⟩ = some (.slice (some ⟨b, 0, none⟩) l.length c) := fun x => by rw [cell?_sup (by rw [c2]; rfl) hpS]; exact c2
  clear c2
  refine region_mix 14 [(false, 0), (false, 1), (false, 2), (false, 3), (false, 4), (false, 5), (false, 6), (false, 7), (false, 8), (false, 9), (false, 10), (true, 11), (true, 12), (true, 13)] S (by kernel_rfl) (by kernel_rfl) (fun _ _ d _ _ h => by cases d <;> exact h) ?_
  simp only [List.map_cons, List.map_nil, List.getD_cons_zero, List.getD_cons_succ, List.drop_succ_cons, List.drop_zero, List.drop_nil]
  refine mix_seg 11 rfl ?_
  simp only [List.take_succ_cons, List.take_zero, List.drop_succ_cons, List.drop_zero, List.map_cons, List.map_nil]
  repeat (go_big_quiet_step (fail))
  refine wpQuiet_nil ?_
  clear cS
  refine mix_eff rfl ?_
  intro K hK
  go_wp2
  refine hK.out _ _ (Fr.refl _ _) ?_
  clear hK K
  refine mix_eff rfl ?_
  intro K hK
  go_wp2
  refine hK.out _ _ ((Fr.refl S w0.drew).alloc _) ?_
  clear hK K
  have frA : Fr [] w w0.drew := fr0.drew
  have ownA := ownsRow_fr H.out.own (frA.alloc (.cells #[.int .i64 s, .int .i64 t, .slice ao1 bs.length cap1] 56)) (by simp)
  have cA : Cs (w0.drew.alloc (.cells #[.int .i64 s, .int .i64 t, .slice ao1 bs.length cap1] 56)) (some ⟨w0.drew.heap.size, 0, none⟩) [.int .i64 s, .int .i64 t, .slice ao1 bs.length cap1] :=
    .inr ⟨w0.drew.heap.size, 0, rfl, fun j u hj => by rw [cell_of (alloc_at w0.drew _)]; simpa using hj⟩
  refine mix_eff rfl ?_
  intro K hK
  refine wp_append sliceGr _ _ rfl (.slice (some ⟨b, 0, none⟩) l.length c) l.length (cellsOf l) S rfl (by rw [own_blk, HS.out]; rfl) ownA (some ⟨w0.drew.heap.size, 0, none⟩) 1 1 [.int .i64 s, .int .i64 t, .slice ao1 bs.length cap1] rfl (by decide) (by simp) cA (by rfl) (by simp [Value.oneCell']) (by omega) (by unfold maxLen; omega) ?_
  intro ao2 cap2 w2 A1
  refine hK.out _ _ A1.fr ?_
  clear hK K d0 d1 d2
  have frB : Fr S w w2 := ((frA.alloc _).mono (by simp)).trans A1.fr
  have hb2 := frB.blk H.out.hr hpS
  have e2 := cell_of hb2 2
  have z2 := frozen_of hb2 2
  simp only [List.getElem?_toArray, List.getElem?_cons_zero, List.getElem?_cons_succ] at e2
  have hlt := lt_of_block H.out.hr
  have hsz : w.heap.size ≤ w0.heap.size := fr0.size
  have hat : ∀ x ∈ blk ao2, x ∈ S ∨ w0.heap.size ≤ x := fun x hx => (A1.at_ x hx).imp id fun h => by
    rw [h]
    exact Nat.le_trans (Nat.le_succ _) (Nat.le_of_eq (World.size_alloc w0.drew _).symm)
  have Hat := Lib.hid hat
  have Hb2 := Lib.hid hb2
  clear hat hb2
  refine mix_nil ?_
  go_wp2
  go_ret
  have h := H.out
  have hnp : p ∉ blk ao2 := fun hx => by
    rcases Hat.out p hx with h1 | h1
    · exact hpS h1
    · omega
  have fr4 : Fr (p :: S) w (w2.setCell ⟨p, 2, none⟩ (.slice ao2 (l.length + 1) cap2)) := (frB.mono (by simp; intro x hx; exact .inl (.inr hx))).setCell (by simp) _
  have hSlt : ∀ x ∈ S, x < w.heap.size := fun x hx => owns_lt h.own (by rw [HS.out] at hx; simp at hx; simp [Value.ownBlock, hx])
  have hSf : ∀ x ∈ S, x ∈ feet p (.slice (some ⟨b, 0, none⟩) l.length c) l := fun x hx => by
    rw [HS.out] at hx; simp at hx; simp [feet, Value.ownBlock, hx]
  have hsub : ∀ y ∈ l ++ [(⟨s, t, ao1, cap1, bs⟩ : Gr)], y ∈ l := fun y hy => by
    rcases List.mem_append.1 hy with hy | hy
    · exact hy
    · obtain rfl := List.mem_singleton.1 hy
      exact Hmem.out
  refine ⟨rfl, feet p (.slice ao2 (l.length + 1) cap2) (l ++ [⟨s, t, ao1, cap1, bs⟩]), ⟨_, ⟨(setCell_of Hb2.out _).trans rfl, ?_, fun e => hnp (by rw [← own_blk ao2 (l.length + 1) cap2, e]; simp), fun y hy => ?_, fun y hy x hx => ?_, h.mtuLe, h.mostLe, by rw [List.length_append]; simp; omega⟩, rfl⟩, fr4.mono ?_, fun y hy => ?_⟩
  · rw [List.length_append, cellsOf_append]
    exact ownsRow_setCell_other A1.own (fun e => hnp (by rw [← own_blk ao2 (l.length + 1) cap2, e]; simp)) _
  · refine (h.ok y (hsub y hy)).fr fr4 fun x hx => ?_
    have := h.far y (hsub y hy) x hx
    simp only [List.mem_cons, not_or]
    exact ⟨this.1, fun e => this.2 (by rw [HS.out] at e; simp at e; simp [Value.ownBlock, e])⟩
  · have h1 := h.far y (hsub y hy) x hx
    have h2 := (h.ok y (hsub y hy)).lt x hx
    refine ⟨h1.1, fun e => ?_⟩
    rcases Hat.out x (by rw [← own_blk ao2 (l.length + 1) cap2, e]; simp) with h3 | h3
    · exact h1.2 (by rw [HS.out] at h3; simp at h3; simp [Value.ownBlock, h3])
    · omega
  · intro x hx
    rcases List.mem_cons.1 hx with rfl | hx
    · simp [feet]
    · exact .inl (hSf x hx)
  · simp only [feet, List.mem_cons, List.mem_append, List.mem_flatMap, own_blk] at hy
    rcases hy with rfl | hy | ⟨z, hz, hy⟩
    · left; simp [feet]
    · rcases Hat.out y hy with h3 | h3
      · exact .inl (hSf y h3)
      · right; omega
    · left
      simp only [feet, List.mem_cons, List.mem_append, List.mem_flatMap]
      exact .inr (.inr ⟨z, hsub z (by simpa using hz), hy⟩)
end Go.Proofs.Ytmoiahgbenaihaa.net
