/-
  net.Net: Take, Send, Twice.
-/
import Derived.Test.YtmoiahgbenaihaaNet
namespace Go.Proofs.Ytmoiahgbenaihaa.net
open Go Go.RowKit Go.Proofs.Ytmoiahgbenaihaa.lib

theorem take_bad (p : Nat) (F : List Nat) (mtu most lost : Nat) (l : List Gr) (i : Int) (w : World) (h : Nt w p F mtu most lost l) (hi : i < 0 ∨ l.length ≤ i) :
    Calls Try.prog 9 #[.pointer (some ⟨p, 0, none⟩), .int .i64 i] w fun e w' => e = .returned (.tuple #[.int .i64 0, .int .i64 0, .slice none 0 0, .bool false]) ∧ w' = w := by
  have hb := at_bad p F mtu most lost l i w h hi
  clear h hi
  go_enter Try.func9, Try.ntmps9
  go_wp2_with (go_at_call 17; refine hb.mono ?_; rintro e w' ⟨rfl, rfl⟩)
  (try simp only [Exit.inBlock, Exit.then])
  refine bodyPost_ret (results_tmp4 rfl _ _ _) rfl ?_
  exact ⟨rfl, rfl⟩
def Taken (w : World) (p : Nat) (F : List Nat) (mtu most lost : Nat) (l : List Gr) (i : Nat) (g : Gr) (e : Ending) (w' : World) : Prop :=
  ∃ ao F', e = .returned (.tuple #[.int .i64 g.src, .int .i64 g.dst, .slice ao g.bs.length g.bs.length, .bool true]) ∧ Fresh w' w.heap.size 5 ao (g.bs.map bv) ∧ (∀ x ∈ blk ao, w.heap.size ≤ x) ∧
    Nt w' p F' mtu most lost (l.eraseIdx i) ∧ Fr F w w' ∧ ∀ x ∈ F', x ∈ F
set_option maxHeartbeats 1000000 in
theorem take_good (p : Nat) (F : List Nat) (mtu most lost : Nat) (l : List Gr) (i : Nat) (w : World) (h : Nt w p F mtu most lost l) (hi : i < l.length) :
    Calls Try.prog 9 #[.pointer (some ⟨p, 0, none⟩), .int .i64 i] w (Taken w p F mtu most lost l i l[i]) := by
  have hb := at_good p F mtu most lost l i w h hi
  generalize l[i] = x at hb ⊢
  have hlt := nt_lt h
  have hpF := nt_mem h
  have hlen := nt_len h
  go_enter Try.func9, Try.ntmps9
  go_upto_region 1 with fail
  go_cut [4, 5, 6, 7] (fun s4 s5 s6 s7 wc => ∃ ao, s4 = .int .i64 x.src ∧ s5 = .int .i64 x.dst ∧ s6 = .slice ao x.bs.length x.bs.length ∧ s7 = .bool true ∧ Fresh wc w.heap.size 5 ao (x.bs.map bv) ∧ (∀ y ∈ blk ao, w.heap.size ≤ y) ∧ Fr [] w wc)
  case first =>
    go_wp2_with (go_at_call 17; refine hb.mono ?_; rintro e w1 ⟨ao, rfl, f1, b1, fr1⟩)
    go_meet
    exact ⟨ao, rfl, rfl, rfl, rfl, f1, b1, fr1⟩
  case rest =>
  obtain ⟨ao, rfl, rfl, rfl, rfl, f1, b1, fr1⟩ := hcut
  clear hb
  have h' := nt_fr h fr1 (by simp)
  clear h
  obtain ⟨v, h, rfl⟩ := h'
  obtain ⟨g, cap, rfl⟩ : ∃ g cap, v = .slice (some ⟨g, 0, none⟩) l.length cap := by
    rcases h.own.2 with ⟨h2, h3⟩ | ⟨g, cap, cur, rfl, _⟩
    · omega
    · exact ⟨g, cap, rfl⟩
  have hpg : p ≠ g := fun e => h.pb (by simp [Value.ownBlock, e])
  have hdel := delete_one g l.length cap i (cellsOf l) wc h.own hi (cellsOf_one l)
  have c2 := cell_of h.hr 2
  simp only [List.getElem?_toArray, List.getElem?_cons_zero, List.getElem?_cons_succ] at c2
  have H := Lib.hid h
  clear h
  have hl63 : l.length ≤ 1000 := by omega
  go_wp2_with (go_at_call 20; refine hdel.mono ?_; rintro e w2 ⟨rfl, own2, fr2⟩; have hb2 := fr2.blk H.out.hr (by simpa using hpg); have d2 := cell_of hb2 2; have z2 := frozen_of hb2 2; simp only [List.getElem?_toArray, List.getElem?_cons_zero, List.getElem?_cons_succ] at d2)
  (try simp only [Exit.inBlock, Exit.then])
  refine bodyPost_ret (results_tmp4 rfl _ _ _) rfl ?_
  have hsp : p < w.heap.size := hlt p hpF
  have hsg : g < w.heap.size := hlt g (by simp [feet, Value.ownBlock])
  have er : cellsOf (l.eraseIdx i) = (cellsOf l).take (3 * i) ++ (cellsOf l).drop (3 * (i + 1)) := by
    rw [List.eraseIdx_eq_take_drop_succ, cellsOf_append, cellsOf_take, cellsOf_drop]
  have ln : (l.eraseIdx i).length = l.length - 1 := by rw [List.length_eraseIdx]; simp [hi]
  have fr3 : Fr (feet p (.slice (some ⟨g, 0, none⟩) l.length cap) l) wc (w2.setCell ⟨p, 2, none⟩ (.slice (some ⟨g, 0, none⟩) (l.length - 1) cap)) := (fr2.mono (by simp [feet, Value.ownBlock])).setCell (by simp [feet]) _
  have fr4 : Fr [p, g] wc (w2.setCell ⟨p, 2, none⟩ (.slice (some ⟨g, 0, none⟩) (l.length - 1) cap)) := (fr2.mono (by simp)).setCell (by simp) _
  have hsub : ∀ y ∈ l.eraseIdx i, y ∈ l := fun y hy => List.mem_of_mem_eraseIdx hy
  refine ⟨ao, feet p (.slice (some ⟨g, 0, none⟩) (l.length - 1) cap) (l.eraseIdx i), rfl, f1.fr fr4 (fun a ha => ?_), b1, ⟨_, ⟨(setCell_of hb2 _).trans rfl, ?_, by simpa [Value.ownBlock] using fun e => hpg e.symm, fun y hy => (H.out.ok y (hsub y hy)).fr fr4 (fun z hz => ?_), fun y hy z hz => ?_, H.out.mtuLe, H.out.mostLe, by rw [ln]; have := H.out.len; omega⟩, rfl⟩, (fr1.mono (by simp)).trans fr3, fun y hy => ?_⟩
  · have := b1 a.block (by simp [ha, blk])
    simp
    omega
  · rw [ln, er]
    exact ownsRow_setCell_other own2 (by simpa [Value.ownBlock] using fun e => hpg e.symm) _
  · have := H.out.far y (hsub y hy) z hz
    simp only [Value.ownBlock, ne_eq, Option.some.injEq] at this
    simp only [List.mem_cons, List.not_mem_nil, or_false, not_or]
    exact ⟨this.1, fun e => this.2 e.symm⟩
  · exact H.out.far y (hsub y hy) z hz
  · simp only [feet, Value.ownBlock, List.mem_cons, List.mem_append, List.mem_flatMap] at hy ⊢
    rcases hy with hy | hy | ⟨z, hz, hy⟩
    · exact .inl hy
    · exact .inr (.inl hy)
    · exact .inr (.inr ⟨z, hsub z hz, hy⟩)
end Go.Proofs.Ytmoiahgbenaihaa.net
