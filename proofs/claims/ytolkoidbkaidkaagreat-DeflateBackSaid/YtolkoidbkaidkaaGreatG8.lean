/-
  Texts of this proof, one behind the other: InfG, InfH, InfI, InfK, InfU, InfZ, TripD, Ref5, RfB, RfC.
-/
import Derived.Test.YtolkoidbkaidkaaGreatG7
import Derived.Laws.Rows
set_option linter.unusedVariables false
set_option linter.unusedSimpArgs false
/-
  inflate: lengths.
-/
namespace Go.Proofs.YtolkoidbkaidkaaGreat.inf
open Go Go.RowKit Go.Proofs.YtolkoidbkaidkaaGreat.lib Go.Proofs.YtolkoidbkaidkaaGreat.bm Go.Proofs.YtolkoidbkaidkaaGreat.bl Go.Proofs.YtolkoidbkaidkaaGreat.huf

theorem ilens_end {bs : List UInt8} {ls L : List Nat} {n k a : Nat} (h : n ≤ L.length) : ilens bs ls n (k + 1) L a = .ok (L, a) := by rw [ilens, if_pos h]
theorem ilens_sym {bs : List UInt8} {ls L : List Nat} {n k a c : Nat} (h : L.length < n) (hs : isym bs ls a = .error c) : ilens bs ls n (k + 1) L a = .error c := by rw [ilens, if_neg (by omega), hs]
theorem ilens_lit {bs : List UInt8} {ls L : List Nat} {n k a s a1 : Nat} (h : L.length < n) (hs : isym bs ls a = .ok (s, a1)) (h16 : s < 16) : ilens bs ls n (k + 1) L a = ilens bs ls n k (L ++ [s]) a1 := by
  rw [ilens, if_neg (by omega), hs]
  simp only [if_pos h16]
theorem ilens_take {bs : List UInt8} {ls L : List Nat} {n k a s a1 c : Nat} (h : L.length < n) (hs : isym bs ls a = .ok (s, a1)) (h16 : 16 ≤ s) (ht : itake bs a1 (wide s) = .error c) : ilens bs ls n (k + 1) L a = .error c := by
  rw [ilens, if_neg (by omega), hs]
  simp only [if_neg (show ¬ s < 16 by omega), ht]
theorem ilens_form {bs : List UInt8} {ls L : List Nat} {n k a s a1 v a2 : Nat} (h : L.length < n) (hs : isym bs ls a = .ok (s, a1)) (h16 : 16 ≤ s) (ht : itake bs a1 (wide s) = .ok (v, a2)) (hf : (s = 16 ∧ L = []) ∨ n - L.length < least s + v) : ilens bs ls n (k + 1) L a = .error 3 := by
  rw [ilens, if_neg (by omega), hs]
  simp only [if_neg (show ¬ s < 16 by omega), ht]
  rw [if_pos hf]
theorem ilens_rep {bs : List UInt8} {ls L : List Nat} {n k a s a1 v a2 : Nat} (h : L.length < n) (hs : isym bs ls a = .ok (s, a1)) (h16 : 16 ≤ s) (ht : itake bs a1 (wide s) = .ok (v, a2)) (hf : ¬ ((s = 16 ∧ L = []) ∨ n - L.length < least s + v)) :
    ilens bs ls n (k + 1) L a = ilens bs ls n k (L ++ List.replicate (least s + v) (if s = 16 then L.getLast?.getD 0 else 0)) a2 := by
  rw [ilens, if_neg (by omega), hs]
  simp only [if_neg (show ¬ s < 16 by omega), ht]
  rw [if_neg hf]
/-- A row that is new behind w. -/
structure Own (w wr : World) (ao : Option Addr) (cap : Nat) (L : List Nat) : Prop where
  own : wr.ownsRow 0 3 1 (.slice ao L.length cap) L.length (ints L)
  new : ∀ x ∈ blk ao, w.heap.size ≤ x
  le : L.length ≤ cap
  max : cap ≤ maxLen
  nil : ao = none → cap = 0
theorem Own.start (w wr : World) : Own w wr none 0 [] := ⟨⟨by simp [ints], .inl ⟨rfl, rfl⟩⟩, by simp [blk], Nat.le_refl _, Nat.zero_le _, fun _ => rfl⟩
theorem Own.fr {w wr w2 : World} {S : List Nat} {ao : Option Addr} {cap : Nat} {L : List Nat} (h : Own w wr ao cap L) (f : Fr S wr w2) (hS : ∀ x ∈ S, x < w.heap.size) : Own w w2 ao cap L :=
  ⟨ownsRow_fr h.own f (fun k hk hkS => by
    have hk2 : k ∈ blk ao := by rw [← own_blk ao L.length cap, hk]; simp
    have := h.new k hk2
    have := hS k hkS
    omega), h.new, h.le, h.max, h.nil⟩
theorem Own.app {w wr w2 : World} {ao ao2 : Option Addr} {cap cap2 n : Nat} {L : List Nat} {x : Nat} {o : Obj} (h : Own w wr ao cap L) (hn : n = L.length) (fw : w.heap.size ≤ wr.heap.size)
    (A : Appended (wr.alloc o) w2 3 1 (blk ao) ao2 (n + 1) cap2 (ints L ++ [.int .i64 (x : Nat)])) : Own w w2 ao2 cap2 (L ++ [x]) ∧ Fr (blk ao) wr w2 := by
  have el : (L ++ [x]).length = n + 1 := by rw [hn]; simp
  have ei : ints (L ++ [x]) = ints L ++ [.int .i64 (x : Nat)] := by simp [ints]
  refine ⟨⟨by rw [el, ei]; exact A.own, fun y hy => ?_, by rw [el]; exact A.le, A.max, A.nil⟩, ((Fr.refl _ wr).alloc _).trans A.fr⟩
  rcases A.at_ y hy with k | k
  · exact h.new y k
  · rw [k, World.size_alloc]; omega
theorem Own.ri {w wr : World} {ao : Option Addr} {cap : Nat} {L : List Nat} (h : Own w wr ao cap L) : Ri wr ao cap L := ⟨cs_of_owns h.own, h.le, h.max, h.nil⟩
theorem St.up {w wr w2 : World} {R p : Nat} {F S : List Nat} {bs out : List UInt8} {at_ a1 oc most : Nat} {oa : Option Addr} (h0 : St w R p F bs at_ out oa oc most) (h : St wr R p F bs a1 out oa oc most) (f : Fr S wr w2) (hS : ∀ x ∈ S, w.heap.size ≤ x) : St w2 R p F bs a1 out oa oc most :=
  h.fr f (fun hR => by have := hS R hR; have := lt_of_block h0.box; omega) (fun x hx hxS => by have := hS x hxS; have := h0.low x hx; omega) (fun x hx hxS => by have := hS x hxS; have := owns_lt h0.own (blk_own hx); omega)
theorem Own.last {w wr : World} {ao : Option Addr} {cap : Nat} {L : List Nat} (h : Own w wr ao cap L) (h0 : 0 < L.length) : ∃ g, ao = some ⟨g, 0, none⟩ ∧ wr.cell? ⟨g, L.length - 1, none⟩ = some (.int .i64 (L.getLast?.getD 0 : Nat)) := by
  obtain ⟨h1, h2⟩ := h.own
  rcases h2 with ⟨h2, _⟩ | ⟨g, cap', cur, h2, hb, hg, hn, hm, hs, ht⟩
  · simp only [Value.slice.injEq] at h2; omega
  · simp only [Value.slice.injEq] at h2
    refine ⟨g, h2.1, ?_⟩
    rw [cell_of hg, ← Array.getElem?_toList]
    have e1 : (cur.toList.take (L.length * 1))[L.length - 1]? = (ints L)[L.length - 1]? := by rw [ht]
    rw [List.getElem?_take, if_pos (by omega)] at e1
    rw [e1, List.getLast?_eq_getElem?, ints, List.getElem?_map, List.getElem?_eq_getElem (show L.length - 1 < L.length by omega)]
    rfl
theorem Own.cell {w wr : World} {ao : Option Addr} {cap : Nat} {L : List Nat} (h : Own w wr ao cap L) {i : Nat} (h0 : i < L.length) : ∃ g, ao = some ⟨g, 0, none⟩ ∧ wr.cell? ⟨g, i, none⟩ = some (.int .i64 (lenAt L i : Nat)) := by
  obtain ⟨h1, h2⟩ := h.own
  rcases h2 with ⟨h2, _⟩ | ⟨g, cap', cur, h2, hb, hg, hn, hm, hs, ht⟩
  · simp only [Value.slice.injEq] at h2; omega
  · simp only [Value.slice.injEq] at h2
    refine ⟨g, h2.1, ?_⟩
    rw [cell_of hg, ← Array.getElem?_toList]
    have e1 : (cur.toList.take (L.length * 1))[i]? = (ints L)[i]? := by rw [ht]
    rw [List.getElem?_take, if_pos (by omega)] at e1
    rw [e1, ints, List.getElem?_map, List.getElem?_eq_getElem h0, lenAt, List.getElem?_eq_getElem h0]
    rfl
def LensGood (w : World) (R p : Nat) (F : List Nat) (bs out : List UInt8) (oa : Option Addr) (oc most n : Nat) (m : Except Nat (List Nat × Nat)) (e : Ending) (w' : World) : Prop :=
  (∃ c, m = .error c ∧ 0 < c ∧ c < 100 ∧ e = .returned (.tuple #[.slice none 0 0, .int .i64 (c : Nat)]) ∧ Fr (R :: p :: blk oa) w w') ∨
  (∃ L a ao cap, m = .ok (L, a) ∧ e = .returned (.tuple #[.slice ao L.length cap, .int .i64 0]) ∧ St w' R p F bs a out oa oc most ∧ Fr [p] w w' ∧ Own w w' ao cap L ∧ L.length = n ∧ ∀ x ∈ L, x ≤ 15)
set_option maxRecDepth 100000 in
set_option maxHeartbeats 8000000 in
theorem lengths_any (R p P n : Nat) (F : List Nat) (bs out : List UInt8) (ls : List Nat) (at_ oc most : Nat) (oa : Option Addr) (w : World) (h : St w R p F bs at_ out oa oc most) (hT : Tb w P ls (R :: p :: blk oa)) (hl : ls.length ≤ 19) (hn : n ≤ 400) :
    Calls Tryz.prog 63 #[.pointer (some ⟨R, 0, none⟩), .pointer (some ⟨P, 0, none⟩), .int .i64 (n : Nat)] w (LensGood w R p F bs out oa oc most n (ilens bs ls n (n + 1) [] at_)) := by
  obtain ⟨M, hM⟩ : ∃ M, M = ilens bs ls n (n + 1) [] at_ := ⟨_, rfl⟩
  rw [← hM]
  have H := Lib.hid (And.intro h (And.intro hT (And.intro hM hl)))
  clear h hT hM hl
  go_enter Tryz.func63, Tryz.ntmps63
  go_wp2
  go_loopg [6, 7, 8, 9, 10, 11, 12, 13, 14, 79] (n + 1) (fun k s6 s7 s8 s9 s10 s11 s12 s13 s14 s79 wr => ∃ (l a1 : Nat) (L : List Nat) (ao : Option Addr) (cap : Nat), s8 = .slice ao l cap ∧ l = L.length ∧ l ≤ n ∧ n + 1 ≤ l + k ∧ St wr R p F bs a1 out oa oc most ∧ Fr [p] w wr ∧ Own w wr ao cap L ∧ ilens bs ls n k L a1 = M ∧ ∀ x ∈ L, x ≤ 15)
  case atStart => exact ⟨0, at_, [], none, 0, rfl, rfl, by omega, by omega, H.out.1, .refl _ _, .start _ _, H.out.2.2.1.symm, by simp⟩
  case round =>
    obtain ⟨l, a1, L, ao, cap, rfl, hlL, hln, hlk, hst, hf, hown, hil, h15⟩ := hrel
    obtain ⟨k, rfl⟩ : ∃ k, gk = k + 1 := ⟨gk - 1, by omega⟩
    have c0 := cell_of hst.box 0
    simp only [List.getElem?_toArray, List.getElem?_cons_zero, List.getElem?_cons_succ] at c0
    by_cases hlt : l < n
    · have HJ := Lib.hid (And.intro hst (And.intro hf (And.intro hown (And.intro hil (And.intro h15 hlL)))))
      clear hst hf hown hil h15 hlL
      have hp : ∀ x ∈ [p], x < w.heap.size := fun x hx => by simp at hx; rw [hx]; exact H.out.1.low _ H.out.1.pF.1
      have HP := Lib.hid hp
      clear hp
      go_upto_block 3 with (first
        | (go_at_call 77; refine (sym_any R p P F bs out ls a1 oc most oa wr HJ.out.1 (H.out.2.1.fr HJ.out.2.1 (by simp))).mono ?_; rintro e w2 (⟨v2, c, hm, hc0, hc1, rfl, f1⟩ | ⟨s, a2, hm, rfl, s2, f2⟩); rotate_left; (have hs19 := (isym_lt hm).1; have hls := H.out.2.2.2; rcases (show s < 16 ∨ (s = 16 ∧ l = 0) ∨ (s = 16 ∧ 0 < l) ∨ s = 17 ∨ s = 18 by omega) with hs | ⟨rfl, rfl⟩ | ⟨rfl, hl0⟩ | rfl | rfl); all_goals (try (have T2 : Calls Tryz.prog 17 #[.pointer (some ⟨R, 0, none⟩), .int .i64 2] w2 (RetV w2 R p F bs out oa oc most (itake bs a2 2)) := take_any R p F bs out a2 oc most 2 oa w2 s2 (by decide); have T3 : Calls Tryz.prog 17 #[.pointer (some ⟨R, 0, none⟩), .int .i64 3] w2 (RetV w2 R p F bs out oa oc most (itake bs a2 3)) := take_any R p F bs out a2 oc most 3 oa w2 s2 (by decide); have T7 : Calls Tryz.prog 17 #[.pointer (some ⟨R, 0, none⟩), .int .i64 7] w2 (RetV w2 R p F bs out oa oc most (itake bs a2 7)) := take_any R p F bs out a2 oc most 7 oa w2 s2 (by decide); have K2 := Lib.hid (And.intro hm (And.intro s2 (And.intro f2 (And.intro T2 (And.intro T3 (And.intro T7 (HJ.out.2.2.1.fr f2 HP.out))))))); clear hm s2 f2 T2 T3 T7 hs19 hls)); all_goals (first | (have _t := hl0; obtain ⟨g, rfl, hce⟩ := K2.out.2.2.2.2.2.2.last (by rw [← HJ.out.2.2.2.2.2]; exact hl0); rw [← HJ.out.2.2.2.2.2] at hce) | skip))
        | (go_at_call 17; (first | with_reducible refine K2.out.2.2.2.1.mono ?_ | with_reducible refine K2.out.2.2.2.2.1.mono ?_ | with_reducible refine K2.out.2.2.2.2.2.1.mono ?_); rintro e w3 (⟨v3, c, hm, hc0, hc1, rfl, f1⟩ | ⟨v, a3, hm, rfl, s3, f3⟩); all_goals (try (replace hce := f3.cell hce (by have := K2.out.2.2.2.2.2.2.new g (by simp [blk]); have := HP.out p (by simp); simp; omega); have hlb : ((l : Int) == 0) = false := by simp; omega)); all_goals (try (have hvb := itake_lt hm; have K3 := Lib.hid (And.intro hm (And.intro s3 f3)); clear hm s3 f3)))
        | (at_builtin; go_loud (refine wpList_append huf.sty_int rfl _ _ rfl (.slice ao l cap) l (ints L) (blk ao) rfl (own_blk ao l cap) (by have := ownsRow_fr K2.out.2.2.2.2.2.2.own ((Fr.refl [] w2).alloc (.cells #[.int .i64 (s : Nat)] 3 (0, 0))) (by simp); rwa [← HJ.out.2.2.2.2.2] at this) (some ⟨w2.heap.size, 0, none⟩) 1 1 [.int .i64 (s : Nat)] (by first | rfl | simp) (Nat.le_refl _) (fun h => by cases h) (cs_one _ _ _ _ (alloc_at _ _)) rfl (by intro u hu; simp only [List.mem_singleton] at hu; rw [hu]; rfl) (by omega) (by unfold maxLen; omega) ?_); intro ao2 cap2 w4 A4; have HA := Lib.hid A4; clear A4))
      · go_roundg k
        case measure => omega
        case rel =>
          have hp := HP.out
          have hA := HJ.out.2.2.1.fr K2.out.2.2.1 hp
          have hA2 := hA.app (n := l) HJ.out.2.2.2.2.2 (HJ.out.2.1.trans K2.out.2.2.1).size HA.out
          refine ⟨l + 1, a2, L ++ [s], ao2, cap2, rfl, by rw [List.length_append, ← HJ.out.2.2.2.2.2]; rfl, by omega, by omega, H.out.1.up K2.out.2.1 hA2.2 (fun x hx => hA.new x hx), (HJ.out.2.1.trans K2.out.2.2.1).step hA2.2 (fun x hx => .inr (hA.new x hx)), hA2.1, ?_, ?_⟩
          · rw [← HJ.out.2.2.2.1, ilens_lit (by rw [← HJ.out.2.2.2.2.2]; exact hlt) K2.out.1 hs]
          · intro x hx
            rcases List.mem_append.1 hx with h1 | h1
            · exact HJ.out.2.2.2.2.1 x h1
            · simp at h1; omega
      · go_ret2
        exact .inl ⟨c, by rw [← HJ.out.2.2.2.1, ilens_take (by rw [← HJ.out.2.2.2.2.2]; exact hlt) K2.out.1 (by decide) hm], hc0, hc1, rfl, ((HJ.out.2.1.trans K2.out.2.2.1).mono (by simp)).trans f1⟩
      · go_ret2
        exact .inl ⟨3, by rw [← HJ.out.2.2.2.1, ilens_form (by rw [← HJ.out.2.2.2.2.2]; exact hlt) K2.out.1 (by decide) K3.out.1 (.inl ⟨rfl, List.eq_nil_of_length_eq_zero (HJ.out.2.2.2.2.2).symm⟩)], by decide, by decide, rfl, ((HJ.out.2.1.trans K2.out.2.2.1).trans K3.out.2.2).mono (by simp)⟩
      · go_ret2
        exact .inl ⟨c, by rw [← HJ.out.2.2.2.1, ilens_take (by rw [← HJ.out.2.2.2.2.2]; exact hlt) K2.out.1 (by decide) hm], hc0, hc1, rfl, ((HJ.out.2.1.trans K2.out.2.2.1).mono (by simp)).trans f1⟩
      · go_ret2
        exact .inl ⟨3, by rw [← HJ.out.2.2.2.1, ilens_form (by rw [← HJ.out.2.2.2.2.2]; exact hlt) K2.out.1 (by decide) K3.out.1 (.inr (by rw [← HJ.out.2.2.2.2.2]; show n - l < 3 + v; omega))], by decide, by decide, rfl, ((HJ.out.2.1.trans K2.out.2.2.1).trans K3.out.2.2).mono (by simp)⟩
      · obtain ⟨t, ht⟩ : ∃ t, t = 3 + v := ⟨_, rfl⟩
        have et : (3 : Int) + (v : Nat) = (t : Nat) := by rw [ht]; omega
        rw [et]
        have htn : t ≤ n - l := by omega
        obtain ⟨x, hx⟩ : ∃ x, x = L.getLast?.getD 0 := ⟨_, rfl⟩
        have hx15 : x ≤ 15 := by
          rw [hx, List.getLast?_eq_getElem?, List.getElem?_eq_getElem (show L.length - 1 < L.length by have := HJ.out.2.2.2.2.2; omega)]
          exact HJ.out.2.2.2.2.1 _ (List.getElem_mem _)
        have hE : ilens bs ls n k (L ++ List.replicate t x) a3 = M := by
          rw [← HJ.out.2.2.2.1, ilens_rep (s := 16) (v := v) (a2 := a3) (by rw [← HJ.out.2.2.2.2.2]; exact hlt) K2.out.1 (by decide) K3.out.1 (by
            rintro (⟨_, h1⟩ | h1)
            · have := HJ.out.2.2.2.2.2; rw [h1] at this; simp at this; omega
            · rw [← HJ.out.2.2.2.2.2] at h1; have h2 : n - l < 3 + v := h1; omega), ht, hx]
          rfl
        rw [← hx]
        have hv0 : 0 < t := by omega
        have HB := Lib.hid (And.intro hE (And.intro hx15 (And.intro (K2.out.2.2.2.2.2.2.fr K3.out.2.2 HP.out) (And.intro ((HJ.out.2.1.trans K2.out.2.2.1).trans K3.out.2.2) ht))))
        clear hE hx15 ht et hvb c0 hx hce hlb
        go_wp2
        go_loopg [8, 79] t (fun k2 s8 s79 wr => ∃ (j : Nat) (ao2 : Option Addr) (cap2 : Nat), s79 = .int .i64 (j : Nat) ∧ s8 = .slice ao2 (l + j) cap2 ∧ j + k2 = t ∧ St wr R p F bs a3 out oa oc most ∧ Fr [p] w wr ∧ Own w wr ao2 cap2 (L ++ List.replicate j x))
        case atStart => exact ⟨0, (some ⟨g, 0, none⟩), cap, rfl, rfl, by omega, K3.out.2.1, HB.out.2.2.2.1, by simpa using HB.out.2.2.1⟩
        case round =>
          obtain ⟨j, ao2, cap2, rfl, rfl, hjt, hs3, hf3, how⟩ := hrel
          have hjl : l + j = (L ++ List.replicate j x).length := by rw [List.length_append, List.length_replicate, ← HJ.out.2.2.2.2.2]
          by_cases hj : j < t
          · obtain ⟨k2, rfl⟩ : ∃ k2, gk = k2 + 1 := ⟨gk - 1, by omega⟩
            have HI := Lib.hid (And.intro hs3 (And.intro hf3 (And.intro how hjl)))
            clear hs3 hf3 how hjl
            go_wp2_with (at_builtin; go_loud (refine wpList_append huf.sty_int rfl _ _ rfl (.slice ao2 (l + j) cap2) (l + j) (ints (L ++ List.replicate j x)) (blk ao2) rfl (own_blk ao2 (l + j) cap2) (by have := ownsRow_fr HI.out.2.2.1.own ((Fr.refl [] wr).alloc (.cells #[.int .i64 (x : Nat)] 3 (0, 0))) (by simp); rwa [← HI.out.2.2.2] at this) (some ⟨wr.heap.size, 0, none⟩) 1 1 [.int .i64 (x : Nat)] (by first | rfl | simp) (Nat.le_refl _) (fun h => by cases h) (cs_one _ _ _ _ (alloc_at _ _)) rfl (by intro u hu; simp only [List.mem_singleton] at hu; rw [hu]; rfl) (by omega) (by unfold maxLen; omega) ?_); intro ao3 cap3 w5 A5; have HA := Lib.hid A5; clear A5)
            go_roundg k2
            case measure => omega
            case rel =>
              have hA2 := HI.out.2.2.1.app (n := l + j) (x := x) HI.out.2.2.2 HI.out.2.1.size HA.out
              refine ⟨j + 1, ao3, cap3, by go_num, rfl, by omega, H.out.1.up HI.out.1 hA2.2 (fun y hy => HI.out.2.2.1.new y hy), HI.out.2.1.step hA2.2 (fun y hy => .inr (HI.out.2.2.1.new y hy)), ?_⟩
              rw [List.replicate_succ', ← List.append_assoc]
              exact hA2.1
          · obtain rfl : j = t := by omega
            have HI := Lib.hid (And.intro hs3 (And.intro hf3 (And.intro how hjl)))
            clear hs3 hf3 how hjl
            go_wp2
            go_roundg k
            case measure => omega
            case rel =>
              refine ⟨l + j, a3, L ++ List.replicate j x, ao2, cap2, rfl, HI.out.2.2.2, by omega, by omega, HI.out.1, HI.out.2.1, HI.out.2.2.1, HB.out.1, ?_⟩
              intro y hy
              rcases List.mem_append.1 hy with h1 | h1
              · exact HJ.out.2.2.2.2.1 y h1
              · rw [(List.mem_replicate.1 h1).2]; exact HB.out.2.1
      · go_ret2
        exact .inl ⟨c, by rw [← HJ.out.2.2.2.1, ilens_take (by rw [← HJ.out.2.2.2.2.2]; exact hlt) K2.out.1 (by decide) hm], hc0, hc1, rfl, ((HJ.out.2.1.trans K2.out.2.2.1).mono (by simp)).trans f1⟩
      · go_ret2
        exact .inl ⟨3, by rw [← HJ.out.2.2.2.1, ilens_form (by rw [← HJ.out.2.2.2.2.2]; exact hlt) K2.out.1 (by decide) K3.out.1 (.inr (by rw [← HJ.out.2.2.2.2.2]; show n - l < 3 + v; omega))], by decide, by decide, rfl, ((HJ.out.2.1.trans K2.out.2.2.1).trans K3.out.2.2).mono (by simp)⟩
      · obtain ⟨t, ht⟩ : ∃ t, t = 3 + v := ⟨_, rfl⟩
        have et : (3 : Int) + (v : Nat) = (t : Nat) := by rw [ht]; omega
        rw [et]
        have htn : t ≤ n - l := by omega
        have hE : ilens bs ls n k (L ++ List.replicate t 0) a3 = M := by
          rw [← HJ.out.2.2.2.1, ilens_rep (s := 17) (v := v) (a2 := a3) (by rw [← HJ.out.2.2.2.2.2]; exact hlt) K2.out.1 (by decide) K3.out.1 (by
            rintro (⟨h1, _⟩ | h1)
            · cases h1
            · rw [← HJ.out.2.2.2.2.2] at h1; have h2 : n - l < 3 + v := h1; omega), ht]
          rfl
        have hx15 : 0 ≤ 15 := by decide
        have hv0 : 0 < t := by omega
        have HB := Lib.hid (And.intro hE (And.intro hx15 (And.intro (K2.out.2.2.2.2.2.2.fr K3.out.2.2 HP.out) (And.intro ((HJ.out.2.1.trans K2.out.2.2.1).trans K3.out.2.2) ht))))
        clear hE hx15 ht et hvb c0
        go_wp2
        go_loopg [8, 79] t (fun k2 s8 s79 wr => ∃ (j : Nat) (ao2 : Option Addr) (cap2 : Nat), s79 = .int .i64 (j : Nat) ∧ s8 = .slice ao2 (l + j) cap2 ∧ j + k2 = t ∧ St wr R p F bs a3 out oa oc most ∧ Fr [p] w wr ∧ Own w wr ao2 cap2 (L ++ List.replicate j 0))
        case atStart => exact ⟨0, ao, cap, rfl, rfl, by omega, K3.out.2.1, HB.out.2.2.2.1, by simpa using HB.out.2.2.1⟩
        case round =>
          obtain ⟨j, ao2, cap2, rfl, rfl, hjt, hs3, hf3, how⟩ := hrel
          have hjl : l + j = (L ++ List.replicate j 0).length := by rw [List.length_append, List.length_replicate, ← HJ.out.2.2.2.2.2]
          by_cases hj : j < t
          · obtain ⟨k2, rfl⟩ : ∃ k2, gk = k2 + 1 := ⟨gk - 1, by omega⟩
            have HI := Lib.hid (And.intro hs3 (And.intro hf3 (And.intro how hjl)))
            clear hs3 hf3 how hjl
            go_wp2_with (at_builtin; go_loud (refine wpList_append huf.sty_int rfl _ _ rfl (.slice ao2 (l + j) cap2) (l + j) (ints (L ++ List.replicate j 0)) (blk ao2) rfl (own_blk ao2 (l + j) cap2) (by have := ownsRow_fr HI.out.2.2.1.own ((Fr.refl [] wr).alloc (.cells #[.int .i64 0] 3 (0, 0))) (by simp); rwa [← HI.out.2.2.2] at this) (some ⟨wr.heap.size, 0, none⟩) 1 1 [.int .i64 0] (by first | rfl | simp) (Nat.le_refl _) (fun h => by cases h) (cs_one _ _ _ _ (alloc_at _ _)) rfl (by intro u hu; simp only [List.mem_singleton] at hu; rw [hu]; rfl) (by omega) (by unfold maxLen; omega) ?_); intro ao3 cap3 w5 A5; have HA := Lib.hid A5; clear A5)
            go_roundg k2
            case measure => omega
            case rel =>
              have hA2 := HI.out.2.2.1.app (n := l + j) (x := 0) HI.out.2.2.2 HI.out.2.1.size HA.out
              refine ⟨j + 1, ao3, cap3, by go_num, rfl, by omega, H.out.1.up HI.out.1 hA2.2 (fun y hy => HI.out.2.2.1.new y hy), HI.out.2.1.step hA2.2 (fun y hy => .inr (HI.out.2.2.1.new y hy)), ?_⟩
              rw [List.replicate_succ', ← List.append_assoc]
              exact hA2.1
          · obtain rfl : j = t := by omega
            have HI := Lib.hid (And.intro hs3 (And.intro hf3 (And.intro how hjl)))
            clear hs3 hf3 how hjl
            go_wp2
            go_roundg k
            case measure => omega
            case rel =>
              refine ⟨l + j, a3, L ++ List.replicate j 0, ao2, cap2, rfl, HI.out.2.2.2, by omega, by omega, HI.out.1, HI.out.2.1, HI.out.2.2.1, HB.out.1, ?_⟩
              intro y hy
              rcases List.mem_append.1 hy with h1 | h1
              · exact HJ.out.2.2.2.2.1 y h1
              · rw [(List.mem_replicate.1 h1).2]; exact HB.out.2.1
      · go_ret2
        exact .inl ⟨c, by rw [← HJ.out.2.2.2.1, ilens_take (by rw [← HJ.out.2.2.2.2.2]; exact hlt) K2.out.1 (by decide) hm], hc0, hc1, rfl, ((HJ.out.2.1.trans K2.out.2.2.1).mono (by simp)).trans f1⟩
      · go_ret2
        exact .inl ⟨3, by rw [← HJ.out.2.2.2.1, ilens_form (by rw [← HJ.out.2.2.2.2.2]; exact hlt) K2.out.1 (by decide) K3.out.1 (.inr (by rw [← HJ.out.2.2.2.2.2]; show n - l < 11 + v; omega))], by decide, by decide, rfl, ((HJ.out.2.1.trans K2.out.2.2.1).trans K3.out.2.2).mono (by simp)⟩
      · obtain ⟨t, ht⟩ : ∃ t, t = 11 + v := ⟨_, rfl⟩
        have et : (11 : Int) + (v : Nat) = (t : Nat) := by rw [ht]; omega
        rw [et]
        have htn : t ≤ n - l := by omega
        have hE : ilens bs ls n k (L ++ List.replicate t 0) a3 = M := by
          rw [← HJ.out.2.2.2.1, ilens_rep (s := 18) (v := v) (a2 := a3) (by rw [← HJ.out.2.2.2.2.2]; exact hlt) K2.out.1 (by decide) K3.out.1 (by
            rintro (⟨h1, _⟩ | h1)
            · cases h1
            · rw [← HJ.out.2.2.2.2.2] at h1; have h2 : n - l < 11 + v := h1; omega), ht]
          rfl
        have hx15 : 0 ≤ 15 := by decide
        have hv0 : 0 < t := by omega
        have HB := Lib.hid (And.intro hE (And.intro hx15 (And.intro (K2.out.2.2.2.2.2.2.fr K3.out.2.2 HP.out) (And.intro ((HJ.out.2.1.trans K2.out.2.2.1).trans K3.out.2.2) ht))))
        clear hE hx15 ht et hvb c0
        go_wp2
        go_loopg [8, 79] t (fun k2 s8 s79 wr => ∃ (j : Nat) (ao2 : Option Addr) (cap2 : Nat), s79 = .int .i64 (j : Nat) ∧ s8 = .slice ao2 (l + j) cap2 ∧ j + k2 = t ∧ St wr R p F bs a3 out oa oc most ∧ Fr [p] w wr ∧ Own w wr ao2 cap2 (L ++ List.replicate j 0))
        case atStart => exact ⟨0, ao, cap, rfl, rfl, by omega, K3.out.2.1, HB.out.2.2.2.1, by simpa using HB.out.2.2.1⟩
        case round =>
          obtain ⟨j, ao2, cap2, rfl, rfl, hjt, hs3, hf3, how⟩ := hrel
          have hjl : l + j = (L ++ List.replicate j 0).length := by rw [List.length_append, List.length_replicate, ← HJ.out.2.2.2.2.2]
          by_cases hj : j < t
          · obtain ⟨k2, rfl⟩ : ∃ k2, gk = k2 + 1 := ⟨gk - 1, by omega⟩
            have HI := Lib.hid (And.intro hs3 (And.intro hf3 (And.intro how hjl)))
            clear hs3 hf3 how hjl
            go_wp2_with (at_builtin; go_loud (refine wpList_append huf.sty_int rfl _ _ rfl (.slice ao2 (l + j) cap2) (l + j) (ints (L ++ List.replicate j 0)) (blk ao2) rfl (own_blk ao2 (l + j) cap2) (by have := ownsRow_fr HI.out.2.2.1.own ((Fr.refl [] wr).alloc (.cells #[.int .i64 0] 3 (0, 0))) (by simp); rwa [← HI.out.2.2.2] at this) (some ⟨wr.heap.size, 0, none⟩) 1 1 [.int .i64 0] (by first | rfl | simp) (Nat.le_refl _) (fun h => by cases h) (cs_one _ _ _ _ (alloc_at _ _)) rfl (by intro u hu; simp only [List.mem_singleton] at hu; rw [hu]; rfl) (by omega) (by unfold maxLen; omega) ?_); intro ao3 cap3 w5 A5; have HA := Lib.hid A5; clear A5)
            go_roundg k2
            case measure => omega
            case rel =>
              have hA2 := HI.out.2.2.1.app (n := l + j) (x := 0) HI.out.2.2.2 HI.out.2.1.size HA.out
              refine ⟨j + 1, ao3, cap3, by go_num, rfl, by omega, H.out.1.up HI.out.1 hA2.2 (fun y hy => HI.out.2.2.1.new y hy), HI.out.2.1.step hA2.2 (fun y hy => .inr (HI.out.2.2.1.new y hy)), ?_⟩
              rw [List.replicate_succ', ← List.append_assoc]
              exact hA2.1
          · obtain rfl : j = t := by omega
            have HI := Lib.hid (And.intro hs3 (And.intro hf3 (And.intro how hjl)))
            clear hs3 hf3 how hjl
            go_wp2
            go_roundg k
            case measure => omega
            case rel =>
              refine ⟨l + j, a3, L ++ List.replicate j 0, ao2, cap2, rfl, HI.out.2.2.2, by omega, by omega, HI.out.1, HI.out.2.1, HI.out.2.2.1, HB.out.1, ?_⟩
              intro y hy
              rcases List.mem_append.1 hy with h1 | h1
              · exact HJ.out.2.2.2.2.1 y h1
              · rw [(List.mem_replicate.1 h1).2]; exact HB.out.2.1
      · go_ret2
        exact .inl ⟨c, by rw [← HJ.out.2.2.2.1, ilens_sym (by rw [← HJ.out.2.2.2.2.2]; exact hlt) hm], hc0, hc1, rfl, (HJ.out.2.1.mono (by simp)).trans f1⟩
    · obtain rfl : l = n := by omega
      have e1 : ilens bs ls l (k + 1) L a1 = .ok (L, a1) := ilens_end (by omega)
      have HJ := Lib.hid (And.intro hst (And.intro hf (And.intro hown (And.intro hil (And.intro h15 (And.intro hlL e1))))))
      clear hst hf hown hil h15 hlL e1 hlt hln
      go_wp2
      go_ret2
      exact .inr ⟨L, a1, ao, cap, by rw [← HJ.out.2.2.2.1, HJ.out.2.2.2.2.2.2], by rw [← HJ.out.2.2.2.2.2.1]; rfl, HJ.out.1, HJ.out.2.1, HJ.out.2.2.1, HJ.out.2.2.2.2.2.1.symm, HJ.out.2.2.2.2.1⟩
end Go.Proofs.YtolkoidbkaidkaaGreat.inf
/-
  inflate: fixed.
-/
namespace Go.Proofs.YtolkoidbkaidkaaGreat.inf
open Go Go.RowKit Go.Proofs.YtolkoidbkaidkaaGreat.lib Go.Proofs.YtolkoidbkaidkaaGreat.bm Go.Proofs.YtolkoidbkaidkaaGreat.bl Go.Proofs.YtolkoidbkaidkaaGreat.huf

theorem ifix_1 {i : Nat} (h : i < 144) : ifix i = 8 := by unfold ifix; rw [if_pos h]
theorem ifix_2 {i : Nat} (h1 : ¬ i < 144) (h : i < 256) : ifix i = 9 := by unfold ifix; rw [if_neg h1, if_pos h]
theorem ifix_3 {i : Nat} (h1 : ¬ i < 144) (h2 : ¬ i < 256) (h : i < 280) : ifix i = 7 := by unfold ifix; rw [if_neg h1, if_neg h2, if_pos h]
theorem ifix_4 {i : Nat} (h1 : ¬ i < 144) (h2 : ¬ i < 256) (h : ¬ i < 280) : ifix i = 8 := by unfold ifix; rw [if_neg h1, if_neg h2, if_neg h]
theorem ifix_le (i : Nat) : ifix i ≤ 15 := by unfold ifix; split; omega; split; omega; split <;> omega
theorem fixed_le : ∀ l ∈ fixed 288, l ≤ 15 := fun l hl => by
  obtain ⟨i, _, rfl⟩ := List.mem_map.1 hl
  exact ifix_le i
theorem fixed_weight : weight (fixed 288) = 32768 := by decide +kernel
theorem five_weight : weight (List.replicate 32 5) = 32768 := by decide +kernel
theorem five_map : (List.range 32).map (fun _ => 5) = List.replicate 32 5 := by decide +kernel
theorem fill_step {i v s : Nat} (hv : ifix i = v) : (if s = i then v else if s < i then ifix s else 0) = if s < i + 1 then ifix s else 0 := by
  by_cases e : s = i
  · rw [if_pos e, if_pos (by omega), e, hv]
  · rw [if_neg e]
    by_cases e2 : s < i
    · rw [if_pos e2, if_pos (by omega)]
    · rw [if_neg e2, if_neg (by omega)]
theorem tabb_tb {w : World} {P D B E : Nat} {ls X : List Nat} {first : Nat → Nat} {sa : Nat → Option Addr} {sc : Nat → Nat} (h : TabB w P D ls first sa sc B E) (hE : E ≤ w.heap.size) (hX : ∀ x ∈ X, x < B) : Tb w P ls X :=
  ⟨D, first, sa, sc, h.tab, Nat.lt_of_lt_of_le h.at_.2 hE, fun hP => by have := hX P hP; have := h.at_.1; omega, fun l hl x hx => ⟨Nat.lt_of_lt_of_le (h.row l hl x hx).2 hE, fun hxX => by have := hX x hxX; have := (h.row l hl x hx).1; omega⟩⟩
theorem St.under {w : World} {R p : Nat} {F : List Nat} {bs out : List UInt8} {at_ oc most : Nat} {oa : Option Addr} (h : St w R p F bs at_ out oa oc most) : ∀ x ∈ R :: p :: blk oa, x < w.heap.size := fun x hx => by
  simp only [List.mem_cons] at hx
  rcases hx with rfl | rfl | hx
  · exact lt_of_block h.box
  · exact h.low _ h.pF.1
  · exact owns_lt h.own (blk_own hx)
set_option maxRecDepth 100000 in
set_option maxHeartbeats 4000000 in
theorem fixed_any (R p : Nat) (F : List Nat) (bs out : List UInt8) (at_ oc most : Nat) (oa : Option Addr) (w : World) (h : St w R p F bs at_ out oa oc most) :
    Calls Tryz.prog 42 #[.pointer (some ⟨R, 0, none⟩)] w (Ret w R p F bs oa most (ifixed bs most out at_)) := by
  obtain ⟨hu, ⟨ti, hi', hz', hs', hb'⟩, hcz, hp⟩ := huf.sty_int
  have H := Lib.hid h
  clear h
  go_enter Tryz.func42, Tryz.ntmps42
  obtain ⟨Q, hQ⟩ : ∃ Q, Q = w.heap.size := ⟨_, rfl⟩
  have HQ := Lib.hid hQ
  clear hQ
  go_upto_block 0 with (refine wpList_make_full _ rfl _ _ 35 rfl 0 3 ti (.int .i64 0) 1 hu hi' hz' hs' .i64 .i64 288 288 288 rfl rfl rfl rfl (by rw [hb']; omega) (by unfold maxLen; omega) (by omega) ?_; intro w1 own1 grow1; have H1 := Lib.hid (And.intro own1 grow1); clear own1 grow1)
  rw [← HQ.out] at H1 ⊢
  have hq1 : Ow w1 Q 288 (fun _ => 0) := ow_made H1.out.1
  have f1 : Fr [] w w1 := (Fr.refl [] w).grown H1.out.2 (fun k hk => by cases hk)
  have HS := Lib.hid (And.intro hq1 f1)
  clear hq1 f1 H1
  go_wp2
  go_loopg [4, 14, 20, 26, 32] 288 (fun k s4 s14 s20 s26 s32 wr => ∃ i : Nat, s14 = .int .i64 (i : Nat) ∧ i + k = 288 ∧ Ow wr Q 288 (fun j => if j < i then ifix j else 0) ∧ Fr [] w wr)
  case atStart => exact ⟨0, rfl, rfl, HS.out.1.congr fun s _ => by simp, HS.out.2⟩
  case round =>
    obtain ⟨i, rfl, hik, how, hf⟩ := hrel
    by_cases hi : i < 288
    · obtain ⟨k, rfl⟩ : ∃ k, gk = k + 1 := ⟨gk - 1, by omega⟩
      have c1 := how.cell hi
      have z1 := how.frozen i
      have HI := Lib.hid (And.intro how hf)
      clear how hf
      go_wp2
      · go_roundg k
        case measure => omega
        case rel => exact ⟨i + 1, by go_num, by omega, (HI.out.1.set hi 8).congr (fun s _ => fill_step (ifix_1 (by omega))), HI.out.2.step ((Fr.refl [Q] wr).setCell (by simp) _) (fun z hz => .inr (by simp at hz; rw [hz, HQ.out]; exact Nat.le_refl _))⟩
      · go_roundg k
        case measure => omega
        case rel => exact ⟨i + 1, by go_num, by omega, (HI.out.1.set hi 9).congr (fun s _ => fill_step (ifix_2 (by omega) (by omega))), HI.out.2.step ((Fr.refl [Q] wr).setCell (by simp) _) (fun z hz => .inr (by simp at hz; rw [hz, HQ.out]; exact Nat.le_refl _))⟩
      · go_roundg k
        case measure => omega
        case rel => exact ⟨i + 1, by go_num, by omega, (HI.out.1.set hi 7).congr (fun s _ => fill_step (ifix_3 (by omega) (by omega) (by omega))), HI.out.2.step ((Fr.refl [Q] wr).setCell (by simp) _) (fun z hz => .inr (by simp at hz; rw [hz, HQ.out]; exact Nat.le_refl _))⟩
      · go_roundg k
        case measure => omega
        case rel => exact ⟨i + 1, by go_num, by omega, (HI.out.1.set hi 8).congr (fun s _ => fill_step (ifix_4 (by omega) (by omega) (by omega))), HI.out.2.step ((Fr.refl [Q] wr).setCell (by simp) _) (fun z hz => .inr (by simp at hz; rw [hz, HQ.out]; exact Nat.le_refl _))⟩
    · obtain rfl : i = 288 := by omega
      have hfix : Ow wr Q 288 ifix := how.congr fun s hs => if_pos hs
      obtain ⟨w2, rfl⟩ : ∃ w2 : World, w2 = wr := ⟨_, rfl⟩
      obtain ⟨Q2, hQ2⟩ : ∃ Q2, Q2 = w2.heap.size := ⟨_, rfl⟩
      have HI := Lib.hid (And.intro hfix (And.intro hf hQ2))
      clear how hf hfix hQ2 hik
      go_upto_block 3 with (refine wpList_make_full _ rfl _ _ 35 rfl 0 3 ti (.int .i64 0) 1 hu hi' hz' hs' .i64 .i64 32 32 32 rfl rfl rfl rfl (by rw [hb']; omega) (by unfold maxLen; omega) (by omega) ?_; intro w3 own3 grow3; have H3 := Lib.hid (And.intro own3 grow3); clear own3 grow3)
      rw [← HI.out.2.2] at H3 ⊢
      have hq3 : Ow w3 Q2 32 (fun _ => 0) := ow_made H3.out.1
      have f3 : Fr [] w2 w3 := (Fr.refl [] w2).grown H3.out.2 (fun k hk => by cases hk)
      have HT := Lib.hid (And.intro hq3 (And.intro f3 (HI.out.1.fr f3 (by simp))))
      clear hq3 f3 H3 hu hi' hz' hs' hb' hcz hp
      go_wp2
      go_loopg [6, 42] 32 (fun k s6 s42 wr => ∃ i : Nat, s42 = .int .i64 (i : Nat) ∧ i + k = 32 ∧ Ow wr Q2 32 (fun j => if j < i then 5 else 0) ∧ Ow wr Q 288 ifix ∧ Fr [] w wr)
      case atStart => exact ⟨0, rfl, rfl, HT.out.1.congr fun s _ => by simp, HT.out.2.2, HI.out.2.1.trans HT.out.2.1⟩
      case round =>
        obtain ⟨j, rfl, hjk, how, how0, hf⟩ := hrel
        have hQQ : Q < Q2 := by
          obtain ⟨A, hA, _⟩ := HI.out.1
          rw [HI.out.2.2]
          exact lt_of_block hA
        by_cases hj : j < 32
        · obtain ⟨k, rfl⟩ : ∃ k, gk = k + 1 := ⟨gk - 1, by omega⟩
          have c1 := how.cell hj
          have z1 := how.frozen j
          have HJ := Lib.hid (And.intro how (And.intro how0 hf))
          clear how how0 hf
          go_wp2
          go_roundg k
          case measure => omega
          case rel => exact ⟨j + 1, by go_num, by omega, (HJ.out.1.set hj 5).congr (fun s _ => by
            by_cases e : s = j
            · rw [if_pos e, if_pos (by omega)]
            · rw [if_neg e]
              by_cases e2 : s < j
              · rw [if_pos e2, if_pos (by omega)]
              · rw [if_neg e2, if_neg (by omega)]), HJ.out.2.1.fr ((Fr.refl [Q2] wr).setCell (by simp) _) (by simp; omega), HJ.out.2.2.step ((Fr.refl [Q2] wr).setCell (by simp) _) (fun z hz => .inr (by simp at hz; rw [hz, HI.out.2.2]; exact HI.out.2.1.size))⟩
        · obtain rfl : j = 32 := by omega
          have h5 : Ow wr Q2 32 (fun _ => 5) := how.congr fun s hs => if_pos hs
          have r1 : Ri wr (some ⟨Q, 0, none⟩) 288 (fixed 288) := ⟨how0.cs, by decide +kernel, by decide, fun h => by cases h⟩
          have r2 : Ri wr (some ⟨Q2, 0, none⟩) 32 (List.replicate 32 5) := ⟨by have := h5.cs; rw [five_map] at this; exact this, by decide, by decide, fun h => by cases h⟩
          obtain ⟨wo, rfl⟩ : ∃ wo : World, wo = wr := ⟨_, rfl⟩
          have N1 : Calls Tryz.prog 59 #[.slice (some ⟨Q, 0, none⟩) 288 288] wo (NewTab wo (fixed 288)) := new_tab (some ⟨Q, 0, none⟩) 288 (fixed 288) wo r1 fixed_le (by decide +kernel) (by rw [fixed_weight]; exact Nat.le_refl _)
          have N2 : ∀ w5, Fr [] wo w5 → Calls Tryz.prog 59 #[.slice (some ⟨Q2, 0, none⟩) 32 32] w5 (NewTab w5 (List.replicate 32 5)) := fun w5 f5 => new_tab (some ⟨Q2, 0, none⟩) 32 (List.replicate 32 5) w5 (r2.fr f5) (fun l hl => by rw [(List.mem_replicate.1 hl).2]; decide) (by decide) (by rw [five_weight]; exact Nat.le_refl _)
          have HN := Lib.hid (And.intro N1 (And.intro N2 hf))
          clear how how0 hf h5 r1 r2 N1 N2 hj hjk
          go_wp2_with (first | (go_at_call 59; (with_reducible refine HN.out.1.mono ?_); rintro e w4 ⟨P, D, first, sa, sc, rfl, htb, f4⟩; have K4 := Lib.hid (And.intro htb f4); clear htb f4) | (go_at_call 59; (with_reducible refine (HN.out.2.1 _ K4.out.2).mono ?_); rintro e w5 ⟨P5, D5, first5, sa5, sc5, rfl, htb, f5⟩; have K5 := Lib.hid (And.intro htb f5); clear htb f5) | (go_at_call 60; have hu := H.out.under; go_loud (refine (symbols_any R p P P5 F bs out (fixed 288) (List.replicate 32 5) at_ oc most oa w5 (H.out.fr0 ((HN.out.2.2.trans K4.out.2).trans K5.out.2)) ((tabb_tb K4.out.1 (Nat.le_refl _) (fun x hx => Nat.lt_of_lt_of_le (hu x hx) HN.out.2.2.size)).fr K5.out.2 (by simp)) (tabb_tb K5.out.1 (Nat.le_refl _) (fun x hx => Nat.lt_of_lt_of_le (hu x hx) (HN.out.2.2.trans K4.out.2).size))).mono ?_); rintro e w6 (⟨c, hm, hc0, hc1, rfl, f6⟩ | ⟨o6, a6, oa6, oc6, hm, rfl, s6, f6⟩); all_goals (have Km := Lib.hid hm; clear hm); all_goals (try (have K6 := Lib.hid (And.intro s6 f6); clear s6 f6))))
          · go_ret
            exact .inl ⟨c, Km.out, hc0, hc1, rfl, (((HN.out.2.2.trans K4.out.2).trans K5.out.2).mono (by simp)).trans f6⟩
          · go_ret
            exact .inr ⟨o6, a6, oa6, oc6, Km.out, rfl, K6.out.1, (Way.of0 _ _ _ _ _ ((HN.out.2.2.trans K4.out.2).trans K5.out.2)).trans K6.out.2⟩
end Go.Proofs.YtolkoidbkaidkaaGreat.inf
/-
  inflate: order, dynamic.
-/
namespace Go.Proofs.YtolkoidbkaidkaaGreat.inf
open Go Go.RowKit Go.Proofs.YtolkoidbkaidkaaGreat.lib Go.Proofs.YtolkoidbkaidkaaGreat.bm Go.Proofs.YtolkoidbkaidkaaGreat.bl Go.Proofs.YtolkoidbkaidkaaGreat.huf

def ordV : Array Value := #[.int .i64 16, .int .i64 17, .int .i64 18, .int .i64 0, .int .i64 8, .int .i64 7, .int .i64 9, .int .i64 6, .int .i64 10, .int .i64 5, .int .i64 11, .int .i64 4, .int .i64 12, .int .i64 3, .int .i64 13, .int .i64 2, .int .i64 14, .int .i64 1, .int .i64 15]
def zeroV : Array Value := #[.int .i64 0, .int .i64 0, .int .i64 0, .int .i64 0, .int .i64 0, .int .i64 0, .int .i64 0, .int .i64 0, .int .i64 0, .int .i64 0, .int .i64 0, .int .i64 0, .int .i64 0, .int .i64 0, .int .i64 0, .int .i64 0, .int .i64 0, .int .i64 0, .int .i64 0]
theorem info19 : (Tryz.prog.info? 119).map (·.size) = some 19 := by kernel_rfl
theorem results_19 {fn : Func} {p : Tmp} (h : fn.results = #[.cell p 119]) (tmps : Array Value) (w : World) (g : Nat) (cs : Array Value) (fr : Nat × Nat)
    (hp : tmps.getD p undef = .pointer (some ⟨g, 0, none⟩)) (hg : w.heap[g]? = some (.cells cs 119 fr)) (hs : cs.size = 19) : (results fn tmps).run Tryz.prog w = .ok (.agg cs) w :=
  results_cell_row h tmps w g 119 cs fr _ hp hg Tryz.underlying119 rfl (by rw [info19, hs])
set_option maxRecDepth 100000 in
theorem order_any (w : World) : Calls Tryz.prog 61 #[] w fun e w' => e = .returned (.agg ordV) ∧ Fr [] w w' := by
  go_enter Tryz.func61, Tryz.ntmps61
  go_wp2_with (refine wpList_store_row rfl 119 (.tmp 0) (.tmp 1) rfl w.heap.size ordV rfl rfl 119 zeroV (heap_alloc_last w _) info19 rfl (by kernel_rfl) ?_; rw [World.setRow_alloc_new])
  simp only [Act.put]
  refine bodyPost_ret (results_19 rfl _ _ w.heap.size ordV (0, 0) rfl (alloc_at w _) rfl) rfl ?_
  exact ⟨rfl, (Fr.refl [] w).alloc _⟩
theorem ri_drop {w : World} {a : Option Addr} {cap : Nat} {xs : List Nat} (h : Ri w a cap xs) (k : Nat) (hk : k ≤ xs.length) : Ri w (cutAtN a cap k 1) (cap - k) (xs.drop k) :=
  ⟨by rw [List.map_drop]; exact cs_drop h.cs k (by simpa using hk) (by simpa using h.le), by have := h.le; simp; omega, Nat.le_trans (Nat.sub_le _ _) h.max, fun hn => by have := h.nil (cutAtN_none hn); omega⟩
theorem lenAt_set {fs : List Nat} {i v : Nat} (hi : i < fs.length) (t : Nat) : lenAt (fs.set i v) t = if t = i then v else lenAt fs t := by
  unfold lenAt
  rw [List.getElem?_set]
  by_cases e : i = t
  · subst e; simp [hi]
  · rw [if_neg e, if_neg (fun h => e h.symm)]
theorem ow_list {w : World} {Q : Nat} {fs : List Nat} (h : Ow w Q 19 (lenAt fs)) (hl : fs.length = 19) : Ri w (some ⟨Q, 0, none⟩) 19 fs := by
  have e : (List.range 19).map (lenAt fs) = fs := by
    refine List.ext_getElem (by simp [hl]) fun i h1 h2 => ?_
    simp [lenAt, h2]
  have := h.cs
  rw [e] at this
  exact ⟨this, by omega, by decide, fun h => by cases h⟩
theorem places_ord : places = defl.ordL := rfl
theorem ordV_at {i : Nat} (h : i < 19) : ordV[i]? = some (.int .i64 ((defl.ord i : Nat) : Int)) := by
  have e : ordV = (defl.ordL.map fun x => Value.int .i64 (x : Nat)).toArray := rfl
  have hl : i < defl.ordL.length := by simp [defl.ordL]; omega
  rw [e]
  simp [defl.ord, List.getElem?_eq_getElem hl]
theorem places_drop {m j : Nat} (h : j < m) (hm : m ≤ 19) : (places.take m).drop j = defl.ord j :: (places.take m).drop (j + 1) := by
  have hl : places.length = 19 := rfl
  have h1 : j < (places.take m).length := by rw [List.length_take]; omega
  rw [List.drop_eq_getElem_cons h1]
  congr 1
  simp [defl.ord, ← places_ord, List.getElem?_eq_getElem (show j < places.length by omega)]
set_option maxRecDepth 100000 in
set_option maxHeartbeats 8000000 in
theorem dynamic_any (R p : Nat) (F : List Nat) (bs out : List UInt8) (at_ oc most : Nat) (oa : Option Addr) (w : World) (h : St w R p F bs at_ out oa oc most) :
    Calls Tryz.prog 43 #[.pointer (some ⟨R, 0, none⟩)] w (Ret w R p F bs oa most (idyn bs most out at_)) := by
  obtain ⟨M, hM⟩ : ∃ M, M = idyn bs most out at_ := ⟨_, rfl⟩
  rw [← hM]
  have TT : ∀ (n : Nat) (a : Nat) (w' : World), St w' R p F bs a out oa oc most → n ≤ 31 → Calls Tryz.prog 17 #[.pointer (some ⟨R, 0, none⟩), .int .i64 (n : Nat)] w' (RetV w' R p F bs out oa oc most (itake bs a n)) := fun n a w' s hn => take_any R p F bs out a oc most n oa w' s hn
  have T3 : ∀ (a : Nat) (w' : World), St w' R p F bs a out oa oc most → Calls Tryz.prog 17 #[.pointer (some ⟨R, 0, none⟩), .int .i64 3] w' (RetV w' R p F bs out oa oc most (itake bs a 3)) := fun a w' s => TT 3 a w' s (by decide)
  have T4 : ∀ (a : Nat) (w' : World), St w' R p F bs a out oa oc most → Calls Tryz.prog 17 #[.pointer (some ⟨R, 0, none⟩), .int .i64 4] w' (RetV w' R p F bs out oa oc most (itake bs a 4)) := fun a w' s => TT 4 a w' s (by decide)
  have T5 : ∀ (a : Nat) (w' : World), St w' R p F bs a out oa oc most → Calls Tryz.prog 17 #[.pointer (some ⟨R, 0, none⟩), .int .i64 5] w' (RetV w' R p F bs out oa oc most (itake bs a 5)) := fun a w' s => TT 5 a w' s (by decide)
  have HT := Lib.hid (And.intro T3 (And.intro T4 T5))
  have H := Lib.hid (And.intro h hM)
  clear h hM TT T3 T4 T5
  go_enter Tryz.func43, Tryz.ntmps43
  go_upto_region 14 with (first
    | (go_at_call 17; (with_reducible refine (HT.out.2.2 at_ w H.out.1).mono ?_); rintro e w1 (⟨v, c, hm, hc0, hc1, rfl, f1⟩ | ⟨lit, a1, hm, rfl, s1, f1⟩); all_goals (try (have hv1 := itake_lt hm; have K1 := Lib.hid (And.intro hm (And.intro s1 f1)); clear hm s1 f1)))
    | (go_at_call 17; (with_reducible refine (HT.out.2.2 a1 w1 K1.out.2.1).mono ?_); rintro e w2 (⟨v, c, hm, hc0, hc1, rfl, f1⟩ | ⟨dist, a2, hm, rfl, s2, f2⟩); all_goals (try (have hv2 := itake_lt hm; have K2 := Lib.hid (And.intro hm (And.intro s2 f2)); clear hm s2 f2)))
    | (go_at_call 17; (with_reducible refine (HT.out.2.1 a2 w2 K2.out.2.1).mono ?_); rintro e w3 (⟨v, c, hm, hc0, hc1, rfl, f1⟩ | ⟨n, a3, hm, rfl, s3, f3⟩); all_goals (try (have hv3 := itake_lt hm; have K3 := Lib.hid (And.intro hm (And.intro s3 f3)); clear hm s3 f3))))
  · go_ret
    exact .inl ⟨c, by rw [H.out.2]; simp only [idyn, hm], hc0, hc1, rfl, f1⟩
  · go_ret
    exact .inl ⟨3, by rw [H.out.2]; simp only [idyn, K1.out.1, if_pos (show 29 < lit by omega)], by decide, by decide, rfl, K1.out.2.2.mono (by simp)⟩
  · go_ret
    exact .inl ⟨c, by rw [H.out.2]; simp only [idyn, K1.out.1, if_neg (show ¬ 29 < lit by omega), hm], hc0, hc1, rfl, (K1.out.2.2.mono (by simp)).trans f1⟩
  · go_ret
    exact .inl ⟨3, by rw [H.out.2]; simp only [idyn, K1.out.1, if_neg (show ¬ 29 < lit by omega), K2.out.1, if_pos (show 29 < dist by omega)], by decide, by decide, rfl, (K1.out.2.2.trans K2.out.2.2).mono (by simp)⟩
  · go_ret
    exact .inl ⟨c, by rw [H.out.2]; simp only [idyn, K1.out.1, if_neg (show ¬ 29 < lit by omega), K2.out.1, if_neg (show ¬ 29 < dist by omega), hm], hc0, hc1, rfl, ((K1.out.2.2.trans K2.out.2.2).mono (by simp)).trans f1⟩
  · have hM3 : M = idyn2 bs most out lit dist n a3 := by rw [H.out.2]; simp only [idyn, K1.out.1, if_neg (show ¬ 29 < lit by omega), K2.out.1, if_neg (show ¬ 29 < dist by omega), K3.out.1]
    have hl1 : lit ≤ 29 := by omega
    have hd1 : dist ≤ 29 := by omega
    have hn1 : n ≤ 15 := by omega
    have hf3 : Fr [p] w w3 := ((K1.out.2.2.trans K2.out.2.2).trans K3.out.2.2)
    have HK := Lib.hid (And.intro hM3 (And.intro K3.out.2.1 (And.intro hf3 H.out.1)))
    clear hM3 hf3 K1 K2 K3 H hv1 hv2 hv3
    obtain ⟨m, hm⟩ : ∃ m, m = n + 4 := ⟨_, rfl⟩
    have em : (n : Int) + 4 = (m : Nat) := by omega
    have hm19 : m ≤ 19 := by omega
    have HM := Lib.hid hm
    clear hm
    obtain ⟨hu, ⟨ti, hi', hz', hs', hb'⟩, hcz, hp⟩ := huf.sty_int
    obtain ⟨Q, hQ⟩ : ∃ Q, Q = w3.heap.size := ⟨_, rfl⟩
    have HQ := Lib.hid hQ
    clear hQ
    go_upto_region 15 with (refine wpList_make_full _ rfl _ _ 35 rfl 0 3 ti (.int .i64 0) 1 hu hi' hz' hs' .i64 .i64 19 19 19 rfl rfl rfl rfl (by rw [hb']; omega) (by unfold maxLen; omega) (by omega) ?_; intro w4 own4 grow4; have H4 := Lib.hid (And.intro own4 grow4); clear own4 grow4)
    rw [← HQ.out] at H4 ⊢
    have hq4 : Ow w4 Q 19 (fun _ => 0) := ow_made H4.out.1
    have f4 : Fr [] w3 w4 := (Fr.refl [] w3).grown H4.out.2 (fun k hk => by cases hk)
    have HW := Lib.hid (And.intro hq4 f4)
    clear hq4 f4 H4 hu hi' hz' hs' hb' hcz hp
    go_cut [8, 46] from 46 to 46 (fun s8 s46 wz => ∃ O : Nat, s8 = .pointer (some ⟨O, 0, none⟩) ∧ wz.heap[O]? = some (.cells ordV 119 (0, 0)) ∧ Fr [] w4 wz ∧ w4.heap.size ≤ O)
    case first =>
      go_wp2_with (first | (go_at_call 61; refine (order_any w4).mono ?_; rintro e w5 ⟨rfl, f5⟩; have K5 := Lib.hid f5; clear f5) | (refine wpList_store_row rfl 119 (.tmp 8) (.tmp 46) rfl w5.heap.size ordV rfl rfl 119 zeroV (heap_alloc_last w5 _) info19 rfl (by kernel_rfl) ?_; rw [World.setRow_alloc_new]))
      simp only [Act.put]
      go_meet
      exact ⟨w5.heap.size, rfl, alloc_at w5 _, K5.out.alloc _, K5.out.size⟩
    case rest =>
    obtain ⟨O, rfl, hO, f6, hO4⟩ := hcut
    obtain ⟨w7, rfl⟩ : ∃ w7 : World, w7 = wc := ⟨_, rfl⟩
    have f37 : Fr [] w3 w7 := HW.out.2.trans f6
    have hQ7 : Ow w7 Q 19 (lenAt (List.replicate 19 0)) := (HW.out.1.fr f6 (by simp)).congr fun s hs => by simp only [lenAt, List.getElem?_replicate, if_pos hs]; rfl
    have hQO : Q < O := by
      obtain ⟨A, hA, _⟩ := HW.out.1
      have := lt_of_block hA
      omega
    have hQ3 : w3.heap.size ≤ Q := by rw [HQ.out]; exact Nat.le_refl _
    have H7 := Lib.hid (And.intro hQ7 (And.intro hO (And.intro f37 (And.intro hQO hQ3))))
    clear hQ7 hO f37 hQO f6 hO4 hQ3
    have d1 : decide ((286 : Int) < (lit : Int) + 257) = false := by simp; omega
    have d2 : decide ((30 : Int) < (dist : Int) + 1) = false := by simp; omega
    simp only [d1, d2]
    clear d1 d2
    have hsl := defl.slice_arr O m hm19
    go_wp2
    clear hsl
    go_loopg [2, 4, 10, 51] m (fun k s2 s4 s10 s51 wr => ∃ (j a1 : Nat) (fs : List Nat), s51 = .int .i64 (j : Nat) ∧ s4 = .int .i64 0 ∧ j + k = m ∧ St wr R p F bs a1 out oa oc most ∧ Ow wr Q 19 (lenAt fs) ∧ fs.length = 19 ∧ (∀ x ∈ fs, x ≤ 15) ∧ wr.heap[O]? = some (.cells ordV 119 (0, 0)) ∧ Fr [p] w wr ∧ ifirst bs ((places.take m).drop j) fs a1 = ifirst bs (places.take m) (List.replicate 19 0) a3)
    case atStart => exact ⟨0, a3, List.replicate 19 0, rfl, rfl, by omega, HK.out.2.1.fr0 H7.out.2.2.1, H7.out.1, rfl, fun x hx => by rw [(List.mem_replicate.1 hx).2]; decide, H7.out.2.1, HK.out.2.2.1.trans (H7.out.2.2.1.mono (by simp)), rfl⟩
    case round =>
      obtain ⟨j, a1, fs, rfl, rfl, hjm, hst, how, hfl, hf15, hO, hfw, hfi⟩ := hrel
      have hw3 : w.heap.size ≤ w3.heap.size := HK.out.2.2.1.size
      have hp0 : p < w.heap.size := HK.out.2.2.2.low _ HK.out.2.2.2.pF.1
      by_cases hj : j < m
      · obtain ⟨k, rfl⟩ : ∃ k, gk = k + 1 := ⟨gk - 1, by omega⟩
        have cO := cell_of hO j
        rw [ordV_at (by omega)] at cO
        obtain ⟨i, hi⟩ : ∃ i, i = defl.ord j := ⟨_, rfl⟩
        have hi19 : i < 19 := by rw [hi]; exact defl.ord_lt j
        have hpd := places_drop hj hm19
        rw [← hi] at cO hpd
        rw [hpd] at hfi
        have HJ := Lib.hid (And.intro hst (And.intro how (And.intro hfl (And.intro hf15 (And.intro hO (And.intro hfw hfi))))))
        clear hst how hfl hf15 hO hfw hfi hi hpd
        go_wp2_with (go_at_call 17; refine (HT.out.1 a1 wr HJ.out.1).mono ?_; rintro e w8 (⟨v, c, hm, hc0, hc1, rfl, f1⟩ | ⟨v, a2, hm, rfl, s8, f8⟩); rotate_left; all_goals (try (have hv := itake_lt hm; have hx8 := HJ.out.2.1.fr f8 (show Q ∉ [p] by have := H7.out.2.2.2.2; simp; omega); have K8 := Lib.hid (And.intro hm (And.intro s8 (And.intro f8 hx8))); clear hm s8 f8; have c8 := hx8.cell hi19; have z8 := hx8.frozen i; clear hx8)); all_goals (try (have hx9 := HJ.out.2.1.fr f1 (show Q ∉ R :: p :: blk oa by have := H7.out.2.2.2.2; have hu := HK.out.2.2.2.under; intro hq; have := hu Q hq; omega); have c8 := hx9.cell hi19; have z8 := hx9.frozen i; have K9 := Lib.hid (And.intro hm f1); clear hm f1 hx9)))
        · go_roundg k
          case measure => omega
          case rel =>
            have hQw : ∀ x ∈ [Q], w.heap.size ≤ x := fun x hx => by have := H7.out.2.2.2.2; simp at hx; omega
            have fQ : Fr [Q] w8 (w8.setCell ⟨Q, i, none⟩ (.int .i64 (v : Nat))) := (Fr.refl [Q] _).setCell (by simp) _
            refine ⟨j + 1, a2, fs.set i v, by go_num, rfl, by omega, HK.out.2.2.2.up K8.out.2.1 fQ hQw, (K8.out.2.2.2.set hi19 v).congr (fun t _ => (lenAt_set (by rw [HJ.out.2.2.1]; exact hi19) t).symm), by rw [List.length_set, HJ.out.2.2.1], fun x hx => ?_, fQ.blk (K8.out.2.2.1.blk HJ.out.2.2.2.2.1 (by have := H7.out.2.2.2; simp; omega)) (by have := H7.out.2.2.2.1; simp; omega), (HJ.out.2.2.2.2.2.1.trans K8.out.2.2.1).step fQ (fun x hx => .inr (hQw x hx)), ?_⟩
            · rcases List.mem_or_eq_of_mem_set hx with h1 | h1
              · exact HJ.out.2.2.2.1 x h1
              · rw [h1]; omega
            · rw [← HJ.out.2.2.2.2.2.2, ifirst, K8.out.1]
        · go_ret
          have hQw : ∀ x ∈ [Q], w.heap.size ≤ x := fun x hx => by have := H7.out.2.2.2.2; simp at hx; omega
          refine .inl ⟨c, ?_, hc0, hc1, rfl, ((HJ.out.2.2.2.2.2.1.mono (by simp)).trans K9.out.2).step ((Fr.refl [Q] _).setCell (by simp) _) (fun x hx => .inr (hQw x hx))⟩
          rw [HK.out.1, idyn2, ← HM.out, ← HJ.out.2.2.2.2.2.2, ifirst, K9.out.1]
      · obtain rfl : j = m := by omega
        have hok : ifirst bs (places.take j) (List.replicate 19 0) a3 = .ok (fs, a1) := by
          rw [← hfi, List.drop_of_length_le (by rw [List.length_take]; omega), ifirst]
        have hM4 : M = if iwhole fs false = false then .error 3 else idyn3 bs most out lit dist fs a1 := by
          rw [HK.out.1, idyn2, ← HM.out, hok]
        have W1 : Calls Tryz.prog 62 #[.slice (some ⟨Q, 0, none⟩) 19 19, .bool false] wr (WholeGood wr fs false) := by
          have := whole_any (some ⟨Q, 0, none⟩) 19 fs false wr (ow_list how hfl) hf15 (by omega)
          rwa [hfl] at this
        obtain ⟨wo, rfl⟩ : ∃ wo : World, wo = wr := ⟨_, rfl⟩
        obtain ⟨l1, hl1e⟩ : ∃ l1, l1 = lit + 257 := ⟨_, rfl⟩
        obtain ⟨N, hNe⟩ : ∃ N, N = lit + 257 + dist + 1 := ⟨_, rfl⟩
        have e1 : (lit : Int) + 257 = (l1 : Nat) := by omega
        have eN : (l1 : Int) + (dist : Int) + 1 = (N : Nat) := by omega
        have hN400 : N ≤ 316 := by omega
        have hl1N : l1 + 1 ≤ N := by omega
        have hl1b : 257 ≤ l1 := by omega
        have hLE := fun (w' : World) (P : Nat) (s : St w' R p F bs a1 out oa oc most) (tb : Tb w' P fs (R :: p :: blk oa)) => lengths_any R p P N F bs out fs a1 oc most oa w' s tb (by omega) (by omega)
        have HJ := Lib.hid (And.intro hst (And.intro hM4 (And.intro W1 (And.intro hfw (And.intro hl1e (And.intro hNe hLE))))))
        have hun := Lib.hid HK.out.2.2.2.under
        clear hst how hfl hf15 hO hfw hfi hok hM4 W1 hl1e hNe hLE hj hjm
        go_upto_region 29 with (first
          | (go_at_call 62; (with_reducible refine HJ.out.2.2.1.mono ?_); rintro e w9 (⟨hiw, rfl, f9⟩ | ⟨hiw, P, D, first, sa, sc, rfl, htb, f9⟩); all_goals (try (have K9 := Lib.hid (And.intro hiw (And.intro htb f9)); clear htb)); all_goals (try (have K9b := Lib.hid (And.intro hiw f9))); all_goals clear hiw f9)
          | (go_at_call 63; (with_reducible refine (HJ.out.2.2.2.2.2.2 w9 P (HJ.out.1.fr0 K9.out.2.2) (tabb_tb K9.out.2.1 (Nat.le_refl _) (fun x hx => Nat.lt_of_lt_of_le (hun.out x hx) HJ.out.2.2.2.1.size))).mono ?_); rintro e w10 (⟨c, hm, hc0, hc1, rfl, f10⟩ | ⟨L, a4, ao, cap, hm, he, s10, f10, own, hLN, hL15⟩); rotate_left; (rw [hLN] at he; subst he; have K10 := Lib.hid (And.intro hm (And.intro s10 (And.intro f10 (And.intro own (And.intro hLN hL15))))); clear hm s10 f10 own hLN hL15)))
        · go_ret
          exact .inl ⟨3, by rw [HJ.out.2.1, if_pos K9b.out.1], by decide, by decide, rfl, (HJ.out.2.2.2.1.trans (K9b.out.2.mono (by simp))).mono (by simp)⟩
        · have hM5 : M = if lenAt L 256 = 0 then .error 3 else if iwhole (L.take l1) false = false then .error 3 else if iwhole (L.drop l1) true = false then .error 3 else isyms bs most (L.take l1) (L.drop l1) (fuel bs) out a4 := by
            have hlens := K10.out.1
            rw [HJ.out.2.1, if_neg (by rw [K9.out.1]; simp), idyn3]
            rw [HJ.out.2.2.2.2.2.1] at hlens
            rw [hlens, ← HJ.out.2.2.2.2.1]
          obtain ⟨g, rfl, hcell⟩ := K10.out.2.2.2.1.cell (i := 256) (by rw [K10.out.2.2.2.2.1]; omega)
          obtain ⟨z, hz⟩ : ∃ z, z = lenAt L 256 := ⟨_, rfl⟩
          rw [← hz] at hcell hM5
          have hcapN : N ≤ cap := by have := K10.out.2.2.2.1.le; rw [K10.out.2.2.2.2.1] at this; exact this
          have hcapm : cap ≤ 9223372036854775807 := by have := K10.out.2.2.2.1.max; unfold maxLen at this; exact this
          have ri : Ri w10 (some ⟨g, 0, none⟩) cap L := K10.out.2.2.2.1.ri
          have lt : (L.take l1).length = l1 := by rw [List.length_take, K10.out.2.2.2.2.1]; omega
          have ld : (L.drop l1).length = N - l1 := by rw [List.length_drop, K10.out.2.2.2.2.1]
          have W2 : Calls Tryz.prog 62 #[.slice (some ⟨g, 0, none⟩) l1 cap, .bool false] w10 (WholeGood w10 (L.take l1) false) := by
            have := whole_any (some ⟨g, 0, none⟩) cap (L.take l1) false w10 (defl.Ri.take ri l1) (fun x hx => K10.out.2.2.2.2.2 x (List.mem_of_mem_take hx)) (by omega)
            rwa [lt] at this
          have W3 : ∀ w', Fr [] w10 w' → Calls Tryz.prog 62 #[.slice (cutAtN (some ⟨g, 0, none⟩) cap l1 1) (N - l1) (cap - l1), .bool true] w' (WholeGood w' (L.drop l1) true) := fun w' f' => by
            have := whole_any (cutAtN (some ⟨g, 0, none⟩) cap l1 1) (cap - l1) (L.drop l1) true w' (ri_drop (ri.fr f') l1 (by rw [K10.out.2.2.2.2.1]; omega)) (fun x hx => K10.out.2.2.2.2.2 x (List.mem_of_mem_drop hx)) (by omega)
            rwa [ld] at this
          have f910 : Fr [p] w w10 := (HJ.out.2.2.2.1.trans (K9.out.2.2.mono (by simp))).trans K10.out.2.2.1
          have hsl1 := lib.run_slice_to huf.sty_int l1 (some ⟨g, 0, none⟩) N cap l1 rfl (by omega)
          have hsl2 := lib.run_slice_from huf.sty_int l1 (some ⟨g, 0, none⟩) N cap l1 rfl (by omega) hcapN
          have HL := Lib.hid (And.intro hM5 (And.intro W2 (And.intro W3 (And.intro f910 hz))))
          clear hM5 ri lt ld W2 W3 f910 hz
          go_wp2_with (first
            | (go_at_call 62; (with_reducible refine HL.out.2.1.mono ?_); rintro e w11 (⟨hiw, rfl, f9⟩ | ⟨hiw, P2, D2, first2, sa2, sc2, rfl, htb, f9⟩); all_goals (try (have K11 := Lib.hid (And.intro hiw (And.intro htb f9)); clear htb)); all_goals (try (have K11b := Lib.hid (And.intro hiw f9))); all_goals clear hiw f9)
            | (go_at_call 62; (with_reducible refine (HL.out.2.2.1 w11 K11.out.2.2).mono ?_); rintro e w12 (⟨hiw, rfl, f9⟩ | ⟨hiw, P3, D3, first3, sa3, sc3, rfl, htb, f9⟩); all_goals (try (have K12 := Lib.hid (And.intro hiw (And.intro htb f9)); clear htb)); all_goals (try (have K12b := Lib.hid (And.intro hiw f9))); all_goals clear hiw f9)
            | (go_at_call 60; refine (symbols_any R p P2 P3 F bs out (L.take l1) (L.drop l1) a4 oc most oa w12 (K10.out.2.1.fr0 (K11.out.2.2.trans K12.out.2.2)) ((tabb_tb K11.out.2.1 (Nat.le_refl _) (fun x hx => Nat.lt_of_lt_of_le (hun.out x hx) HL.out.2.2.2.1.size)).fr K12.out.2.2 (by simp)) (tabb_tb K12.out.2.1 (Nat.le_refl _) (fun x hx => Nat.lt_of_lt_of_le (hun.out x hx) (Nat.le_trans HL.out.2.2.2.1.size K11.out.2.2.size)))).mono ?_; rintro e w13 (⟨c, hm, hc0, hc1, rfl, f6⟩ | ⟨o6, a6, oa6, oc6, hm, rfl, s6, f6⟩); all_goals (have Km := Lib.hid hm; clear hm); all_goals (try (have K6 := Lib.hid (And.intro s6 f6); clear s6 f6))))
          · have hze : ((z : Int) == 0) = true := by assumption
            have hz0 : z = 0 := by have := beq_iff_eq.1 hze; omega
            go_ret
            exact .inl ⟨3, by rw [HL.out.1, if_pos hz0], by decide, by decide, rfl, HL.out.2.2.2.1.mono (by simp)⟩
          · have hze : ((z : Int) == 0) = false := by assumption
            have hz0 : z ≠ 0 := fun he => by rw [he] at hze; cases hze
            go_ret
            exact .inl ⟨3, by rw [HL.out.1, if_neg hz0, if_pos K11b.out.1], by decide, by decide, rfl, (HL.out.2.2.2.1.trans (K11b.out.2.mono (by simp))).mono (by simp)⟩
          · have hze : ((z : Int) == 0) = false := by assumption
            have hz0 : z ≠ 0 := fun he => by rw [he] at hze; cases hze
            go_ret
            exact .inl ⟨3, by rw [HL.out.1, if_neg hz0, if_neg (by rw [K11.out.1]; simp), if_pos K12b.out.1], by decide, by decide, rfl, ((HL.out.2.2.2.1.trans (K11.out.2.2.mono (by simp))).trans (K12b.out.2.mono (by simp))).mono (by simp)⟩
          · have hze : ((z : Int) == 0) = false := by assumption
            have hz0 : z ≠ 0 := fun he => by rw [he] at hze; cases hze
            go_ret
            exact .inl ⟨c, by rw [HL.out.1, if_neg hz0, if_neg (by rw [K11.out.1]; simp), if_neg (by rw [K12.out.1]; simp), Km.out], hc0, hc1, rfl, (((HL.out.2.2.2.1.trans (K11.out.2.2.mono (by simp))).trans (K12.out.2.2.mono (by simp))).mono (by simp)).trans f6⟩
          · have hze : ((z : Int) == 0) = false := by assumption
            have hz0 : z ≠ 0 := fun he => by rw [he] at hze; cases hze
            go_ret
            exact .inr ⟨o6, a6, oa6, oc6, by rw [HL.out.1, if_neg hz0, if_neg (by rw [K11.out.1]; simp), if_neg (by rw [K12.out.1]; simp), Km.out], rfl, K6.out.1, (Way.of _ _ _ _ _ ((HL.out.2.2.2.1.trans (K11.out.2.2.mono (by simp))).trans (K12.out.2.2.mono (by simp)))).trans K6.out.2⟩
        · go_ret
          have hlens := hm
          rw [HJ.out.2.2.2.2.2.1] at hlens
          exact .inl ⟨c, by rw [HJ.out.2.1, if_neg (by rw [K9.out.1]; simp), idyn3, hlens], hc0, hc1, rfl, ((HJ.out.2.2.2.1.trans (K9.out.2.2.mono (by simp))).mono (by simp)).trans f10⟩
end Go.Proofs.YtolkoidbkaidkaaGreat.inf
/-
  inflate.Raw.
-/
namespace Go.Proofs.YtolkoidbkaidkaaGreat.inf
open Go Go.RowKit Go.Proofs.YtolkoidbkaidkaaGreat.lib Go.Proofs.YtolkoidbkaidkaaGreat.bm Go.Proofs.YtolkoidbkaidkaaGreat.bl Go.Proofs.YtolkoidbkaidkaaGreat.huf

theorem info3 : (Tryz.prog.info? 53).map (·.size) = some 3 := by kernel_rfl
theorem results_3 {fn : Func} {p : Tmp} (h : fn.results = #[.cell p 53]) (tmps : Array Value) (w : World) (g : Nat) (cs : Array Value) (fr : Nat × Nat)
    (hp : tmps.getD p undef = .pointer (some ⟨g, 0, none⟩)) (hg : w.heap[g]? = some (.cells cs 53 fr)) (hs : cs.size = 3) : (results fn tmps).run Tryz.prog w = .ok (.agg cs) w :=
  results_cell_row h tmps w g 53 cs fr _ hp hg Tryz.underlying53 rfl (by rw [info3, hs])
def kindV : Array Value := #[.func (.func 41) #[] #[], .func (.func 42) #[] #[], .func (.func 43) #[] #[]]
set_option maxRecDepth 100000 in
theorem kinds_any (w : World) : Calls Tryz.prog 18 #[] w fun e w' => e = .returned (.agg kindV) ∧ Fr [] w w' := by
  go_enter Tryz.func18, Tryz.ntmps18
  go_wp2_with (refine wpList_store_row rfl 53 (.tmp 0) (.tmp 1) rfl w.heap.size kindV rfl rfl 53 #[.nilFunc, .nilFunc, .nilFunc] (heap_alloc_last w _) info3 rfl (by kernel_rfl) ?_; rw [World.setRow_alloc_new])
  simp only [Act.put]
  refine bodyPost_ret (results_3 rfl _ _ w.heap.size kindV (0, 0) rfl (alloc_at w _) rfl) rfl ?_
  exact ⟨rfl, (Fr.refl [] w).alloc _⟩
def iend (x : Except Nat (List UInt8 × Nat)) : Except Nat (List UInt8 × Nat) := match x with
  | .error e => .error e
  | .ok (o, a) => .ok (o, (a + 7) / 8)
theorem iraw_end (bs : List UInt8) (m : Nat) : iraw bs m = iend (irawF bs m (fuel bs) [] 0) := rfl
def RawGood (w : World) (m : Except Nat (List UInt8 × Nat)) (e : Ending) (w' : World) : Prop :=
  (∃ c, m = .error c ∧ 0 < c ∧ c < 100 ∧ e = .returned (.tuple #[.slice none 0 0, .int .i64 0, .int .i64 (c : Nat)]) ∧ Fr [] w w') ∨
  (∃ out used ao, m = .ok (out, used) ∧ e = .returned (.tuple #[.slice ao out.length out.length, .int .i64 (used : Nat), .int .i64 0]) ∧ lib.Rd w' ao out.length out ∧ (∀ x ∈ blk ao, w.heap.size ≤ x ∧ x < w'.heap.size) ∧ Fr [] w w')
set_option maxRecDepth 100000 in
set_option maxHeartbeats 4000000 in
theorem raw_any (a : Option Addr) (cap : Nat) (bs : List UInt8) (m : Nat) (w : World) (h : lib.Rd w a cap bs) (hlen : bs.length ≤ 100000000) (hm8 : m ≤ 100000000) :
    Calls Tryz.prog 6 #[.slice a bs.length cap, .int .i64 (m : Nat)] w (RawGood w (iraw bs m)) := by
  have hread := bits.read_new a cap bs w h.cs h.le h.nil (by omega)
  obtain ⟨M, hM⟩ : ∃ M, M = iraw bs m := ⟨_, rfl⟩
  rw [← hM]
  have H := Lib.hid (And.intro hread (And.intro hM hlen))
  clear h hread hM hlen
  go_enter Tryz.func6, Tryz.ntmps6
  go_upto_block 0 with (go_at_call 16; refine H.out.1.mono ?_; rintro e w1 ⟨p, F, rfl, hrd, f1, hF⟩; have K1 := Lib.hid (And.intro hrd (And.intro f1 hF)); clear hrd f1 hF)
  obtain ⟨R, hR⟩ : ∃ R, R = w1.heap.size := ⟨_, rfl⟩
  go_wp2
  rw [← hR]
  obtain ⟨w2, hw2⟩ : ∃ w2, w2 = w1.alloc (.cells #[.pointer (some ⟨p, 0, none⟩), .slice none 0 0, .int .i64 (m : Nat)] 48) := ⟨_, rfl⟩
  have f2 : Fr [] w1 w2 := by rw [hw2]; exact (Fr.refl [] w1).alloc _
  have S2 : St w2 R p F bs 0 [] none 0 m := by
    refine ⟨by rw [hw2, hR]; exact alloc_at w1 _, bits.rd_fr K1.out.1 f2 (by simp), World.ownsRow_nil _ _ _ _, fun hx => ?_, by simp [blk], by simp [blk], fun x hx => ?_, hm8, H.out.2.2, by simp⟩
    · have := (K1.out.2.2 R hx).2; omega
    · exact Nat.lt_of_lt_of_le (K1.out.2.2 x hx).2 f2.size
  have hRw : w.heap.size ≤ R := by rw [hR]; exact K1.out.2.1.size
  have hpw : w.heap.size ≤ p := (K1.out.2.2 p S2.pF.1).1
  rw [← hw2]
  clear hw2 hR
  obtain ⟨M0, hM0⟩ : ∃ M0, M0 = irawF bs m (fuel bs) [] 0 := ⟨_, rfl⟩
  have hM : M = iend M0 := by rw [H.out.2.1, hM0, iraw_end]
  have B0 : ∀ (w' : World) (a' : Nat) (out' : List UInt8) (oa' : Option Addr) (oc' : Nat), St w' R p F bs a' out' oa' oc' m → Calls Tryz.prog 41 #[.pointer (some ⟨R, 0, none⟩)] w' (Ret w' R p F bs oa' m (iblock bs m 0 out' a')) := fun w' a' out' oa' oc' s => by
    unfold iblock; rw [if_pos rfl]; exact stored_any R p F bs out' a' oc' m oa' w' s
  have B1 : ∀ (w' : World) (a' : Nat) (out' : List UInt8) (oa' : Option Addr) (oc' : Nat), St w' R p F bs a' out' oa' oc' m → Calls Tryz.prog 42 #[.pointer (some ⟨R, 0, none⟩)] w' (Ret w' R p F bs oa' m (iblock bs m 1 out' a')) := fun w' a' out' oa' oc' s => by
    unfold iblock; rw [if_neg (by decide), if_pos rfl]; exact fixed_any R p F bs out' a' oc' m oa' w' s
  have B2 : ∀ (w' : World) (a' : Nat) (out' : List UInt8) (oa' : Option Addr) (oc' : Nat), St w' R p F bs a' out' oa' oc' m → Calls Tryz.prog 43 #[.pointer (some ⟨R, 0, none⟩)] w' (Ret w' R p F bs oa' m (iblock bs m 2 out' a')) := fun w' a' out' oa' oc' s => by
    unfold iblock; rw [if_neg (by decide), if_neg (by decide)]; exact dynamic_any R p F bs out' a' oc' m oa' w' s
  have T1 : ∀ (w' : World) (a' : Nat) (out' : List UInt8) (oa' : Option Addr) (oc' : Nat), St w' R p F bs a' out' oa' oc' m → Calls Tryz.prog 17 #[.pointer (some ⟨R, 0, none⟩), .int .i64 1] w' (RetV w' R p F bs out' oa' oc' m (itake bs a' 1)) := fun w' a' out' oa' oc' s => take_any R p F bs out' a' oc' m 1 oa' w' s (by decide)
  have T2 : ∀ (w' : World) (a' : Nat) (out' : List UInt8) (oa' : Option Addr) (oc' : Nat), St w' R p F bs a' out' oa' oc' m → Calls Tryz.prog 17 #[.pointer (some ⟨R, 0, none⟩), .int .i64 2] w' (RetV w' R p F bs out' oa' oc' m (itake bs a' 2)) := fun w' a' out' oa' oc' s => take_any R p F bs out' a' oc' m 2 oa' w' s (by decide)
  have HB := Lib.hid (And.intro B0 (And.intro B1 (And.intro B2 (And.intro T1 T2))))
  have HK := Lib.hid (And.intro S2 (And.intro (K1.out.2.1.trans f2) (And.intro hRw (And.intro hpw (And.intro hM0 hM)))))
  clear B0 B1 B2 T1 T2 S2 f2 hRw hpw hM0 hM
  -- what a way behind w2 turns is new behind w
  go_loopg [4, 5, 6, 8, 9] (fuel bs) (fun k s4 s5 s6 s8 s9 wr => ∃ (last a1 : Nat) (out1 : List UInt8) (oa1 : Option Addr) (oc1 : Nat), s8 = .int .i64 (last : Nat) ∧ St wr R p F bs a1 out1 oa1 oc1 m ∧ Way w2 R p none wr oa1 ∧ (last = 0 → irawF bs m k out1 a1 = M0 ∧ 8 * bs.length + 1 ≤ a1 + k) ∧ (last ≠ 0 → M0 = .ok (out1, a1)))
  case atStart => exact ⟨0, 0, [], none, 0, rfl, HK.out.1, .refl _ _ _ _, fun _ => ⟨HK.out.2.2.2.2.1.symm, by unfold fuel; omega⟩, fun h => absurd rfl h⟩
  case round =>
    obtain ⟨last, a1, out1, oa1, oc1, rfl, hst, hway, hl0, hl1⟩ := hrel
    have hup : ∀ (w' : World), Fr (R :: p :: blk oa1) wr w' → Fr [] w w' := fun w' f => by
      have f1 : Fr (R :: p :: blk none) w2 w' := hway.frW f
      refine HK.out.2.1.step f1 (fun x hx => .inr ?_)
      simp only [List.mem_cons, blk, List.not_mem_nil, or_false] at hx
      rcases hx with rfl | rfl
      · exact HK.out.2.2.1
      · exact HK.out.2.2.2.1
    by_cases hl : last = 0
    · subst hl
      obtain ⟨hir, hfu⟩ := hl0 rfl
      have ha8 := hst.pF.2
      obtain ⟨k, rfl⟩ : ∃ k, gk = k + 1 := ⟨gk - 1, by omega⟩
      have HJ := Lib.hid (And.intro hst (And.intro hway (And.intro hir hfu)))
      have HU := Lib.hid hup
      clear hst hway hl0 hl1 hir hfu hup
      have ix0 : ∀ w : World, (Instr.index 53 (.agg #[.func (.func 41) #[] #[], .func (.func 42) #[] #[], .func (.func 43) #[] #[]]) (.int .i64 0)).run Tryz.prog w = .ok (.func (.func 41) #[] #[]) w := fun _ => by kernel_rfl
      have ix1 : ∀ w : World, (Instr.index 53 (.agg #[.func (.func 41) #[] #[], .func (.func 42) #[] #[], .func (.func 43) #[] #[]]) (.int .i64 1)).run Tryz.prog w = .ok (.func (.func 42) #[] #[]) w := fun _ => by kernel_rfl
      have ix2 : ∀ w : World, (Instr.index 53 (.agg #[.func (.func 41) #[] #[], .func (.func 42) #[] #[], .func (.func 43) #[] #[]]) (.int .i64 2)).run Tryz.prog w = .ok (.func (.func 43) #[] #[]) w := fun _ => by kernel_rfl
      go_wp2_with (first
        | (go_at_call 17; (with_reducible refine (HB.out.2.2.2.1 wr a1 out1 oa1 oc1 HJ.out.1).mono ?_); rintro e w3 (⟨v, c, hm, hc0, hc1, rfl, f3⟩ | ⟨last, a2, hm, rfl, s3, f3⟩); all_goals (try (have hv1 := itake_lt hm; have K3 := Lib.hid (And.intro hm (And.intro s3 f3)); clear hm s3 f3)))
        | (go_at_call 17; (with_reducible refine (HB.out.2.2.2.2 w3 a2 out1 oa1 oc1 K3.out.2.1).mono ?_); rintro e w4 (⟨v, c, hm, hc0, hc1, rfl, f4⟩ | ⟨h, a3, hm, rfl, s4, f4⟩); rotate_left; (have hv2 := itake_lt hm; rcases (show h = 0 ∨ h = 1 ∨ h = 2 ∨ h = 3 by omega) with rfl | rfl | rfl | rfl); all_goals (try (have K4 := Lib.hid (And.intro hm (And.intro s4 f4)); clear hm s4 f4)))
        | (go_at_call 18; refine (kinds_any w4).mono ?_; rintro e w5 ⟨he, f5⟩; unfold kindV at he; subst he; have K5 := Lib.hid f5; clear f5)
        | (go_at_call 41; refine (HB.out.1 w5 a3 out1 oa1 oc1 (K4.out.2.1.fr0 K5.out)).mono ?_; rintro e w6 (⟨c, hm, hc0, hc1, rfl, f6⟩ | ⟨o6, a6, oa6, oc6, hm, rfl, s6, f6⟩); all_goals (have Km := Lib.hid hm; clear hm); all_goals (try (have K6 := Lib.hid (And.intro s6 f6); clear s6 f6)))
        | (go_at_call 42; refine (HB.out.2.1 w5 a3 out1 oa1 oc1 (K4.out.2.1.fr0 K5.out)).mono ?_; rintro e w6 (⟨c, hm, hc0, hc1, rfl, f6⟩ | ⟨o6, a6, oa6, oc6, hm, rfl, s6, f6⟩); all_goals (have Km := Lib.hid hm; clear hm); all_goals (try (have K6 := Lib.hid (And.intro s6 f6); clear s6 f6)))
        | (go_at_call 43; refine (HB.out.2.2.1 w5 a3 out1 oa1 oc1 (K4.out.2.1.fr0 K5.out)).mono ?_; rintro e w6 (⟨c, hm, hc0, hc1, rfl, f6⟩ | ⟨o6, a6, oa6, oc6, hm, rfl, s6, f6⟩); all_goals (have Km := Lib.hid hm; clear hm); all_goals (try (have K6 := Lib.hid (And.intro s6 f6); clear s6 f6))))
      · go_ret3
        refine .inl ⟨c, ?_, hc0, hc1, rfl, HU.out _ f3⟩
        rw [HK.out.2.2.2.2.2, ← HJ.out.2.2.1, irawF]
        simp only [hm]
        rfl
      · go_ret3
        refine .inl ⟨c, ?_, hc0, hc1, rfl, HU.out _ ((K3.out.2.2.trans (K4.out.2.2.trans (K5.out.mono (by simp)))).mono (by simp) |>.trans f6)⟩
        rw [HK.out.2.2.2.2.2, ← HJ.out.2.2.1, irawF]
        simp only [K3.out.1, K4.out.1, if_neg (show ¬ 0 = 3 by decide), Km.out]
        rfl
      · go_roundg k
        case measure => omega
        case rel =>
          have h1 := itake_at K3.out.1
          have h2 := itake_at K4.out.1
          have h3 := iblock_at Km.out
          have hfu := HJ.out.2.2.2
          have hst : irawF bs m (k + 1) out1 a1 = if last = 0 then irawF bs m k o6 a6 else .ok (o6, a6) := by
            rw [irawF]
            simp only [K3.out.1, K4.out.1, if_neg (show ¬ 0 = 3 by decide), Km.out]
          rw [HJ.out.2.2.1] at hst
          refine ⟨last, a6, o6, oa6, oc6, rfl, K6.out.1, (HJ.out.2.1.trans (Way.of _ _ _ _ _ (K3.out.2.2.trans (K4.out.2.2.trans (K5.out.mono (by simp)))))).trans K6.out.2, fun h0 => ⟨?_, by omega⟩, fun h0 => ?_⟩
          · rw [if_pos h0] at hst; exact hst.symm
          · rw [if_neg h0] at hst; exact hst
      · go_ret3
        refine .inl ⟨c, ?_, hc0, hc1, rfl, HU.out _ ((K3.out.2.2.trans (K4.out.2.2.trans (K5.out.mono (by simp)))).mono (by simp) |>.trans f6)⟩
        rw [HK.out.2.2.2.2.2, ← HJ.out.2.2.1, irawF]
        simp only [K3.out.1, K4.out.1, if_neg (show ¬ 1 = 3 by decide), Km.out]
        rfl
      · go_roundg k
        case measure => omega
        case rel =>
          have h1 := itake_at K3.out.1
          have h2 := itake_at K4.out.1
          have h3 := iblock_at Km.out
          have hfu := HJ.out.2.2.2
          have hst : irawF bs m (k + 1) out1 a1 = if last = 0 then irawF bs m k o6 a6 else .ok (o6, a6) := by
            rw [irawF]
            simp only [K3.out.1, K4.out.1, if_neg (show ¬ 1 = 3 by decide), Km.out]
          rw [HJ.out.2.2.1] at hst
          refine ⟨last, a6, o6, oa6, oc6, rfl, K6.out.1, (HJ.out.2.1.trans (Way.of _ _ _ _ _ (K3.out.2.2.trans (K4.out.2.2.trans (K5.out.mono (by simp)))))).trans K6.out.2, fun h0 => ⟨?_, by omega⟩, fun h0 => ?_⟩
          · rw [if_pos h0] at hst; exact hst.symm
          · rw [if_neg h0] at hst; exact hst
      · go_ret3
        refine .inl ⟨c, ?_, hc0, hc1, rfl, HU.out _ ((K3.out.2.2.trans (K4.out.2.2.trans (K5.out.mono (by simp)))).mono (by simp) |>.trans f6)⟩
        rw [HK.out.2.2.2.2.2, ← HJ.out.2.2.1, irawF]
        simp only [K3.out.1, K4.out.1, if_neg (show ¬ 2 = 3 by decide), Km.out]
        rfl
      · go_roundg k
        case measure => omega
        case rel =>
          have h1 := itake_at K3.out.1
          have h2 := itake_at K4.out.1
          have h3 := iblock_at Km.out
          have hfu := HJ.out.2.2.2
          have hst : irawF bs m (k + 1) out1 a1 = if last = 0 then irawF bs m k o6 a6 else .ok (o6, a6) := by
            rw [irawF]
            simp only [K3.out.1, K4.out.1, if_neg (show ¬ 2 = 3 by decide), Km.out]
          rw [HJ.out.2.2.1] at hst
          refine ⟨last, a6, o6, oa6, oc6, rfl, K6.out.1, (HJ.out.2.1.trans (Way.of _ _ _ _ _ (K3.out.2.2.trans (K4.out.2.2.trans (K5.out.mono (by simp)))))).trans K6.out.2, fun h0 => ⟨?_, by omega⟩, fun h0 => ?_⟩
          · rw [if_pos h0] at hst; exact hst.symm
          · rw [if_neg h0] at hst; exact hst
      · go_ret3
        refine .inl ⟨3, ?_, by decide, by decide, rfl, HU.out _ ((K3.out.2.2.trans K4.out.2.2).mono (by simp))⟩
        rw [HK.out.2.2.2.2.2, ← HJ.out.2.2.1, irawF]
        simp only [K3.out.1, K4.out.1, if_pos]
        rfl
      · go_ret3
        refine .inl ⟨c, ?_, hc0, hc1, rfl, HU.out _ ((K3.out.2.2.mono (by simp)).trans f4)⟩
        rw [HK.out.2.2.2.2.2, ← HJ.out.2.2.1, irawF]
        simp only [K3.out.1, hm]
        rfl
    · have hM : M = .ok (out1, (a1 + 7) / 8) := by rw [HK.out.2.2.2.2.2, hl1 hl]; rfl
      have c0 := cell_of hst.box 0
      have c1 := cell_of hst.box 1
      simp only [List.getElem?_toArray, List.getElem?_cons_zero, List.getElem?_cons_succ] at c0 c1
      obtain ⟨N, hN⟩ : ∃ N, N = out1.length := ⟨_, rfl⟩
      rw [← hN] at c1
      obtain ⟨hro, hrl⟩ := rd_of_owns hst.own
      have hle := hro.le
      rw [← hN] at hle
      have hsl := fun w => run_slice_cut3 bits.sliceU8 N oa1 oc1 hle w
      have hus : ∀ w', Fr [] wr w' → Calls Tryz.prog 19 #[.pointer (some ⟨p, 0, none⟩)] w' fun e w'' => e = .returned (.int .i64 ((a1 + 7) / 8 : Nat)) ∧ w'' = w' := fun w' f' => (bits.used_any p F bs a1 w' (bits.rd_fr hst.rd f' (by simp))).mono fun e w'' h => ⟨h.1, h.2.symm⟩
      obtain ⟨u, hu⟩ : ∃ u, u = (a1 + 7) / 8 := ⟨_, rfl⟩
      rw [← hu] at hM hus
      have hNm : N ≤ m := by rw [hN]; exact hst.om
      have hl9 : ((last : Int) == 0) = false := by simp; omega
      have HJ := Lib.hid (And.intro hst (And.intro hway (And.intro hM (And.intro hN (And.intro hro hus)))))
      have HU := Lib.hid hup
      clear hst hway hl0 hl1 hup hM hN hro hrl hus hu
      go_upto_region 16 with fail
      go_quiet (exact Calls.quiet_of_same (HJ.out.2.2.2.2.2 _ (Fr.drewN [] _ _)))
      go_wp2
      go_ret3
      have hN := HJ.out.2.2.2.1
      have hro := HJ.out.2.2.2.2.1
      refine .inr ⟨out1, u, oa1, HJ.out.2.2.1, by rw [hN]; rfl, ?_, fun x hx => ⟨?_, ?_⟩, HU.out _ (Fr.drewN _ _ _)⟩
      · have h1 : lib.Rd wr oa1 out1.length out1 := ⟨hro.cs, Nat.le_refl _, Nat.le_trans hro.le hro.max, fun h => by have := hro.nil h; have := hro.le; omega⟩
        exact h1.fr (Fr.drewN _ _ _)
      · rcases HJ.out.2.1.new x hx with h1 | h1
        · simp [blk] at h1
        · exact Nat.le_trans HK.out.2.1.size h1
      · exact owns_lt HJ.out.1.own (blk_own hx)
end Go.Proofs.YtolkoidbkaidkaaGreat.inf
/-
  inflate by mirrors: no more bits are taken than there are (plain).
-/
namespace Go.Proofs.YtolkoidbkaidkaaGreat.inf
open Go Go.Proofs.YtolkoidbkaidkaaGreat.bm Go.Proofs.YtolkoidbkaidkaaGreat.bl Go.Proofs.YtolkoidbkaidkaaGreat.huf

theorem itake_u {bs : List UInt8} {a n v a1 : Nat} (h : itake bs a n = .ok (v, a1)) : a1 ≤ 8 * bs.length := by
  unfold itake at h
  split at h
  · simp only [Except.ok.injEq, Prod.mk.injEq] at h; omega
  · cases h
theorem hread_u (ls : List Nat) : ∀ (f n v : Nat) (bits : List Bool), (hread ls f n v bits).2.1 ≤ n + bits.length
  | 0, n, v, bits => by
    cases h : hsym ls n v with
    | some s => rw [hread_hit h]; simp
    | none => rw [hread_end h]; simp
  | f + 1, n, v, bits => by
    cases h : hsym ls n v with
    | some s => rw [hread_hit h]; simp
    | none =>
      by_cases hm : hmore ls n v = true
      · cases bits with
        | nil => rw [hread_torn h hm]; simp
        | cons b t =>
          rw [hread_step h hm]
          have := hread_u ls f (n + 1) (2 * v + b2n b) t
          simp only [List.length_cons]
          omega
      · rw [hread_form h (by simpa using hm)]; simp
theorem isym_u {bs : List UInt8} {ls : List Nat} {a s a1 : Nat} (ha : a ≤ 8 * bs.length) (h : isym bs ls a = .ok (s, a1)) : a1 ≤ 8 * bs.length := by
  unfold isym at h
  split at h
  · have := hread_u ls 15 0 0 ((bytesBits bs).drop a)
    rw [List.length_drop, bytesBits_length] at this
    simp only [Except.ok.injEq, Prod.mk.injEq] at h
    omega
  · cases h
theorem ibytes_u {bs : List UInt8} {most : Nat} : ∀ {n : Nat} {out o : List UInt8} {q a : Nat}, q ≤ bs.length → ibytes bs most n out q = .ok (o, a) → a ≤ 8 * bs.length
  | 0, out, o, q, a, hq, h => by simp only [ibytes, Except.ok.injEq, Prod.mk.injEq] at h; omega
  | n + 1, out, o, q, a, hq, h => by
    rw [ibytes] at h
    split at h
    · split at h
      · cases h
      · exact ibytes_u (by omega) h
    · cases h
theorem istored_u {bs : List UInt8} {most a a1 : Nat} {out o : List UInt8} (h : istored bs most out a = .ok (o, a1)) : a1 ≤ 8 * bs.length := by
  unfold istored at h
  split at h
  · split at h
    · exact ibytes_u (by omega) h
    · cases h
  · cases h
theorem ilength_u {bs : List UInt8} {s a n a1 : Nat} (ha : a ≤ 8 * bs.length) (h : ilength bs s a = .ok (n, a1)) : a1 ≤ 8 * bs.length := by
  unfold ilength at h
  split at h
  · simp only [Except.ok.injEq, Prod.mk.injEq] at h; omega
  · split at h
    · simp only [Except.ok.injEq, Prod.mk.injEq] at h; omega
    · split at h
      · cases h
      · rename_i hh; have := itake_u hh; simp only [Except.ok.injEq, Prod.mk.injEq] at h; omega
theorem idist_u {bs : List UInt8} {s a n a1 : Nat} (ha : a ≤ 8 * bs.length) (h : idist bs s a = .ok (n, a1)) : a1 ≤ 8 * bs.length := by
  unfold idist at h
  split at h
  · simp only [Except.ok.injEq, Prod.mk.injEq] at h; omega
  · split at h
    · cases h
    · rename_i hh; have := itake_u hh; simp only [Except.ok.injEq, Prod.mk.injEq] at h; omega
theorem imatch_u {bs : List UInt8} {most : Nat} {dl : List Nat} {s a a1 : Nat} {out o : List UInt8} (ha : a ≤ 8 * bs.length) (h : imatch bs most dl s out a = .ok (o, a1)) : a1 ≤ 8 * bs.length := by
  unfold imatch at h
  split at h
  · cases h
  · rename_i n a2 h1
    have e1 := ilength_u ha h1
    split at h
    · cases h
    · rename_i d a3 h2
      have e2 := isym_u e1 h2
      split at h
      · cases h
      · split at h
        · cases h
        · rename_i b a4 h3
          have e3 := idist_u e2 h3
          split at h
          · cases h
          · split at h
            · cases h
            · simp only [Except.ok.injEq, Prod.mk.injEq] at h; omega
theorem isyms_u {bs : List UInt8} {most : Nat} {ll dl : List Nat} : ∀ {f : Nat} {out o : List UInt8} {a a1 : Nat}, a ≤ 8 * bs.length → isyms bs most ll dl f out a = .ok (o, a1) → a1 ≤ 8 * bs.length
  | 0, out, o, a, a1, _, h => by simp only [isyms] at h; cases h
  | f + 1, out, o, a, a1, ha, h => by
    rw [isyms] at h
    split at h
    · cases h
    · rename_i s a2 hs
      have h1 := isym_u ha hs
      split at h
      · split at h
        · cases h
        · exact isyms_u h1 h
      · split at h
        · simp only [Except.ok.injEq, Prod.mk.injEq] at h; omega
        · split at h
          · cases h
          · split at h
            · cases h
            · rename_i o2 a3 hm
              exact isyms_u (imatch_u h1 hm) h
theorem ifirst_u {bs : List UInt8} : ∀ {ps fs gs : List Nat} {a a1 : Nat}, a ≤ 8 * bs.length → ifirst bs ps fs a = .ok (gs, a1) → a1 ≤ 8 * bs.length
  | [], fs, gs, a, a1, ha, h => by simp only [ifirst, Except.ok.injEq, Prod.mk.injEq] at h; omega
  | i :: t, fs, gs, a, a1, ha, h => by
    rw [ifirst] at h
    split at h
    · cases h
    · rename_i v a2 hm
      exact ifirst_u (itake_u hm) h
theorem ilens_u {bs : List UInt8} {ls : List Nat} {n : Nat} : ∀ {f : Nat} {L K : List Nat} {a a1 : Nat}, a ≤ 8 * bs.length → ilens bs ls n f L a = .ok (K, a1) → a1 ≤ 8 * bs.length
  | 0, L, K, a, a1, _, h => by simp only [ilens] at h; cases h
  | f + 1, L, K, a, a1, ha, h => by
    rw [ilens] at h
    split at h
    · simp only [Except.ok.injEq, Prod.mk.injEq] at h; omega
    · split at h
      · cases h
      · rename_i s a2 hs
        have h1 := isym_u ha hs
        split at h
        · exact ilens_u h1 h
        · split at h
          · cases h
          · rename_i v a3 hm
            split at h
            · cases h
            · exact ilens_u (itake_u hm) h
theorem idyn_u {bs : List UInt8} {most a a1 : Nat} {out o : List UInt8} (h : idyn bs most out a = .ok (o, a1)) : a1 ≤ 8 * bs.length := by
  unfold idyn at h
  split at h
  · cases h
  · split at h
    · cases h
    · split at h
      · cases h
      · split at h
        · cases h
        · split at h
          · cases h
          · rename_i v3 b3 h3
            have e3 := itake_u h3
            unfold idyn2 at h
            split at h
            · cases h
            · rename_i fs b4 h4
              have e4 := ifirst_u e3 h4
              split at h
              · cases h
              · unfold idyn3 at h
                split at h
                · cases h
                · rename_i ls b5 h5
                  have e5 := ilens_u e4 h5
                  split at h
                  · cases h
                  · split at h
                    · cases h
                    · split at h
                      · cases h
                      · exact isyms_u e5 h
theorem iblock_u {bs : List UInt8} {most k a a1 : Nat} {out o : List UInt8} (ha : a ≤ 8 * bs.length) (h : iblock bs most k out a = .ok (o, a1)) : a1 ≤ 8 * bs.length := by
  unfold iblock at h
  split at h
  · exact istored_u h
  · split at h
    · exact isyms_u ha h
    · exact idyn_u h
theorem irawF_u {bs : List UInt8} {most : Nat} : ∀ {f a a1 : Nat} {out o : List UInt8}, irawF bs most f out a = .ok (o, a1) → a1 ≤ 8 * bs.length
  | 0, a, a1, out, o, h => by simp only [irawF] at h; cases h
  | f + 1, a, a1, out, o, h => by
    rw [irawF] at h
    split at h
    · cases h
    · split at h
      · cases h
      · rename_i k a2 h2
        split at h
        · cases h
        · split at h
          · cases h
          · rename_i o2 a3 h3
            split at h
            · exact irawF_u h
            · simp only [Except.ok.injEq, Prod.mk.injEq] at h
              have := iblock_u (itake_u h2) h3
              omega
theorem iraw_u {bs out : List UInt8} {m n : Nat} (h : iraw bs m = .ok (out, n)) : n ≤ bs.length := by
  unfold iraw at h
  split at h
  · cases h
  · rename_i o a hr
    have := irawF_u hr
    simp only [Except.ok.injEq, Prod.mk.injEq] at h
    omega
end Go.Proofs.YtolkoidbkaidkaaGreat.inf
/-
  inflate.Zlib.
-/
namespace Go.Proofs.YtolkoidbkaidkaaGreat.inf
open Go Go.RowKit Go.Proofs.YtolkoidbkaidkaaGreat.lib Go.Proofs.YtolkoidbkaidkaaGreat.bm Go.Proofs.YtolkoidbkaidkaaGreat.bl Go.Proofs.YtolkoidbkaidkaaGreat.huf

/-- May these two bytes stand ahead? -/
def zhead (x0 x1 : Nat) : Bool := (x0 % 16 == 8) && (decide (x0 / 16 ≤ 7) && (((x0 * 256 + x1) % 31 == 0) && (x1 / 32 % 2 == 0)))
/-- Four bytes' number, the highest first. -/
def be32 (bs : List UInt8) (q : Nat) : Nat := byteAt bs q * 16777216 + byteAt bs (q + 1) * 65536 + byteAt bs (q + 2) * 256 + byteAt bs (q + 3)
def izlib (bs : List UInt8) (m : Nat) : Except Nat (List UInt8 × Nat) :=
  if bs.length < 2 then .error 4 else if zhead (byteAt bs 0) (byteAt bs 1) = false then .error 3 else
  match iraw (bs.drop 2) m with
  | .error e => .error e
  | .ok (out, n) => if bs.length - (n + 2) < 4 then .error 4 else if be32 bs (n + 2) = sums.adler out then .ok (out, n + 6) else .error 6
theorem u8_and15 (x : Nat) (h : x < 256) : bits .and .u8 ((x : Nat) : Int) 15 = ((x % 16 : Nat) : Int) := by
  have hall : ∀ y : Fin 256, bits .and .u8 ((y.val : Nat) : Int) 15 = ((y.val % 16 : Nat) : Int) := by decide +kernel
  exact hall ⟨x, h⟩
theorem u8_and32 (x : Nat) (h : x < 256) : bits .and .u8 ((x : Nat) : Int) 32 = ((x / 32 % 2 * 32 : Nat) : Int) := by
  have hall : ∀ y : Fin 256, bits .and .u8 ((y.val : Nat) : Int) 32 = ((y.val / 32 % 2 * 32 : Nat) : Int) := by decide +kernel
  exact hall ⟨x, h⟩
theorem rd_byte {w : World} {a : Option Addr} {cap : Nat} {bs : List UInt8} (h : lib.Rd w a cap bs) {i : Nat} (hi : i < bs.length) : ∃ g o, a = some ⟨g, o, none⟩ ∧ w.cell? ⟨g, o + i, none⟩ = some (.int .u8 (byteAt bs i : Nat)) := by
  obtain ⟨g, o, ha, hc⟩ := h.at hi
  refine ⟨g, o, ha, ?_⟩
  rw [hc]
  unfold byteAt
  rw [List.getElem?_eq_getElem hi]
  rfl
set_option maxRecDepth 100000 in
set_option maxHeartbeats 8000000 in
theorem zlib_any (a : Option Addr) (cap : Nat) (bs : List UInt8) (m : Nat) (w : World) (h : lib.Rd w a cap bs) (hlen : bs.length ≤ 100000000) (hm8 : m ≤ 100000000) :
    Calls Tryz.prog 9 #[.slice a bs.length cap, .int .i64 (m : Nat)] w (RawGood w (izlib bs m)) := by
  obtain ⟨L, hL⟩ : ∃ L, L = bs.length := ⟨_, rfl⟩
  obtain ⟨M, hM⟩ : ∃ M, M = izlib bs m := ⟨_, rfl⟩
  rw [← hM]
  by_cases h2 : bs.length < 2
  · have hM4 : M = .error 4 := by rw [hM]; unfold izlib; rw [if_pos h2]
    rw [← hL] at h2 ⊢
    have d0 : decide ((L : Int) < 2) = true := by simp; omega
    have HM := Lib.hid hM4
    clear h hL hM hM4 hlen h2
    go_enter Tryz.func9, Tryz.ntmps9
    go_wp2
    go_ret3
    exact .inl ⟨4, HM.out, by decide, by decide, rfl, Fr.refl _ _⟩
  · obtain ⟨g, o, rfl, c0⟩ := rd_byte h (i := 0) (by omega)
    obtain ⟨g', o', ha', c1⟩ := rd_byte h (i := 1) (by omega)
    simp only [Option.some.injEq, Addr.mk.injEq, and_true] at ha'
    obtain ⟨rfl, rfl⟩ := ha'
    rw [Nat.add_zero] at c0
    obtain ⟨x0, hx0⟩ : ∃ x, x = byteAt bs 0 := ⟨_, rfl⟩
    obtain ⟨x1, hx1⟩ : ∃ x, x = byteAt bs 1 := ⟨_, rfl⟩
    have b0 : x0 < 256 := by rw [hx0]; exact byteAt_lt _ _
    have b1 : x1 < 256 := by rw [hx1]; exact byteAt_lt _ _
    rw [← hx0] at c0
    rw [← hx1] at c1
    have hM1 : M = if zhead x0 x1 = false then .error 3 else match iraw (bs.drop 2) m with
        | .error e => .error e
        | .ok (out, n) => if bs.length - (n + 2) < 4 then .error 4 else if be32 bs (n + 2) = sums.adler out then .ok (out, n + 6) else .error 6 := by
      rw [hM]; unfold izlib; rw [if_neg h2, ← hx0, ← hx1]
    have hle := h.le
    have hmx := h.max
    have hr2 : lib.Rd w (cutAtN (some ⟨g, o, none⟩) cap 2 1) (cap - 2) (bs.drop 2) := h.drop 2 (by omega)
    have hraw : ∀ w', Fr [] w w' → Calls Tryz.prog 6 #[.slice (cutAtN (some ⟨g, o, none⟩) cap 2 1) (L - 2 : Nat) (cap - 2), .int .i64 (m : Nat)] w' (RawGood w' (iraw (bs.drop 2) m)) := fun w' f => by
      have := raw_any _ (cap - 2) (bs.drop 2) m w' (hr2.fr f) (by rw [List.length_drop]; omega) hm8
      rwa [List.length_drop, ← hL] at this
    have hsl := lib.run_slice_from bits.sliceU8 2 (some ⟨g, o, none⟩) L cap 2 rfl (by omega) (by omega)
    rw [← hL] at h2 hle ⊢
    have d0 : decide ((L : Int) < 2) = false := by simp; omega
    obtain ⟨y0, hy0⟩ : ∃ y, y = x0 % 16 := ⟨_, rfl⟩
    obtain ⟨y1, hy1⟩ : ∃ y, y = x0 / 16 := ⟨_, rfl⟩
    obtain ⟨z, hz⟩ : ∃ z, z = x0 * 256 + x1 := ⟨_, rfl⟩
    obtain ⟨y2, hy2⟩ : ∃ y, y = z % 31 := ⟨_, rfl⟩
    obtain ⟨y3, hy3⟩ : ∃ y, y = x1 / 32 % 2 * 32 := ⟨_, rfl⟩
    have e0 := u8_and15 x0 b0
    have e3 := u8_and32 x1 b1
    rw [← hy0] at e0
    rw [← hy3] at e3
    have e1 : (x0 : Int) / 16 = (y1 : Int) := by omega
    have eor : bits .or .i64 ((x0 : Int) * 256) (x1 : Int) = (z : Int) := by
      have := i64_put x0 x1 8 (by decide) (by simpa using b1) (by omega)
      rw [hz]
      simpa using this
    have erem : Int.tmod (z : Int) 31 = (y2 : Int) := by rw [Int.tmod_eq_emod_of_nonneg (by omega)]; omega
    have eemod : (z : Int) % 31 = (y2 : Int) := by omega
    have hzh : zhead x0 x1 = ((y0 == 8) && (decide (y1 ≤ 7) && ((y2 == 0) && (y3 == 0)))) := by
      unfold zhead
      rw [← hy0, ← hy1, ← hz, ← hy2]
      congr 3
      rw [Bool.eq_iff_iff, beq_iff_eq, beq_iff_eq]
      omega
    have i0 : (0 : Int) < (L : Int) := by omega
    have i1 : (1 : Int) < (L : Int) := by omega
    have hyb : y0 < 256 ∧ y1 < 256 ∧ y3 < 256 ∧ z < 65536 ∧ y2 < 31 := by omega
    have H := Lib.hid (And.intro h (And.intro hlen (And.intro hL (And.intro hM1 (And.intro hraw hzh)))))
    clear h hlen hL hM1 hraw hzh hM hx0 hx1 hy0 hy1 hy2 hy3 hz hr2 h2
    go_enter Tryz.func9, Tryz.ntmps9
    go_upto_region 3 with fail
    clear d0
    go_cut [43] from 11 to 43 (fun s43 wc => s43 = .bool (!((y0 == 8) && (decide (y1 ≤ 7) && ((y2 == 0) && (y3 == 0))))) ∧ Fr [] w wc)
    case first =>
      by_cases k0 : y0 = 8
      · have t0 : ((y0 : Int) != 8) = false := by simp; omega
        by_cases k1 : y1 ≤ 7
        · have t1 : decide ((7 : Int) < y1) = false := by simp; omega
          by_cases k2 : y2 = 0
          · have t2 : ((y2 : Int) != 0) = false := by simp; omega
            by_cases k3 : y3 = 0
            · have t3 : ((y3 : Int) != 0) = false := by simp; omega
              have K := Lib.hid (And.intro k0 (And.intro k1 (And.intro k2 k3)))
              clear k0 k1 k2 k3
              go_quiet (fail)
              go_wp2
              go_meet
              case rel => exact ⟨by obtain ⟨k0, k1, k2, k3⟩ := K.out; simp [k0, k1, k2, k3], Fr.drewN _ _ _⟩
            · have t3 : ((y3 : Int) != 0) = true := by simp; omega
              have K := Lib.hid k3
              clear k0 k1 k2 k3
              go_quiet (fail)
              go_wp2
              go_meet
              case rel => exact ⟨by have := K.out; simp [this], Fr.drewN _ _ _⟩
          · have t2 : ((y2 : Int) != 0) = true := by simp; omega
            have K := Lib.hid k2
            clear k0 k1 k2
            go_quiet (fail)
            go_wp2
            go_meet
            case rel => exact ⟨by have := K.out; simp [this], Fr.drewN _ _ _⟩
        · have t1 : decide ((7 : Int) < y1) = true := by simp; omega
          have K := Lib.hid k1
          clear k0 k1
          go_quiet (fail)
          go_wp2
          go_meet
          case rel => exact ⟨by have := K.out; simp [this], Fr.drewN _ _ _⟩
      · have t0 : ((y0 : Int) != 8) = true := by simp; omega
        have K := Lib.hid k0
        clear k0
        go_quiet (fail)
        go_wp2
        go_meet
        case rel => exact ⟨by have := K.out; simp [this], Fr.drewN _ _ _⟩
    case rest =>
      obtain ⟨rfl, f1⟩ := hcut
      rw [← H.out.2.2.2.2.2]
      obtain ⟨bz, hbz⟩ : ∃ b, b = zhead x0 x1 := ⟨_, rfl⟩
      rw [← hbz]
      obtain ⟨h1, h2, h3, h4, h5, h6⟩ := H.out
      rw [← hbz] at h4
      have HF := Lib.hid (And.intro f1 (And.intro h4 (h5 wc f1)))
      clear f1 h4 h5 h6 h1 h2 h3 hbz e0 e1 e3 eor erem eemod hyb c0 c1
      cases bz
      · go_wp2
        go_ret3
        exact .inl ⟨3, by rw [HF.out.2.1]; first | rfl | (rw [if_pos rfl]), by decide, by decide, rfl, HF.out.1⟩
      · obtain ⟨qa, hqa⟩ : ∃ q, q = cutAtN (some ⟨g, o, none⟩) cap 2 1 := ⟨_, rfl⟩
        obtain ⟨qc, hqc⟩ : ∃ q, q = cap - 2 := ⟨_, rfl⟩
        obtain ⟨qn, hqn⟩ : ∃ q, q = L - 2 := ⟨_, rfl⟩
        rw [← hqa, ← hqc, ← hqn] at hsl
        have hraw := HF.out.2.2
        rw [← hqa, ← hqc, ← hqn] at hraw
        have hM2 : M = match iraw (bs.drop 2) m with
            | .error e => .error e
            | .ok (out, n) => if bs.length - (n + 2) < 4 then .error 4 else if be32 bs (n + 2) = sums.adler out then .ok (out, n + 6) else .error 6 := by
          rw [HF.out.2.1]; first | rfl | (rw [if_neg (by decide)])
        have HR := Lib.hid (And.intro hraw hM2)
        clear hqa hqc hqn hraw hM2
        go_upto_region 6 with (go_at_call 6; refine HR.out.1.mono ?_; rintro e w2 (⟨c, hm, k0, k1, rfl, f2⟩ | ⟨out, n, ao, hm, rfl, rd2, nb2, f2⟩))
        · have K2 := Lib.hid (And.intro hm f2)
          have d2 : ((c : Int) != 0) = true := by simp; omega
          clear hm f2 hsl
          go_wp2
          go_ret3
          exact .inl ⟨c, by rw [HR.out.2, K2.out.1], k0, k1, rfl, HF.out.1.trans K2.out.2⟩
        · have hnu := iraw_u hm
          rw [List.length_drop, ← H.out.2.2.1] at hnu
          obtain ⟨n2, hn2⟩ : ∃ n2, n2 = n + 2 := ⟨_, rfl⟩
          have en2 : (n : Int) + 2 = (n2 : Int) := by omega
          have hLb : L ≤ 100000000 := by rw [H.out.2.2.1]; exact H.out.2.1
          have hnL : n2 ≤ L := by omega
          have hM3 : M = if L - n2 < 4 then .error 4 else if be32 bs n2 = sums.adler out then .ok (out, n2 + 4) else .error 6 := by
            rw [HR.out.2, hm, hn2, H.out.2.2.1]
          have K2 := Lib.hid (And.intro hM3 (And.intro rd2 (And.intro nb2 (And.intro (HF.out.1.trans f2) hn2))))
          clear hm rd2 nb2 f2 hn2 hM3 hsl
          by_cases h4 : L - n2 < 4
          · have d4 : decide ((L : Int) - (n2 : Int) < 4) = true := by simp; omega
            have H4 := Lib.hid h4
            clear h4
            go_wp2
            go_ret3
            exact .inl ⟨4, by rw [K2.out.1, if_pos H4.out], by decide, by decide, rfl, K2.out.2.2.2.1⟩
          · have d4 : decide ((L : Int) - (n2 : Int) < 4) = false := by simp; omega
            go_upto_region 11 with fail
            clear d4 en2
            have rdw := H.out.1.fr K2.out.2.2.2.1
            have hbl : bs.length = L := H.out.2.2.1.symm
            obtain ⟨g0, o0, q0, c0⟩ := rd_byte rdw (i := n2) (by omega)
            obtain ⟨g1, o1, q1, c1⟩ := rd_byte rdw (i := n2 + 1) (by omega)
            obtain ⟨g2, o2, q2, c2⟩ := rd_byte rdw (i := n2 + 2) (by omega)
            obtain ⟨g3, o3, q3, c3⟩ := rd_byte rdw (i := n2 + 3) (by omega)
            simp only [Option.some.injEq, Addr.mk.injEq, and_true] at q0 q1 q2 q3
            obtain ⟨rfl, rfl⟩ := q0
            obtain ⟨rfl, rfl⟩ := q1
            obtain ⟨rfl, rfl⟩ := q2
            obtain ⟨rfl, rfl⟩ := q3
            have l0 := byteAt_lt bs n2
            have l1 := byteAt_lt bs (n2 + 1)
            have l2 := byteAt_lt bs (n2 + 2)
            have l3 := byteAt_lt bs (n2 + 3)
            have hbe : be32 bs n2 = byteAt bs n2 * 16777216 + byteAt bs (n2 + 1) * 65536 + byteAt bs (n2 + 2) * 256 + byteAt bs (n2 + 3) := rfl
            generalize byteAt bs n2 = y0 at *
            generalize byteAt bs (n2 + 1) = y1 at *
            generalize byteAt bs (n2 + 2) = y2 at *
            generalize byteAt bs (n2 + 3) = y3 at *
            obtain ⟨z1, hz1⟩ : ∃ z, z = y0 * 16777216 + y1 * 65536 := ⟨_, rfl⟩
            obtain ⟨z2, hz2⟩ : ∃ z, z = z1 + y2 * 256 := ⟨_, rfl⟩
            obtain ⟨z3, hz3⟩ : ∃ z, z = z2 + y3 := ⟨_, rfl⟩
            have r1 : bits .or .u32 ((y0 : Int) * 16777216) ((y1 : Int) * 65536) = (z1 : Int) := by
              have := sums.or_hi (y0 * 16777216) (y1 * 65536) 24 (by omega) (by decide) (by omega) (by omega)
              rw [← hz1] at this
              simpa using this
            have r2 : bits .or .u32 (z1 : Int) ((y2 : Int) * 256) = (z2 : Int) := by
              have := sums.or_hi z1 (y2 * 256) 16 (by omega) (by decide) (by omega) (by omega)
              rw [← hz2] at this
              simpa using this
            have r3 : bits .or .u32 (z2 : Int) (y3 : Int) = (z3 : Int) := by
              have := sums.or_hi z2 y3 8 (by omega) (by decide) (by omega) (by omega)
              rw [← hz3] at this
              exact this
            have hz : be32 bs n2 = z3 := by rw [hbe]; omega
            have hzb : z3 < 4294967296 := by omega
            have i0 : (n2 : Int) < (L : Int) := by omega
            have i1 : (n2 : Int) + 1 < (L : Int) := by omega
            have i2 : (n2 : Int) + 2 < (L : Int) := by omega
            have i3 : (n2 : Int) + 3 < (L : Int) := by omega
            have had := sums.adler_any ao out.length out w2.drew (K2.out.2.1.fr (Fr.drew1 [] w2))
            obtain ⟨N, hN⟩ : ∃ N, N = out.length := ⟨_, rfl⟩
            obtain ⟨A, hA⟩ : ∃ A, A = sums.adler out := ⟨_, rfl⟩
            have hAl : A < 4294967296 := by rw [hA]; exact sums.adler_lt out
            have hM4 : M = if z3 = A then .ok (out, n2 + 4) else .error 6 := by rw [K2.out.1, if_neg h4, hz, hA]
            rw [← hN, ← hA] at had
            rw [← hN]
            obtain ⟨S, hS⟩ : ∃ S : List Nat, S = [] := ⟨_, rfl⟩
            have hgS : g ∉ S := by rw [hS]; simp
            have x0 : ∀ x, (sup S w2.drew x).cell? ⟨g, o + n2, none⟩ = some (.int .u8 (y0 : Nat)) := fun x => (sup_fr S w2.drew x).cell ((Fr.drew1 [] w2).cell c0 (by simp)) hgS
            have x1 : ∀ x, (sup S w2.drew x).cell? ⟨g, o + (n2 + 1), none⟩ = some (.int .u8 (y1 : Nat)) := fun x => (sup_fr S w2.drew x).cell ((Fr.drew1 [] w2).cell c1 (by simp)) hgS
            have x2 : ∀ x, (sup S w2.drew x).cell? ⟨g, o + (n2 + 2), none⟩ = some (.int .u8 (y2 : Nat)) := fun x => (sup_fr S w2.drew x).cell ((Fr.drew1 [] w2).cell c2 (by simp)) hgS
            have x3 : ∀ x, (sup S w2.drew x).cell? ⟨g, o + (n2 + 3), none⟩ = some (.int .u8 (y3 : Nat)) := fun x => (sup_fr S w2.drew x).cell ((Fr.drew1 [] w2).cell c3 (by simp)) hgS
            have HZ := Lib.hid (And.intro had (And.intro hM4 (And.intro hN hS)))
            clear had hM4 hN hS hA hz hz1 hz2 hz3 hbe hbl rdw c0 c1 c2 c3 h4 hgS
            refine region_mix 32 [(false, 0), (false, 1), (false, 2), (false, 3), (false, 4), (false, 5), (false, 6), (false, 7), (false, 8), (false, 9), (false, 10), (false, 11), (false, 12), (false, 13), (false, 14), (false, 15), (false, 16), (false, 17), (false, 18), (false, 19), (false, 20), (false, 21), (false, 22), (false, 23), (false, 24), (false, 25), (false, 26), (false, 27), (false, 28), (false, 29), (true, 30), (false, 31)] S (by kernel_rfl) (by kernel_rfl) (fun _ _ d _ _ h => by cases d <;> exact h) ?_
            simp only [List.map_cons, List.map_nil, List.getD_cons_zero, List.getD_cons_succ, List.drop_succ_cons, List.drop_zero, List.drop_nil]
            refine mix_seg 30 rfl ?_
            simp only [List.take_succ_cons, List.take_zero, List.drop_succ_cons, List.drop_zero, List.map_cons, List.map_nil]
            repeat (go_big_quiet_step (fail))
            refine wpQuiet_nil ?_
            clear x0 x1 x2 x3
            refine mix_eff rfl ?_
            intro X hX
            go_wp2_with (go_at_call 27; refine HZ.out.1.mono ?_; rintro e w3 ⟨rfl, f3⟩)
            refine hX.out _ _ (by rw [HZ.out.2.2.2]; exact f3) ?_
            clear hX X
            refine mix_seg 1 rfl ?_
            simp only [List.take_succ_cons, List.take_zero, List.drop_succ_cons, List.drop_zero, List.map_cons, List.map_nil]
            repeat (go_big_quiet_step (fail))
            refine wpQuiet_nil ?_
            refine mix_nil ?_
            have HF3 := Lib.hid (K2.out.2.2.2.1.trans ((Fr.drew1 [] w2).trans f3))
            have hf3 := Lib.hid f3
            clear f3 r1 r2 r3 i0 i1 i2 i3
            by_cases hza : z3 = A
            · have d5 : ((z3 : Int) != (A : Int)) = false := by simp; omega
              have HA := Lib.hid hza
              clear hza
              go_wp2
              go_ret3
              have f23 := (Fr.drew1 [] w2).trans hf3.out
              refine .inr ⟨out, n2 + 4, ao, by rw [HZ.out.2.1, if_pos HA.out], by rw [HZ.out.2.2.1]; first | rfl | go_num, K2.out.2.1.fr f23, fun x hx => ⟨?_, Nat.lt_of_lt_of_le (K2.out.2.2.1 x hx).2 f23.size⟩, HF3.out⟩
              exact Nat.le_trans HF.out.1.size (K2.out.2.2.1 x hx).1
            · have d5 : ((z3 : Int) != (A : Int)) = true := by simp; omega
              have HA := Lib.hid hza
              clear hza
              go_wp2
              go_ret3
              exact .inl ⟨6, by rw [HZ.out.2.1, if_neg HA.out], by decide, by decide, rfl, HF3.out⟩
end Go.Proofs.YtolkoidbkaidkaaGreat.inf
/-
  What deflate makes, at any level: it is read as it was; a zlib stream of it too (plain, and the contracts of Raw and Zlib).
-/
namespace Go.Proofs.YtolkoidbkaidkaaGreat.trip
open Go Go.RowKit Go.Proofs.YtolkoidbkaidkaaGreat.lib Go.Proofs.YtolkoidbkaidkaaGreat.bm Go.Proofs.YtolkoidbkaidkaaGreat.bl Go.Proofs.YtolkoidbkaidkaaGreat.huf Go.Proofs.YtolkoidbkaidkaaGreat.inf Go.Proofs.YtolkoidbkaidkaaGreat.defl Go.Proofs.YtolkoidbkaidkaaGreat.mat Go.Proofs.YtolkoidbkaidkaaGreat.wb

theorem okWide_low {P : Program} {w : World} {r : Reach} {base : Nat} {t e : TypeId} {a : Option Addr} {len cap : Nat} (ht : P.underlying t = some (.slice e)) (h : Value.okWide P w r base t (.slice a len cap)) : ∀ x ∈ blk a, x < w.heap.size := by
  intro x hx
  cases a with
  | none => simp [blk] at hx
  | some ad =>
    simp only [blk, List.mem_singleton] at hx
    simp only [Value.okWide, ht, Cell.okWide, Cell.ok, World.has] at h
    obtain ⟨_, _, _, _, row, cells, hs, _⟩ := h
    rw [hx]
    unfold World.shape? at hs
    cases hb : w.heap[ad.block]? with
    | none => rw [hb] at hs; cases hs
    | some o => exact (Array.getElem?_eq_some_iff.1 hb).1
/-- These bytes are read as b, whatever stands behind; and they are not too many. -/
def RQ (b r : List UInt8) : Prop := r.length ≤ 10000000 ∧ ∀ (ext : List UInt8) (m : Nat), b.length ≤ m → iraw (r ++ ext) m = .ok (b, r.length)
theorem fixed_len {b : List UInt8} {bf : List Bool} (h : FixedB b bf) : (bytesOf bf).length ≤ 6 * b.length + 10 := by
  obtain ⟨hd, e, h0, _⟩ := h
  rw [h0 rfl] at e
  have hch : Chain b 32768 0 (matches_ b 32768) := by simpa using matches_chain b 32768
  have h1 := tsbits_len (alw 288) (List.replicate 30 5) alw_le (fun x hx => by rw [List.eq_of_mem_replicate hx]; decide) (toksOf b) (toks_ok (Nat.le_refl _) (b.length - 0) 0 _ rfl hch)
  have h2 := toks_len b 0 (matches_ b 32768)
  have h3 : (sbits (alw 288) 256).length ≤ 15 := sbits_len (alw 288) alw_le 256
  have h4 : (toksOf b).length * 48 ≤ b.length * 48 := Nat.mul_le_mul_right _ (by unfold toksOf; omega)
  rw [bytesOf_length, e]
  simp only [List.length_append, lsb_length, List.length_cons, List.length_nil]
  omega
theorem raw_rt (a : Option Addr) (cap : Nat) (b : List UInt8) (level : Int) (w : World) (h : lib.Rd w a cap b) (hlen : b.length ≤ 100000) (hla : ∀ x ∈ blk a, x < w.heap.size) :
    Calls Tryz.prog 5 #[.slice a b.length cap, .int .i64 level] w fun e w' => ∃ r, RQ b r ∧ NewBytes w r e w' := by
  by_cases hl : level ≤ 0
  · refine (raw_zero a cap b level w h (by omega) hl).mono fun e w' hn => ⟨plainBytes b, ⟨?_, fun ext m hm => plain_trip b ext m hm⟩, hn⟩
    have := plain_le b
    omega
  · refine (raw_more a cap b level w h hlen (by omega) hla).mono ?_
    rintro e w' ⟨r, hr, hn⟩
    refine ⟨r, ⟨?_, fun ext m hm => raw_trip hr (by omega) ext m hm⟩, hn⟩
    obtain ⟨bf, h1, h2, h3⟩ := hr
    have h4 := fixed_len h1
    by_cases h5 : level = 1
    · rw [h2 h5]; omega
    · have := (h3 (by omega)).2.1
      omega
theorem zlib_rt (a : Option Addr) (cap : Nat) (b : List UInt8) (level : Int) (w : World) (h : lib.Rd w a cap b) (hlen : b.length ≤ 100000) (hla : ∀ x ∈ blk a, x < w.heap.size) :
    Calls Tryz.prog 8 #[.slice a b.length cap, .int .i64 level] w fun e w' => ∃ r, RQ b r ∧ NewBytes w (zlibOf level r b) e w' :=
  zlib_ex a cap b (RQ b) level w h (fun r hr => by have := hr.1; omega) (fun w' f => raw_rt a cap b level w' (h.fr f) hlen (fun x hx => Nat.lt_of_lt_of_le (hla x hx) f.size))
theorem zlib_trip {level : Int} {b r : List UInt8} (h : RQ b r) (ext : List UInt8) (m : Nat) (hm : b.length ≤ m) : izlib (zlibOf level r b ++ ext) m = .ok (b, (zlibOf level r b).length) := by
  have hz : zlibOf level r b ++ ext = 120 :: zsec level :: (r ++ (sums.be4 (sums.adler b) ++ ext)) := by unfold zlibOf; simp
  have hlen : (zlibOf level r b).length = r.length + 6 := by unfold zlibOf; simp [sums.be4_length]
  have h0 : byteAt (zlibOf level r b ++ ext) 0 = 120 := by rw [hz]; rfl
  have h1 : byteAt (zlibOf level r b ++ ext) 1 = (zsec level).toNat := by rw [hz]; rfl
  have hh : zhead 120 (zsec level).toNat = true := by
    unfold zsec
    split
    · decide
    · split <;> decide
  have hd : (zlibOf level r b ++ ext).drop 2 = r ++ (sums.be4 (sums.adler b) ++ ext) := by rw [hz]; rfl
  have hl2 : (zlibOf level r b ++ ext).length = r.length + 6 + ext.length := by rw [List.length_append, hlen]
  have hbe : be32 (zlibOf level r b ++ ext) (r.length + 2) = sums.adler b := by
    have hb : ∀ i, i < 4 → byteAt (zlibOf level r b ++ ext) (r.length + 2 + i) = ((sums.be4 (sums.adler b))[i]?.getD 0).toNat := fun i hi => by
      unfold byteAt
      rw [hz, show r.length + 2 + i = r.length + i + 1 + 1 by omega, List.getElem?_cons_succ, List.getElem?_cons_succ, List.getElem?_append_right (by omega), show r.length + i - r.length = i by omega, List.getElem?_append_left (by rw [sums.be4_length]; exact hi)]
    have := sums.be4_num (sums.adler b) (sums.adler_lt b) _ rfl
    unfold be32
    rw [show r.length + 2 = r.length + 2 + 0 from rfl, hb 0 (by decide), show r.length + 2 + 0 + 1 = r.length + 2 + 1 from rfl, hb 1 (by decide), show r.length + 2 + 0 + 2 = r.length + 2 + 2 from rfl, hb 2 (by decide), show r.length + 2 + 0 + 3 = r.length + 2 + 3 from rfl, hb 3 (by decide)]
    exact this
  unfold izlib
  rw [if_neg (by omega), h0, h1, hh, if_neg (by decide), hd, h.2 _ m hm]
  dsimp only
  rw [if_neg (by omega), hbe, if_pos rfl, hlen]
end Go.Proofs.YtolkoidbkaidkaaGreat.trip
/-
  The document's own reader of bits (stemmaref5.Bits): it does what bits.Reader does.
-/
namespace Go.Proofs.YtolkoidbkaidkaaGreat.bits
open Go Go.RowKit Go.Proofs.YtolkoidbkaidkaaGreat.lib Go.Proofs.YtolkoidbkaidkaaGreat.bm

abbrev Rf (w : World) (p : Nat) (F : List Nat) (bs : List UInt8) (at_ : Nat) : Prop := RdT 59 w p F bs at_

set_option maxHeartbeats 400000 in
theorem left_any (p : Nat) (F : List Nat) (bs : List UInt8) (at_ : Nat) (w : World) (hR : Rf w p F bs at_) :
    Calls Tryz.prog 64 #[.pointer (some ⟨p, 0, none⟩)] w fun e w' => e = .returned (.int .i64 (8 * bs.length - at_)) ∧ ∃ n, w' = w.drewN n := by
  obtain ⟨ao, cap, hr, hcs, rfl, hpb, hlen, hat, hcap, hmax⟩ := hR
  have c0 := cell_of hr 0
  have c1 := cell_of hr 1
  simp only [List.getElem?_toArray, List.getElem?_cons_zero, List.getElem?_cons_succ] at c0 c1
  clear hr
  go_enter Tryz.func64, Tryz.ntmps64
  go_wp2
  go_quiet (fail)
  go_wp2
  go_ret
  exact ⟨rfl, _, rfl⟩

set_option maxHeartbeats 400000 in
theorem rused_any (p : Nat) (F : List Nat) (bs : List UInt8) (at_ : Nat) (w : World) (hR : Rf w p F bs at_) :
    Calls Tryz.prog 26 #[.pointer (some ⟨p, 0, none⟩)] w fun e w' => e = .returned (.int .i64 ((at_ + 7) / 8 : Nat)) ∧ w = w' := by
  obtain ⟨ao, cap, hr, hcs, rfl, hpb, hlen, hat, hcap, hmax⟩ := hR
  have c1 := cell_of hr 1
  simp only [List.getElem?_toArray, List.getElem?_cons_zero, List.getElem?_cons_succ] at c1
  clear hr
  go_enter Tryz.func26, Tryz.ntmps26
  go_wp2
  go_ret
  exact ⟨ret_eq (int_eq (by omega)), rfl⟩

set_option maxHeartbeats 400000 in
theorem ralign_any (p : Nat) (F : List Nat) (bs : List UInt8) (at_ : Nat) (w : World) (hR : Rf w p F bs at_) :
    Calls Tryz.prog 45 #[.pointer (some ⟨p, 0, none⟩)] w fun e w' => e = .returned (.tuple #[]) ∧ Rf w' p F bs ((at_ + 7) / 8 * 8) ∧ Fr [p] w w' := by
  have hR' := Lib.hid hR
  obtain ⟨ao, cap, hr, hcs, rfl, hpb, hlen, hat, hcap, hmax⟩ := hR
  have c1 := cell_of hr 1
  have f1 := frozen_of hr 1
  simp only [List.getElem?_toArray, List.getElem?_cons_zero, List.getElem?_cons_succ] at c1
  clear hr
  go_enter Tryz.func45, Tryz.ntmps45
  go_wp2
  go_end0
  refine ⟨rfl, rd_at hR'.out ((Fr.refl _ w).setCell (by simp) _) (fun ao cap h => (setCell_of h _).trans ?_) (by omega), (Fr.refl _ w).setCell (by simp) _⟩
  have e : ((at_ : Int) + 7) / 8 * 8 = ((at_ + 7) / 8 * 8 : Nat) := by omega
  rw [e]
  rfl

theorem one_bit (bs : List UInt8) (a bn : Nat) (hlt : a / 8 < bs.length) (hb : (bs.getD (a / 8) 0).toNat = bn) :
    bits .and .u32 ((bn : Int) / 2 ^ (a % 8) % 4294967296) 1 = ((num bs / 2 ^ a % 2 : Nat) : Int) := by
  have hbn : bn < 256 := by rw [← hb]; exact UInt8.toNat_lt _
  have hbd : bn / 2 ^ (a % 8) < 4294967296 := Nat.lt_of_le_of_lt (Nat.div_le_self _ _) (by omega)
  have hc := chunk bs a 1 hlt (by omega)
  rw [hb] at hc
  have h := u32_and_nat (bn / 2 ^ (a % 8)) 1 hbd (by decide)
  rw [Nat.and_one_is_mod] at h
  have hm : ((bn / 2 ^ (a % 8) : Nat) : Int) % 4294967296 = ((bn / 2 ^ (a % 8) : Nat) : Int) := Int.emod_eq_of_lt (Int.natCast_nonneg _) (Int.ofNat_lt.2 hbd)
  rw [cast_pow, ← Int.natCast_ediv, hm]
  rw [show (2 : Nat) ^ 1 = 2 from rfl] at hc
  rw [hc]
  exact h

set_option maxHeartbeats 1000000 in
theorem rone_any (p : Nat) (F : List Nat) (bs : List UInt8) (at_ : Nat) (w : World) (hR : Rf w p F bs at_) (h8 : at_ < 8 * bs.length) :
    Calls Tryz.prog 65 #[.pointer (some ⟨p, 0, none⟩)] w fun e w' => e = .returned (.int .u32 (num bs / 2 ^ at_ % 2 : Nat)) ∧ Rf w' p F bs (at_ + 1) ∧ Fr [p] w w' := by
  obtain ⟨ao, cap, hr, hcs, rfl, hpb, hlen, hat, hcap, hmax⟩ := hR
  have hHcs := Lib.hid hcs
  obtain ⟨g, o, rfl, hc⟩ := hcs.at (by simp; omega)
  have hq : at_ / 8 < bs.length := by omega
  have cd : w.cell? ⟨g, o + at_ / 8, none⟩ = some (bv (bs.getD (at_ / 8) 0)) := hc _ _ (by simp [List.getD, hq])
  unfold bv at cd
  have c0 := cell_of hr 0
  have c1 := cell_of hr 1
  have f1 := frozen_of hr 1
  simp only [List.getElem?_toArray, List.getElem?_cons_zero, List.getElem?_cons_succ] at c0 c1
  have Hr := Lib.hid hr
  have hby : (bs.getD (at_ / 8) 0).toNat < 256 := UInt8.toNat_lt _
  generalize hbn : (bs.getD (at_ / 8) 0).toNat = bn at cd hby
  have Hbn := Lib.hid hbn
  clear hr hbn hc
  go_enter Tryz.func65, Tryz.ntmps65
  go_wp2
  go_quiet (fail)
  go_wp2
  go_ret
  have fr := ((Fr.refl [p] w).drewsN nq).setCell (p := ⟨p, 1, none⟩) (by simp) (.int .i64 (at_ + 1))
  refine ⟨ret_eq (int_eq (one_bit bs at_ bn hq Hbn.out)), ⟨_, cap, (setCell_of (w := w.drewN nq) Hr.out _).trans rfl, hHcs.out.fr fr (by intro x hx; simp; rintro rfl; exact hpb hx), rfl, hpb, hlen, by omega, hcap, hmax⟩, fr⟩

theorem rtake_step (x vn a k : Nat) (hk : k < 32) (hv : x / 2 ^ a % 2 ^ k = vn) :
    bits .or .u32 (vn : Int) (((x / 2 ^ (a + k) % 2 : Nat) : Int) * 2 ^ k % 4294967296) = ((x / 2 ^ a % 2 ^ (k + 1) : Nat) : Int) := by
  rw [more, hv, u32_put vn _ k 1 (by rw [← hv]; exact Nat.mod_lt _ (Nat.two_pow_pos _)) (Nat.mod_lt _ (by decide)) (by omega)]

set_option maxHeartbeats 1000000 in
theorem rtake_good (p : Nat) (F : List Nat) (bs : List UInt8) (at_ : Nat) (n : Int) (w : World) (hR : Rf w p F bs at_) (hn0 : 0 ≤ n) (hn2 : n ≤ 32) (hn3 : at_ + n ≤ 8 * bs.length) :
    Calls Tryz.prog 44 #[.pointer (some ⟨p, 0, none⟩), .int .i64 n] w fun e w' =>
      e = .returned (.tuple #[.int .u32 (num bs / 2 ^ at_ % 2 ^ n.toNat : Nat), .bool true]) ∧ Rf w' p F bs (at_ + n.toNat) ∧ Fr [p] w w' := by
  obtain ⟨n, rfl⟩ := Int.eq_ofNat_of_zero_le hn0
  have h1 : decide ((n : Int) < 0) = false := by simp
  have h2 : decide (32 < (n : Int)) = false := by simp; omega
  have h3 : decide (8 * (bs.length : Int) - at_ < (n : Int)) = false := by simp; omega
  have hpF : p ∈ F := by obtain ⟨_, _, _, _, h, _⟩ := hR; rw [h]; simp
  go_enter Tryz.func44, Tryz.ntmps44
  go_upto_region 1 with fail
  go_cut [19] (fun s wc => s = .bool false ∧ Rf wc p F bs at_ ∧ Fr [p] w wc)
  case first =>
    go_wp2_with (go_at_call 64; refine (left_any p F bs at_ _ hR).mono ?_; rintro e w' ⟨rfl, k, rfl⟩)
    go_meet
    exact ⟨by first | rfl | simpa using h3, rd_fr hR (Fr.drewN [] _ _) (by simp), Fr.drewN _ _ _⟩
  case rest =>
  obtain ⟨rfl, hR1, fr1⟩ := hcut
  have HR1 := Lib.hid hR1
  clear hR hR1
  go_wp2
  go_loopg [6, 7] n (fun k s6 s7 wr => ∃ i, i + k = n ∧ s7 = .int .i64 i ∧ s6 = .int .u32 (num bs / 2 ^ at_ % 2 ^ i : Nat) ∧ Rf wr p F bs (at_ + i) ∧ Fr [p] w wr)
  case atStart => exact ⟨0, by omega, rfl, by simp [Nat.mod_one], HR1.out, fr1⟩
  case round =>
    obtain ⟨i, hi, rfl, rfl, hR, fr2⟩ := hrel
    by_cases hin : i < n
    · have hlt : at_ + i < 8 * bs.length := by omega
      have hv : num bs / 2 ^ at_ % 2 ^ i < 4294967296 := by
        refine Nat.lt_of_lt_of_le (Nat.mod_lt _ (Nat.two_pow_pos _)) ?_
        rw [← p32]
        exact pow_le i 32 (by omega)
      generalize hvn : num bs / 2 ^ at_ % 2 ^ i = vn at hv ⊢
      have Hvn := Lib.hid hvn
      clear hvn
      have hst := rtake_step (num bs) vn at_ i (by omega) Hvn.out
      have Hst := Lib.hid hst
      clear hst
      go_wp2_with (go_at_call 65; refine (rone_any p F bs _ _ hR hlt).mono ?_; rintro e w' ⟨rfl, hR2, fr3⟩; generalize num bs / 2 ^ (at_ + i) % 2 = bit at Hst)
      go_roundg (n - (i + 1))
      case measure => omega
      case rel => exact ⟨i + 1, by omega, by go_num, int_eq Hst.out, hR2, fr2.trans fr3⟩
    · obtain rfl : i = n := by omega
      go_wp2
      go_ret2
      exact ⟨by simp, by simpa using hR, fr2⟩

set_option maxHeartbeats 1000000 in
theorem rtake_bad (p : Nat) (F : List Nat) (bs : List UInt8) (at_ : Nat) (n : Int) (w : World) (hR : Rf w p F bs at_) (hn : n < 0 ∨ 32 < n ∨ 8 * bs.length < at_ + n) :
    Calls Tryz.prog 44 #[.pointer (some ⟨p, 0, none⟩), .int .i64 n] w fun e w' =>
      e = .returned (.tuple #[.int .u32 0, .bool false]) ∧ Rf w' p F bs at_ ∧ Fr [] w w' := by
  have HR := Lib.hid hR
  clear hR
  by_cases a1 : n < 0
  · have h1 : decide (n < 0) = true := by simp; omega
    go_enter Tryz.func44, Tryz.ntmps44
    go_wp2
    go_ret2
    exact ⟨rfl, HR.out, Fr.refl _ _⟩
  · have h1 : decide (n < 0) = false := by simp; omega
    by_cases a2 : 32 < n
    · have h2 : decide (32 < n) = true := by simp; omega
      go_enter Tryz.func44, Tryz.ntmps44
      go_wp2
      go_ret2
      exact ⟨rfl, HR.out, Fr.refl _ _⟩
    · have h2 : decide (32 < n) = false := by simp; omega
      have h3 : decide (8 * (bs.length : Int) - at_ < n) = true := by simp; omega
      go_enter Tryz.func44, Tryz.ntmps44
      go_wp2_with (go_at_call 64; refine (left_any p F bs at_ _ HR.out).mono ?_; rintro e w' ⟨rfl, k, rfl⟩)
      go_ret2
      exact ⟨rfl, rd_fr HR.out (Fr.drewN [] _ _) (by simp), Fr.drewN _ _ _⟩
end Go.Proofs.YtolkoidbkaidkaaGreat.bits
/-
  The document's codes (stemmaref5): weight, Complete, Codes.
-/
namespace Go.Proofs.YtolkoidbkaidkaaGreat.huf
open Go Go.RowKit Go.Proofs.YtolkoidbkaidkaaGreat.lib Go.Proofs.YtolkoidbkaidkaaGreat.bm Go.Proofs.YtolkoidbkaidkaaGreat.bl

set_option maxRecDepth 100000 in
set_option maxHeartbeats 1000000 in
theorem weight_any (a : Option Addr) (cap : Nat) (ls : List Nat) (w : World) (h : Ri w a cap ls) (hle : ∀ l ∈ ls, l ≤ 15) (hlen : ls.length ≤ 100000) :
    Calls Tryz.prog 68 #[.slice a ls.length cap] w fun e w' => e = .returned (.int .i64 (weight ls : Nat)) ∧ w = w' := by
  obtain ⟨L, hL⟩ : ∃ L, L = ls.length := ⟨_, rfl⟩
  rw [← hL] at hlen ⊢
  have H := Lib.hid (And.intro h (And.intro hle hL))
  clear h hle hL
  go_enter Tryz.func68, Tryz.ntmps68
  go_upto_block 0 with fail
  go_wp2
  go_loopg [3, 4] L (fun k s3 s4 wr => ∃ i : Nat, s4 = .int .i64 (i : Nat) ∧ s3 = .int .i64 (weight (ls.take i) : Nat) ∧ i + k = L ∧ w = wr)
  case atStart => exact ⟨0, rfl, rfl, by omega, rfl⟩
  case round =>
    obtain ⟨i, rfl, rfl, hik, rfl⟩ := hrel
    by_cases hi : i < L
    · obtain ⟨k, rfl⟩ : ∃ k, gk = k + 1 := ⟨gk - 1, by omega⟩
      have hil : i < ls.length := by rw [← H.out.2.2]; exact hi
      obtain ⟨g, o, rfl, hc⟩ := H.out.1.at hil
      have h15 := H.out.2.1 _ (List.getElem_mem hil)
      have hw := weight_append (ls.take i) [ls[i]]
      rw [← List.take_succ_eq_append_getElem hil] at hw
      have hwl := weight_le (ls.take i)
      rw [List.length_take] at hwl
      generalize ls[i] = x at *
      generalize hW : weight (ls.take i) = W at *
      generalize hW2 : weight (ls.take (i + 1)) = W2 at *
      have hWb : W ≤ 1638400000 := by omega
      by_cases h0 : x = 0
      · subst h0
        have e : W2 = W := by rw [hw]; simp [weight]
        have HE := Lib.hid (And.intro e hW2)
        clear e hw hwl hW hW2
        go_wp2
        go_roundg k
        case measure => omega
        case rel => exact ⟨i + 1, by go_num, by rw [HE.out.2, HE.out.1], by omega, rfl⟩
      · have hx : 1 ≤ x := by omega
        obtain ⟨y, hy⟩ : ∃ y, y = 15 - x := ⟨_, rfl⟩
        have e1 : (15 : Int) - (x : Int) = (y : Int) := by omega
        have hp : 2 ^ y ≤ 16384 := Nat.le_trans (Nat.pow_le_pow_right (by decide) (show y ≤ 14 by omega)) (by decide)
        have e : W2 = W + 2 ^ y := by rw [hw, hy]; simp [weight, h0]
        obtain ⟨z, hz⟩ : ∃ z, z = 2 ^ y := ⟨_, rfl⟩
        rw [← hz] at hp e
        have e2 : (2 : Int) ^ y = (z : Int) := by rw [hz]; exact cast_pow y
        have HE := Lib.hid (And.intro e hW2)
        have hy14 : y ≤ 14 := by omega
        clear e hw hwl hW hW2 hz hy
        go_wp2
        go_roundg k
        case measure => omega
        case rel => exact ⟨i + 1, by go_num, by rw [HE.out.2, HE.out.1]; first | go_num | rfl, by omega, rfl⟩
    · obtain rfl : i = L := by omega
      have hW : weight (ls.take i) = weight ls := by rw [List.take_of_length_le (by rw [← H.out.2.2]; exact Nat.le_refl _)]
      have HW := Lib.hid hW
      clear hW
      go_wp2
      go_ret
      exact ⟨by rw [← HW.out]; rfl, rfl⟩
set_option maxRecDepth 100000 in
theorem rcomplete_any (a : Option Addr) (cap : Nat) (ls : List Nat) (w : World) (h : Ri w a cap ls) (hle : ∀ l ∈ ls, l ≤ 15) (hlen : ls.length ≤ 100000) :
    Calls Tryz.prog 49 #[.slice a ls.length cap] w fun e w' => e = .returned (.bool (decide (weight ls = 32768))) ∧ w = w' := by
  have hc := Lib.hid (weight_any a cap ls w h hle hlen)
  clear h hle
  go_enter Tryz.func49, Tryz.ntmps49
  go_wp2_with (go_at_call 68; refine hc.out.mono ?_; rintro e w' ⟨rfl, rfl⟩)
  go_ret
  refine ⟨ret_eq (bool_eq ?_), rfl⟩
  first
    | (rw [Bool.eq_iff_iff]; simp; omega)
    | simp
def RCodesGood (w : World) (ls : List Nat) (e : Ending) (w' : World) : Prop :=
  ∃ g, e = .returned (.tuple #[.slice (some ⟨g, 0, none⟩) ls.length ls.length, .int .i64 0]) ∧ Cs w' (some ⟨g, 0, none⟩) ((codesOf ls).map fun x => .int .u32 (x : Nat)) ∧ w.heap.size ≤ g ∧ g < w'.heap.size ∧ Fr [] w w'
set_option maxRecDepth 100000 in
set_option maxHeartbeats 2000000 in
theorem rcodes_any (a : Option Addr) (cap : Nat) (ls : List Nat) (w : World) (h : Ri w a cap ls) (hle : ∀ l ∈ ls, l ≤ 15) (hlen : ls.length ≤ 400) (hw : weight ls ≤ 32768) :
    Calls Tryz.prog 80 #[.slice a ls.length cap] w (RCodesGood w ls) := by
  obtain ⟨L, hL⟩ : ∃ L, L = ls.length := ⟨_, rfl⟩
  have hc := weight_any a cap ls w h hle (by omega)
  rw [← hL] at hlen hc ⊢
  obtain ⟨W, hW⟩ : ∃ W, W = weight ls := ⟨_, rfl⟩
  rw [← hW] at hc hw
  have H := Lib.hid (And.intro h (And.intro hle (And.intro hL (And.intro hc hW))))
  obtain ⟨hu, ⟨ti, hi', hz', hs', hb'⟩, hcz, hp⟩ := u32sTy
  clear h hle hL hc hW
  have d1 : decide ((400 : Int) < L) = false := by simp; omega
  have d2 : decide ((32768 : Int) < W) = false := by simp; omega
  go_enter Tryz.func80, Tryz.ntmps80
  go_upto_block 1 with (first | (go_at_call 68; refine H.out.2.2.2.1.mono ?_; rintro e w' ⟨rfl, rfl⟩) | (refine wpList_make_full _ rfl _ _ 134 rfl 0 66 ti (.int .u32 0) 1 hu hi' hz' hs' .i64 .i64 (L : Nat) (L : Nat) L rfl rfl rfl rfl (by rw [hb']; omega) (by unfold maxLen; omega) (by omega) ?_; intro w3 own3 grow3; have H3 := Lib.hid (And.intro own3 grow3); clear own3 grow3))
  obtain ⟨Q, hQ⟩ : ∃ Q, Q = w.heap.size := ⟨_, rfl⟩
  rw [← hQ] at H3 ⊢
  have hst : Cw w3 ls Q 1 0 := cw_made (by rw [← H.out.2.2.1]; exact H3.out.1)
  have f3 : Fr [] w w3 := (Fr.refl [] w).grown H3.out.2 (fun k hk => by cases hk)
  have HS := Lib.hid (And.intro hst (And.intro f3 hQ))
  clear hst f3 hQ H3 hu hi' hz' hs' hb' hcz hp d1 d2
  go_wp2
  go_loopg [5, 6, 7] 15 (fun k s5 s6 s7 wr => ∃ l nx : Nat, s6 = .int .i64 (l : Nat) ∧ s5 = .int .u32 (nx : Nat) ∧ l + k = 16 ∧ 1 ≤ l ∧ 2 * nx = nxt ls l ∧ Cw wr ls Q l 0 ∧ Fr [] w wr)
  case atStart => exact ⟨1, 0, rfl, rfl, rfl, Nat.le_refl _, rfl, HS.out.1, HS.out.2.1⟩
  case round =>
    obtain ⟨l, nx, rfl, rfl, hlk, hl1, hnx, hcw, hf⟩ := hrel
    by_cases hl : l ≤ 15
    · obtain ⟨k, rfl⟩ : ∃ k, gk = k + 1 := ⟨gk - 1, by omega⟩
      have hb := share_top ls H.out.2.1 (by rw [← H.out.2.2.2.2]; exact hw) l hl
      obtain ⟨wo, rfl⟩ : ∃ wo : World, wo = wr := ⟨_, rfl⟩
      obtain ⟨n2, hn2⟩ : ∃ n2, n2 = nxt ls l := ⟨_, rfl⟩
      rw [← hn2] at hnx hb
      have HX := Lib.hid (And.intro hcw (And.intro hf (And.intro hn2 (And.intro hnx hlk))))
      have hnxb : nx ≤ 16384 := by omega
      have e2 : (nx : Int) * 2 = (n2 : Int) := by omega
      clear hcw hf hn2 hnx hlk
      go_upto_block 3 with fail
      clear e2
      go_wp2
      go_loopg [5, 7] L (fun k s5 s7 wr => ∃ i y : Nat, s7 = .int .i64 (i : Nat) ∧ s5 = .int .u32 (y : Nat) ∧ i + k = L ∧ y = n2 + (ls.take i).count l ∧ Cw wr ls Q l i ∧ Fr [] w wr)
      case atStart => exact ⟨0, n2, rfl, rfl, by omega, by simp, HX.out.1, HX.out.2.1⟩
      case round =>
        obtain ⟨i, y, rfl, rfl, hik, hy, hcw, hf⟩ := hrel
        have hcl := List.count_le_length (a := l) (l := ls.take i)
        rw [List.length_take] at hcl
        have hyb : y ≤ 40000 := by omega
        by_cases hi : i < L
        · obtain ⟨k2, rfl⟩ : ∃ k2, gk = k2 + 1 := ⟨gk - 1, by omega⟩
          have hil : i < ls.length := by rw [← H.out.2.2.1]; exact hi
          obtain ⟨g, o, rfl, hc⟩ := (H.out.1.fr hf).at hil
          have hla : lenAt ls i = ls[i] := by unfold lenAt; rw [List.getElem?_eq_getElem hil]; rfl
          have hct := count_take_succ ls i l hil
          rw [hla] at hct
          obtain ⟨A, hA, hAs, hAt⟩ := hcw
          have zA := frozen_of hA i
          obtain ⟨x0, hx0⟩ : ∃ x, wr.cell? ⟨Q, i, none⟩ = some x := ⟨_, by rw [cell_of hA]; exact hAt i hil⟩
          have f2 : Fr [Q] wr (wr.setCell ⟨Q, i, none⟩ (.int .u32 (y : Nat))) := (Fr.refl [Q] wr).setCell (by simp) _
          obtain ⟨v, hv⟩ : ∃ v, v = ls[i] := ⟨_, rfl⟩
          rw [← hv] at hc hla hct
          have HI := Lib.hid (And.intro (And.intro hla hct) (And.intro (And.intro hA (And.intro hAs hAt)) (And.intro hf (And.intro hy (And.intro hik (And.intro f2 hv))))))
          clear hla hct hA hAs hAt hf hy hik f2 hv hcl
          by_cases hvl : v = l
          · have d1 : ((v : Int) == (l : Int)) = true := by simp; omega
            go_wp2
            go_roundg k2
            case measure => have := HI.out.2.2.2.2.1; omega
            case rel =>
              obtain ⟨⟨hla, hct⟩, ⟨hA, hAs, hAt⟩, hf, hy, hik, f2, _⟩ := HI.out
              rw [if_pos hvl] at hct
              refine ⟨i + 1, y + 1, by go_num, by go_num, by omega, by omega, ⟨_, setCell_of hA _, by simp [hAs], fun j hj => ?_⟩, hf.step f2 (fun z hz => .inr (by simp at hz; rw [hz, HS.out.2.2]; exact Nat.le_refl _))⟩
              by_cases e : j = i
              · subst e
                rw [Array.getElem?_setIfInBounds_self_of_lt (by omega), cw_hit (by omega) (by rw [hla, hvl]), hy, HX.out.2.2.1]
              · rw [Array.getElem?_setIfInBounds_ne (by omega), cw_step (.inl e)]
                exact hAt j hj
          · have d1 : ((v : Int) == (l : Int)) = false := by simp; omega
            go_wp2
            go_roundg k2
            case measure => have := HI.out.2.2.2.2.1; omega
            case rel =>
              obtain ⟨⟨hla, hct⟩, ⟨hA, hAs, hAt⟩, hf, hy, hik, f2, _⟩ := HI.out
              rw [if_neg hvl] at hct
              exact ⟨i + 1, y, by go_num, by go_num, by omega, by omega, ⟨A, hA, hAs, fun j hj => by rw [cw_step (.inr (by rw [hla]; exact hvl))]; exact hAt j hj⟩, hf⟩
        · obtain rfl : i = L := by omega
          have ht : ls.take i = ls := List.take_of_length_le (by rw [← H.out.2.2.1]; exact Nat.le_refl _)
          rw [ht] at hy
          have HI := Lib.hid (And.intro hcw (And.intro hf hy))
          clear hcw hf hy hcl ht hik
          go_wp2
          go_roundg k
          case measure => have := HX.out.2.2.2.2; omega
          case rel =>
            have hlk := HX.out.2.2.2.2
            obtain ⟨⟨A, hA, hAs, hAt⟩, hf, hy⟩ := HI.out
            refine ⟨l + 1, y, by go_num, rfl, by omega, by omega, ?_, ⟨A, hA, hAs, fun j hj => ?_⟩, hf⟩
            · rw [nxt, if_neg (by omega), ← HX.out.2.2.1, hy]
            · rw [← cw_next (by omega) hj, ← H.out.2.2.1]
              exact hAt j hj
    · obtain rfl : l = 16 := by omega
      obtain ⟨A, hA, hAs, hAt⟩ := hcw
      have HI := Lib.hid (And.intro hA (And.intro hAs (And.intro hAt hf)))
      clear hA hAs hAt hf hnx hlk
      go_wp2
      go_ret2
      obtain ⟨hA, hAs, hAt, hf⟩ := HI.out
      unfold RCodesGood
      rw [← H.out.2.2.1]
      refine ⟨Q, rfl, .inr ⟨Q, 0, rfl, fun j v hv => ?_⟩, by rw [HS.out.2.2]; exact Nat.le_refl _, lt_of_block hA, hf⟩
      have hj : j < ls.length := by
        have := (List.getElem?_eq_some_iff.1 hv).1
        simpa [codesOf] using this
      rw [Nat.zero_add, cell_of hA, hAt j hj, cw_end (H.out.2.1 _ (lenAt_mem hj))]
      rw [← hv]
      simp [codesOf, hj]
end Go.Proofs.YtolkoidbkaidkaaGreat.huf
/-
  The document's reading of a symbol (stemmaref5.Read): as hread says.
-/
namespace Go.Proofs.YtolkoidbkaidkaaGreat.huf
open Go Go.RowKit Go.Proofs.YtolkoidbkaidkaaGreat.lib Go.Proofs.YtolkoidbkaidkaaGreat.bm Go.Proofs.YtolkoidbkaidkaaGreat.bl

/-- Is the i-th symbol's code the one of n bits that is v; does it begin so? -/
def ihit (ls : List Nat) (n v i : Nat) : Bool := decide (0 < n) && (lenAt ls i == n && code ls i == v)
def imore (ls : List Nat) (n v i : Nat) : Bool := decide (n < lenAt ls i) && code ls i / 2 ^ (lenAt ls i - n) == v
theorem find_upto {α : Type} (p : α → Bool) : ∀ (l : List α) (k : Nat), (∀ x ∈ l.take k, p x = false) → l.find? p = (l.drop k).find? p
  | l, 0, _ => rfl
  | [], k + 1, _ => rfl
  | x :: l, k + 1, h => by
    rw [List.find?_cons, h x (by simp), List.drop_succ_cons]
    exact find_upto p l k fun y hy => h y (by simp [hy])
theorem hsym_first {ls : List Nat} {n v i : Nat} (hi : i < ls.length) (hn : ∀ j, j < i → ihit ls n v j = false) (h : ihit ls n v i = true) : hsym ls n v = some i := by
  unfold hsym
  rw [find_upto _ _ i (fun x hx => ?_), List.drop_eq_getElem_cons (by simpa using hi), List.getElem_range, List.find?_cons]
  · have h' := h
    unfold ihit at h'
    rw [h']
  · obtain ⟨j, hj⟩ := List.getElem?_of_mem hx
    rw [List.getElem?_take] at hj
    split at hj
    · rename_i hji
      rw [List.getElem?_range (by omega)] at hj
      obtain rfl := Option.some.inj hj
      exact hn _ hji
    · cases hj
theorem hsym_nil {ls : List Nat} {n v : Nat} (hn : ∀ j, j < ls.length → ihit ls n v j = false) : hsym ls n v = none := by
  unfold hsym
  refine List.find?_eq_none.2 fun x hx => ?_
  have := hn x (List.mem_range.1 hx)
  unfold ihit at this
  rw [this]
  decide
def smore (ls : List Nat) (n v i : Nat) : Bool := (List.range i).any (imore ls n v)
theorem smore_succ (ls : List Nat) (n v i : Nat) : smore ls n v (i + 1) = (smore ls n v i || imore ls n v i) := by
  unfold smore
  rw [List.range_succ, List.any_append]
  simp
theorem smore_all (ls : List Nat) (n v : Nat) : smore ls n v ls.length = hmore ls n v := rfl
theorem hmore_lt {ls : List Nat} {n v : Nat} (hle : ∀ l ∈ ls, l ≤ 15) (h : hmore ls n v = true) : n < 15 := by
  unfold hmore at h
  obtain ⟨i, hi, h2⟩ := List.any_eq_true.1 h
  simp only [Bool.and_eq_true, decide_eq_true_eq] at h2
  have h3 := hle _ (lenAt_mem (List.mem_range.1 hi))
  omega
/-- The codes in memory. -/
def Cu (w : World) (g : Nat) (ls : List Nat) : Prop := Cs w (some ⟨g, 0, none⟩) ((codesOf ls).map fun x => .int .u32 (x : Nat))
theorem Cu.at {w : World} {g : Nat} {ls : List Nat} (h : Cu w g ls) {i : Nat} (hi : i < ls.length) : w.cell? ⟨g, i, none⟩ = some (.int .u32 (codeAt ls i : Nat)) := by
  obtain ⟨g', o, e, hc⟩ := Cs.at h (by simp [codesOf]; omega)
  simp only [Option.some.injEq, Addr.mk.injEq, and_true] at e
  obtain ⟨rfl, rfl⟩ := e
  have := hc i (.int .u32 (codeAt ls i : Nat)) (by simp [codesOf, hi])
  rwa [Nat.zero_add] at this
set_option maxRecDepth 100000 in
set_option maxHeartbeats 8000000 in
theorem rread_any (a : Option Addr) (cap : Nat) (ls : List Nat) (p : Nat) (F : List Nat) (bs : List UInt8) (at_ : Nat) (w : World) (h : Ri w a cap ls) (hle : ∀ l ∈ ls, l ≤ 15) (hlen : ls.length ≤ 400) (hw : weight ls ≤ 32768)
    (hr : bits.Rf w p F bs at_) (hap : ∀ x ∈ blk a, x ≠ p) (hF : ∀ x ∈ F, x < w.heap.size) (s m c : Nat) (hres : hread ls 15 0 0 ((bytesBits bs).drop at_) = (s, m, c)) :
    Calls Tryz.prog 66 #[.slice a ls.length cap, .pointer (some ⟨p, 0, none⟩)] w fun e w' => e = .returned (.tuple #[.int .i64 (s : Nat), .int .i64 (c : Nat)]) ∧ bits.Rf w' p F bs (at_ + m) ∧ Fr [p] w w' := by
  have hcd := rcodes_any a cap ls w h hle hlen hw
  unfold RCodesGood at hcd
  obtain ⟨L, hL⟩ : ∃ L, L = ls.length := ⟨_, rfl⟩
  rw [← hL] at hcd hlen ⊢
  have hpF : p ∈ F := by obtain ⟨_, _, _, _, h, _⟩ := hr; rw [h]; simp
  have H := Lib.hid (And.intro h (And.intro hle (And.intro hL (And.intro hcd (And.intro hr (And.intro hap (And.intro (hF p hpF) hres)))))))
  have HW := Lib.hid hw
  clear h hle hL hcd hr hap hres hw hF hpF
  go_enter Tryz.func66, Tryz.ntmps66
  go_upto_region 2 with (go_at_call 80; refine H.out.2.2.2.1.mono ?_; rintro e w1 ⟨g, rfl, cu, hg1, hg2, f1⟩)
  have hcu : Cu w1 g ls := cu
  have hgp : g ≠ p := fun e => by have := H.out.2.2.2.2.2.2.1; omega
  have H1 := Lib.hid (And.intro hcu (And.intro f1 (And.intro hgp (bits.rd_fr H.out.2.2.2.2.1 f1 (by simp)))))
  clear hcu cu hg1 hg2 f1 hgp
  go_wp2
  go_loopg [8, 9, 10, 11] 16 (fun k s8 s9 s10 s11 wr => ∃ (n v : Nat), s9 = .int .u32 (v : Nat) ∧ s10 = .int .i64 (n : Nat) ∧ n + k = 16 ∧ 0 < k ∧ v < 2 ^ n ∧ bits.Rf wr p F bs (at_ + n) ∧ Fr [p] w1 wr ∧ hread ls (15 - n) n v ((bytesBits bs).drop (at_ + n)) = (s, m, c))
  case atStart => exact ⟨0, 0, rfl, rfl, by omega, by omega, by decide, H1.out.2.2.2, Fr.refl [p] _, H.out.2.2.2.2.2.2.2⟩
  case round =>
    obtain ⟨n, v, rfl, rfl, hnk, hk0, hv, hrd, hf, hres⟩ := hrel
    obtain ⟨k, rfl⟩ : ∃ k, gk = k + 1 := ⟨gk - 1, by omega⟩
    have hn15 : n ≤ 15 := by omega
    have hvb : v < 65536 := Nat.lt_of_lt_of_le hv (Nat.le_trans (Nat.pow_le_pow_right (by decide) hn15) (by decide))
    have HR := Lib.hid (And.intro hv (And.intro hrd (And.intro hf (And.intro hres hnk))))
    obtain ⟨wo, hwo⟩ : ∃ wo, wo = wr := ⟨_, rfl⟩
    rw [← hwo] at HR
    clear hv hrd hf hres hnk hk0
    go_upto_block 1 with fail
    subst hwo
    go_wp2
    go_loopg [8, 11] L (fun j s8 s11 wi => ∃ i : Nat, s11 = .int .i64 (i : Nat) ∧ s8 = .bool (smore ls n v i) ∧ i + j = L ∧ (∀ t, t < i → ihit ls n v t = false) ∧ Fr [] wo wi)
    case atStart => exact ⟨0, rfl, rfl, by omega, fun t ht => by omega, Fr.refl _ _⟩
    case round =>
      obtain ⟨i, rfl, rfl, hij, hnh, hfi⟩ := hrel
      by_cases hi : i < L
      · obtain ⟨j, rfl⟩ : ∃ j, gk = j + 1 := ⟨gk - 1, by omega⟩
        have hil : i < ls.length := by rw [← H.out.2.2.1]; exact hi
        have fr1 : Fr [p] w wr := (H1.out.2.1.mono (by simp)).trans (HR.out.2.2.1.trans (hfi.mono (by simp)))
        obtain ⟨ga, oa, rfl, hx⟩ := Ri.at ⟨H.out.1.cs.fr fr1 (fun x hx => by simpa using H.out.2.2.2.2.2.1 x hx), H.out.1.le, H.out.1.max, H.out.1.nil⟩ hil
        have hcu : Cu wr g ls := H1.out.1.fr (HR.out.2.2.1.trans (hfi.mono (by simp))) (by simpa [blk] using H1.out.2.2.1)
        have hcc := hcu.at hil
        have hla : lenAt ls i = ls[i] := by unfold lenAt; rw [List.getElem?_eq_getElem hil]; rfl
        have h15 := H.out.2.1 _ (List.getElem_mem hil)
        have hcl : codeAt ls i < 32768 := by
          unfold codeAt
          split
          · decide
          · exact Nat.lt_of_lt_of_le (code_lt ls i H.out.2.1 HW.out (by omega)) (Nat.le_trans (Nat.pow_le_pow_right (by decide) (show lenAt ls i ≤ 15 by omega)) (by decide))
        obtain ⟨y, hy⟩ : ∃ y, y = codeAt ls i := ⟨_, rfl⟩
        obtain ⟨x, hx'⟩ : ∃ x, x = ls[i] := ⟨_, rfl⟩
        rw [← hy] at hcc hcl
        rw [← hx'] at hx hla h15
        have hhit : ihit ls n v i = (decide (0 < n) && (x == n && y == v)) := by
          unfold ihit
          rw [hla]
          by_cases h1 : 0 < n
          · by_cases h2 : x = n
            · have : y = code ls i := by rw [hy]; unfold codeAt; rw [if_neg (by omega)]
              rw [this]
            · have : (x == n) = false := by simpa using h2
              rw [this]; simp
          · have : decide (0 < n) = false := by simpa using h1
            rw [this]; simp
        have hmr : imore ls n v i = (decide (n < x) && y / 2 ^ (x - n) == v) := by
          unfold imore
          rw [hla]
          by_cases h1 : n < x
          · have : y = code ls i := by rw [hy]; unfold codeAt; rw [if_neg (by omega)]
            rw [this]
          · have : decide (n < x) = false := by simpa using h1
            rw [this]; simp
        have hsm := smore_succ ls n v i
        rw [hmr] at hsm
        obtain ⟨S0, hS0⟩ : ∃ S0, S0 = smore ls n v i := ⟨_, rfl⟩
        rw [← hS0] at hsm ⊢
        have HI := Lib.hid (And.intro hnh (And.intro hfi (And.intro hhit (And.intro hsm (And.intro hS0 (And.intro hil hij))))))
        clear hnh hfi hhit hmr hsm hS0 hil fr1 hcu hla hy hx' hij
        go_upto_region 11 with fail
        go_cut [44] from 27 to 44 (fun s44 wc => s44 = .bool (decide (0 < n) && (x == n && y == v)) ∧ wr = wc)
        case first =>
          by_cases e1 : x = n
          · have b1 : ((x : Int) == (n : Int)) = true := by simp; omega
            have b1' : (x == n) = true := by simp; omega
            by_cases e2 : 0 < n
            · have b2 : decide ((0 : Int) < (n : Int)) = true := by simp; omega
              have b2' : decide (0 < n) = true := by simpa using e2
              by_cases e3 : y = v
              · have b3 : ((y : Int) == (v : Int)) = true := by simp; omega
                have b3' : (y == v) = true := by simp; omega
                go_wp2
                go_meet
                case rel => exact ⟨by rw [b1', b2', b3'] <;> rfl, rfl⟩
              · have b3 : ((y : Int) == (v : Int)) = false := by simp; omega
                have b3' : (y == v) = false := by simpa using e3
                go_wp2
                go_meet
                case rel => exact ⟨by rw [b1', b2', b3'] <;> rfl, rfl⟩
            · have b2 : decide ((0 : Int) < (n : Int)) = false := by simp; omega
              have b2' : decide (0 < n) = false := by simpa using e2
              go_wp2
              go_meet
              case rel => exact ⟨by rw [b2'] <;> rfl, rfl⟩
          · have b1 : ((x : Int) == (n : Int)) = false := by simp; omega
            have b1' : (x == n) = false := by simpa using e1
            go_wp2
            go_meet
            case rel => exact ⟨by rw [b1', Bool.false_and, Bool.and_false] <;> rfl, rfl⟩
        case rest =>
          obtain ⟨rfl, rfl⟩ := hcut
          by_cases eh : (decide (0 < n) && (x == n && y == v)) = true
          · rw [eh]
            have hh := HI.out.2.2.1
            rw [eh] at hh
            have hres := HR.out.2.2.2.1
            rw [hread_hit (hsym_first HI.out.2.2.2.2.2.1 HI.out.1 hh)] at hres
            obtain ⟨rfl, rfl, rfl⟩ : i = s ∧ n = m ∧ 0 = c := by simpa using hres
            clear hh hres eh
            go_wp2
            go_ret2
            exact ⟨rfl, bits.rd_fr HR.out.2.1 HI.out.2.1 (by simp), (H1.out.2.1.mono (by simp)).trans (HR.out.2.2.1.trans (HI.out.2.1.mono (by simp)))⟩
          · have eh' : (decide (0 < n) && (x == n && y == v)) = false := by simpa using eh
            rw [eh']
            have hh := HI.out.2.2.1
            rw [eh'] at hh
            have HN := Lib.hid hh
            clear hh eh eh'
            go_upto_region 13 with fail
            cases S0
            · by_cases e1 : n < x
              · have b1 : decide ((n : Int) < (x : Int)) = true := by simp; omega
                obtain ⟨d, hd⟩ : ∃ d, d = x - n := ⟨_, rfl⟩
                have ed : (x : Int) - (n : Int) = (d : Int) := by omega
                obtain ⟨q, hq⟩ : ∃ q, q = y / 2 ^ d := ⟨_, rfl⟩
                have hqq : (y : Int) / 2 ^ d = (q : Int) := by rw [hq]; push_cast; rfl
                have hd15 : d ≤ 15 := by omega
                have hqb : q < 32768 := by rw [hq]; exact Nat.lt_of_le_of_lt (Nat.div_le_self _ _) hcl
                by_cases e2 : q = v
                · have b2 : ((q : Int) == (v : Int)) = true := by simp; omega
                  have HB : Go.RowKit.Hid ((false || (decide (n < x) && y / 2 ^ (x - n) == v)) = true) := Lib.hid (by rw [← hd, ← hq, e2]; simp [e1])
                  clear hd hq e2
                  go_quiet (fail)
                  clear hx hcc
                  go_wp2
                  go_roundg j
                  case measure => have := HI.out.2.2.2.2.2.2; omega
                  case rel =>
                    obtain ⟨k1, k2, k3, k4, k5, k6, k7⟩ := HI.out
                    refine ⟨i + 1, by go_num, by rw [k4, HB.out], by omega, fun t ht => ?_, k2.trans (Fr.drewN _ _ _)⟩
                    rcases Nat.lt_or_ge t i with q | q
                    · exact k1 t q
                    · rw [show t = i by omega]; exact HN.out
                · have b2 : ((q : Int) == (v : Int)) = false := by simp; omega
                  have HB : Go.RowKit.Hid ((false || (decide (n < x) && y / 2 ^ (x - n) == v)) = false) := Lib.hid (by rw [← hd, ← hq]; simp [e2])
                  clear hd hq e2
                  go_quiet (fail)
                  clear hx hcc
                  go_wp2
                  go_roundg j
                  case measure => have := HI.out.2.2.2.2.2.2; omega
                  case rel =>
                    obtain ⟨k1, k2, k3, k4, k5, k6, k7⟩ := HI.out
                    refine ⟨i + 1, by go_num, by rw [k4, HB.out], by omega, fun t ht => ?_, k2.trans (Fr.drewN _ _ _)⟩
                    rcases Nat.lt_or_ge t i with q | q
                    · exact k1 t q
                    · rw [show t = i by omega]; exact HN.out
              · have b1 : decide ((n : Int) < (x : Int)) = false := by simp; omega
                have HB : Go.RowKit.Hid ((false || (decide (n < x) && y / 2 ^ (x - n) == v)) = false) := Lib.hid (by simp [e1])
                go_quiet (fail)
                clear hx hcc
                go_wp2
                go_roundg j
                case measure => have := HI.out.2.2.2.2.2.2; omega
                case rel =>
                  obtain ⟨k1, k2, k3, k4, k5, k6, k7⟩ := HI.out
                  refine ⟨i + 1, by go_num, by rw [k4, HB.out], by omega, fun t ht => ?_, k2.trans (Fr.drewN _ _ _)⟩
                  rcases Nat.lt_or_ge t i with q | q
                  · exact k1 t q
                  · rw [show t = i by omega]; exact HN.out
            · have HB : Go.RowKit.Hid ((true || (decide (n < x) && y / 2 ^ (x - n) == v)) = true) := Lib.hid (by simp)
              go_quiet (fail)
              clear hx hcc
              go_wp2
              go_roundg j
              case measure => have := HI.out.2.2.2.2.2.2; omega
              case rel =>
                obtain ⟨k1, k2, k3, k4, k5, k6, k7⟩ := HI.out
                refine ⟨i + 1, by go_num, by rw [k4, HB.out], by omega, fun t ht => ?_, k2.trans (Fr.drewN _ _ _)⟩
                rcases Nat.lt_or_ge t i with q | q
                · exact k1 t q
                · rw [show t = i by omega]; exact HN.out
      · obtain rfl : i = L := by omega
        have hnone : hsym ls n v = none := hsym_nil fun t ht => hnh t (by rw [H.out.2.2.1]; exact ht)
        have hsm : smore ls n v i = hmore ls n v := by rw [H.out.2.2.1]; rfl
        rw [hsm]
        have HM := Lib.hid (And.intro hnone (And.intro hfi (bits.rd_fr HR.out.2.1 hfi (by simp))))
        clear hnone hfi hsm hnh hij
        by_cases hm : hmore ls n v = true
        · have hn14 : n < 15 := hmore_lt H.out.2.1 hm
          rw [hm]
          have hres := HR.out.2.2.2.1
          by_cases hq : at_ + n < 8 * bs.length
          · have hlf := bits.left_any p F bs (at_ + n) wr HM.out.2.2
            have d1 : ((8 * (bs.length : Int) - ((at_ + n : Nat) : Int)) == 0) = false := by simp; omega
            have hlb : (bytesBits bs).length = 8 * bs.length := by simp [bytesBits_length]
            obtain ⟨b, t, hbt⟩ : ∃ b t, (bytesBits bs).drop (at_ + n) = b :: t := by
              cases hd : (bytesBits bs).drop (at_ + n) with
              | nil => have := congrArg List.length hd; rw [List.length_drop, hlb] at this; simp at this; omega
              | cons b t => exact ⟨b, t, rfl⟩
            have ht : (bytesBits bs).drop (at_ + (n + 1)) = t := by
              rw [← Nat.add_assoc, ← List.drop_drop, hbt]; rfl
            have hbv : num bs / 2 ^ (at_ + n) % 2 = b2n b := by
              have := num_bits bs (at_ + n) 1 (by omega)
              rw [Nat.pow_one] at this
              rw [this, hbt]; cases b <;> rfl
            rw [show 15 - n = (15 - (n + 1)) + 1 by omega, hbt, hread_step HM.out.1 hm, ← ht] at hres
            have hon := fun (w' : World) (hR : bits.Rf w' p F bs (at_ + n)) => bits.rone_any p F bs (at_ + n) w' hR hq
            rw [hbv] at hon
            have HK := Lib.hid (And.intro hlf (And.intro hres hon))
            clear hlf hlb hbt ht hbv hres hon hm
            go_upto_region 18 with (go_at_call 64; refine HK.out.1.mono ?_; rintro e w5 ⟨rfl, q5, rfl⟩; have H5 := Lib.hid (bits.rd_fr HM.out.2.2 (Fr.drewN [] wr q5) (by simp)))
            have hb2 := b2n_lt b
            have hor := or_bit v b hvb
            clear d1
            go_wp2_with (go_at_call 65; refine (HK.out.2.2 _ H5.out).mono ?_; rintro e w6 ⟨rfl, r6, f6⟩; have H6 := Lib.hid (And.intro r6 f6); clear r6 f6)
            go_roundg k
            case measure => have := HR.out.2.2.2.2; omega
            case rel =>
              have hnk := HR.out.2.2.2.2
              exact ⟨n + 1, 2 * v + b2n b, by first | rfl | exact int_eq hor | (rw [hor]), by go_num, by omega, by omega, by rw [Nat.pow_succ]; have := HR.out.1; omega, H6.out.1, HR.out.2.2.1.trans ((HM.out.2.1.mono (by simp)).trans ((Fr.drewN [p] _ _).trans H6.out.2)), HK.out.2.1⟩
          · have hlf := bits.left_any p F bs (at_ + n) wr HM.out.2.2
            have hat : at_ + n ≤ 8 * bs.length := by
              obtain ⟨_, _, _, _, _, _, _, hat, _, _⟩ := HM.out.2.2
              exact hat
            have d1 : ((8 * (bs.length : Int) - ((at_ + n : Nat) : Int)) == 0) = true := by simp; omega
            have hd : (bytesBits bs).drop (at_ + n) = [] := List.drop_eq_nil_of_le (by rw [bytesBits_length]; omega)
            rw [show 15 - n = (14 - n) + 1 by omega, hd, hread_torn HM.out.1 hm] at hres
            obtain ⟨rfl, rfl, rfl⟩ : 0 = s ∧ n = m ∧ 4 = c := by simpa using hres
            have HK := Lib.hid hlf
            clear hlf hd hres hm hat
            go_wp2_with (go_at_call 64; refine HK.out.mono ?_; rintro e w5 ⟨rfl, q5, rfl⟩)
            go_ret2
            exact ⟨rfl, bits.rd_fr HM.out.2.2 (Fr.drewN [] wr q5) (by simp), (H1.out.2.1.mono (by simp)).trans (HR.out.2.2.1.trans ((HM.out.2.1.mono (by simp)).trans (Fr.drewN [p] _ _)))⟩
        · have hm' : hmore ls n v = false := by simpa using hm
          rw [hm']
          have hres := HR.out.2.2.2.1
          rw [hread_form HM.out.1 hm'] at hres
          obtain ⟨rfl, rfl, rfl⟩ : 0 = s ∧ n = m ∧ 3 = c := by simpa using hres
          clear hm hm' hres
          go_wp2
          go_ret2
          exact ⟨rfl, HM.out.2.2, (H1.out.2.1.mono (by simp)).trans (HR.out.2.2.1.trans (HM.out.2.1.mono (by simp)))⟩
end Go.Proofs.YtolkoidbkaidkaaGreat.huf
