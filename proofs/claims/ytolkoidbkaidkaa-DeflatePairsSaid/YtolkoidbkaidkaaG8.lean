/-
  Texts of this proof, one behind the other: InfG, InfH, InfI, InfK, Awake7, RunsLaw.
-/
import Derived.Test.YtolkoidbkaidkaaG7
import Derived.Laws.Rows
import Derived.Laws.IdiomStrings
import Derived.Lib.SlBytesConst
set_option linter.unusedVariables false
set_option linter.unusedSimpArgs false
/-
  inflate: lengths.
-/
namespace Go.Proofs.Ytolkoidbkaidkaa.inf
open Go Go.RowKit Go.Proofs.Ytolkoidbkaidkaa.lib Go.Proofs.Ytolkoidbkaidkaa.bm Go.Proofs.Ytolkoidbkaidkaa.bl Go.Proofs.Ytolkoidbkaidkaa.huf

theorem ilens_end {bs : List UInt8} {ls L : List Nat} {n k a : Nat} (h : n ≤ L.length) : ilens bs ls n (k + 1) L a = .ok (L, a) := by rw [ilens, if_pos h]
theorem ilens_sym {bs : List UInt8} {ls L : List Nat} {n k a c : Nat} (h : L.length < n) (hs : isym bs ls a = .error c) : ilens bs ls n (k + 1) L a = .error c := by rw [ilens, if_neg (by omega), hs]
theorem ilens_lit {bs : List UInt8} {ls L : List Nat} {n k a s a1 : Nat} (h : L.length < n) (hs : isym bs ls a = .ok (s, a1)) (h16 : s < 16) : ilens bs ls n (k + 1) L a = ilens bs ls n k (L ++ [s]) a1 := by
  rw [ilens, if_neg (by omega), hs]
  simp only [if_pos h16]
theorem ilens_take {bs : List UInt8} {ls L : List Nat} {n k a s a1 c : Nat} (h : L.length < n) (hs : isym bs ls a = .ok (s, a1)) (h16 : 16 ≤ s) (ht : itake bs a1 (wide s) = .error c) : ilens bs ls n (k + 1) L a = .error c := by
  rw [ilens, if_neg (by omega), hs]
  simp only [if_neg (show ¬ s < 16 by omega), ht]
theorem ilens_form {bs : List UInt8} {ls L : List Nat} {n k a s a1 v a2 : Nat} (h : L.length < n) (hs : isym bs ls a = .ok (s, a1)) (h16 : 16 ≤ s) (ht : itake bs a1 (wide s) = .ok (v, a2)) (hf : (s = 16 ∧ L = []) ∨ n - L.length < least s + v) : ilens bs ls n (k + 1) L a = .error 3 := by
  rw [ilens, if_neg (by omega), hs]
  simp only [if_neg (show ¬ s < 16 by omega), ht]
  rw [if_pos hf]
theorem ilens_rep {bs : List UInt8} {ls L : List Nat} {n k a s a1 v a2 : Nat} (h : L.length < n) (hs : isym bs ls a = .ok (s, a1)) (h16 : 16 ≤ s) (ht : itake bs a1 (wide s) = .ok (v, a2)) (hf : ¬ ((s = 16 ∧ L = []) ∨ n - L.length < least s + v)) :
    ilens bs ls n (k + 1) L a = ilens bs ls n k (L ++ List.replicate (least s + v) (if s = 16 then L.getLast?.getD 0 else 0)) a2 := by
  rw [ilens, if_neg (by omega), hs]
  simp only [if_neg (show ¬ s < 16 by omega), ht]
  rw [if_neg hf]
/-- A row that is new behind w. -/
structure Own (w wr : World) (ao : Option Addr) (cap : Nat) (L : List Nat) : Prop where
  own : wr.ownsRow 0 3 1 (.slice ao L.length cap) L.length (ints L)
  new : ∀ x ∈ blk ao, w.heap.size ≤ x
  le : L.length ≤ cap
  max : cap ≤ maxLen
  nil : ao = none → cap = 0
theorem Own.start (w wr : World) : Own w wr none 0 [] := ⟨⟨by simp [ints], .inl ⟨rfl, rfl⟩⟩, by simp [blk], Nat.le_refl _, Nat.zero_le _, fun _ => rfl⟩
theorem Own.fr {w wr w2 : World} {S : List Nat} {ao : Option Addr} {cap : Nat} {L : List Nat} (h : Own w wr ao cap L) (f : Fr S wr w2) (hS : ∀ x ∈ S, x < w.heap.size) : Own w w2 ao cap L :=
  ⟨ownsRow_fr h.own f (fun k hk hkS => by
    have hk2 : k ∈ blk ao := by rw [← own_blk ao L.length cap, hk]; simp
    have := h.new k hk2
    have := hS k hkS
    omega), h.new, h.le, h.max, h.nil⟩
theorem Own.app {w wr w2 : World} {ao ao2 : Option Addr} {cap cap2 n : Nat} {L : List Nat} {x : Nat} {o : Obj} (h : Own w wr ao cap L) (hn : n = L.length) (fw : w.heap.size ≤ wr.heap.size)
    (A : Appended (wr.alloc o) w2 3 1 (blk ao) ao2 (n + 1) cap2 (ints L ++ [.int .i64 (x : Nat)])) : Own w w2 ao2 cap2 (L ++ [x]) ∧ Fr (blk ao) wr w2 := by
  have el : (L ++ [x]).length = n + 1 := by rw [hn]; simp
  have ei : ints (L ++ [x]) = ints L ++ [.int .i64 (x : Nat)] := by simp [ints]
  refine ⟨⟨by rw [el, ei]; exact A.own, fun y hy => ?_, by rw [el]; exact A.le, A.max, A.nil⟩, ((Fr.refl _ wr).alloc _).trans A.fr⟩
  rcases A.at_ y hy with k | k
  · exact h.new y k
  · rw [k, World.size_alloc]; omega
theorem Own.ri {w wr : World} {ao : Option Addr} {cap : Nat} {L : List Nat} (h : Own w wr ao cap L) : Ri wr ao cap L := ⟨cs_of_owns h.own, h.le, h.max, h.nil⟩
theorem St.up {w wr w2 : World} {R p : Nat} {F S : List Nat} {bs out : List UInt8} {at_ a1 oc most : Nat} {oa : Option Addr} (h0 : St w R p F bs at_ out oa oc most) (h : St wr R p F bs a1 out oa oc most) (f : Fr S wr w2) (hS : ∀ x ∈ S, w.heap.size ≤ x) : St w2 R p F bs a1 out oa oc most :=
  h.fr f (fun hR => by have := hS R hR; have := lt_of_block h0.box; omega) (fun x hx hxS => by have := hS x hxS; have := h0.low x hx; omega) (fun x hx hxS => by have := hS x hxS; have := owns_lt h0.own (blk_own hx); omega)
theorem Own.last {w wr : World} {ao : Option Addr} {cap : Nat} {L : List Nat} (h : Own w wr ao cap L) (h0 : 0 < L.length) : ∃ g, ao = some ⟨g, 0, none⟩ ∧ wr.cell? ⟨g, L.length - 1, none⟩ = some (.int .i64 (L.getLast?.getD 0 : Nat)) := by
  obtain ⟨h1, h2⟩ := h.own
  rcases h2 with ⟨h2, _⟩ | ⟨g, cap', cur, h2, hb, hg, hn, hm, hs, ht⟩
  · simp only [Value.slice.injEq] at h2; omega
  · simp only [Value.slice.injEq] at h2
    refine ⟨g, h2.1, ?_⟩
    rw [cell_of hg, ← Array.getElem?_toList]
    have e1 : (cur.toList.take (L.length * 1))[L.length - 1]? = (ints L)[L.length - 1]? := by rw [ht]
    rw [List.getElem?_take, if_pos (by omega)] at e1
    rw [e1, List.getLast?_eq_getElem?, ints, List.getElem?_map, List.getElem?_eq_getElem (show L.length - 1 < L.length by omega)]
    rfl
theorem Own.cell {w wr : World} {ao : Option Addr} {cap : Nat} {L : List Nat} (h : Own w wr ao cap L) {i : Nat} (h0 : i < L.length) : ∃ g, ao = some ⟨g, 0, none⟩ ∧ wr.cell? ⟨g, i, none⟩ = some (.int .i64 (lenAt L i : Nat)) := by
  obtain ⟨h1, h2⟩ := h.own
  rcases h2 with ⟨h2, _⟩ | ⟨g, cap', cur, h2, hb, hg, hn, hm, hs, ht⟩
  · simp only [Value.slice.injEq] at h2; omega
  · simp only [Value.slice.injEq] at h2
    refine ⟨g, h2.1, ?_⟩
    rw [cell_of hg, ← Array.getElem?_toList]
    have e1 : (cur.toList.take (L.length * 1))[i]? = (ints L)[i]? := by rw [ht]
    rw [List.getElem?_take, if_pos (by omega)] at e1
    rw [e1, ints, List.getElem?_map, List.getElem?_eq_getElem h0, lenAt, List.getElem?_eq_getElem h0]
    rfl
def LensGood (w : World) (R p : Nat) (F : List Nat) (bs out : List UInt8) (oa : Option Addr) (oc most n : Nat) (m : Except Nat (List Nat × Nat)) (e : Ending) (w' : World) : Prop :=
  (∃ c, m = .error c ∧ 0 < c ∧ c < 100 ∧ e = .returned (.tuple #[.slice none 0 0, .int .i64 (c : Nat)]) ∧ Fr (R :: p :: blk oa) w w') ∨
  (∃ L a ao cap, m = .ok (L, a) ∧ e = .returned (.tuple #[.slice ao L.length cap, .int .i64 0]) ∧ St w' R p F bs a out oa oc most ∧ Fr [p] w w' ∧ Own w w' ao cap L ∧ L.length = n ∧ ∀ x ∈ L, x ≤ 15)
set_option maxRecDepth 100000 in
set_option maxHeartbeats 8000000 in
theorem lengths_any (R p P n : Nat) (F : List Nat) (bs out : List UInt8) (ls : List Nat) (at_ oc most : Nat) (oa : Option Addr) (w : World) (h : St w R p F bs at_ out oa oc most) (hT : Tb w P ls (R :: p :: blk oa)) (hl : ls.length ≤ 19) (hn : n ≤ 400) :
    Calls Try.prog 48 #[.pointer (some ⟨R, 0, none⟩), .pointer (some ⟨P, 0, none⟩), .int .i64 (n : Nat)] w (LensGood w R p F bs out oa oc most n (ilens bs ls n (n + 1) [] at_)) := by
  obtain ⟨M, hM⟩ : ∃ M, M = ilens bs ls n (n + 1) [] at_ := ⟨_, rfl⟩
  rw [← hM]
  have H := Lib.hid (And.intro h (And.intro hT (And.intro hM hl)))
  clear h hT hM hl
  go_enter Try.func48, Try.ntmps48
  go_wp2
  go_loopg [6, 7, 8, 9, 10, 11, 12, 13, 14, 79] (n + 1) (fun k s6 s7 s8 s9 s10 s11 s12 s13 s14 s79 wr => ∃ (l a1 : Nat) (L : List Nat) (ao : Option Addr) (cap : Nat), s8 = .slice ao l cap ∧ l = L.length ∧ l ≤ n ∧ n + 1 ≤ l + k ∧ St wr R p F bs a1 out oa oc most ∧ Fr [p] w wr ∧ Own w wr ao cap L ∧ ilens bs ls n k L a1 = M ∧ ∀ x ∈ L, x ≤ 15)
  case atStart => exact ⟨0, at_, [], none, 0, rfl, rfl, by omega, by omega, H.out.1, .refl _ _, .start _ _, H.out.2.2.1.symm, by simp⟩
  case round =>
    obtain ⟨l, a1, L, ao, cap, rfl, hlL, hln, hlk, hst, hf, hown, hil, h15⟩ := hrel
    obtain ⟨k, rfl⟩ : ∃ k, gk = k + 1 := ⟨gk - 1, by omega⟩
    have c0 := cell_of hst.box 0
    simp only [List.getElem?_toArray, List.getElem?_cons_zero, List.getElem?_cons_succ] at c0
    by_cases hlt : l < n
    · have HJ := Lib.hid (And.intro hst (And.intro hf (And.intro hown (And.intro hil (And.intro h15 hlL)))))
      clear hst hf hown hil h15 hlL
      have hp : ∀ x ∈ [p], x < w.heap.size := fun x hx => by simp at hx; rw [hx]; exact H.out.1.low _ H.out.1.pF.1
      have HP := Lib.hid hp
      clear hp
      go_upto_block 3 with (first
        | (go_at_call 57; refine (sym_any R p P F bs out ls a1 oc most oa wr HJ.out.1 (H.out.2.1.fr HJ.out.2.1 (by simp))).mono ?_; rintro e w2 (⟨v2, c, hm, hc0, hc1, rfl, f1⟩ | ⟨s, a2, hm, rfl, s2, f2⟩); rotate_left; (have hs19 := (isym_lt hm).1; have hls := H.out.2.2.2; rcases (show s < 16 ∨ (s = 16 ∧ l = 0) ∨ (s = 16 ∧ 0 < l) ∨ s = 17 ∨ s = 18 by omega) with hs | ⟨rfl, rfl⟩ | ⟨rfl, hl0⟩ | rfl | rfl); all_goals (try (have T2 : Calls Try.prog 20 #[.pointer (some ⟨R, 0, none⟩), .int .i64 2] w2 (RetV w2 R p F bs out oa oc most (itake bs a2 2)) := take_any R p F bs out a2 oc most 2 oa w2 s2 (by decide); have T3 : Calls Try.prog 20 #[.pointer (some ⟨R, 0, none⟩), .int .i64 3] w2 (RetV w2 R p F bs out oa oc most (itake bs a2 3)) := take_any R p F bs out a2 oc most 3 oa w2 s2 (by decide); have T7 : Calls Try.prog 20 #[.pointer (some ⟨R, 0, none⟩), .int .i64 7] w2 (RetV w2 R p F bs out oa oc most (itake bs a2 7)) := take_any R p F bs out a2 oc most 7 oa w2 s2 (by decide); have K2 := Lib.hid (And.intro hm (And.intro s2 (And.intro f2 (And.intro T2 (And.intro T3 (And.intro T7 (HJ.out.2.2.1.fr f2 HP.out))))))); clear hm s2 f2 T2 T3 T7 hs19 hls)); all_goals (first | (have _t := hl0; obtain ⟨g, rfl, hce⟩ := K2.out.2.2.2.2.2.2.last (by rw [← HJ.out.2.2.2.2.2]; exact hl0); rw [← HJ.out.2.2.2.2.2] at hce) | skip))
        | (go_at_call 20; (first | with_reducible refine K2.out.2.2.2.1.mono ?_ | with_reducible refine K2.out.2.2.2.2.1.mono ?_ | with_reducible refine K2.out.2.2.2.2.2.1.mono ?_); rintro e w3 (⟨v3, c, hm, hc0, hc1, rfl, f1⟩ | ⟨v, a3, hm, rfl, s3, f3⟩); all_goals (try (replace hce := f3.cell hce (by have := K2.out.2.2.2.2.2.2.new g (by simp [blk]); have := HP.out p (by simp); simp; omega); have hlb : ((l : Int) == 0) = false := by simp; omega)); all_goals (try (have hvb := itake_lt hm; have K3 := Lib.hid (And.intro hm (And.intro s3 f3)); clear hm s3 f3)))
        | (at_builtin; go_loud (refine wpList_append huf.sty_int rfl _ _ rfl (.slice ao l cap) l (ints L) (blk ao) rfl (own_blk ao l cap) (by have := ownsRow_fr K2.out.2.2.2.2.2.2.own ((Fr.refl [] w2).alloc (.cells #[.int .i64 (s : Nat)] 3 (0, 0))) (by simp); rwa [← HJ.out.2.2.2.2.2] at this) (some ⟨w2.heap.size, 0, none⟩) 1 1 [.int .i64 (s : Nat)] (by first | rfl | simp) (Nat.le_refl _) (fun h => by cases h) (cs_one _ _ _ _ (alloc_at _ _)) rfl (by intro u hu; simp only [List.mem_singleton] at hu; rw [hu]; rfl) (by omega) (by unfold maxLen; omega) ?_); intro ao2 cap2 w4 A4; have HA := Lib.hid A4; clear A4))
      · go_roundg k
        case measure => omega
        case rel =>
          have hp := HP.out
          have hA := HJ.out.2.2.1.fr K2.out.2.2.1 hp
          have hA2 := hA.app (n := l) HJ.out.2.2.2.2.2 (HJ.out.2.1.trans K2.out.2.2.1).size HA.out
          refine ⟨l + 1, a2, L ++ [s], ao2, cap2, rfl, by rw [List.length_append, ← HJ.out.2.2.2.2.2]; rfl, by omega, by omega, H.out.1.up K2.out.2.1 hA2.2 (fun x hx => hA.new x hx), (HJ.out.2.1.trans K2.out.2.2.1).step hA2.2 (fun x hx => .inr (hA.new x hx)), hA2.1, ?_, ?_⟩
          · rw [← HJ.out.2.2.2.1, ilens_lit (by rw [← HJ.out.2.2.2.2.2]; exact hlt) K2.out.1 hs]
          · intro x hx
            rcases List.mem_append.1 hx with h1 | h1
            · exact HJ.out.2.2.2.2.1 x h1
            · simp at h1; omega
      · go_ret2
        exact .inl ⟨c, by rw [← HJ.out.2.2.2.1, ilens_take (by rw [← HJ.out.2.2.2.2.2]; exact hlt) K2.out.1 (by decide) hm], hc0, hc1, rfl, ((HJ.out.2.1.trans K2.out.2.2.1).mono (by simp)).trans f1⟩
      · go_ret2
        exact .inl ⟨3, by rw [← HJ.out.2.2.2.1, ilens_form (by rw [← HJ.out.2.2.2.2.2]; exact hlt) K2.out.1 (by decide) K3.out.1 (.inl ⟨rfl, List.eq_nil_of_length_eq_zero (HJ.out.2.2.2.2.2).symm⟩)], by decide, by decide, rfl, ((HJ.out.2.1.trans K2.out.2.2.1).trans K3.out.2.2).mono (by simp)⟩
      · go_ret2
        exact .inl ⟨c, by rw [← HJ.out.2.2.2.1, ilens_take (by rw [← HJ.out.2.2.2.2.2]; exact hlt) K2.out.1 (by decide) hm], hc0, hc1, rfl, ((HJ.out.2.1.trans K2.out.2.2.1).mono (by simp)).trans f1⟩
      · go_ret2
        exact .inl ⟨3, by rw [← HJ.out.2.2.2.1, ilens_form (by rw [← HJ.out.2.2.2.2.2]; exact hlt) K2.out.1 (by decide) K3.out.1 (.inr (by rw [← HJ.out.2.2.2.2.2]; show n - l < 3 + v; omega))], by decide, by decide, rfl, ((HJ.out.2.1.trans K2.out.2.2.1).trans K3.out.2.2).mono (by simp)⟩
      · obtain ⟨t, ht⟩ : ∃ t, t = 3 + v := ⟨_, rfl⟩
        have et : (3 : Int) + (v : Nat) = (t : Nat) := by rw [ht]; omega
        rw [et]
        have htn : t ≤ n - l := by omega
        obtain ⟨x, hx⟩ : ∃ x, x = L.getLast?.getD 0 := ⟨_, rfl⟩
        have hx15 : x ≤ 15 := by
          rw [hx, List.getLast?_eq_getElem?, List.getElem?_eq_getElem (show L.length - 1 < L.length by have := HJ.out.2.2.2.2.2; omega)]
          exact HJ.out.2.2.2.2.1 _ (List.getElem_mem _)
        have hE : ilens bs ls n k (L ++ List.replicate t x) a3 = M := by
          rw [← HJ.out.2.2.2.1, ilens_rep (s := 16) (v := v) (a2 := a3) (by rw [← HJ.out.2.2.2.2.2]; exact hlt) K2.out.1 (by decide) K3.out.1 (by
            rintro (⟨_, h1⟩ | h1)
            · have := HJ.out.2.2.2.2.2; rw [h1] at this; simp at this; omega
            · rw [← HJ.out.2.2.2.2.2] at h1; have h2 : n - l < 3 + v := h1; omega), ht, hx]
          rfl
        rw [← hx]
        have hv0 : 0 < t := by omega
        have HB := Lib.hid (And.intro hE (And.intro hx15 (And.intro (K2.out.2.2.2.2.2.2.fr K3.out.2.2 HP.out) (And.intro ((HJ.out.2.1.trans K2.out.2.2.1).trans K3.out.2.2) ht))))
        clear hE hx15 ht et hvb c0 hx hce hlb
        go_wp2
        go_loopg [8, 79] t (fun k2 s8 s79 wr => ∃ (j : Nat) (ao2 : Option Addr) (cap2 : Nat), s79 = .int .i64 (j : Nat) ∧ s8 = .slice ao2 (l + j) cap2 ∧ j + k2 = t ∧ St wr R p F bs a3 out oa oc most ∧ Fr [p] w wr ∧ Own w wr ao2 cap2 (L ++ List.replicate j x))
        case atStart => exact ⟨0, (some ⟨g, 0, none⟩), cap, rfl, rfl, by omega, K3.out.2.1, HB.out.2.2.2.1, by simpa using HB.out.2.2.1⟩
        case round =>
          obtain ⟨j, ao2, cap2, rfl, rfl, hjt, hs3, hf3, how⟩ := hrel
          have hjl : l + j = (L ++ List.replicate j x).length := by rw [List.length_append, List.length_replicate, ← HJ.out.2.2.2.2.2]
          by_cases hj : j < t
          · obtain ⟨k2, rfl⟩ : ∃ k2, gk = k2 + 1 := ⟨gk - 1, by omega⟩
            have HI := Lib.hid (And.intro hs3 (And.intro hf3 (And.intro how hjl)))
            clear hs3 hf3 how hjl
            go_wp2_with (at_builtin; go_loud (refine wpList_append huf.sty_int rfl _ _ rfl (.slice ao2 (l + j) cap2) (l + j) (ints (L ++ List.replicate j x)) (blk ao2) rfl (own_blk ao2 (l + j) cap2) (by have := ownsRow_fr HI.out.2.2.1.own ((Fr.refl [] wr).alloc (.cells #[.int .i64 (x : Nat)] 3 (0, 0))) (by simp); rwa [← HI.out.2.2.2] at this) (some ⟨wr.heap.size, 0, none⟩) 1 1 [.int .i64 (x : Nat)] (by first | rfl | simp) (Nat.le_refl _) (fun h => by cases h) (cs_one _ _ _ _ (alloc_at _ _)) rfl (by intro u hu; simp only [List.mem_singleton] at hu; rw [hu]; rfl) (by omega) (by unfold maxLen; omega) ?_); intro ao3 cap3 w5 A5; have HA := Lib.hid A5; clear A5)
            go_roundg k2
            case measure => omega
            case rel =>
              have hA2 := HI.out.2.2.1.app (n := l + j) (x := x) HI.out.2.2.2 HI.out.2.1.size HA.out
              refine ⟨j + 1, ao3, cap3, by go_num, rfl, by omega, H.out.1.up HI.out.1 hA2.2 (fun y hy => HI.out.2.2.1.new y hy), HI.out.2.1.step hA2.2 (fun y hy => .inr (HI.out.2.2.1.new y hy)), ?_⟩
              rw [List.replicate_succ', ← List.append_assoc]
              exact hA2.1
          · obtain rfl : j = t := by omega
            have HI := Lib.hid (And.intro hs3 (And.intro hf3 (And.intro how hjl)))
            clear hs3 hf3 how hjl
            go_wp2
            go_roundg k
            case measure => omega
            case rel =>
              refine ⟨l + j, a3, L ++ List.replicate j x, ao2, cap2, rfl, HI.out.2.2.2, by omega, by omega, HI.out.1, HI.out.2.1, HI.out.2.2.1, HB.out.1, ?_⟩
              intro y hy
              rcases List.mem_append.1 hy with h1 | h1
              · exact HJ.out.2.2.2.2.1 y h1
              · rw [(List.mem_replicate.1 h1).2]; exact HB.out.2.1
      · go_ret2
        exact .inl ⟨c, by rw [← HJ.out.2.2.2.1, ilens_take (by rw [← HJ.out.2.2.2.2.2]; exact hlt) K2.out.1 (by decide) hm], hc0, hc1, rfl, ((HJ.out.2.1.trans K2.out.2.2.1).mono (by simp)).trans f1⟩
      · go_ret2
        exact .inl ⟨3, by rw [← HJ.out.2.2.2.1, ilens_form (by rw [← HJ.out.2.2.2.2.2]; exact hlt) K2.out.1 (by decide) K3.out.1 (.inr (by rw [← HJ.out.2.2.2.2.2]; show n - l < 3 + v; omega))], by decide, by decide, rfl, ((HJ.out.2.1.trans K2.out.2.2.1).trans K3.out.2.2).mono (by simp)⟩
      · obtain ⟨t, ht⟩ : ∃ t, t = 3 + v := ⟨_, rfl⟩
        have et : (3 : Int) + (v : Nat) = (t : Nat) := by rw [ht]; omega
        rw [et]
        have htn : t ≤ n - l := by omega
        have hE : ilens bs ls n k (L ++ List.replicate t 0) a3 = M := by
          rw [← HJ.out.2.2.2.1, ilens_rep (s := 17) (v := v) (a2 := a3) (by rw [← HJ.out.2.2.2.2.2]; exact hlt) K2.out.1 (by decide) K3.out.1 (by
            rintro (⟨h1, _⟩ | h1)
            · cases h1
            · rw [← HJ.out.2.2.2.2.2] at h1; have h2 : n - l < 3 + v := h1; omega), ht]
          rfl
        have hx15 : 0 ≤ 15 := by decide
        have hv0 : 0 < t := by omega
        have HB := Lib.hid (And.intro hE (And.intro hx15 (And.intro (K2.out.2.2.2.2.2.2.fr K3.out.2.2 HP.out) (And.intro ((HJ.out.2.1.trans K2.out.2.2.1).trans K3.out.2.2) ht))))
        clear hE hx15 ht et hvb c0
        go_wp2
        go_loopg [8, 79] t (fun k2 s8 s79 wr => ∃ (j : Nat) (ao2 : Option Addr) (cap2 : Nat), s79 = .int .i64 (j : Nat) ∧ s8 = .slice ao2 (l + j) cap2 ∧ j + k2 = t ∧ St wr R p F bs a3 out oa oc most ∧ Fr [p] w wr ∧ Own w wr ao2 cap2 (L ++ List.replicate j 0))
        case atStart => exact ⟨0, ao, cap, rfl, rfl, by omega, K3.out.2.1, HB.out.2.2.2.1, by simpa using HB.out.2.2.1⟩
        case round =>
          obtain ⟨j, ao2, cap2, rfl, rfl, hjt, hs3, hf3, how⟩ := hrel
          have hjl : l + j = (L ++ List.replicate j 0).length := by rw [List.length_append, List.length_replicate, ← HJ.out.2.2.2.2.2]
          by_cases hj : j < t
          · obtain ⟨k2, rfl⟩ : ∃ k2, gk = k2 + 1 := ⟨gk - 1, by omega⟩
            have HI := Lib.hid (And.intro hs3 (And.intro hf3 (And.intro how hjl)))
            clear hs3 hf3 how hjl
            go_wp2_with (at_builtin; go_loud (refine wpList_append huf.sty_int rfl _ _ rfl (.slice ao2 (l + j) cap2) (l + j) (ints (L ++ List.replicate j 0)) (blk ao2) rfl (own_blk ao2 (l + j) cap2) (by have := ownsRow_fr HI.out.2.2.1.own ((Fr.refl [] wr).alloc (.cells #[.int .i64 0] 3 (0, 0))) (by simp); rwa [← HI.out.2.2.2] at this) (some ⟨wr.heap.size, 0, none⟩) 1 1 [.int .i64 0] (by first | rfl | simp) (Nat.le_refl _) (fun h => by cases h) (cs_one _ _ _ _ (alloc_at _ _)) rfl (by intro u hu; simp only [List.mem_singleton] at hu; rw [hu]; rfl) (by omega) (by unfold maxLen; omega) ?_); intro ao3 cap3 w5 A5; have HA := Lib.hid A5; clear A5)
            go_roundg k2
            case measure => omega
            case rel =>
              have hA2 := HI.out.2.2.1.app (n := l + j) (x := 0) HI.out.2.2.2 HI.out.2.1.size HA.out
              refine ⟨j + 1, ao3, cap3, by go_num, rfl, by omega, H.out.1.up HI.out.1 hA2.2 (fun y hy => HI.out.2.2.1.new y hy), HI.out.2.1.step hA2.2 (fun y hy => .inr (HI.out.2.2.1.new y hy)), ?_⟩
              rw [List.replicate_succ', ← List.append_assoc]
              exact hA2.1
          · obtain rfl : j = t := by omega
            have HI := Lib.hid (And.intro hs3 (And.intro hf3 (And.intro how hjl)))
            clear hs3 hf3 how hjl
            go_wp2
            go_roundg k
            case measure => omega
            case rel =>
              refine ⟨l + j, a3, L ++ List.replicate j 0, ao2, cap2, rfl, HI.out.2.2.2, by omega, by omega, HI.out.1, HI.out.2.1, HI.out.2.2.1, HB.out.1, ?_⟩
              intro y hy
              rcases List.mem_append.1 hy with h1 | h1
              · exact HJ.out.2.2.2.2.1 y h1
              · rw [(List.mem_replicate.1 h1).2]; exact HB.out.2.1
      · go_ret2
        exact .inl ⟨c, by rw [← HJ.out.2.2.2.1, ilens_take (by rw [← HJ.out.2.2.2.2.2]; exact hlt) K2.out.1 (by decide) hm], hc0, hc1, rfl, ((HJ.out.2.1.trans K2.out.2.2.1).mono (by simp)).trans f1⟩
      · go_ret2
        exact .inl ⟨3, by rw [← HJ.out.2.2.2.1, ilens_form (by rw [← HJ.out.2.2.2.2.2]; exact hlt) K2.out.1 (by decide) K3.out.1 (.inr (by rw [← HJ.out.2.2.2.2.2]; show n - l < 11 + v; omega))], by decide, by decide, rfl, ((HJ.out.2.1.trans K2.out.2.2.1).trans K3.out.2.2).mono (by simp)⟩
      · obtain ⟨t, ht⟩ : ∃ t, t = 11 + v := ⟨_, rfl⟩
        have et : (11 : Int) + (v : Nat) = (t : Nat) := by rw [ht]; omega
        rw [et]
        have htn : t ≤ n - l := by omega
        have hE : ilens bs ls n k (L ++ List.replicate t 0) a3 = M := by
          rw [← HJ.out.2.2.2.1, ilens_rep (s := 18) (v := v) (a2 := a3) (by rw [← HJ.out.2.2.2.2.2]; exact hlt) K2.out.1 (by decide) K3.out.1 (by
            rintro (⟨h1, _⟩ | h1)
            · cases h1
            · rw [← HJ.out.2.2.2.2.2] at h1; have h2 : n - l < 11 + v := h1; omega), ht]
          rfl
        have hx15 : 0 ≤ 15 := by decide
        have hv0 : 0 < t := by omega
        have HB := Lib.hid (And.intro hE (And.intro hx15 (And.intro (K2.out.2.2.2.2.2.2.fr K3.out.2.2 HP.out) (And.intro ((HJ.out.2.1.trans K2.out.2.2.1).trans K3.out.2.2) ht))))
        clear hE hx15 ht et hvb c0
        go_wp2
        go_loopg [8, 79] t (fun k2 s8 s79 wr => ∃ (j : Nat) (ao2 : Option Addr) (cap2 : Nat), s79 = .int .i64 (j : Nat) ∧ s8 = .slice ao2 (l + j) cap2 ∧ j + k2 = t ∧ St wr R p F bs a3 out oa oc most ∧ Fr [p] w wr ∧ Own w wr ao2 cap2 (L ++ List.replicate j 0))
        case atStart => exact ⟨0, ao, cap, rfl, rfl, by omega, K3.out.2.1, HB.out.2.2.2.1, by simpa using HB.out.2.2.1⟩
        case round =>
          obtain ⟨j, ao2, cap2, rfl, rfl, hjt, hs3, hf3, how⟩ := hrel
          have hjl : l + j = (L ++ List.replicate j 0).length := by rw [List.length_append, List.length_replicate, ← HJ.out.2.2.2.2.2]
          by_cases hj : j < t
          · obtain ⟨k2, rfl⟩ : ∃ k2, gk = k2 + 1 := ⟨gk - 1, by omega⟩
            have HI := Lib.hid (And.intro hs3 (And.intro hf3 (And.intro how hjl)))
            clear hs3 hf3 how hjl
            go_wp2_with (at_builtin; go_loud (refine wpList_append huf.sty_int rfl _ _ rfl (.slice ao2 (l + j) cap2) (l + j) (ints (L ++ List.replicate j 0)) (blk ao2) rfl (own_blk ao2 (l + j) cap2) (by have := ownsRow_fr HI.out.2.2.1.own ((Fr.refl [] wr).alloc (.cells #[.int .i64 0] 3 (0, 0))) (by simp); rwa [← HI.out.2.2.2] at this) (some ⟨wr.heap.size, 0, none⟩) 1 1 [.int .i64 0] (by first | rfl | simp) (Nat.le_refl _) (fun h => by cases h) (cs_one _ _ _ _ (alloc_at _ _)) rfl (by intro u hu; simp only [List.mem_singleton] at hu; rw [hu]; rfl) (by omega) (by unfold maxLen; omega) ?_); intro ao3 cap3 w5 A5; have HA := Lib.hid A5; clear A5)
            go_roundg k2
            case measure => omega
            case rel =>
              have hA2 := HI.out.2.2.1.app (n := l + j) (x := 0) HI.out.2.2.2 HI.out.2.1.size HA.out
              refine ⟨j + 1, ao3, cap3, by go_num, rfl, by omega, H.out.1.up HI.out.1 hA2.2 (fun y hy => HI.out.2.2.1.new y hy), HI.out.2.1.step hA2.2 (fun y hy => .inr (HI.out.2.2.1.new y hy)), ?_⟩
              rw [List.replicate_succ', ← List.append_assoc]
              exact hA2.1
          · obtain rfl : j = t := by omega
            have HI := Lib.hid (And.intro hs3 (And.intro hf3 (And.intro how hjl)))
            clear hs3 hf3 how hjl
            go_wp2
            go_roundg k
            case measure => omega
            case rel =>
              refine ⟨l + j, a3, L ++ List.replicate j 0, ao2, cap2, rfl, HI.out.2.2.2, by omega, by omega, HI.out.1, HI.out.2.1, HI.out.2.2.1, HB.out.1, ?_⟩
              intro y hy
              rcases List.mem_append.1 hy with h1 | h1
              · exact HJ.out.2.2.2.2.1 y h1
              · rw [(List.mem_replicate.1 h1).2]; exact HB.out.2.1
      · go_ret2
        exact .inl ⟨c, by rw [← HJ.out.2.2.2.1, ilens_sym (by rw [← HJ.out.2.2.2.2.2]; exact hlt) hm], hc0, hc1, rfl, (HJ.out.2.1.mono (by simp)).trans f1⟩
    · obtain rfl : l = n := by omega
      have e1 : ilens bs ls l (k + 1) L a1 = .ok (L, a1) := ilens_end (by omega)
      have HJ := Lib.hid (And.intro hst (And.intro hf (And.intro hown (And.intro hil (And.intro h15 (And.intro hlL e1))))))
      clear hst hf hown hil h15 hlL e1 hlt hln
      go_wp2
      go_ret2
      exact .inr ⟨L, a1, ao, cap, by rw [← HJ.out.2.2.2.1, HJ.out.2.2.2.2.2.2], by rw [← HJ.out.2.2.2.2.2.1]; rfl, HJ.out.1, HJ.out.2.1, HJ.out.2.2.1, HJ.out.2.2.2.2.2.1.symm, HJ.out.2.2.2.2.1⟩
end Go.Proofs.Ytolkoidbkaidkaa.inf
/-
  inflate: fixed.
-/
namespace Go.Proofs.Ytolkoidbkaidkaa.inf
open Go Go.RowKit Go.Proofs.Ytolkoidbkaidkaa.lib Go.Proofs.Ytolkoidbkaidkaa.bm Go.Proofs.Ytolkoidbkaidkaa.bl Go.Proofs.Ytolkoidbkaidkaa.huf

theorem ifix_1 {i : Nat} (h : i < 144) : ifix i = 8 := by unfold ifix; rw [if_pos h]
theorem ifix_2 {i : Nat} (h1 : ¬ i < 144) (h : i < 256) : ifix i = 9 := by unfold ifix; rw [if_neg h1, if_pos h]
theorem ifix_3 {i : Nat} (h1 : ¬ i < 144) (h2 : ¬ i < 256) (h : i < 280) : ifix i = 7 := by unfold ifix; rw [if_neg h1, if_neg h2, if_pos h]
theorem ifix_4 {i : Nat} (h1 : ¬ i < 144) (h2 : ¬ i < 256) (h : ¬ i < 280) : ifix i = 8 := by unfold ifix; rw [if_neg h1, if_neg h2, if_neg h]
theorem ifix_le (i : Nat) : ifix i ≤ 15 := by unfold ifix; split; omega; split; omega; split <;> omega
theorem fixed_le : ∀ l ∈ fixed 288, l ≤ 15 := fun l hl => by
  obtain ⟨i, _, rfl⟩ := List.mem_map.1 hl
  exact ifix_le i
theorem fixed_weight : weight (fixed 288) = 32768 := by decide +kernel
theorem five_weight : weight (List.replicate 32 5) = 32768 := by decide +kernel
theorem five_map : (List.range 32).map (fun _ => 5) = List.replicate 32 5 := by decide +kernel
theorem fill_step {i v s : Nat} (hv : ifix i = v) : (if s = i then v else if s < i then ifix s else 0) = if s < i + 1 then ifix s else 0 := by
  by_cases e : s = i
  · rw [if_pos e, if_pos (by omega), e, hv]
  · rw [if_neg e]
    by_cases e2 : s < i
    · rw [if_pos e2, if_pos (by omega)]
    · rw [if_neg e2, if_neg (by omega)]
theorem tabb_tb {w : World} {P D B E : Nat} {ls X : List Nat} {first : Nat → Nat} {sa : Nat → Option Addr} {sc : Nat → Nat} (h : TabB w P D ls first sa sc B E) (hE : E ≤ w.heap.size) (hX : ∀ x ∈ X, x < B) : Tb w P ls X :=
  ⟨D, first, sa, sc, h.tab, Nat.lt_of_lt_of_le h.at_.2 hE, fun hP => by have := hX P hP; have := h.at_.1; omega, fun l hl x hx => ⟨Nat.lt_of_lt_of_le (h.row l hl x hx).2 hE, fun hxX => by have := hX x hxX; have := (h.row l hl x hx).1; omega⟩⟩
theorem St.under {w : World} {R p : Nat} {F : List Nat} {bs out : List UInt8} {at_ oc most : Nat} {oa : Option Addr} (h : St w R p F bs at_ out oa oc most) : ∀ x ∈ R :: p :: blk oa, x < w.heap.size := fun x hx => by
  simp only [List.mem_cons] at hx
  rcases hx with rfl | rfl | hx
  · exact lt_of_block h.box
  · exact h.low _ h.pF.1
  · exact owns_lt h.own (blk_own hx)
set_option maxRecDepth 100000 in
set_option maxHeartbeats 4000000 in
theorem fixed_any (R p : Nat) (F : List Nat) (bs out : List UInt8) (at_ oc most : Nat) (oa : Option Addr) (w : World) (h : St w R p F bs at_ out oa oc most) :
    Calls Try.prog 35 #[.pointer (some ⟨R, 0, none⟩)] w (Ret w R p F bs oa most (ifixed bs most out at_)) := by
  obtain ⟨hu, ⟨ti, hi', hz', hs', hb'⟩, hcz, hp⟩ := huf.sty_int
  have H := Lib.hid h
  clear h
  go_enter Try.func35, Try.ntmps35
  obtain ⟨Q, hQ⟩ : ∃ Q, Q = w.heap.size := ⟨_, rfl⟩
  have HQ := Lib.hid hQ
  clear hQ
  go_upto_block 0 with (refine wpList_make_full _ rfl _ _ 36 rfl 0 3 ti (.int .i64 0) 1 hu hi' hz' hs' .i64 .i64 288 288 288 rfl rfl rfl rfl (by rw [hb']; omega) (by unfold maxLen; omega) (by omega) ?_; intro w1 own1 grow1; have H1 := Lib.hid (And.intro own1 grow1); clear own1 grow1)
  rw [← HQ.out] at H1 ⊢
  have hq1 : Ow w1 Q 288 (fun _ => 0) := ow_made H1.out.1
  have f1 : Fr [] w w1 := (Fr.refl [] w).grown H1.out.2 (fun k hk => by cases hk)
  have HS := Lib.hid (And.intro hq1 f1)
  clear hq1 f1 H1
  go_wp2
  go_loopg [4, 14, 20, 26, 32] 288 (fun k s4 s14 s20 s26 s32 wr => ∃ i : Nat, s14 = .int .i64 (i : Nat) ∧ i + k = 288 ∧ Ow wr Q 288 (fun j => if j < i then ifix j else 0) ∧ Fr [] w wr)
  case atStart => exact ⟨0, rfl, rfl, HS.out.1.congr fun s _ => by simp, HS.out.2⟩
  case round =>
    obtain ⟨i, rfl, hik, how, hf⟩ := hrel
    by_cases hi : i < 288
    · obtain ⟨k, rfl⟩ : ∃ k, gk = k + 1 := ⟨gk - 1, by omega⟩
      have c1 := how.cell hi
      have z1 := how.frozen i
      have HI := Lib.hid (And.intro how hf)
      clear how hf
      go_wp2
      · go_roundg k
        case measure => omega
        case rel => exact ⟨i + 1, by go_num, by omega, (HI.out.1.set hi 8).congr (fun s _ => fill_step (ifix_1 (by omega))), HI.out.2.step ((Fr.refl [Q] wr).setCell (by simp) _) (fun z hz => .inr (by simp at hz; rw [hz, HQ.out]; exact Nat.le_refl _))⟩
      · go_roundg k
        case measure => omega
        case rel => exact ⟨i + 1, by go_num, by omega, (HI.out.1.set hi 9).congr (fun s _ => fill_step (ifix_2 (by omega) (by omega))), HI.out.2.step ((Fr.refl [Q] wr).setCell (by simp) _) (fun z hz => .inr (by simp at hz; rw [hz, HQ.out]; exact Nat.le_refl _))⟩
      · go_roundg k
        case measure => omega
        case rel => exact ⟨i + 1, by go_num, by omega, (HI.out.1.set hi 7).congr (fun s _ => fill_step (ifix_3 (by omega) (by omega) (by omega))), HI.out.2.step ((Fr.refl [Q] wr).setCell (by simp) _) (fun z hz => .inr (by simp at hz; rw [hz, HQ.out]; exact Nat.le_refl _))⟩
      · go_roundg k
        case measure => omega
        case rel => exact ⟨i + 1, by go_num, by omega, (HI.out.1.set hi 8).congr (fun s _ => fill_step (ifix_4 (by omega) (by omega) (by omega))), HI.out.2.step ((Fr.refl [Q] wr).setCell (by simp) _) (fun z hz => .inr (by simp at hz; rw [hz, HQ.out]; exact Nat.le_refl _))⟩
    · obtain rfl : i = 288 := by omega
      have hfix : Ow wr Q 288 ifix := how.congr fun s hs => if_pos hs
      obtain ⟨w2, rfl⟩ : ∃ w2 : World, w2 = wr := ⟨_, rfl⟩
      obtain ⟨Q2, hQ2⟩ : ∃ Q2, Q2 = w2.heap.size := ⟨_, rfl⟩
      have HI := Lib.hid (And.intro hfix (And.intro hf hQ2))
      clear how hf hfix hQ2 hik
      go_upto_block 3 with (refine wpList_make_full _ rfl _ _ 36 rfl 0 3 ti (.int .i64 0) 1 hu hi' hz' hs' .i64 .i64 32 32 32 rfl rfl rfl rfl (by rw [hb']; omega) (by unfold maxLen; omega) (by omega) ?_; intro w3 own3 grow3; have H3 := Lib.hid (And.intro own3 grow3); clear own3 grow3)
      rw [← HI.out.2.2] at H3 ⊢
      have hq3 : Ow w3 Q2 32 (fun _ => 0) := ow_made H3.out.1
      have f3 : Fr [] w2 w3 := (Fr.refl [] w2).grown H3.out.2 (fun k hk => by cases hk)
      have HT := Lib.hid (And.intro hq3 (And.intro f3 (HI.out.1.fr f3 (by simp))))
      clear hq3 f3 H3 hu hi' hz' hs' hb' hcz hp
      go_wp2
      go_loopg [6, 42] 32 (fun k s6 s42 wr => ∃ i : Nat, s42 = .int .i64 (i : Nat) ∧ i + k = 32 ∧ Ow wr Q2 32 (fun j => if j < i then 5 else 0) ∧ Ow wr Q 288 ifix ∧ Fr [] w wr)
      case atStart => exact ⟨0, rfl, rfl, HT.out.1.congr fun s _ => by simp, HT.out.2.2, HI.out.2.1.trans HT.out.2.1⟩
      case round =>
        obtain ⟨j, rfl, hjk, how, how0, hf⟩ := hrel
        have hQQ : Q < Q2 := by
          obtain ⟨A, hA, _⟩ := HI.out.1
          rw [HI.out.2.2]
          exact lt_of_block hA
        by_cases hj : j < 32
        · obtain ⟨k, rfl⟩ : ∃ k, gk = k + 1 := ⟨gk - 1, by omega⟩
          have c1 := how.cell hj
          have z1 := how.frozen j
          have HJ := Lib.hid (And.intro how (And.intro how0 hf))
          clear how how0 hf
          go_wp2
          go_roundg k
          case measure => omega
          case rel => exact ⟨j + 1, by go_num, by omega, (HJ.out.1.set hj 5).congr (fun s _ => by
            by_cases e : s = j
            · rw [if_pos e, if_pos (by omega)]
            · rw [if_neg e]
              by_cases e2 : s < j
              · rw [if_pos e2, if_pos (by omega)]
              · rw [if_neg e2, if_neg (by omega)]), HJ.out.2.1.fr ((Fr.refl [Q2] wr).setCell (by simp) _) (by simp; omega), HJ.out.2.2.step ((Fr.refl [Q2] wr).setCell (by simp) _) (fun z hz => .inr (by simp at hz; rw [hz, HI.out.2.2]; exact HI.out.2.1.size))⟩
        · obtain rfl : j = 32 := by omega
          have h5 : Ow wr Q2 32 (fun _ => 5) := how.congr fun s hs => if_pos hs
          have r1 : Ri wr (some ⟨Q, 0, none⟩) 288 (fixed 288) := ⟨how0.cs, by decide +kernel, by decide, fun h => by cases h⟩
          have r2 : Ri wr (some ⟨Q2, 0, none⟩) 32 (List.replicate 32 5) := ⟨by have := h5.cs; rw [five_map] at this; exact this, by decide, by decide, fun h => by cases h⟩
          obtain ⟨wo, rfl⟩ : ∃ wo : World, wo = wr := ⟨_, rfl⟩
          have N1 : Calls Try.prog 44 #[.slice (some ⟨Q, 0, none⟩) 288 288] wo (NewTab wo (fixed 288)) := new_tab (some ⟨Q, 0, none⟩) 288 (fixed 288) wo r1 fixed_le (by decide +kernel) (by rw [fixed_weight]; exact Nat.le_refl _)
          have N2 : ∀ w5, Fr [] wo w5 → Calls Try.prog 44 #[.slice (some ⟨Q2, 0, none⟩) 32 32] w5 (NewTab w5 (List.replicate 32 5)) := fun w5 f5 => new_tab (some ⟨Q2, 0, none⟩) 32 (List.replicate 32 5) w5 (r2.fr f5) (fun l hl => by rw [(List.mem_replicate.1 hl).2]; decide) (by decide) (by rw [five_weight]; exact Nat.le_refl _)
          have HN := Lib.hid (And.intro N1 (And.intro N2 hf))
          clear how how0 hf h5 r1 r2 N1 N2 hj hjk
          go_wp2_with (first | (go_at_call 44; (with_reducible refine HN.out.1.mono ?_); rintro e w4 ⟨P, D, first, sa, sc, rfl, htb, f4⟩; have K4 := Lib.hid (And.intro htb f4); clear htb f4) | (go_at_call 44; (with_reducible refine (HN.out.2.1 _ K4.out.2).mono ?_); rintro e w5 ⟨P5, D5, first5, sa5, sc5, rfl, htb, f5⟩; have K5 := Lib.hid (And.intro htb f5); clear htb f5) | (go_at_call 45; have hu := H.out.under; go_loud (refine (symbols_any R p P P5 F bs out (fixed 288) (List.replicate 32 5) at_ oc most oa w5 (H.out.fr0 ((HN.out.2.2.trans K4.out.2).trans K5.out.2)) ((tabb_tb K4.out.1 (Nat.le_refl _) (fun x hx => Nat.lt_of_lt_of_le (hu x hx) HN.out.2.2.size)).fr K5.out.2 (by simp)) (tabb_tb K5.out.1 (Nat.le_refl _) (fun x hx => Nat.lt_of_lt_of_le (hu x hx) (HN.out.2.2.trans K4.out.2).size))).mono ?_); rintro e w6 (⟨c, hm, hc0, hc1, rfl, f6⟩ | ⟨o6, a6, oa6, oc6, hm, rfl, s6, f6⟩); all_goals (have Km := Lib.hid hm; clear hm); all_goals (try (have K6 := Lib.hid (And.intro s6 f6); clear s6 f6))))
          · go_ret
            exact .inl ⟨c, Km.out, hc0, hc1, rfl, (((HN.out.2.2.trans K4.out.2).trans K5.out.2).mono (by simp)).trans f6⟩
          · go_ret
            exact .inr ⟨o6, a6, oa6, oc6, Km.out, rfl, K6.out.1, (Way.of0 _ _ _ _ _ ((HN.out.2.2.trans K4.out.2).trans K5.out.2)).trans K6.out.2⟩
end Go.Proofs.Ytolkoidbkaidkaa.inf
/-
  inflate: order, dynamic.
-/
namespace Go.Proofs.Ytolkoidbkaidkaa.inf
open Go Go.RowKit Go.Proofs.Ytolkoidbkaidkaa.lib Go.Proofs.Ytolkoidbkaidkaa.bm Go.Proofs.Ytolkoidbkaidkaa.bl Go.Proofs.Ytolkoidbkaidkaa.huf

def ordV : Array Value := #[.int .i64 16, .int .i64 17, .int .i64 18, .int .i64 0, .int .i64 8, .int .i64 7, .int .i64 9, .int .i64 6, .int .i64 10, .int .i64 5, .int .i64 11, .int .i64 4, .int .i64 12, .int .i64 3, .int .i64 13, .int .i64 2, .int .i64 14, .int .i64 1, .int .i64 15]
def zeroV : Array Value := #[.int .i64 0, .int .i64 0, .int .i64 0, .int .i64 0, .int .i64 0, .int .i64 0, .int .i64 0, .int .i64 0, .int .i64 0, .int .i64 0, .int .i64 0, .int .i64 0, .int .i64 0, .int .i64 0, .int .i64 0, .int .i64 0, .int .i64 0, .int .i64 0, .int .i64 0]
theorem info19 : (Try.prog.info? 104).map (·.size) = some 19 := by kernel_rfl
theorem results_19 {fn : Func} {p : Tmp} (h : fn.results = #[.cell p 104]) (tmps : Array Value) (w : World) (g : Nat) (cs : Array Value) (fr : Nat × Nat)
    (hp : tmps.getD p undef = .pointer (some ⟨g, 0, none⟩)) (hg : w.heap[g]? = some (.cells cs 104 fr)) (hs : cs.size = 19) : (results fn tmps).run Try.prog w = .ok (.agg cs) w :=
  results_cell_row h tmps w g 104 cs fr _ hp hg Try.underlying104 rfl (by rw [info19, hs])
set_option maxRecDepth 100000 in
theorem order_any (w : World) : Calls Try.prog 46 #[] w fun e w' => e = .returned (.agg ordV) ∧ Fr [] w w' := by
  go_enter Try.func46, Try.ntmps46
  go_wp2_with (refine wpList_store_row rfl 104 (.tmp 0) (.tmp 1) rfl w.heap.size ordV rfl rfl 104 zeroV (heap_alloc_last w _) info19 rfl (by kernel_rfl) ?_; rw [World.setRow_alloc_new])
  simp only [Act.put]
  refine bodyPost_ret (results_19 rfl _ _ w.heap.size ordV (0, 0) rfl (alloc_at w _) rfl) rfl ?_
  exact ⟨rfl, (Fr.refl [] w).alloc _⟩
theorem ri_drop {w : World} {a : Option Addr} {cap : Nat} {xs : List Nat} (h : Ri w a cap xs) (k : Nat) (hk : k ≤ xs.length) : Ri w (cutAtN a cap k 1) (cap - k) (xs.drop k) :=
  ⟨by rw [List.map_drop]; exact cs_drop h.cs k (by simpa using hk) (by simpa using h.le), by have := h.le; simp; omega, Nat.le_trans (Nat.sub_le _ _) h.max, fun hn => by have := h.nil (cutAtN_none hn); omega⟩
theorem lenAt_set {fs : List Nat} {i v : Nat} (hi : i < fs.length) (t : Nat) : lenAt (fs.set i v) t = if t = i then v else lenAt fs t := by
  unfold lenAt
  rw [List.getElem?_set]
  by_cases e : i = t
  · subst e; simp [hi]
  · rw [if_neg e, if_neg (fun h => e h.symm)]
theorem ow_list {w : World} {Q : Nat} {fs : List Nat} (h : Ow w Q 19 (lenAt fs)) (hl : fs.length = 19) : Ri w (some ⟨Q, 0, none⟩) 19 fs := by
  have e : (List.range 19).map (lenAt fs) = fs := by
    refine List.ext_getElem (by simp [hl]) fun i h1 h2 => ?_
    simp [lenAt, h2]
  have := h.cs
  rw [e] at this
  exact ⟨this, by omega, by decide, fun h => by cases h⟩
theorem places_ord : places = defl.ordL := rfl
theorem ordV_at {i : Nat} (h : i < 19) : ordV[i]? = some (.int .i64 ((defl.ord i : Nat) : Int)) := by
  have e : ordV = (defl.ordL.map fun x => Value.int .i64 (x : Nat)).toArray := rfl
  have hl : i < defl.ordL.length := by simp [defl.ordL]; omega
  rw [e]
  simp [defl.ord, List.getElem?_eq_getElem hl]
theorem places_drop {m j : Nat} (h : j < m) (hm : m ≤ 19) : (places.take m).drop j = defl.ord j :: (places.take m).drop (j + 1) := by
  have hl : places.length = 19 := rfl
  have h1 : j < (places.take m).length := by rw [List.length_take]; omega
  rw [List.drop_eq_getElem_cons h1]
  congr 1
  simp [defl.ord, ← places_ord, List.getElem?_eq_getElem (show j < places.length by omega)]
set_option maxRecDepth 100000 in
set_option maxHeartbeats 8000000 in
theorem dynamic_any (R p : Nat) (F : List Nat) (bs out : List UInt8) (at_ oc most : Nat) (oa : Option Addr) (w : World) (h : St w R p F bs at_ out oa oc most) :
    Calls Try.prog 36 #[.pointer (some ⟨R, 0, none⟩)] w (Ret w R p F bs oa most (idyn bs most out at_)) := by
  obtain ⟨M, hM⟩ : ∃ M, M = idyn bs most out at_ := ⟨_, rfl⟩
  rw [← hM]
  have TT : ∀ (n : Nat) (a : Nat) (w' : World), St w' R p F bs a out oa oc most → n ≤ 31 → Calls Try.prog 20 #[.pointer (some ⟨R, 0, none⟩), .int .i64 (n : Nat)] w' (RetV w' R p F bs out oa oc most (itake bs a n)) := fun n a w' s hn => take_any R p F bs out a oc most n oa w' s hn
  have T3 : ∀ (a : Nat) (w' : World), St w' R p F bs a out oa oc most → Calls Try.prog 20 #[.pointer (some ⟨R, 0, none⟩), .int .i64 3] w' (RetV w' R p F bs out oa oc most (itake bs a 3)) := fun a w' s => TT 3 a w' s (by decide)
  have T4 : ∀ (a : Nat) (w' : World), St w' R p F bs a out oa oc most → Calls Try.prog 20 #[.pointer (some ⟨R, 0, none⟩), .int .i64 4] w' (RetV w' R p F bs out oa oc most (itake bs a 4)) := fun a w' s => TT 4 a w' s (by decide)
  have T5 : ∀ (a : Nat) (w' : World), St w' R p F bs a out oa oc most → Calls Try.prog 20 #[.pointer (some ⟨R, 0, none⟩), .int .i64 5] w' (RetV w' R p F bs out oa oc most (itake bs a 5)) := fun a w' s => TT 5 a w' s (by decide)
  have HT := Lib.hid (And.intro T3 (And.intro T4 T5))
  have H := Lib.hid (And.intro h hM)
  clear h hM TT T3 T4 T5
  go_enter Try.func36, Try.ntmps36
  go_upto_region 14 with (first
    | (go_at_call 20; (with_reducible refine (HT.out.2.2 at_ w H.out.1).mono ?_); rintro e w1 (⟨v, c, hm, hc0, hc1, rfl, f1⟩ | ⟨lit, a1, hm, rfl, s1, f1⟩); all_goals (try (have hv1 := itake_lt hm; have K1 := Lib.hid (And.intro hm (And.intro s1 f1)); clear hm s1 f1)))
    | (go_at_call 20; (with_reducible refine (HT.out.2.2 a1 w1 K1.out.2.1).mono ?_); rintro e w2 (⟨v, c, hm, hc0, hc1, rfl, f1⟩ | ⟨dist, a2, hm, rfl, s2, f2⟩); all_goals (try (have hv2 := itake_lt hm; have K2 := Lib.hid (And.intro hm (And.intro s2 f2)); clear hm s2 f2)))
    | (go_at_call 20; (with_reducible refine (HT.out.2.1 a2 w2 K2.out.2.1).mono ?_); rintro e w3 (⟨v, c, hm, hc0, hc1, rfl, f1⟩ | ⟨n, a3, hm, rfl, s3, f3⟩); all_goals (try (have hv3 := itake_lt hm; have K3 := Lib.hid (And.intro hm (And.intro s3 f3)); clear hm s3 f3))))
  · go_ret
    exact .inl ⟨c, by rw [H.out.2]; simp only [idyn, hm], hc0, hc1, rfl, f1⟩
  · go_ret
    exact .inl ⟨3, by rw [H.out.2]; simp only [idyn, K1.out.1, if_pos (show 29 < lit by omega)], by decide, by decide, rfl, K1.out.2.2.mono (by simp)⟩
  · go_ret
    exact .inl ⟨c, by rw [H.out.2]; simp only [idyn, K1.out.1, if_neg (show ¬ 29 < lit by omega), hm], hc0, hc1, rfl, (K1.out.2.2.mono (by simp)).trans f1⟩
  · go_ret
    exact .inl ⟨3, by rw [H.out.2]; simp only [idyn, K1.out.1, if_neg (show ¬ 29 < lit by omega), K2.out.1, if_pos (show 29 < dist by omega)], by decide, by decide, rfl, (K1.out.2.2.trans K2.out.2.2).mono (by simp)⟩
  · go_ret
    exact .inl ⟨c, by rw [H.out.2]; simp only [idyn, K1.out.1, if_neg (show ¬ 29 < lit by omega), K2.out.1, if_neg (show ¬ 29 < dist by omega), hm], hc0, hc1, rfl, ((K1.out.2.2.trans K2.out.2.2).mono (by simp)).trans f1⟩
  · have hM3 : M = idyn2 bs most out lit dist n a3 := by rw [H.out.2]; simp only [idyn, K1.out.1, if_neg (show ¬ 29 < lit by omega), K2.out.1, if_neg (show ¬ 29 < dist by omega), K3.out.1]
    have hl1 : lit ≤ 29 := by omega
    have hd1 : dist ≤ 29 := by omega
    have hn1 : n ≤ 15 := by omega
    have hf3 : Fr [p] w w3 := ((K1.out.2.2.trans K2.out.2.2).trans K3.out.2.2)
    have HK := Lib.hid (And.intro hM3 (And.intro K3.out.2.1 (And.intro hf3 H.out.1)))
    clear hM3 hf3 K1 K2 K3 H hv1 hv2 hv3
    obtain ⟨m, hm⟩ : ∃ m, m = n + 4 := ⟨_, rfl⟩
    have em : (n : Int) + 4 = (m : Nat) := by omega
    have hm19 : m ≤ 19 := by omega
    have HM := Lib.hid hm
    clear hm
    obtain ⟨hu, ⟨ti, hi', hz', hs', hb'⟩, hcz, hp⟩ := huf.sty_int
    obtain ⟨Q, hQ⟩ : ∃ Q, Q = w3.heap.size := ⟨_, rfl⟩
    have HQ := Lib.hid hQ
    clear hQ
    go_upto_region 15 with (refine wpList_make_full _ rfl _ _ 36 rfl 0 3 ti (.int .i64 0) 1 hu hi' hz' hs' .i64 .i64 19 19 19 rfl rfl rfl rfl (by rw [hb']; omega) (by unfold maxLen; omega) (by omega) ?_; intro w4 own4 grow4; have H4 := Lib.hid (And.intro own4 grow4); clear own4 grow4)
    rw [← HQ.out] at H4 ⊢
    have hq4 : Ow w4 Q 19 (fun _ => 0) := ow_made H4.out.1
    have f4 : Fr [] w3 w4 := (Fr.refl [] w3).grown H4.out.2 (fun k hk => by cases hk)
    have HW := Lib.hid (And.intro hq4 f4)
    clear hq4 f4 H4 hu hi' hz' hs' hb' hcz hp
    go_cut [8, 46] from 46 to 46 (fun s8 s46 wz => ∃ O : Nat, s8 = .pointer (some ⟨O, 0, none⟩) ∧ wz.heap[O]? = some (.cells ordV 104 (0, 0)) ∧ Fr [] w4 wz ∧ w4.heap.size ≤ O)
    case first =>
      go_wp2_with (first | (go_at_call 46; refine (order_any w4).mono ?_; rintro e w5 ⟨rfl, f5⟩; have K5 := Lib.hid f5; clear f5) | (refine wpList_store_row rfl 104 (.tmp 8) (.tmp 46) rfl w5.heap.size ordV rfl rfl 104 zeroV (heap_alloc_last w5 _) info19 rfl (by kernel_rfl) ?_; rw [World.setRow_alloc_new]))
      simp only [Act.put]
      go_meet
      exact ⟨w5.heap.size, rfl, alloc_at w5 _, K5.out.alloc _, K5.out.size⟩
    case rest =>
    obtain ⟨O, rfl, hO, f6, hO4⟩ := hcut
    obtain ⟨w7, rfl⟩ : ∃ w7 : World, w7 = wc := ⟨_, rfl⟩
    have f37 : Fr [] w3 w7 := HW.out.2.trans f6
    have hQ7 : Ow w7 Q 19 (lenAt (List.replicate 19 0)) := (HW.out.1.fr f6 (by simp)).congr fun s hs => by simp only [lenAt, List.getElem?_replicate, if_pos hs]; rfl
    have hQO : Q < O := by
      obtain ⟨A, hA, _⟩ := HW.out.1
      have := lt_of_block hA
      omega
    have hQ3 : w3.heap.size ≤ Q := by rw [HQ.out]; exact Nat.le_refl _
    have H7 := Lib.hid (And.intro hQ7 (And.intro hO (And.intro f37 (And.intro hQO hQ3))))
    clear hQ7 hO f37 hQO f6 hO4 hQ3
    have d1 : decide ((286 : Int) < (lit : Int) + 257) = false := by simp; omega
    have d2 : decide ((30 : Int) < (dist : Int) + 1) = false := by simp; omega
    simp only [d1, d2]
    clear d1 d2
    have hsl := defl.slice_arr O m hm19
    go_wp2
    clear hsl
    go_loopg [2, 4, 10, 51] m (fun k s2 s4 s10 s51 wr => ∃ (j a1 : Nat) (fs : List Nat), s51 = .int .i64 (j : Nat) ∧ s4 = .int .i64 0 ∧ j + k = m ∧ St wr R p F bs a1 out oa oc most ∧ Ow wr Q 19 (lenAt fs) ∧ fs.length = 19 ∧ (∀ x ∈ fs, x ≤ 15) ∧ wr.heap[O]? = some (.cells ordV 104 (0, 0)) ∧ Fr [p] w wr ∧ ifirst bs ((places.take m).drop j) fs a1 = ifirst bs (places.take m) (List.replicate 19 0) a3)
    case atStart => exact ⟨0, a3, List.replicate 19 0, rfl, rfl, by omega, HK.out.2.1.fr0 H7.out.2.2.1, H7.out.1, rfl, fun x hx => by rw [(List.mem_replicate.1 hx).2]; decide, H7.out.2.1, HK.out.2.2.1.trans (H7.out.2.2.1.mono (by simp)), rfl⟩
    case round =>
      obtain ⟨j, a1, fs, rfl, rfl, hjm, hst, how, hfl, hf15, hO, hfw, hfi⟩ := hrel
      have hw3 : w.heap.size ≤ w3.heap.size := HK.out.2.2.1.size
      have hp0 : p < w.heap.size := HK.out.2.2.2.low _ HK.out.2.2.2.pF.1
      by_cases hj : j < m
      · obtain ⟨k, rfl⟩ : ∃ k, gk = k + 1 := ⟨gk - 1, by omega⟩
        have cO := cell_of hO j
        rw [ordV_at (by omega)] at cO
        obtain ⟨i, hi⟩ : ∃ i, i = defl.ord j := ⟨_, rfl⟩
        have hi19 : i < 19 := by rw [hi]; exact defl.ord_lt j
        have hpd := places_drop hj hm19
        rw [← hi] at cO hpd
        rw [hpd] at hfi
        have HJ := Lib.hid (And.intro hst (And.intro how (And.intro hfl (And.intro hf15 (And.intro hO (And.intro hfw hfi))))))
        clear hst how hfl hf15 hO hfw hfi hi hpd
        go_wp2_with (go_at_call 20; refine (HT.out.1 a1 wr HJ.out.1).mono ?_; rintro e w8 (⟨v, c, hm, hc0, hc1, rfl, f1⟩ | ⟨v, a2, hm, rfl, s8, f8⟩); rotate_left; all_goals (try (have hv := itake_lt hm; have hx8 := HJ.out.2.1.fr f8 (show Q ∉ [p] by have := H7.out.2.2.2.2; simp; omega); have K8 := Lib.hid (And.intro hm (And.intro s8 (And.intro f8 hx8))); clear hm s8 f8; have c8 := hx8.cell hi19; have z8 := hx8.frozen i; clear hx8)); all_goals (try (have hx9 := HJ.out.2.1.fr f1 (show Q ∉ R :: p :: blk oa by have := H7.out.2.2.2.2; have hu := HK.out.2.2.2.under; intro hq; have := hu Q hq; omega); have c8 := hx9.cell hi19; have z8 := hx9.frozen i; have K9 := Lib.hid (And.intro hm f1); clear hm f1 hx9)))
        · go_roundg k
          case measure => omega
          case rel =>
            have hQw : ∀ x ∈ [Q], w.heap.size ≤ x := fun x hx => by have := H7.out.2.2.2.2; simp at hx; omega
            have fQ : Fr [Q] w8 (w8.setCell ⟨Q, i, none⟩ (.int .i64 (v : Nat))) := (Fr.refl [Q] _).setCell (by simp) _
            refine ⟨j + 1, a2, fs.set i v, by go_num, rfl, by omega, HK.out.2.2.2.up K8.out.2.1 fQ hQw, (K8.out.2.2.2.set hi19 v).congr (fun t _ => (lenAt_set (by rw [HJ.out.2.2.1]; exact hi19) t).symm), by rw [List.length_set, HJ.out.2.2.1], fun x hx => ?_, fQ.blk (K8.out.2.2.1.blk HJ.out.2.2.2.2.1 (by have := H7.out.2.2.2; simp; omega)) (by have := H7.out.2.2.2.1; simp; omega), (HJ.out.2.2.2.2.2.1.trans K8.out.2.2.1).step fQ (fun x hx => .inr (hQw x hx)), ?_⟩
            · rcases List.mem_or_eq_of_mem_set hx with h1 | h1
              · exact HJ.out.2.2.2.1 x h1
              · rw [h1]; omega
            · rw [← HJ.out.2.2.2.2.2.2, ifirst, K8.out.1]
        · go_ret
          have hQw : ∀ x ∈ [Q], w.heap.size ≤ x := fun x hx => by have := H7.out.2.2.2.2; simp at hx; omega
          refine .inl ⟨c, ?_, hc0, hc1, rfl, ((HJ.out.2.2.2.2.2.1.mono (by simp)).trans K9.out.2).step ((Fr.refl [Q] _).setCell (by simp) _) (fun x hx => .inr (hQw x hx))⟩
          rw [HK.out.1, idyn2, ← HM.out, ← HJ.out.2.2.2.2.2.2, ifirst, K9.out.1]
      · obtain rfl : j = m := by omega
        have hok : ifirst bs (places.take j) (List.replicate 19 0) a3 = .ok (fs, a1) := by
          rw [← hfi, List.drop_of_length_le (by rw [List.length_take]; omega), ifirst]
        have hM4 : M = if iwhole fs false = false then .error 3 else idyn3 bs most out lit dist fs a1 := by
          rw [HK.out.1, idyn2, ← HM.out, hok]
        have W1 : Calls Try.prog 47 #[.slice (some ⟨Q, 0, none⟩) 19 19, .bool false] wr (WholeGood wr fs false) := by
          have := whole_any (some ⟨Q, 0, none⟩) 19 fs false wr (ow_list how hfl) hf15 (by omega)
          rwa [hfl] at this
        obtain ⟨wo, rfl⟩ : ∃ wo : World, wo = wr := ⟨_, rfl⟩
        obtain ⟨l1, hl1e⟩ : ∃ l1, l1 = lit + 257 := ⟨_, rfl⟩
        obtain ⟨N, hNe⟩ : ∃ N, N = lit + 257 + dist + 1 := ⟨_, rfl⟩
        have e1 : (lit : Int) + 257 = (l1 : Nat) := by omega
        have eN : (l1 : Int) + (dist : Int) + 1 = (N : Nat) := by omega
        have hN400 : N ≤ 316 := by omega
        have hl1N : l1 + 1 ≤ N := by omega
        have hl1b : 257 ≤ l1 := by omega
        have hLE := fun (w' : World) (P : Nat) (s : St w' R p F bs a1 out oa oc most) (tb : Tb w' P fs (R :: p :: blk oa)) => lengths_any R p P N F bs out fs a1 oc most oa w' s tb (by omega) (by omega)
        have HJ := Lib.hid (And.intro hst (And.intro hM4 (And.intro W1 (And.intro hfw (And.intro hl1e (And.intro hNe hLE))))))
        have hun := Lib.hid HK.out.2.2.2.under
        clear hst how hfl hf15 hO hfw hfi hok hM4 W1 hl1e hNe hLE hj hjm
        go_upto_region 29 with (first
          | (go_at_call 47; (with_reducible refine HJ.out.2.2.1.mono ?_); rintro e w9 (⟨hiw, rfl, f9⟩ | ⟨hiw, P, D, first, sa, sc, rfl, htb, f9⟩); all_goals (try (have K9 := Lib.hid (And.intro hiw (And.intro htb f9)); clear htb)); all_goals (try (have K9b := Lib.hid (And.intro hiw f9))); all_goals clear hiw f9)
          | (go_at_call 48; (with_reducible refine (HJ.out.2.2.2.2.2.2 w9 P (HJ.out.1.fr0 K9.out.2.2) (tabb_tb K9.out.2.1 (Nat.le_refl _) (fun x hx => Nat.lt_of_lt_of_le (hun.out x hx) HJ.out.2.2.2.1.size))).mono ?_); rintro e w10 (⟨c, hm, hc0, hc1, rfl, f10⟩ | ⟨L, a4, ao, cap, hm, he, s10, f10, own, hLN, hL15⟩); rotate_left; (rw [hLN] at he; subst he; have K10 := Lib.hid (And.intro hm (And.intro s10 (And.intro f10 (And.intro own (And.intro hLN hL15))))); clear hm s10 f10 own hLN hL15)))
        · go_ret
          exact .inl ⟨3, by rw [HJ.out.2.1, if_pos K9b.out.1], by decide, by decide, rfl, (HJ.out.2.2.2.1.trans (K9b.out.2.mono (by simp))).mono (by simp)⟩
        · have hM5 : M = if lenAt L 256 = 0 then .error 3 else if iwhole (L.take l1) false = false then .error 3 else if iwhole (L.drop l1) true = false then .error 3 else isyms bs most (L.take l1) (L.drop l1) (fuel bs) out a4 := by
            have hlens := K10.out.1
            rw [HJ.out.2.1, if_neg (by rw [K9.out.1]; simp), idyn3]
            rw [HJ.out.2.2.2.2.2.1] at hlens
            rw [hlens, ← HJ.out.2.2.2.2.1]
          obtain ⟨g, rfl, hcell⟩ := K10.out.2.2.2.1.cell (i := 256) (by rw [K10.out.2.2.2.2.1]; omega)
          obtain ⟨z, hz⟩ : ∃ z, z = lenAt L 256 := ⟨_, rfl⟩
          rw [← hz] at hcell hM5
          have hcapN : N ≤ cap := by have := K10.out.2.2.2.1.le; rw [K10.out.2.2.2.2.1] at this; exact this
          have hcapm : cap ≤ 9223372036854775807 := by have := K10.out.2.2.2.1.max; unfold maxLen at this; exact this
          have ri : Ri w10 (some ⟨g, 0, none⟩) cap L := K10.out.2.2.2.1.ri
          have lt : (L.take l1).length = l1 := by rw [List.length_take, K10.out.2.2.2.2.1]; omega
          have ld : (L.drop l1).length = N - l1 := by rw [List.length_drop, K10.out.2.2.2.2.1]
          have W2 : Calls Try.prog 47 #[.slice (some ⟨g, 0, none⟩) l1 cap, .bool false] w10 (WholeGood w10 (L.take l1) false) := by
            have := whole_any (some ⟨g, 0, none⟩) cap (L.take l1) false w10 (defl.Ri.take ri l1) (fun x hx => K10.out.2.2.2.2.2 x (List.mem_of_mem_take hx)) (by omega)
            rwa [lt] at this
          have W3 : ∀ w', Fr [] w10 w' → Calls Try.prog 47 #[.slice (cutAtN (some ⟨g, 0, none⟩) cap l1 1) (N - l1) (cap - l1), .bool true] w' (WholeGood w' (L.drop l1) true) := fun w' f' => by
            have := whole_any (cutAtN (some ⟨g, 0, none⟩) cap l1 1) (cap - l1) (L.drop l1) true w' (ri_drop (ri.fr f') l1 (by rw [K10.out.2.2.2.2.1]; omega)) (fun x hx => K10.out.2.2.2.2.2 x (List.mem_of_mem_drop hx)) (by omega)
            rwa [ld] at this
          have f910 : Fr [p] w w10 := (HJ.out.2.2.2.1.trans (K9.out.2.2.mono (by simp))).trans K10.out.2.2.1
          have hsl1 := lib.run_slice_to huf.sty_int l1 (some ⟨g, 0, none⟩) N cap l1 rfl (by omega)
          have hsl2 := lib.run_slice_from huf.sty_int l1 (some ⟨g, 0, none⟩) N cap l1 rfl (by omega) hcapN
          have HL := Lib.hid (And.intro hM5 (And.intro W2 (And.intro W3 (And.intro f910 hz))))
          clear hM5 ri lt ld W2 W3 f910 hz
          go_wp2_with (first
            | (go_at_call 47; (with_reducible refine HL.out.2.1.mono ?_); rintro e w11 (⟨hiw, rfl, f9⟩ | ⟨hiw, P2, D2, first2, sa2, sc2, rfl, htb, f9⟩); all_goals (try (have K11 := Lib.hid (And.intro hiw (And.intro htb f9)); clear htb)); all_goals (try (have K11b := Lib.hid (And.intro hiw f9))); all_goals clear hiw f9)
            | (go_at_call 47; (with_reducible refine (HL.out.2.2.1 w11 K11.out.2.2).mono ?_); rintro e w12 (⟨hiw, rfl, f9⟩ | ⟨hiw, P3, D3, first3, sa3, sc3, rfl, htb, f9⟩); all_goals (try (have K12 := Lib.hid (And.intro hiw (And.intro htb f9)); clear htb)); all_goals (try (have K12b := Lib.hid (And.intro hiw f9))); all_goals clear hiw f9)
            | (go_at_call 45; refine (symbols_any R p P2 P3 F bs out (L.take l1) (L.drop l1) a4 oc most oa w12 (K10.out.2.1.fr0 (K11.out.2.2.trans K12.out.2.2)) ((tabb_tb K11.out.2.1 (Nat.le_refl _) (fun x hx => Nat.lt_of_lt_of_le (hun.out x hx) HL.out.2.2.2.1.size)).fr K12.out.2.2 (by simp)) (tabb_tb K12.out.2.1 (Nat.le_refl _) (fun x hx => Nat.lt_of_lt_of_le (hun.out x hx) (Nat.le_trans HL.out.2.2.2.1.size K11.out.2.2.size)))).mono ?_; rintro e w13 (⟨c, hm, hc0, hc1, rfl, f6⟩ | ⟨o6, a6, oa6, oc6, hm, rfl, s6, f6⟩); all_goals (have Km := Lib.hid hm; clear hm); all_goals (try (have K6 := Lib.hid (And.intro s6 f6); clear s6 f6))))
          · have hze : ((z : Int) == 0) = true := by assumption
            have hz0 : z = 0 := by have := beq_iff_eq.1 hze; omega
            go_ret
            exact .inl ⟨3, by rw [HL.out.1, if_pos hz0], by decide, by decide, rfl, HL.out.2.2.2.1.mono (by simp)⟩
          · have hze : ((z : Int) == 0) = false := by assumption
            have hz0 : z ≠ 0 := fun he => by rw [he] at hze; cases hze
            go_ret
            exact .inl ⟨3, by rw [HL.out.1, if_neg hz0, if_pos K11b.out.1], by decide, by decide, rfl, (HL.out.2.2.2.1.trans (K11b.out.2.mono (by simp))).mono (by simp)⟩
          · have hze : ((z : Int) == 0) = false := by assumption
            have hz0 : z ≠ 0 := fun he => by rw [he] at hze; cases hze
            go_ret
            exact .inl ⟨3, by rw [HL.out.1, if_neg hz0, if_neg (by rw [K11.out.1]; simp), if_pos K12b.out.1], by decide, by decide, rfl, ((HL.out.2.2.2.1.trans (K11.out.2.2.mono (by simp))).trans (K12b.out.2.mono (by simp))).mono (by simp)⟩
          · have hze : ((z : Int) == 0) = false := by assumption
            have hz0 : z ≠ 0 := fun he => by rw [he] at hze; cases hze
            go_ret
            exact .inl ⟨c, by rw [HL.out.1, if_neg hz0, if_neg (by rw [K11.out.1]; simp), if_neg (by rw [K12.out.1]; simp), Km.out], hc0, hc1, rfl, (((HL.out.2.2.2.1.trans (K11.out.2.2.mono (by simp))).trans (K12.out.2.2.mono (by simp))).mono (by simp)).trans f6⟩
          · have hze : ((z : Int) == 0) = false := by assumption
            have hz0 : z ≠ 0 := fun he => by rw [he] at hze; cases hze
            go_ret
            exact .inr ⟨o6, a6, oa6, oc6, by rw [HL.out.1, if_neg hz0, if_neg (by rw [K11.out.1]; simp), if_neg (by rw [K12.out.1]; simp), Km.out], rfl, K6.out.1, (Way.of _ _ _ _ _ ((HL.out.2.2.2.1.trans (K11.out.2.2.mono (by simp))).trans (K12.out.2.2.mono (by simp)))).trans K6.out.2⟩
        · go_ret
          have hlens := hm
          rw [HJ.out.2.2.2.2.2.1] at hlens
          exact .inl ⟨c, by rw [HJ.out.2.1, if_neg (by rw [K9.out.1]; simp), idyn3, hlens], hc0, hc1, rfl, ((HJ.out.2.2.2.1.trans (K9.out.2.2.mono (by simp))).mono (by simp)).trans f10⟩
end Go.Proofs.Ytolkoidbkaidkaa.inf
/-
  inflate.Raw.
-/
namespace Go.Proofs.Ytolkoidbkaidkaa.inf
open Go Go.RowKit Go.Proofs.Ytolkoidbkaidkaa.lib Go.Proofs.Ytolkoidbkaidkaa.bm Go.Proofs.Ytolkoidbkaidkaa.bl Go.Proofs.Ytolkoidbkaidkaa.huf

theorem info3 : (Try.prog.info? 60).map (·.size) = some 3 := by kernel_rfl
theorem results_3 {fn : Func} {p : Tmp} (h : fn.results = #[.cell p 60]) (tmps : Array Value) (w : World) (g : Nat) (cs : Array Value) (fr : Nat × Nat)
    (hp : tmps.getD p undef = .pointer (some ⟨g, 0, none⟩)) (hg : w.heap[g]? = some (.cells cs 60 fr)) (hs : cs.size = 3) : (results fn tmps).run Try.prog w = .ok (.agg cs) w :=
  results_cell_row h tmps w g 60 cs fr _ hp hg Try.underlying60 rfl (by rw [info3, hs])
def kindV : Array Value := #[.func (.func 34) #[] #[], .func (.func 35) #[] #[], .func (.func 36) #[] #[]]
set_option maxRecDepth 100000 in
theorem kinds_any (w : World) : Calls Try.prog 21 #[] w fun e w' => e = .returned (.agg kindV) ∧ Fr [] w w' := by
  go_enter Try.func21, Try.ntmps21
  go_wp2_with (refine wpList_store_row rfl 60 (.tmp 0) (.tmp 1) rfl w.heap.size kindV rfl rfl 60 #[.nilFunc, .nilFunc, .nilFunc] (heap_alloc_last w _) info3 rfl (by kernel_rfl) ?_; rw [World.setRow_alloc_new])
  simp only [Act.put]
  refine bodyPost_ret (results_3 rfl _ _ w.heap.size kindV (0, 0) rfl (alloc_at w _) rfl) rfl ?_
  exact ⟨rfl, (Fr.refl [] w).alloc _⟩
def iend (x : Except Nat (List UInt8 × Nat)) : Except Nat (List UInt8 × Nat) := match x with
  | .error e => .error e
  | .ok (o, a) => .ok (o, (a + 7) / 8)
theorem iraw_end (bs : List UInt8) (m : Nat) : iraw bs m = iend (irawF bs m (fuel bs) [] 0) := rfl
def RawGood (w : World) (m : Except Nat (List UInt8 × Nat)) (e : Ending) (w' : World) : Prop :=
  (∃ c, m = .error c ∧ 0 < c ∧ c < 100 ∧ e = .returned (.tuple #[.slice none 0 0, .int .i64 0, .int .i64 (c : Nat)]) ∧ Fr [] w w') ∨
  (∃ out used ao, m = .ok (out, used) ∧ e = .returned (.tuple #[.slice ao out.length out.length, .int .i64 (used : Nat), .int .i64 0]) ∧ lib.Rd w' ao out.length out ∧ (∀ x ∈ blk ao, w.heap.size ≤ x ∧ x < w'.heap.size) ∧ Fr [] w w')
set_option maxRecDepth 100000 in
set_option maxHeartbeats 4000000 in
theorem raw_any (a : Option Addr) (cap : Nat) (bs : List UInt8) (m : Nat) (w : World) (h : lib.Rd w a cap bs) (hlen : bs.length ≤ 100000000) (hm8 : m ≤ 100000000) :
    Calls Try.prog 9 #[.slice a bs.length cap, .int .i64 (m : Nat)] w (RawGood w (iraw bs m)) := by
  have hread := bits.read_new a cap bs w h.cs h.le h.nil (by omega)
  obtain ⟨M, hM⟩ : ∃ M, M = iraw bs m := ⟨_, rfl⟩
  rw [← hM]
  have H := Lib.hid (And.intro hread (And.intro hM hlen))
  clear h hread hM hlen
  go_enter Try.func9, Try.ntmps9
  go_upto_block 0 with (go_at_call 19; refine H.out.1.mono ?_; rintro e w1 ⟨p, F, rfl, hrd, f1, hF⟩; have K1 := Lib.hid (And.intro hrd (And.intro f1 hF)); clear hrd f1 hF)
  obtain ⟨R, hR⟩ : ∃ R, R = w1.heap.size := ⟨_, rfl⟩
  go_wp2
  rw [← hR]
  obtain ⟨w2, hw2⟩ : ∃ w2, w2 = w1.alloc (.cells #[.pointer (some ⟨p, 0, none⟩), .slice none 0 0, .int .i64 (m : Nat)] 55) := ⟨_, rfl⟩
  have f2 : Fr [] w1 w2 := by rw [hw2]; exact (Fr.refl [] w1).alloc _
  have S2 : St w2 R p F bs 0 [] none 0 m := by
    refine ⟨by rw [hw2, hR]; exact alloc_at w1 _, bits.rd_fr K1.out.1 f2 (by simp), World.ownsRow_nil _ _ _ _, fun hx => ?_, by simp [blk], by simp [blk], fun x hx => ?_, hm8, H.out.2.2, by simp⟩
    · have := (K1.out.2.2 R hx).2; omega
    · exact Nat.lt_of_lt_of_le (K1.out.2.2 x hx).2 f2.size
  have hRw : w.heap.size ≤ R := by rw [hR]; exact K1.out.2.1.size
  have hpw : w.heap.size ≤ p := (K1.out.2.2 p S2.pF.1).1
  rw [← hw2]
  clear hw2 hR
  obtain ⟨M0, hM0⟩ : ∃ M0, M0 = irawF bs m (fuel bs) [] 0 := ⟨_, rfl⟩
  have hM : M = iend M0 := by rw [H.out.2.1, hM0, iraw_end]
  have B0 : ∀ (w' : World) (a' : Nat) (out' : List UInt8) (oa' : Option Addr) (oc' : Nat), St w' R p F bs a' out' oa' oc' m → Calls Try.prog 34 #[.pointer (some ⟨R, 0, none⟩)] w' (Ret w' R p F bs oa' m (iblock bs m 0 out' a')) := fun w' a' out' oa' oc' s => by
    unfold iblock; rw [if_pos rfl]; exact stored_any R p F bs out' a' oc' m oa' w' s
  have B1 : ∀ (w' : World) (a' : Nat) (out' : List UInt8) (oa' : Option Addr) (oc' : Nat), St w' R p F bs a' out' oa' oc' m → Calls Try.prog 35 #[.pointer (some ⟨R, 0, none⟩)] w' (Ret w' R p F bs oa' m (iblock bs m 1 out' a')) := fun w' a' out' oa' oc' s => by
    unfold iblock; rw [if_neg (by decide), if_pos rfl]; exact fixed_any R p F bs out' a' oc' m oa' w' s
  have B2 : ∀ (w' : World) (a' : Nat) (out' : List UInt8) (oa' : Option Addr) (oc' : Nat), St w' R p F bs a' out' oa' oc' m → Calls Try.prog 36 #[.pointer (some ⟨R, 0, none⟩)] w' (Ret w' R p F bs oa' m (iblock bs m 2 out' a')) := fun w' a' out' oa' oc' s => by
    unfold iblock; rw [if_neg (by decide), if_neg (by decide)]; exact dynamic_any R p F bs out' a' oc' m oa' w' s
  have T1 : ∀ (w' : World) (a' : Nat) (out' : List UInt8) (oa' : Option Addr) (oc' : Nat), St w' R p F bs a' out' oa' oc' m → Calls Try.prog 20 #[.pointer (some ⟨R, 0, none⟩), .int .i64 1] w' (RetV w' R p F bs out' oa' oc' m (itake bs a' 1)) := fun w' a' out' oa' oc' s => take_any R p F bs out' a' oc' m 1 oa' w' s (by decide)
  have T2 : ∀ (w' : World) (a' : Nat) (out' : List UInt8) (oa' : Option Addr) (oc' : Nat), St w' R p F bs a' out' oa' oc' m → Calls Try.prog 20 #[.pointer (some ⟨R, 0, none⟩), .int .i64 2] w' (RetV w' R p F bs out' oa' oc' m (itake bs a' 2)) := fun w' a' out' oa' oc' s => take_any R p F bs out' a' oc' m 2 oa' w' s (by decide)
  have HB := Lib.hid (And.intro B0 (And.intro B1 (And.intro B2 (And.intro T1 T2))))
  have HK := Lib.hid (And.intro S2 (And.intro (K1.out.2.1.trans f2) (And.intro hRw (And.intro hpw (And.intro hM0 hM)))))
  clear B0 B1 B2 T1 T2 S2 f2 hRw hpw hM0 hM
  -- what a way behind w2 turns is new behind w
  go_loopg [4, 5, 6, 8, 9] (fuel bs) (fun k s4 s5 s6 s8 s9 wr => ∃ (last a1 : Nat) (out1 : List UInt8) (oa1 : Option Addr) (oc1 : Nat), s8 = .int .i64 (last : Nat) ∧ St wr R p F bs a1 out1 oa1 oc1 m ∧ Way w2 R p none wr oa1 ∧ (last = 0 → irawF bs m k out1 a1 = M0 ∧ 8 * bs.length + 1 ≤ a1 + k) ∧ (last ≠ 0 → M0 = .ok (out1, a1)))
  case atStart => exact ⟨0, 0, [], none, 0, rfl, HK.out.1, .refl _ _ _ _, fun _ => ⟨HK.out.2.2.2.2.1.symm, by unfold fuel; omega⟩, fun h => absurd rfl h⟩
  case round =>
    obtain ⟨last, a1, out1, oa1, oc1, rfl, hst, hway, hl0, hl1⟩ := hrel
    have hup : ∀ (w' : World), Fr (R :: p :: blk oa1) wr w' → Fr [] w w' := fun w' f => by
      have f1 : Fr (R :: p :: blk none) w2 w' := hway.frW f
      refine HK.out.2.1.step f1 (fun x hx => .inr ?_)
      simp only [List.mem_cons, blk, List.not_mem_nil, or_false] at hx
      rcases hx with rfl | rfl
      · exact HK.out.2.2.1
      · exact HK.out.2.2.2.1
    by_cases hl : last = 0
    · subst hl
      obtain ⟨hir, hfu⟩ := hl0 rfl
      have ha8 := hst.pF.2
      obtain ⟨k, rfl⟩ : ∃ k, gk = k + 1 := ⟨gk - 1, by omega⟩
      have HJ := Lib.hid (And.intro hst (And.intro hway (And.intro hir hfu)))
      have HU := Lib.hid hup
      clear hst hway hl0 hl1 hir hfu hup
      have ix0 : ∀ w : World, (Instr.index 60 (.agg #[.func (.func 34) #[] #[], .func (.func 35) #[] #[], .func (.func 36) #[] #[]]) (.int .i64 0)).run Try.prog w = .ok (.func (.func 34) #[] #[]) w := fun _ => by kernel_rfl
      have ix1 : ∀ w : World, (Instr.index 60 (.agg #[.func (.func 34) #[] #[], .func (.func 35) #[] #[], .func (.func 36) #[] #[]]) (.int .i64 1)).run Try.prog w = .ok (.func (.func 35) #[] #[]) w := fun _ => by kernel_rfl
      have ix2 : ∀ w : World, (Instr.index 60 (.agg #[.func (.func 34) #[] #[], .func (.func 35) #[] #[], .func (.func 36) #[] #[]]) (.int .i64 2)).run Try.prog w = .ok (.func (.func 36) #[] #[]) w := fun _ => by kernel_rfl
      go_wp2_with (first
        | (go_at_call 20; (with_reducible refine (HB.out.2.2.2.1 wr a1 out1 oa1 oc1 HJ.out.1).mono ?_); rintro e w3 (⟨v, c, hm, hc0, hc1, rfl, f3⟩ | ⟨last, a2, hm, rfl, s3, f3⟩); all_goals (try (have hv1 := itake_lt hm; have K3 := Lib.hid (And.intro hm (And.intro s3 f3)); clear hm s3 f3)))
        | (go_at_call 20; (with_reducible refine (HB.out.2.2.2.2 w3 a2 out1 oa1 oc1 K3.out.2.1).mono ?_); rintro e w4 (⟨v, c, hm, hc0, hc1, rfl, f4⟩ | ⟨h, a3, hm, rfl, s4, f4⟩); rotate_left; (have hv2 := itake_lt hm; rcases (show h = 0 ∨ h = 1 ∨ h = 2 ∨ h = 3 by omega) with rfl | rfl | rfl | rfl); all_goals (try (have K4 := Lib.hid (And.intro hm (And.intro s4 f4)); clear hm s4 f4)))
        | (go_at_call 21; refine (kinds_any w4).mono ?_; rintro e w5 ⟨he, f5⟩; unfold kindV at he; subst he; have K5 := Lib.hid f5; clear f5)
        | (go_at_call 34; refine (HB.out.1 w5 a3 out1 oa1 oc1 (K4.out.2.1.fr0 K5.out)).mono ?_; rintro e w6 (⟨c, hm, hc0, hc1, rfl, f6⟩ | ⟨o6, a6, oa6, oc6, hm, rfl, s6, f6⟩); all_goals (have Km := Lib.hid hm; clear hm); all_goals (try (have K6 := Lib.hid (And.intro s6 f6); clear s6 f6)))
        | (go_at_call 35; refine (HB.out.2.1 w5 a3 out1 oa1 oc1 (K4.out.2.1.fr0 K5.out)).mono ?_; rintro e w6 (⟨c, hm, hc0, hc1, rfl, f6⟩ | ⟨o6, a6, oa6, oc6, hm, rfl, s6, f6⟩); all_goals (have Km := Lib.hid hm; clear hm); all_goals (try (have K6 := Lib.hid (And.intro s6 f6); clear s6 f6)))
        | (go_at_call 36; refine (HB.out.2.2.1 w5 a3 out1 oa1 oc1 (K4.out.2.1.fr0 K5.out)).mono ?_; rintro e w6 (⟨c, hm, hc0, hc1, rfl, f6⟩ | ⟨o6, a6, oa6, oc6, hm, rfl, s6, f6⟩); all_goals (have Km := Lib.hid hm; clear hm); all_goals (try (have K6 := Lib.hid (And.intro s6 f6); clear s6 f6))))
      · go_ret3
        refine .inl ⟨c, ?_, hc0, hc1, rfl, HU.out _ f3⟩
        rw [HK.out.2.2.2.2.2, ← HJ.out.2.2.1, irawF]
        simp only [hm]
        rfl
      · go_ret3
        refine .inl ⟨c, ?_, hc0, hc1, rfl, HU.out _ ((K3.out.2.2.trans (K4.out.2.2.trans (K5.out.mono (by simp)))).mono (by simp) |>.trans f6)⟩
        rw [HK.out.2.2.2.2.2, ← HJ.out.2.2.1, irawF]
        simp only [K3.out.1, K4.out.1, if_neg (show ¬ 0 = 3 by decide), Km.out]
        rfl
      · go_roundg k
        case measure => omega
        case rel =>
          have h1 := itake_at K3.out.1
          have h2 := itake_at K4.out.1
          have h3 := iblock_at Km.out
          have hfu := HJ.out.2.2.2
          have hst : irawF bs m (k + 1) out1 a1 = if last = 0 then irawF bs m k o6 a6 else .ok (o6, a6) := by
            rw [irawF]
            simp only [K3.out.1, K4.out.1, if_neg (show ¬ 0 = 3 by decide), Km.out]
          rw [HJ.out.2.2.1] at hst
          refine ⟨last, a6, o6, oa6, oc6, rfl, K6.out.1, (HJ.out.2.1.trans (Way.of _ _ _ _ _ (K3.out.2.2.trans (K4.out.2.2.trans (K5.out.mono (by simp)))))).trans K6.out.2, fun h0 => ⟨?_, by omega⟩, fun h0 => ?_⟩
          · rw [if_pos h0] at hst; exact hst.symm
          · rw [if_neg h0] at hst; exact hst
      · go_ret3
        refine .inl ⟨c, ?_, hc0, hc1, rfl, HU.out _ ((K3.out.2.2.trans (K4.out.2.2.trans (K5.out.mono (by simp)))).mono (by simp) |>.trans f6)⟩
        rw [HK.out.2.2.2.2.2, ← HJ.out.2.2.1, irawF]
        simp only [K3.out.1, K4.out.1, if_neg (show ¬ 1 = 3 by decide), Km.out]
        rfl
      · go_roundg k
        case measure => omega
        case rel =>
          have h1 := itake_at K3.out.1
          have h2 := itake_at K4.out.1
          have h3 := iblock_at Km.out
          have hfu := HJ.out.2.2.2
          have hst : irawF bs m (k + 1) out1 a1 = if last = 0 then irawF bs m k o6 a6 else .ok (o6, a6) := by
            rw [irawF]
            simp only [K3.out.1, K4.out.1, if_neg (show ¬ 1 = 3 by decide), Km.out]
          rw [HJ.out.2.2.1] at hst
          refine ⟨last, a6, o6, oa6, oc6, rfl, K6.out.1, (HJ.out.2.1.trans (Way.of _ _ _ _ _ (K3.out.2.2.trans (K4.out.2.2.trans (K5.out.mono (by simp)))))).trans K6.out.2, fun h0 => ⟨?_, by omega⟩, fun h0 => ?_⟩
          · rw [if_pos h0] at hst; exact hst.symm
          · rw [if_neg h0] at hst; exact hst
      · go_ret3
        refine .inl ⟨c, ?_, hc0, hc1, rfl, HU.out _ ((K3.out.2.2.trans (K4.out.2.2.trans (K5.out.mono (by simp)))).mono (by simp) |>.trans f6)⟩
        rw [HK.out.2.2.2.2.2, ← HJ.out.2.2.1, irawF]
        simp only [K3.out.1, K4.out.1, if_neg (show ¬ 2 = 3 by decide), Km.out]
        rfl
      · go_roundg k
        case measure => omega
        case rel =>
          have h1 := itake_at K3.out.1
          have h2 := itake_at K4.out.1
          have h3 := iblock_at Km.out
          have hfu := HJ.out.2.2.2
          have hst : irawF bs m (k + 1) out1 a1 = if last = 0 then irawF bs m k o6 a6 else .ok (o6, a6) := by
            rw [irawF]
            simp only [K3.out.1, K4.out.1, if_neg (show ¬ 2 = 3 by decide), Km.out]
          rw [HJ.out.2.2.1] at hst
          refine ⟨last, a6, o6, oa6, oc6, rfl, K6.out.1, (HJ.out.2.1.trans (Way.of _ _ _ _ _ (K3.out.2.2.trans (K4.out.2.2.trans (K5.out.mono (by simp)))))).trans K6.out.2, fun h0 => ⟨?_, by omega⟩, fun h0 => ?_⟩
          · rw [if_pos h0] at hst; exact hst.symm
          · rw [if_neg h0] at hst; exact hst
      · go_ret3
        refine .inl ⟨3, ?_, by decide, by decide, rfl, HU.out _ ((K3.out.2.2.trans K4.out.2.2).mono (by simp))⟩
        rw [HK.out.2.2.2.2.2, ← HJ.out.2.2.1, irawF]
        simp only [K3.out.1, K4.out.1, if_pos]
        rfl
      · go_ret3
        refine .inl ⟨c, ?_, hc0, hc1, rfl, HU.out _ ((K3.out.2.2.mono (by simp)).trans f4)⟩
        rw [HK.out.2.2.2.2.2, ← HJ.out.2.2.1, irawF]
        simp only [K3.out.1, hm]
        rfl
    · have hM : M = .ok (out1, (a1 + 7) / 8) := by rw [HK.out.2.2.2.2.2, hl1 hl]; rfl
      have c0 := cell_of hst.box 0
      have c1 := cell_of hst.box 1
      simp only [List.getElem?_toArray, List.getElem?_cons_zero, List.getElem?_cons_succ] at c0 c1
      obtain ⟨N, hN⟩ : ∃ N, N = out1.length := ⟨_, rfl⟩
      rw [← hN] at c1
      obtain ⟨hro, hrl⟩ := rd_of_owns hst.own
      have hle := hro.le
      rw [← hN] at hle
      have hsl := fun w => run_slice_cut3 bits.sliceU8 N oa1 oc1 hle w
      have hus : ∀ w', Fr [] wr w' → Calls Try.prog 22 #[.pointer (some ⟨p, 0, none⟩)] w' fun e w'' => e = .returned (.int .i64 ((a1 + 7) / 8 : Nat)) ∧ w'' = w' := fun w' f' => (bits.used_any p F bs a1 w' (bits.rd_fr hst.rd f' (by simp))).mono fun e w'' h => ⟨h.1, h.2.symm⟩
      obtain ⟨u, hu⟩ : ∃ u, u = (a1 + 7) / 8 := ⟨_, rfl⟩
      rw [← hu] at hM hus
      have hNm : N ≤ m := by rw [hN]; exact hst.om
      have hl9 : ((last : Int) == 0) = false := by simp; omega
      have HJ := Lib.hid (And.intro hst (And.intro hway (And.intro hM (And.intro hN (And.intro hro hus)))))
      have HU := Lib.hid hup
      clear hst hway hl0 hl1 hup hM hN hro hrl hus hu
      go_upto_region 16 with fail
      go_quiet (exact Calls.quiet_of_same (HJ.out.2.2.2.2.2 _ (Fr.drewN [] _ _)))
      go_wp2
      go_ret3
      have hN := HJ.out.2.2.2.1
      have hro := HJ.out.2.2.2.2.1
      refine .inr ⟨out1, u, oa1, HJ.out.2.2.1, by rw [hN]; rfl, ?_, fun x hx => ⟨?_, ?_⟩, HU.out _ (Fr.drewN _ _ _)⟩
      · have h1 : lib.Rd wr oa1 out1.length out1 := ⟨hro.cs, Nat.le_refl _, Nat.le_trans hro.le hro.max, fun h => by have := hro.nil h; have := hro.le; omega⟩
        exact h1.fr (Fr.drewN _ _ _)
      · rcases HJ.out.2.1.new x hx with h1 | h1
        · simp [blk] at h1
        · exact Nat.le_trans HK.out.2.1.size h1
      · exact owns_lt HJ.out.1.own (blk_own hx)
end Go.Proofs.Ytolkoidbkaidkaa.inf
/-
  stemmalaw7.awake.
-/
namespace Go.Proofs.Ytolkoidbkaidkaa.defl
open Go Go.RowKit Go.Proofs.Ytolkoidbkaidkaa.lib Go.Proofs.Ytolkoidbkaidkaa.bm Go.Proofs.Ytolkoidbkaidkaa.bl Go.Proofs.Ytolkoidbkaidkaa.wb

theorem plain_ab : plainBytes [97, 98] = [1, 2, 0, 253, 255, 97, 98] := by decide +kernel
theorem zlib_nil : zlibOf 0 (plainBytes []) [] = [120, 1, 1, 0, 0, 255, 255, 0, 0, 0, 1] := by decide +kernel
set_option maxRecDepth 100000 in
set_option maxHeartbeats 4000000 in
theorem awake_any (w : World) : Calls Try.prog 6 #[] w fun e w' => e = .returned (.bool true) ∧ Fr [] w w' := by
  have kc := fun (w : World) (C : Array Value) (n c : Nat) => Lib.run_convert_bytes_const (P := Try.prog) w 22 5 C n c Try.underlying22 Try.underlying5
  go_enter Try.func6, Try.ntmps6
  go_upto_region 1 with fail
  go_wp2_with fail
  have r1 : lib.Rd (w.alloc (.cells #[.int .u8 97, .int .u8 98] 5 (2, 3))) (some ⟨w.heap.size, 0, none⟩) 2 [97, 98] := ⟨cs_new w _ _ _, Nat.le_refl _, by decide, fun h => by cases h⟩
  have f1 : Fr [] w (w.alloc (.cells #[.int .u8 97, .int .u8 98] 5 (2, 3))) := (Fr.refl [] w).alloc _
  have h1 := raw_zero _ 2 [97, 98] 0 _ r1 (by decide) (Int.le_refl _)
  unfold NewBytes at h1
  rw [plain_ab] at h1
  refine h1.mono ?_
  rintro e w2 ⟨a2, rfl, r2, _, f2⟩
  have cv1 := run_conv w2 Try.underlying22 Try.underlying5 Try.underlying9 (n := 7) (bs := [1, 2, 0, 253, 255, 97, 98]) rfl r2.cs
  have hst := str_toList [1, 2, 0, 253, 255, 97, 98]
  have HF := Lib.hid (f1.trans f2)
  clear h1 r1 f1 r2 f2
  go_wp2_with fail
  clear cv1 hst kc
  have h2 := zlib_of none 0 [] (plainBytes []) 0 w2 (Rd.none w2) (by decide +kernel) (fun w' _ => raw_zero none 0 [] 0 w' (Rd.none w') (by decide) (Int.le_refl _))
  rw [zlib_nil] at h2
  unfold NewBytes at h2
  refine h2.mono ?_
  rintro e w3 ⟨a3, rfl, r3, _, f3⟩
  have cv1 := run_conv w3 Try.underlying22 Try.underlying5 Try.underlying9 (n := 11) (bs := [120, 1, 1, 0, 0, 255, 255, 0, 0, 0, 1]) rfl r3.cs
  have hst := str_toList [120, 1, 1, 0, 0, 255, 255, 0, 0, 0, 1]
  have HF2 := Lib.hid (HF.out.trans f3)
  clear h2 r3 f3
  go_wp2_with fail
  go_ret
  exact ⟨by first | rfl | simp, HF2.out⟩
end Go.Proofs.Ytolkoidbkaidkaa.defl
/-
  A text of one byte: its matches, and how long its fixed block is (plain).
-/
namespace Go.Proofs.Ytolkoidbkaidkaa.trip
open Go Go.Proofs.Ytolkoidbkaidkaa.lib Go.Proofs.Ytolkoidbkaidkaa.bm Go.Proofs.Ytolkoidbkaidkaa.bl Go.Proofs.Ytolkoidbkaidkaa.huf Go.Proofs.Ytolkoidbkaidkaa.inf Go.Proofs.Ytolkoidbkaidkaa.defl Go.Proofs.Ytolkoidbkaidkaa.mat

theorem rep_get {n : Nat} {c : UInt8} {i : Nat} (h : i < n) : (List.replicate n c)[i]? = some c := by rw [List.getElem?_replicate, if_pos h]
def k3 (c : UInt8) : Nat := c.toNat + 256 * c.toNat + 65536 * c.toNat
theorem rep_three {n : Nat} {c : UInt8} {i : Nat} (h : i + 3 ≤ n) : three (List.replicate n c) i = k3 c := by
  unfold three k3
  rw [rep_get (by omega), rep_get (by omega), rep_get (by omega)]
  rfl
theorem rep_alike {n : Nat} {c : UInt8} {p i : Nat} (hp : p < i) (hi : i ≤ n) : alike (List.replicate n c) p i = min 258 (n - i) := by
  obtain ⟨M, hM⟩ : ∃ M, M = min 258 (n - i) := ⟨_, rfl⟩
  obtain ⟨f, hf⟩ : ∃ f, f + M = 258 := ⟨258 - M, by omega⟩
  rw [← hM]
  unfold alike
  rw [← hf, alikeF_add _ p i M f 0 (fun k _ hk => by
    rw [rep_get (by omega), rep_get (by omega), List.length_replicate]
    exact ⟨by omega, rfl⟩), Nat.zero_add]
  cases f with
  | zero => rfl
  | succ f => rw [alikeF, if_neg (by rw [List.length_replicate]; omega)]
theorem rep_last {n : Nat} {c : UInt8} {i : Nat} (h : i + 3 ≤ n) : last (List.replicate n c) (i + 1) (k3 c) = some i := by
  rw [last, if_pos ⟨by rw [List.length_replicate]; exact h, rep_three h⟩]
theorem rep_best {n : Nat} {c : UInt8} {i : Nat} (h1 : 1 ≤ i) (h : i + 3 ≤ n) : (best (List.replicate n c) 32768 i).1 = min 258 (n - i) := by
  obtain ⟨j, rfl⟩ : ∃ j, i = j + 1 := ⟨i - 1, by omega⟩
  have hpos : 0 < (best (List.replicate n c) 32768 (j + 1)).1 := by
    unfold best
    rw [rep_three h, rep_last (by omega), chase, if_pos (by omega), rep_alike (by omega) (by omega), if_pos (by omega)]
    have := (chase_spec (List.replicate n c) 32768 (j + 1) 47 (last (List.replicate n c) j (three (List.replicate n c) j)) (min 258 (n - (j + 1))) j (fun q hq => by have := (last_lt _ _ _ _ hq).1; omega) (.inr ⟨(rep_alike (by omega) (by omega)).symm, by omega, by omega⟩)).1
    omega
  obtain ⟨e, h2, _⟩ := best_spec _ _ _ hpos
  rw [e, rep_alike h2 (by omega)]
theorem rep_best0 {n : Nat} {c : UInt8} : (best (List.replicate n c) 32768 0).1 = 0 := by
  unfold best last chase
  rfl
def sumlen (l : List Mt) : Nat := (l.map fun x => x.2.1).sum
theorem fix_lit (c : UInt8) : (tbits (alw 288) (List.replicate 30 5) (.lit c)).length ≤ 9 := by
  rw [tbits, sbits_length]
  have h : ∀ s, s < 256 → lenAt (alw 288) s ≤ 9 := by decide +kernel
  exact h _ c.toNat_lt
theorem fix_mat {n d : Nat} (h3 : 3 ≤ n) (h258 : n ≤ 258) (h1 : 1 ≤ d) (hd : d ≤ 32768) : (tbits (alw 288) (List.replicate 30 5) (.mat n d)).length ≤ 32 := by
  have h : ∀ s, s < 286 → lenAt (alw 288) s ≤ 9 := by decide +kernel
  have k : ∀ s, s < 30 → lenAt (List.replicate 30 5) s ≤ 5 := by decide +kernel
  have a1 := lcode_lt h3 h258
  have a2 := dcode_lt h1 hd
  have b1 := h _ a1.2.1
  have b2 := k _ a2.1
  simp only [tbits, List.length_append, sbits_length, lsb_length]
  omega
theorem tsbits_cons (ll dl : List Nat) (x : Tok) (t : List Tok) : (tsbits ll dl (x :: t)).length = (tbits ll dl x).length + (tsbits ll dl t).length := by
  unfold tsbits
  rw [List.flatMap_cons, List.length_append]
theorem rep_rest {n : Nat} {c : UInt8} : ∀ (j i : Nat), j = n - i → (tsbits (alw 288) (List.replicate 30 5) (toks (List.replicate n c) i [])).length ≤ 9 * j
  | 0, i, h => by
    rw [toks_end (by rw [List.length_replicate]; omega)]
    exact Nat.le_refl _
  | j + 1, i, h => by
    rw [toks_lit (by rw [List.length_replicate]; omega) (fun a n d t he => by cases he), tsbits_cons]
    have := rep_rest (n := n) (c := c) j (i + 1) (by omega)
    have := fix_lit ((List.replicate n c)[i]'(by rw [List.length_replicate]; omega))
    omega
theorem rep_loop {n : Nat} {c : UInt8} : ∀ (f i : Nat), 1 ≤ i → i ≤ n → n - i ≤ f →
    (tsbits (alw 288) (List.replicate 30 5) (toks (List.replicate n c) i (mloop (List.replicate n c) 32768 f i))).length ≤ 32 * ((n - i) / 258 + 1) ∧
    sumlen (mloop (List.replicate n c) 32768 f i) + i ≤ n ∧ n ≤ i + sumlen (mloop (List.replicate n c) 32768 f i) + 2
  | 0, i, h1, h2, h3 => by
    obtain rfl : i = n := by omega
    rw [mloop, toks_end (by rw [List.length_replicate]; exact Nat.le_refl _)]
    exact ⟨by simp [tsbits], by simp [sumlen], by omega⟩
  | f + 1, i, h1, h2, h3 => by
    have hch := mloop_chain (List.replicate n c) 32768 (f + 1) i
    rw [mloop, List.length_replicate] at hch ⊢
    by_cases h : i + 3 ≤ n
    · have hb := rep_best (c := c) h1 h
      have h33 : 3 ≤ (best (List.replicate n c) 32768 i).1 := by omega
      rw [if_pos h, if_pos h33] at hch ⊢
      obtain ⟨_, k2, k3, k4, k5, _, _, _, _⟩ := hch
      have hs : mat.step (List.replicate n c) 32768 i = (best (List.replicate n c) 32768 i).1 := if_pos h33
      rw [hs]
      generalize i - (best (List.replicate n c) 32768 i).2 = d at *
      generalize (best (List.replicate n c) 32768 i).1 = m at *
      have ih := rep_loop (n := n) (c := c) f (i + m) (by omega) (by omega) (by omega)
      have hm := fix_mat k2 k3 k4 k5
      rw [toks_mat (by rw [List.length_replicate]; omega) (by omega), tsbits_cons]
      refine ⟨?_, ?_, ?_⟩
      · by_cases hm8 : m = 258
        · subst hm8
          omega
        · have e : i + m = n := by omega
          have e2 : toks (List.replicate n c) (i + m) (mloop (List.replicate n c) 32768 f (i + m)) = [] := toks_end (by rw [List.length_replicate]; omega)
          rw [e2]
          have e3 : (tsbits (alw 288) (List.replicate 30 5) []).length = 0 := rfl
          omega
      · simp only [sumlen, List.map_cons, List.sum_cons] at ih ⊢
        omega
      · simp only [sumlen, List.map_cons, List.sum_cons] at ih ⊢
        omega
    · rw [if_neg h]
      have := rep_rest (n := n) (c := c) (n - i) i rfl
      exact ⟨by omega, by simp [sumlen]; exact h2, by simp [sumlen]; omega⟩
theorem rep_all (n : Nat) (c : UInt8) : (tsbits (alw 288) (List.replicate 30 5) (toksOf (List.replicate n c))).length ≤ 32 * (n / 258 + 1) + 27 ∧
    sumlen (matches_ (List.replicate n c) 32768) ≤ n ∧ (4 ≤ n → n ≤ sumlen (matches_ (List.replicate n c) 32768) + 3) := by
  unfold toksOf matches_
  rw [if_pos (by decide), show (min 32768 32768 : Int).toNat = 32768 from rfl, List.length_replicate]
  cases n with
  | zero => exact ⟨by rw [toks_end (by simp)]; simp [tsbits], by simp [mloop, sumlen], fun h => by omega⟩
  | succ n =>
    rw [mloop, List.length_replicate]
    by_cases h : 0 + 3 ≤ n + 1
    · have hs : mat.step (List.replicate (n + 1) c) 32768 0 = 1 := if_neg (by rw [rep_best0]; decide)
      rw [if_pos h, rep_best0, if_neg (by decide), hs, Nat.zero_add]
      obtain ⟨h1, h2, h3⟩ := rep_loop (n := n + 1) (c := c) n 1 (Nat.le_refl _) (by omega) (by omega)
      have hch := mloop_chain (List.replicate (n + 1) c) 32768 n 1
      generalize mloop (List.replicate (n + 1) c) 32768 n 1 = l at *
      have e : toks (List.replicate (n + 1) c) 0 l = .lit (List.replicate (n + 1) c)[0] :: toks (List.replicate (n + 1) c) 1 l := toks_lit (by simp) (fun a n d t he => by
        rw [he] at hch
        have := hch.1
        omega)
      rw [e, tsbits_cons]
      have := fix_lit (List.replicate (n + 1) c)[0]
      exact ⟨by omega, by omega, fun _ => by omega⟩
    · rw [if_neg h]
      have := rep_rest (n := n + 1) (c := c) (n + 1) 0 rfl
      exact ⟨by omega, by simp [sumlen], fun h => by omega⟩
theorem rep_fixed {n : Nat} {c : UInt8} {bf : List Bool} (h : FixedB (List.replicate n c) bf) : (bytesOf bf).length ≤ 40 + n / 50 := by
  obtain ⟨hd, e, h0, _⟩ := h
  rw [h0 rfl] at e
  have h1 := (rep_all n c).1
  have h2 : lenAt (alw 288) 256 ≤ 9 := by decide +kernel
  rw [bytesOf_length, e]
  simp only [List.length_append, sbits_length, lsb_length, List.length_cons, List.length_nil]
  omega
end Go.Proofs.Ytolkoidbkaidkaa.trip
