/-
  Texts of this proof, one behind the other: RfH, InfF, InfJ, RfI, RfJ, InfG, InfI, RfK, InfK.
-/
import Derived.Test.YtkmpfgpfbmeihaaGreatDoorG4
import Derived.Laws.Rows
set_option maxRecDepth 100000
set_option linter.unusedVariables false
set_option linter.unusedSimpArgs false
namespace Go.Proofs.YtkmpfgpfbmeihaaGreatDoor.inf
open Go Go.RowKit lib bm bl huf
theorem fixed_succ (n : Nat) : fixed (n + 1) = fixed n ++ [ifix n] := by unfold fixed; rw [List.range_succ, List.map_append]; rfl
theorem ints_snoc (a b : List Nat) : ints (a ++ b) = ints a ++ ints b := by simp [ints]
def RFixedGood (w : World) (e : Ending) (w' : World) : Prop :=
 ∃ a1 c1 a2 c2, e = .returned (.tuple #[.slice a1 288 c1, .slice a2 32 c2]) ∧ Made w w' 3 1 a1 288 c1 (ints (fixed 288)) ∧ Made w w' 3 1 a2 32 c2 (ints (List.replicate 32 5))
set_option maxHeartbeats 4000000 in
theorem rfixed_any (w : World) : Calls Tryz.prog 141 #[] w (RFixedGood w) := by
 go_enter Tryz.func141, Tryz.ntmps141
 go_wp2
 go_loopg [2, 4, 5] 288 (fun k s2 s4 s5 wr => ∃ (i : Nat) (ao : Option Addr) (cp : Nat), s4 = .int .i64 (i : Nat) ∧ s2 = .slice ao i cp ∧ i + k = 288 ∧ Made w wr 3 1 ao i cp (ints (fixed i)))
 case atStart => exact ⟨0, none, 0, rfl, rfl, rfl, .none w _ _⟩
 case round =>
  obtain ⟨i, ao, cp, rfl, rfl, hik, hm⟩ := hrel
  have HI := Lib.hid (And.intro hm hik)
  clear hm
  by_cases hi : i < 288
  ·obtain ⟨k, rfl⟩ : ∃ k, gk = k + 1 := ⟨gk - 1, by omega⟩
   clear hik
   by_cases h1 : i < 144
   ·go_wp2_with (refine wpList_append sty_int rfl _ _ rfl (.slice ao i cp) i (ints (fixed i)) (blk ao) rfl (own_blk ao i cp) (HI.out.1.fr2 ((Fr.refl [] _).alloc _)).own (some ⟨wr.heap.size, 0, none⟩) 1 1 [.int .i64 (8 : Nat)] (by first | rfl | simp) (Nat.le_refl _) (fun h => by cases h) (cs_one _ _ _ _ (alloc_at _ _)) rfl (by intro u hu; simp only [List.mem_singleton] at hu; rw [hu]; rfl) (by omega) (by unfold maxLen; omega) ?_; intro ao2 cp2 w2 hap; have HA := Lib.hid ((HI.out.1.fr2 ((Fr.refl [] _).alloc _)).app hap); clear hap)
    go_roundg k
    case measure => omega
    case rel =>
     refine ⟨i + 1, ao2, cp2, by go_num, rfl, by have := HI.out.2; omega, ?_⟩
     have hA3 := HA.out
     rw [fixed_succ, ints_snoc, ifix_1 h1]
     exact hA3
   ·by_cases h2 : i < 256
    ·have h4 : ¬ 280 ≤ i := by omega
     go_wp2_with (refine wpList_append sty_int rfl _ _ rfl (.slice ao i cp) i (ints (fixed i)) (blk ao) rfl (own_blk ao i cp) (HI.out.1.fr2 ((Fr.refl [] _).alloc _)).own (some ⟨wr.heap.size, 0, none⟩) 1 1 [.int .i64 (9 : Nat)] (by first | rfl | simp) (Nat.le_refl _) (fun h => by cases h) (cs_one _ _ _ _ (alloc_at _ _)) rfl (by intro u hu; simp only [List.mem_singleton] at hu; rw [hu]; rfl) (by omega) (by unfold maxLen; omega) ?_; intro ao2 cp2 w2 hap; have HA := Lib.hid ((HI.out.1.fr2 ((Fr.refl [] _).alloc _)).app hap); clear hap)
     go_roundg k
     case measure => omega
     case rel =>
      refine ⟨i + 1, ao2, cp2, by go_num, rfl, by have := HI.out.2; omega, ?_⟩
      have hA3 := HA.out
      rw [fixed_succ, ints_snoc, ifix_2 h1 h2]
      exact hA3
    ·by_cases h3 : i < 280
     ·have h4 : ¬ 280 ≤ i := by omega
      go_wp2_with (refine wpList_append sty_int rfl _ _ rfl (.slice ao i cp) i (ints (fixed i)) (blk ao) rfl (own_blk ao i cp) (HI.out.1.fr2 ((Fr.refl [] _).alloc _)).own (some ⟨wr.heap.size, 0, none⟩) 1 1 [.int .i64 (7 : Nat)] (by first | rfl | simp) (Nat.le_refl _) (fun h => by cases h) (cs_one _ _ _ _ (alloc_at _ _)) rfl (by intro u hu; simp only [List.mem_singleton] at hu; rw [hu]; rfl) (by omega) (by unfold maxLen; omega) ?_; intro ao2 cp2 w2 hap; have HA := Lib.hid ((HI.out.1.fr2 ((Fr.refl [] _).alloc _)).app hap); clear hap)
      go_roundg k
      case measure => omega
      case rel =>
       refine ⟨i + 1, ao2, cp2, by go_num, rfl, by have := HI.out.2; omega, ?_⟩
       have hA3 := HA.out
       rw [fixed_succ, ints_snoc, ifix_3 h1 h2 h3]
       exact hA3
     ·have h4 : 280 ≤ i := by omega
      go_wp2_with (refine wpList_append sty_int rfl _ _ rfl (.slice ao i cp) i (ints (fixed i)) (blk ao) rfl (own_blk ao i cp) (HI.out.1.fr2 ((Fr.refl [] _).alloc _)).own (some ⟨wr.heap.size, 0, none⟩) 1 1 [.int .i64 (8 : Nat)] (by first | rfl | simp) (Nat.le_refl _) (fun h => by cases h) (cs_one _ _ _ _ (alloc_at _ _)) rfl (by intro u hu; simp only [List.mem_singleton] at hu; rw [hu]; rfl) (by omega) (by unfold maxLen; omega) ?_; intro ao2 cp2 w2 hap; have HA := Lib.hid ((HI.out.1.fr2 ((Fr.refl [] _).alloc _)).app hap); clear hap)
      go_roundg k
      case measure => omega
      case rel =>
       refine ⟨i + 1, ao2, cp2, by go_num, rfl, by have := HI.out.2; omega, ?_⟩
       have hA3 := HA.out
       rw [fixed_succ, ints_snoc, ifix_4 h1 h2 h3]
       exact hA3
  ·obtain rfl : i = 288 := by omega
   clear hik
   obtain ⟨wo, rfl⟩ : ∃ wo : World, wo = wr := ⟨_, rfl⟩
   go_wp2
   go_loopg [3, 6] 32 (fun k s3 s6 wr => ∃ (j : Nat) (a2 : Option Addr) (c2 : Nat), s6 = .int .i64 (j : Nat) ∧ s3 = .slice a2 j c2 ∧ j + k = 32 ∧ Made wo wr 3 1 a2 j c2 (ints (List.replicate j 5)))
   case atStart => exact ⟨0, none, 0, rfl, rfl, rfl, .none wo _ _⟩
   case round =>
    obtain ⟨j, a2, c2, rfl, rfl, hjk, hm⟩ := hrel
    have HJ := Lib.hid (And.intro hm hjk)
    clear hm
    by_cases hj : j < 32
    ·obtain ⟨k, rfl⟩ : ∃ k, gk = k + 1 := ⟨gk - 1, by omega⟩
     clear hjk
     go_wp2_with (refine wpList_append sty_int rfl _ _ rfl (.slice a2 j c2) j (ints (List.replicate j 5)) (blk a2) rfl (own_blk a2 j c2) (HJ.out.1.fr2 ((Fr.refl [] _).alloc _)).own (some ⟨wr.heap.size, 0, none⟩) 1 1 [.int .i64 (5 : Nat)] (by first | rfl | simp) (Nat.le_refl _) (fun h => by cases h) (cs_one _ _ _ _ (alloc_at _ _)) rfl (by intro u hu; simp only [List.mem_singleton] at hu; rw [hu]; rfl) (by omega) (by unfold maxLen; omega) ?_; intro ao2 cp2 w2 hap; have HA := Lib.hid ((HJ.out.1.fr2 ((Fr.refl [] _).alloc _)).app hap); clear hap)
     go_roundg k
     case measure => omega
     case rel =>
      refine ⟨j + 1, ao2, cp2, by go_num, rfl, by have := HJ.out.2; omega, ?_⟩
      have hA3 := HA.out
      rw [List.replicate_succ', ints_snoc]
      exact hA3
    ·obtain rfl : j = 32 := by omega
     clear hjk
     go_wp2
     go_ret2
     exact ⟨ao, cp, a2, c2, rfl, HI.out.1.fr2 HJ.out.1.fr, HJ.out.1.pre HI.out.1.fr⟩
end Go.Proofs.YtkmpfgpfbmeihaaGreatDoor.inf
namespace Go.Proofs.YtkmpfgpfbmeihaaGreatDoor.inf
open Go Go.RowKit lib bm bl huf
def WholeGood (w : World) (ls : List Nat) (few : Bool) (e : Ending) (w' : World) : Prop :=
 (iwhole ls few = false ∧ e = .returned (.tuple #[.pointer none, .int .i64 3]) ∧ Fr [] w w') ∨
 (iwhole ls few = true ∧ NewTab w ls e w')
theorem some_snoc (l : List Nat) (x : Nat) : some_ (l ++ [x]) = some_ l + if 0 < x then 1 else 0 := by
 unfold some_
 rw [List.filter_append, List.length_append]
 split <;> simp [*]
theorem ones_snoc (l : List Nat) (x : Nat) : ones (l ++ [x]) = (ones l && decide (x ≤ 1)) := by
 unfold ones
 rw [List.all_append]
 simp
theorem some_le (l : List Nat) : some_ l ≤ l.length := List.length_filter_le _ _
set_option maxHeartbeats 2000000 in
theorem whole_any (a : Option Addr) (cap : Nat) (ls : List Nat) (few : Bool) (w : World) (h : Ri w a cap ls) (hle : ∀ l ∈ ls, l ≤ 15) (hlen : ls.length ≤ 400) :
  Calls Tryz.prog 190 #[.slice a ls.length cap, .bool few] w (WholeGood w ls few) := by
 obtain ⟨N, hN⟩ : ∃ N, N = ls.length := ⟨_, rfl⟩
 by_cases hw : weight ls ≤ 32768
 ·have hnew := new_tab a cap ls w h hle hlen hw
  rw [← hN] at hnew hlen ⊢
  have H := Lib.hid (And.intro h (And.intro hle (And.intro hN (And.intro hnew hw))))
  clear h hle hN hnew hw
  go_enter Tryz.func190, Tryz.ntmps190
  go_upto_block 0 with (go_at_call 187; refine H.out.2.2.2.1.mono ?_; rintro e w1 ⟨P, D, first, sa, sc, rfl, htb, f1⟩; have H1 := Lib.hid (And.intro htb f1); clear htb f1)
  go_wp2
  go_loopg [8, 9, 11, 21] N (fun k s8 s9 s11 s21 wr => ∃ i : Nat, s21 = .int .i64 (i : Nat) ∧ s8 = .int .i64 (some_ (ls.take i) : Nat) ∧ s9 = .bool (ones (ls.take i)) ∧ i + k = N ∧ w1 = wr)
  case atStart => exact ⟨0, rfl, rfl, rfl, by omega, rfl⟩
  case round =>
   obtain ⟨i, rfl, rfl, rfl, hik, rfl⟩ := hrel
   by_cases hi : i < N
   ·obtain ⟨k, rfl⟩ : ∃ k, gk = k + 1 := ⟨gk - 1, by omega⟩
    have hil : i < ls.length := by rw [← H.out.2.2.1]; exact hi
    obtain ⟨ga, o, ha, hc⟩ := (H.out.1.fr H1.out.2).at hil
    subst ha
    have hx15 := H.out.2.1 _ (List.getElem_mem hil)
    have ht : ls.take (i + 1) = ls.take i ++ [ls[i]] := by rw [List.take_succ_eq_append_getElem hil]
    obtain ⟨x, hx⟩ : ∃ x, x = ls[i] := ⟨_, rfl⟩
    rw [← hx] at hc hx15 ht
    obtain ⟨c, hcn⟩ : ∃ c, c = some_ (ls.take i) := ⟨_, rfl⟩
    have hcl : c ≤ 400 := by rw [hcn]; have := some_le (ls.take i); rw [List.length_take] at this; omega
    obtain ⟨b, hb⟩ : ∃ b, b = ones (ls.take i) := ⟨_, rfl⟩
    have e1 : some_ (ls.take (i + 1)) = c + if 0 < x then 1 else 0 := by rw [ht, some_snoc, hcn]
    have e2 : ones (ls.take (i + 1)) = (b && decide (x ≤ 1)) := by rw [ht, ones_snoc, hb]
    rw [← hcn, ← hb]
    have HI := Lib.hid (And.intro e1 e2)
    clear e1 e2 hcn hb ht hx
    by_cases h0 : x = 0
    ·subst h0
     go_wp2
     go_roundg k
     case measure => omega
     case rel => exact ⟨i + 1, by go_num, by rw [HI.out.1]; rfl, by rw [HI.out.2]; simp, by omega, rfl⟩
    ·have d0 : decide ((0 : Int) < x) = true := by simp; omega
     by_cases h1 : x = 1
     ·subst h1
      cases b
      ·go_wp2
       go_roundg k
       case measure => omega
       case rel => exact ⟨i + 1, by go_num, by rw [HI.out.1]; rfl, by rw [HI.out.2]; rfl, by omega, rfl⟩
      ·go_wp2
       go_roundg k
       case measure => omega
       case rel => exact ⟨i + 1, by go_num, by rw [HI.out.1]; rfl, by rw [HI.out.2]; rfl, by omega, rfl⟩
     ·have d1 : ((x : Int) == 1) = false := by simp; omega
      have d2 : decide (x ≤ 1) = false := by simp; omega
      have HD := Lib.hid d2
      clear d2
      cases b
      ·go_wp2
       go_roundg k
       case measure => omega
       case rel => exact ⟨i + 1, by go_num, by rw [HI.out.1, if_pos (by omega)]; rfl, by rw [HI.out.2]; rfl, by omega, rfl⟩
      ·go_wp2
       go_roundg k
       case measure => omega
       case rel => exact ⟨i + 1, by go_num, by rw [HI.out.1, if_pos (by omega)]; rfl, by rw [HI.out.2, HD.out]; rfl, by omega, rfl⟩
   ·obtain rfl : i = N := by omega
    have et : ls.take i = ls := List.take_of_length_le (by rw [← H.out.2.2.1]; exact Nat.le_refl _)
    rw [et]
    obtain ⟨c, hcn⟩ : ∃ c, c = some_ ls := ⟨_, rfl⟩
    obtain ⟨b, hb⟩ : ∃ b, b = ones ls := ⟨_, rfl⟩
    have hcl : c ≤ 400 := by rw [hcn]; have := some_le ls; rw [← H.out.2.2.1] at this; omega
    have hiw : iwhole ls few = (decide (weight ls = 32768) || (few && (decide (c < 2) && b))) := by
     unfold iwhole
     rw [← hcn, ← hb, decide_eq_true H.out.2.2.2.2, Bool.true_and]
    have hcp := complete_any a cap ls w1 (H.out.1.fr H1.out.2) H.out.2.1 (by rw [← H.out.2.2.1]; omega)
    rw [← H.out.2.2.1] at hcp
    obtain ⟨cp, hcp2⟩ : ∃ cp, cp = decide (weight ls = 32768) := ⟨_, rfl⟩
    rw [← hcp2] at hiw hcp
    rw [← hcn, ← hb]
    have HC := Lib.hid (And.intro hcp hiw)
    clear hcp hiw hcp2 hcn hb et hi hik
    have fin : iwhole ls few = false → WholeGood w ls few (.returned (.tuple #[.pointer none, .int .i64 3])) w1 := fun h0 => .inl ⟨h0, rfl, H1.out.2⟩
    have fin2 : iwhole ls few = true → WholeGood w ls few (.returned (.tuple #[.pointer (some ⟨P, 0, none⟩), .int .i64 0])) w1 := fun h0 => .inr ⟨h0, P, D, first, sa, sc, rfl, H1.out.1, H1.out.2⟩
    have HF := Lib.hid (And.intro fin fin2)
    clear fin fin2
    cases cp
    ·cases few
     ·go_wp2_with (go_at_call 208; refine HC.out.1.mono ?_; rintro e w2 ⟨rfl, rfl⟩)
      go_ret2
      exact HF.out.1 (by rw [HC.out.2]; rfl)
     ·by_cases h2 : c < 2
      ·have d2 : decide ((c : Int) < 2) = true := by simp; omega
       cases b
       ·go_wp2_with (go_at_call 208; refine HC.out.1.mono ?_; rintro e w2 ⟨rfl, rfl⟩)
        go_ret2
        exact HF.out.1 (by rw [HC.out.2]; simp)
       ·go_wp2_with (go_at_call 208; refine HC.out.1.mono ?_; rintro e w2 ⟨rfl, rfl⟩)
        go_ret2
        exact HF.out.2 (by rw [HC.out.2, decide_eq_true h2]; rfl)
      ·have d2 : decide ((c : Int) < 2) = false := by simp; omega
       go_wp2_with (go_at_call 208; refine HC.out.1.mono ?_; rintro e w2 ⟨rfl, rfl⟩)
       go_ret2
       exact HF.out.1 (by rw [HC.out.2, decide_eq_false h2]; rfl)
    ·go_wp2_with (go_at_call 208; refine HC.out.1.mono ?_; rintro e w2 ⟨rfl, rfl⟩)
     go_ret2
     exact HF.out.2 (by rw [HC.out.2]; rfl)
 ·have hnew := new_bad a cap ls w h hle hlen (by omega)
  rw [← hN] at hnew ⊢
  have hiw : iwhole ls few = false := by unfold iwhole; rw [decide_eq_false hw, Bool.false_and]
  have H := Lib.hid (And.intro hnew hiw)
  clear h hle hN hnew hw hiw
  go_enter Tryz.func190, Tryz.ntmps190
  go_wp2_with (go_at_call 187; refine H.out.1.mono ?_; rintro e w1 ⟨rfl, f1⟩)
  go_ret2
  exact .inl ⟨H.out.2, rfl, f1⟩
end Go.Proofs.YtkmpfgpfbmeihaaGreatDoor.inf
namespace Go.Proofs.YtkmpfgpfbmeihaaGreatDoor.inf
open Go bm bl huf
theorem itake_at {bs : List UInt8} {a n v a1 : Nat} (h : itake bs a n = .ok (v, a1)) : a1 = a + n := by
 unfold itake at h
 split at h
 ·simp only [Except.ok.injEq, Prod.mk.injEq] at h; exact h.2.symm
 ·cases h
theorem ibytes_at {bs : List UInt8} {most : Nat} : ∀ {n : Nat} {out o : List UInt8} {q a : Nat}, ibytes bs most n out q = .ok (o, a) → 8 * q ≤ a
 | 0, out, o, q, a, h => by simp only [ibytes, Except.ok.injEq, Prod.mk.injEq] at h; omega
 | n + 1, out, o, q, a, h => by
  rw [ibytes] at h
  split at h
  ·split at h
   ·cases h
   ·have := ibytes_at h; omega
  ·cases h
theorem istored_at {bs : List UInt8} {most a a1 : Nat} {out o : List UInt8} (h : istored bs most out a = .ok (o, a1)) : a ≤ a1 := by
 unfold istored at h
 split at h
 ·split at h
  ·have := ibytes_at h; omega
  ·cases h
 ·cases h
theorem isyms_at {bs : List UInt8} {most : Nat} {ll dl : List Nat} : ∀ {f : Nat} {out o : List UInt8} {a a1 : Nat}, isyms bs most ll dl f out a = .ok (o, a1) → a ≤ a1
 | 0, out, o, a, a1, h => by simp only [isyms] at h; cases h
 | f + 1, out, o, a, a1, h => by
  rw [isyms] at h
  split at h
  ·cases h
  ·rename_i s a2 hs
   have h1 := (isym_lt hs).2
   split at h
   ·split at h
    ·cases h
    ·have := isyms_at h; omega
   ·split at h
    ·simp only [Except.ok.injEq, Prod.mk.injEq] at h; omega
    ·split at h
     ·cases h
     ·split at h
      ·cases h
      ·rename_i o2 a3 hm
       have h2 := imatch_at hm
       have := isyms_at h
       omega
theorem ifirst_at {bs : List UInt8} : ∀ {ps fs gs : List Nat} {a a1 : Nat}, ifirst bs ps fs a = .ok (gs, a1) → a ≤ a1
 | [], fs, gs, a, a1, h => by simp only [ifirst, Except.ok.injEq, Prod.mk.injEq] at h; omega
 | i :: t, fs, gs, a, a1, h => by
  rw [ifirst] at h
  split at h
  ·cases h
  ·rename_i v a2 hm
   have h1 := itake_at hm
   have := ifirst_at h
   omega
theorem ilens_at {bs : List UInt8} {ls : List Nat} {n : Nat} : ∀ {f : Nat} {L K : List Nat} {a a1 : Nat}, ilens bs ls n f L a = .ok (K, a1) → a ≤ a1
 | 0, L, K, a, a1, h => by simp only [ilens] at h; cases h
 | f + 1, L, K, a, a1, h => by
  rw [ilens] at h
  split at h
  ·simp only [Except.ok.injEq, Prod.mk.injEq] at h; omega
  ·split at h
   ·cases h
   ·rename_i s a2 hs
    have h1 := (isym_lt hs).2
    split at h
    ·have := ilens_at h; omega
    ·split at h
     ·cases h
     ·rename_i v a3 hm
      have h2 := itake_at hm
      split at h
      ·cases h
      ·have := ilens_at h; omega
theorem idyn_at {bs : List UInt8} {most a a1 : Nat} {out o : List UInt8} (h : idyn bs most out a = .ok (o, a1)) : a ≤ a1 := by
 unfold idyn at h
 split at h
 ·cases h
 ·rename_i v1 b1 h1
  have e1 := itake_at h1
  split at h
  ·cases h
  ·split at h
   ·cases h
   ·rename_i v2 b2 h2
    have e2 := itake_at h2
    split at h
    ·cases h
    ·split at h
     ·cases h
     ·rename_i v3 b3 h3
      have e3 := itake_at h3
      unfold idyn2 at h
      split at h
      ·cases h
      ·rename_i fs b4 h4
       have e4 := ifirst_at h4
       split at h
       ·cases h
       ·unfold idyn3 at h
        split at h
        ·cases h
        ·rename_i ls b5 h5
         have e5 := ilens_at h5
         split at h
         ·cases h
         ·split at h
          ·cases h
          ·split at h
           ·cases h
           ·have := isyms_at h; omega
theorem iblock_at {bs : List UInt8} {most k a a1 : Nat} {out o : List UInt8} (h : iblock bs most k out a = .ok (o, a1)) : a ≤ a1 := by
 unfold iblock at h
 split at h
 ·exact istored_at h
 ·split at h
  ·exact isyms_at h
  ·exact idyn_at h
end Go.Proofs.YtkmpfgpfbmeihaaGreatDoor.inf
namespace Go.Proofs.YtkmpfgpfbmeihaaGreatDoor.inf
open Go Go.RowKit lib bm bl huf
set_option maxHeartbeats 2000000 in
theorem single_any (a : Option Addr) (cap : Nat) (ls : List Nat) (w : World) (h : Ri w a cap ls) (hle : ∀ l ∈ ls, l ≤ 15) (hlen : ls.length ≤ 400) :
  Calls Tryz.prog 177 #[.slice a ls.length cap] w fun e w' => e = .returned (.bool (decide (some_ ls < 2) && ones ls)) ∧ w = w' := by
 obtain ⟨L, hL⟩ : ∃ L, L = ls.length := ⟨_, rfl⟩
 obtain ⟨rv, hrv⟩ : ∃ rv, rv = (decide (some_ ls < 2) && ones ls) := ⟨_, rfl⟩
 rw [← hL] at hlen ⊢
 rw [← hrv]
 have H := Lib.hid (And.intro h (And.intro hle (And.intro hL hrv)))
 clear h hle hL hrv
 go_enter Tryz.func177, Tryz.ntmps177
 go_wp2
 go_loopg [3, 4] L (fun k s3 s4 wr => ∃ i : Nat, s4 = .int .i64 (i : Nat) ∧ s3 = .int .i64 (some_ (ls.take i) : Nat) ∧ i + k = L ∧ ones (ls.take i) = true ∧ w = wr)
 case atStart => exact ⟨0, rfl, rfl, by omega, rfl, rfl⟩
 case round =>
  obtain ⟨i, rfl, rfl, hik, hon, rfl⟩ := hrel
  have hsl := some_le (ls.take i)
  rw [List.length_take] at hsl
  by_cases hi : i < L
  ·obtain ⟨k, rfl⟩ : ∃ k, gk = k + 1 := ⟨gk - 1, by omega⟩
   have hil : i < ls.length := by rw [← H.out.2.2.1]; exact hi
   obtain ⟨g, o, rfl, hc⟩ := H.out.1.at hil
   have h15 := H.out.2.1 _ (List.getElem_mem hil)
   have hs1 := some_snoc (ls.take i) ls[i]
   have ho1 := ones_snoc (ls.take i) ls[i]
   rw [← List.take_succ_eq_append_getElem hil] at hs1 ho1
   have hall : 1 < ls[i] → ones ls = false := fun h => by
    unfold ones
    refine List.all_eq_false.2 ⟨ls[i], List.getElem_mem hil, ?_⟩
    simp
    omega
   generalize ls[i] = x at *
   generalize hA : some_ (ls.take i) = A at *
   have HE := Lib.hid (And.intro hs1 (And.intro ho1 (And.intro hall (And.intro hon hik))))
   clear hs1 ho1 hall hon hA hik
   by_cases h1 : 1 < x
   ·have d1 : decide ((1 : Int) < x) = true := by simp; omega
    have hr : rv = false := by rw [H.out.2.2.2, HE.out.2.2.1 h1, Bool.and_false]
    subst hr
    go_wp2
    go_ret
    exact ⟨rfl, rfl⟩
   ·have d1 : decide ((1 : Int) < x) = false := by simp; omega
    have hb : A ≤ 400 := by omega
    go_wp2
    go_roundg k
    case measure => omega
    case rel =>
     obtain ⟨k1, k2, k3, k4, k5⟩ := HE.out
     refine ⟨i + 1, by go_num, ?_, by omega, by rw [k2, k4]; simp; omega, rfl⟩
     rw [k1]
     by_cases hx : 0 < x
     ·rw [if_pos hx, show x = 1 by omega]
      go_num
     ·rw [if_neg hx, show x = 0 by omega]
      go_num
  ·obtain rfl : i = L := by omega
   have ht : ls.take i = ls := List.take_of_length_le (by rw [← H.out.2.2.1]; exact Nat.le_refl _)
   rw [ht] at hon hsl ⊢
   have hr : rv = decide (some_ ls < 2) := by rw [H.out.2.2.2, hon, Bool.and_true]
   have hR := Lib.hid hr
   generalize some_ ls = A at *
   clear hr hon ht
   go_wp2
   go_ret
   refine ⟨ret_eq (bool_eq ?_), rfl⟩
   rw [hR.out]
   first
    | rfl
    | (rw [Bool.eq_iff_iff]; simp; omega)
    | simp
def irep (bs : List UInt8) (ls : List Nat) (n : Nat) (out : List Nat) (a : Nat) : Except Nat (List Nat × Nat) :=
 match isym bs ls a with
 | .error e => .error e
 | .ok (s, a1) => if s < 16 then .ok (out ++ [s], a1) else
  match itake bs a1 (wide s) with
  | .error e => .error e
  | .ok (v, a2) => if (s = 16 ∧ out = []) ∨ n - out.length < least s + v then .error 3 else
   .ok (out ++ List.replicate (least s + v) (if s = 16 then out.getLast?.getD 0 else 0), a2)
theorem ilens_by (bs : List UInt8) (ls : List Nat) (n f : Nat) (out : List Nat) (a : Nat) : ilens bs ls n (f + 1) out a = if n ≤ out.length then .ok (out, a) else match irep bs ls n out a with | .error e => .error e | .ok (o, a1) => ilens bs ls n f o a1 := by
 rw [ilens]
 unfold irep
 split
 ·rfl
 ·cases isym bs ls a with
  | error e => rfl
  | ok x =>
   obtain ⟨s, a1⟩ := x
   dsimp only
   split
   ·rfl
   ·cases itake bs a1 (wide s) with
    | error e => rfl
    | ok y =>
     obtain ⟨v, a2⟩ := y
     dsimp only
     split
     ·rfl
     ·rfl
structure Ll (K : Nat) (w : World) (B : Nat) (la : Option Addr) (lc : Nat) (L : List Nat) : Prop where
 box : w.heap[B]? = some (.cells #[.slice la L.length lc] 28 (0, 0))
 own : w.ownsRow 0 3 1 (.slice la L.length lc) L.length (ints L)
 bK : K ≤ B
 new : ∀ x ∈ blk la, K ≤ x ∧ x ≠ B
theorem Ll.fr {K : Nat} {S : List Nat} {w w' : World} {B : Nat} {la : Option Addr} {lc : Nat} {L : List Nat} (h : Ll K w B la lc L) (f : Fr S w w') (hS : ∀ x ∈ S, x < K) : Ll K w' B la lc L := by
 refine ⟨f.blk h.box (fun hx => ?_), ownsRow_fr h.own f (fun k hk hx => ?_), h.bK, h.new⟩
 ·have := hS _ hx; have := h.bK; omega
 ·have hk2 : k ∈ blk la := by rw [← own_blk la L.length lc, hk]; simp
  have := hS _ hx
  have := (h.new k hk2).1
  omega
theorem Ll.app {K : Nat} {w1 w2 : World} {B n : Nat} {la ao2 : Option Addr} {lc cp2 v : Nat} {L : List Nat} {o : Obj} (h : Ll K w1 B la lc L) (hn : n = L.length) (hK : K ≤ w1.heap.size)
  (A : Appended (w1.alloc o) w2 3 1 (blk la) ao2 (n + 1) cp2 (ints L ++ [.int .i64 (v : Nat)])) :
  Ll K (w2.setCell ⟨B, 0, none⟩ (.slice ao2 (n + 1) cp2)) B ao2 cp2 (L ++ [v]) ∧ Fr (B :: blk la) w1 (w2.setCell ⟨B, 0, none⟩ (.slice ao2 (n + 1) cp2)) ∧ ∀ x ∈ blk ao2, x ∈ blk la ∨ w1.heap.size ≤ x := by
 have f2 : Fr (blk la) w1 w2 := ((Fr.refl _ w1).alloc _).trans A.fr
 have fB : Fr [B] w2 (w2.setCell ⟨B, 0, none⟩ (.slice ao2 (n + 1) cp2)) := (Fr.refl [B] w2).setCell (by simp) _
 have hB1 : B ∉ blk la := fun hx => (h.new B hx).2 rfl
 have b2 := f2.blk h.box hB1
 have hBw : B < w1.heap.size := lt_of_block h.box
 have hB2 : B ∉ blk ao2 := fun hx => by
  rcases A.at_ B hx with k | k
  ·exact hB1 k
  ·rw [World.size_alloc] at k; omega
 have e : (L ++ [v]).length = n + 1 := by rw [hn]; simp
 refine ⟨⟨?_, ?_, h.bK, fun x hx => ?_⟩, ?_, fun x hx => ?_⟩
 ·rw [setCell_of b2, e]; rfl
 ·rw [e, ints_snoc]
  exact ownsRow_fr A.own fB (fun k hk => by
   have hk2 : k ∈ blk ao2 := by rw [← own_blk ao2 (n + 1) cp2, hk]; simp
   simp
   rintro rfl
   exact hB2 hk2)
 ·refine ⟨?_, fun he => hB2 (by rw [← he]; exact hx)⟩
  rcases A.at_ x hx with k | k
  ·exact (h.new x k).1
  ·rw [World.size_alloc] at k; omega
 ·exact (f2.mono (fun x hx => .inl (by simp [hx]))).trans (fB.mono (by simp))
 ·rcases A.at_ x hx with k | k
  ·exact .inl k
  ·rw [World.size_alloc] at k; exact .inr (by omega)
end Go.Proofs.YtkmpfgpfbmeihaaGreatDoor.inf
namespace Go.Proofs.YtkmpfgpfbmeihaaGreatDoor.inf
open Go Go.RowKit lib bm bl huf
def RepR (K : Nat) (w : World) (R p : Nat) (F : List Nat) (bs out : List UInt8) (oa : Option Addr) (oc most B : Nat) (la : Option Addr) (m : Except Nat (List Nat × Nat)) (w' : World) : Prop :=
 ∃ a' la' lc' L' E, Sw w' R p F bs a' out oa oc most E ∧ Ll K w' B la' lc' L' ∧ Fr (R :: p :: B :: blk la) w w' ∧ (∀ x ∈ blk la', x ∈ blk la ∨ w.heap.size ≤ x) ∧ ((m = .error E ∧ 0 < E ∧ E < 100) ∨ (m = .ok (L', a') ∧ E = 0))
theorem last_at {L : List Nat} (h : L ≠ []) : L[L.length - 1]? = some (L.getLast?.getD 0) := by
 rw [List.getLast?_eq_getElem?]
 have : L.length - 1 < L.length := by have := List.length_pos_iff.2 h; omega
 rw [List.getElem?_eq_getElem this]
 rfl
theorem ints_length (l : List Nat) : (ints l).length = l.length := by simp [ints]
theorem isym19 {bs : List UInt8} {cl : List Nat} {a s a1 : Nat} (hc : cl.length = 19) (h : isym bs cl a = .ok (s, a1)) : s < 16 ∨ s = 16 ∨ s = 17 ∨ s = 18 := by
 have := (isym_lt h).1
 omega
set_option maxHeartbeats 8000000 in
theorem rrep_any (K R p : Nat) (F : List Nat) (bs out : List UInt8) (ca : Option Addr) (ccap : Nat) (cl : List Nat) (B : Nat) (la : Option Addr) (lc N : Nat) (L : List Nat) (at_ oc most : Nat) (oa : Option Addr) (w : World)
  (h : Sw w R p F bs at_ out oa oc most 0) (hc : Ld w ca ccap cl (R :: p :: blk oa)) (hcl : cl.length = 19) (hl : Ll K w B la lc L) (hR : R < K) (hF : ∀ x ∈ F, x < K) (ho : ∀ x ∈ blk oa, x < K) (hK : K ≤ w.heap.size) (hLN : L.length < N) (hN : N ≤ 400) :
  Calls Tryz.prog 176 #[.pointer (some ⟨R, 0, none⟩), .slice ca 19 ccap, .pointer (some ⟨B, 0, none⟩), .int .i64 (N : Nat)] w fun e w' => e = .returned (.tuple #[]) ∧ RepR K w R p F bs out oa oc most B la (irep bs cl N L at_) w' := by
 obtain ⟨M, hM⟩ : ∃ M, M = irep bs cl N L at_ := ⟨_, rfl⟩
 rw [← hM]
 have hpK : p < K := hF p h.pF.1
 have hsy := sym_any' R p F bs out at_ oc most oa ca ccap 19 cl w h hc hcl.symm
 obtain ⟨C, hC⟩ : ∃ C, C = L.length := ⟨_, rfl⟩
 rw [← hC] at hLN
 have H := Lib.hid (And.intro h (And.intro hl (And.intro hM (And.intro hsy (And.intro hcl (And.intro hC (And.intro (And.intro hR (And.intro hF (And.intro ho hpK))) hK)))))))
 clear h hc hcl hl hM hsy hC hR hF ho hK hpK
 have hRp : ∀ (w1 w2 : World), Fr [R, p] w1 w2 → ∀ la lc L, Ll K w1 B la lc L → Ll K w2 B la lc L := fun _ _ f _ _ _ l => l.fr f (fun x hx => by
  simp only [List.mem_cons, List.not_mem_nil, or_false] at hx
  rcases hx with rfl | rfl
  ·exact H.out.2.2.2.2.2.2.1.1
  ·exact H.out.2.2.2.2.2.2.1.2.2.2)
 have HRp := Lib.hid hRp
 clear hRp
 go_enter Tryz.func176, Tryz.ntmps176
 go_upto_region 1 with (go_at_call 173; refine H.out.2.2.2.1.mono ?_; rintro e w1 (⟨a1, c, hm, hc0, hc1, rfl, s1, f1⟩ | ⟨s, a1, hm, rfl, s1, f1⟩))
 ·have c3 := cell_of s1.box 3
  simp only [List.getElem?_toArray, List.getElem?_cons_zero, List.getElem?_cons_succ] at c3
  have d3 : ((c : Int) != 0) = true := by simp; omega
  have hM1 : M = .error c := by rw [H.out.2.2.1]; unfold irep; rw [hm]
  have K1 := Lib.hid (And.intro hM1 (And.intro s1 f1))
  clear hm s1 f1 hM1
  go_wp2
  refine bodyPost_ret (results_none rfl _ _ _) rfl ?_
  exact ⟨rfl, a1, la, lc, L, c, K1.out.2.1, HRp.out _ _ K1.out.2.2 _ _ _ H.out.2.1, K1.out.2.2.mono (by simp), fun x hx => .inl hx, .inl ⟨K1.out.1, hc0, hc1⟩⟩
 ·have c3 := cell_of s1.box 3
  simp only [List.getElem?_toArray, List.getElem?_cons_zero, List.getElem?_cons_succ] at c3
  have hs4 := isym19 H.out.2.2.2.2.1 hm
  have hsb : s < 400 := by rcases hs4 with k | k | k | k <;> omega
  have l1 := HRp.out _ _ f1 _ _ _ H.out.2.1
  have K1 := Lib.hid (And.intro hm (And.intro s1 (And.intro f1 l1)))
  have HS := Lib.hid hs4
  clear hm s1 f1 l1 hs4
  go_upto_block 0 with fail
  clear c3
  go_cut [9, 10] from 22 to 66 (fun s9 s10 wc => ∃ v n a2 E : Nat, s9 = .int .i64 (v : Nat) ∧ s10 = .int .i64 (n : Nat) ∧ Sw wc R p F bs a2 out oa oc most E ∧ Fr [R, p] w wc ∧ n ≤ 300 ∧ ((E = 0 ∧ M = if N - C < n then .error 3 else .ok (L ++ List.replicate n v, a2)) ∨ (E ≠ 0 ∧ E < 100 ∧ M = .error E)))
  case first =>
   rcases HS.out with hs | rfl | rfl | rfl
   ·have d16 : ((s : Int) == 16) = false := by simp; omega
    have d17 : ((s : Int) == 17) = false := by simp; omega
    have d18 : ((s : Int) == 18) = false := by simp; omega
    have H16 := Lib.hid hs
    clear hs
    go_wp2
    go_meet
    case rel =>
     refine ⟨s, 1, a1, 0, rfl, rfl, K1.out.2.1, K1.out.2.2.1, by decide, .inl ⟨rfl, ?_⟩⟩
     rw [if_neg (by omega), H.out.2.2.1]
     unfold irep
     rw [K1.out.1]
     dsimp only
     rw [if_pos H16.out]
     rfl
   ·have htk := Lib.hid (rtake_any R p F bs out a1 oc most 2 oa w1 K1.out.2.1 (by decide))
    go_upto_region 7 with (go_at_call 139; refine htk.out.mono ?_; rintro e w2 (⟨a2, hm, rfl, s2, f2⟩ | ⟨v, a2, hm, rfl, s2, f2⟩))
    ·have c3 := cell_of s2.box 3
     simp only [List.getElem?_toArray, List.getElem?_cons_zero, List.getElem?_cons_succ] at c3
     have K2 := Lib.hid (And.intro hm (And.intro s2 f2))
     clear hm s2 f2
     go_wp2
     go_meet
     case rel =>
      refine ⟨16, 3, a2, 4, rfl, rfl, K2.out.2.1, K1.out.2.2.1.trans K2.out.2.2, by decide, .inr ⟨by decide, by decide, ?_⟩⟩
      rw [H.out.2.2.1]
      unfold irep
      rw [K1.out.1]
      dsimp only
      rw [if_neg (by decide), show wide 16 = 2 from rfl, K2.out.1]
    ·have hv := itake_lt hm
     have hvb : v < 4 := hv
     have ew : wrap64 ((v : Int) + 3) = ((v + 3 : Nat) : Int) := by unfold wrap64; omega
     rw [ew]
     have l2 := HRp.out _ _ f2 _ _ _ K1.out.2.2.2
     have c3 := cell_of s2.box 3
     have cB := cell_of l2.box 0
     simp only [List.getElem?_toArray, List.getElem?_cons_zero, List.getElem?_cons_succ] at c3 cB
     rw [← H.out.2.2.2.2.2.1] at cB
     have hM2 : M = if (L = []) ∨ N - C < v + 3 then .error 3 else .ok (L ++ List.replicate (v + 3) (L.getLast?.getD 0), a2) := by
      rw [H.out.2.2.1]
      unfold irep
      rw [K1.out.1]
      dsimp only
      rw [if_neg (by decide), show wide 16 = 2 from rfl, hm]
      dsimp only
      rw [if_pos rfl, ← H.out.2.2.2.2.2.1, show least 16 = 3 from rfl, Nat.add_comm 3 v]
      simp only [true_and]
     have hfl := fail_any R p F bs out a2 oc most 0 3 oa w2 s2
     have K2 := Lib.hid (And.intro hM2 (And.intro s2 (And.intro f2 (And.intro l2 hfl))))
     clear hm s2 f2 hv ew l2 hM2 hfl
     by_cases hc0 : C = 0
     ·have hL0 : L = [] := List.eq_nil_of_length_eq_zero (by rw [← H.out.2.2.2.2.2.1]; exact hc0)
      have HL0 := Lib.hid hL0
      have d0 : ((C : Int) == 0) = true := by simp; omega
      have HC0 := Lib.hid hc0
      clear hL0 hc0
      go_upto_region 9 with (go_at_call 144; refine K2.out.2.2.2.2.mono ?_; rintro e w3 ⟨rfl, S3, f3⟩)
      have s3 : Sw w3 R p F bs a2 out oa oc most 3 := S3
      clear S3 c3
      have c3 := cell_of s3.box 3
      simp only [List.getElem?_toArray, List.getElem?_cons_zero, List.getElem?_cons_succ] at c3
      have K3 := Lib.hid (And.intro s3 f3)
      clear s3 f3 cB d0
      go_wp2
      go_meet
      case rel => exact ⟨16, v + 3, a2, 3, rfl, by first | rfl | go_num, K3.out.1, K1.out.2.2.1.trans (K2.out.2.2.1.trans (K3.out.2.mono (by simp))), by omega, .inr ⟨by decide, by decide, by rw [K2.out.1, if_pos (.inl HL0.out)]⟩⟩
     ·have d0 : ((C : Int) == 0) = false := by simp; omega
      have hLn : L ≠ [] := fun h => hc0 (by rw [H.out.2.2.2.2.2.1, h]; rfl)
      have hlst := last_at hLn
      rw [← H.out.2.2.2.2.2.1] at hlst
      obtain ⟨g, o, rfl, hcs⟩ := (cs_of_owns K2.out.2.2.2.1.own).at (by rw [ints_length, ← H.out.2.2.2.2.2.1]; omega)
      obtain ⟨x, hx⟩ : ∃ x, x = L.getLast?.getD 0 := ⟨_, rfl⟩
      have hcx := hcs (C - 1) (.int .i64 (x : Nat)) (by unfold ints; rw [List.getElem?_map, hlst, hx]; rfl)
      obtain ⟨C1, hC1⟩ : ∃ C1, C = C1 + 1 := ⟨C - 1, by omega⟩
      have eC : C - 1 = C1 := by omega
      rw [eC] at hcx
      have eC2 : (C : Int) - 1 = (C1 : Int) := by omega
      have eC3 : wrap64 ((C : Int) - 1) = (C1 : Int) := by unfold wrap64; omega
      have hC1b : C1 < C := by omega
      have HX := Lib.hid (And.intro hx hLn)
      have HC1 := Lib.hid hC1
      clear hx hLn hlst hcs hC1 eC
      go_upto_region 10 with fail
      go_quiet (fail)
      go_wp2
      go_meet
      case rel =>
       refine ⟨x, v + 3, a2, 0, rfl, rfl, K2.out.2.1.fr0 (Fr.drewN _ _ _), K1.out.2.2.1.trans (K2.out.2.2.1.trans (Fr.drewN _ _ _)), by omega, .inl ⟨rfl, ?_⟩⟩
       rw [K2.out.1, ← HX.out.1]
       by_cases hc : N - C < v + 3
       ·rw [if_pos (.inr hc), if_pos hc]
       ·rw [if_neg (fun h => h.elim HX.out.2 hc), if_neg hc]
   ·have htk := Lib.hid (rtake_any R p F bs out a1 oc most 3 oa w1 K1.out.2.1 (by decide))
    go_upto_region 13 with (go_at_call 139; refine htk.out.mono ?_; rintro e w2 (⟨a2, hm, rfl, s2, f2⟩ | ⟨v, a2, hm, rfl, s2, f2⟩))
    ·have K2 := Lib.hid (And.intro hm (And.intro s2 f2))
     clear hm s2 f2
     go_wp2
     go_meet
     case rel =>
      refine ⟨0, 3, a2, 4, rfl, rfl, K2.out.2.1, K1.out.2.2.1.trans K2.out.2.2, by decide, .inr ⟨by decide, by decide, ?_⟩⟩
      rw [H.out.2.2.1]
      unfold irep
      rw [K1.out.1]
      dsimp only
      rw [if_neg (by decide), show wide 17 = 3 from rfl, K2.out.1]
    ·have hv := itake_lt hm
     have hvb : v < 8 := hv
     have ew : wrap64 ((v : Int) + 3) = ((v + 3 : Nat) : Int) := by unfold wrap64; omega
     rw [ew]
     have K2 := Lib.hid (And.intro hm (And.intro s2 f2))
     clear hm s2 f2 hv ew
     go_wp2
     go_meet
     case rel =>
      refine ⟨0, v + 3, a2, 0, rfl, rfl, K2.out.2.1, K1.out.2.2.1.trans K2.out.2.2, by omega, .inl ⟨rfl, ?_⟩⟩
      rw [H.out.2.2.1]
      unfold irep
      rw [K1.out.1]
      dsimp only
      rw [if_neg (by decide), show wide 17 = 3 from rfl, K2.out.1]
      dsimp only
      rw [if_neg (show ¬ 17 = 16 by decide), ← H.out.2.2.2.2.2.1, show least 17 = 3 from rfl, Nat.add_comm 3 v]
      by_cases hc : N - C < v + 3
      ·rw [if_pos (.inr hc), if_pos hc]
      ·rw [if_neg (fun h => h.elim (fun k => absurd k.1 (by decide)) hc), if_neg hc]
   ·have htk := Lib.hid (rtake_any R p F bs out a1 oc most 7 oa w1 K1.out.2.1 (by decide))
    go_upto_region 16 with (go_at_call 139; refine htk.out.mono ?_; rintro e w2 (⟨a2, hm, rfl, s2, f2⟩ | ⟨v, a2, hm, rfl, s2, f2⟩))
    ·have K2 := Lib.hid (And.intro hm (And.intro s2 f2))
     clear hm s2 f2
     go_wp2
     go_meet
     case rel =>
      refine ⟨0, 11, a2, 4, rfl, rfl, K2.out.2.1, K1.out.2.2.1.trans K2.out.2.2, by decide, .inr ⟨by decide, by decide, ?_⟩⟩
      rw [H.out.2.2.1]
      unfold irep
      rw [K1.out.1]
      dsimp only
      rw [if_neg (by decide), show wide 18 = 7 from rfl, K2.out.1]
    ·have hv := itake_lt hm
     have hvb : v < 128 := hv
     have ew : wrap64 ((v : Int) + 11) = ((v + 11 : Nat) : Int) := by unfold wrap64; omega
     rw [ew]
     have K2 := Lib.hid (And.intro hm (And.intro s2 f2))
     clear hm s2 f2 hv ew
     go_wp2
     go_meet
     case rel =>
      refine ⟨0, v + 11, a2, 0, rfl, rfl, K2.out.2.1, K1.out.2.2.1.trans K2.out.2.2, by omega, .inl ⟨rfl, ?_⟩⟩
      rw [H.out.2.2.1]
      unfold irep
      rw [K1.out.1]
      dsimp only
      rw [if_neg (by decide), show wide 18 = 7 from rfl, K2.out.1]
      dsimp only
      rw [if_neg (show ¬ 18 = 16 by decide), ← H.out.2.2.2.2.2.1, show least 18 = 11 from rfl, Nat.add_comm 11 v]
      by_cases hc : N - C < v + 11
      ·rw [if_pos (.inr hc), if_pos hc]
      ·rw [if_neg (fun h => h.elim (fun k => absurd k.1 (by decide)) hc), if_neg hc]
  case rest =>
   obtain ⟨v, n, a2, E, rfl, rfl, s2, f2, hnb, hE⟩ := hcut
   have l2 := HRp.out _ _ f2 _ _ _ H.out.2.1
   have c3 := cell_of s2.box 3
   have cB := cell_of l2.box 0
   simp only [List.getElem?_toArray, List.getElem?_cons_zero, List.getElem?_cons_succ] at c3 cB
   rw [← H.out.2.2.2.2.2.1] at cB
   have hfl := fail_any R p F bs out a2 oc most E 3 oa wc s2
   have K2 := Lib.hid (And.intro s2 (And.intro f2 (And.intro l2 (And.intro hE hfl))))
   clear s2 f2 l2 hE hfl K1 HS
   obtain ⟨d, hd⟩ : ∃ d, d = N - C := ⟨_, rfl⟩
   have ed : (N : Int) - (C : Int) = (d : Int) := by omega
   have hD := Lib.hid hd
   clear hd
   go_upto_region 17 with fail
   go_cut [80] from 66 to 80 (fun s80 wd => s80 = .bool (decide (E = 0) && decide (d < n)) ∧ wc = wd)
   case first =>
    by_cases h0 : E = 0
    ·subst h0
     go_wp2
     go_meet
     case rel => exact ⟨by simp, rfl⟩
    ·have d0 : ((E : Int) == 0) = false := by simp; omega
     have H0 := Lib.hid h0
     clear h0
     go_wp2
     go_meet
     case rel => exact ⟨by have := H0.out; simp [this], rfl⟩
   case rest =>
    obtain ⟨rfl, rfl⟩ := hcut
    obtain ⟨bt, hbt⟩ : ∃ b : Bool, b = (decide (E = 0) && decide (d < n)) := ⟨_, rfl⟩
    rw [← hbt]
    have HT := Lib.hid hbt
    clear hbt ed
    go_upto_if 80 with fail
    go_cut [] from 81 to 82 (fun wd => ∃ E2 : Nat, Sw wd R p F bs a2 out oa oc most E2 ∧ Fr [R, p] w wd ∧ ((E2 = 0 ∧ M = .ok (L ++ List.replicate n v, a2)) ∨ (E2 ≠ 0 ∧ E2 < 100 ∧ M = .error E2)))
    case first =>
     cases bt
     ·go_wp2
      go_meet
      case rel =>
       refine ⟨E, K2.out.1, K2.out.2.1, ?_⟩
       rcases K2.out.2.2.2.1 with ⟨k1, k2⟩ | k
       ·refine .inl ⟨k1, ?_⟩
        have h2 : ¬ d < n := by have := HT.out; rw [k1] at this; simpa using this
        rw [k2, if_neg (by rw [← hD.out]; exact h2)]
       ·exact .inr k
     ·have hE0 : E = 0 ∧ d < n := by simpa using HT.out.symm
      have HL := Lib.hid hE0
      clear hE0 c3 cB
      go_wp2_with (go_at_call 144; refine K2.out.2.2.2.2.mono ?_; rintro e w4 ⟨rfl, S4, f4⟩; have K4 := Lib.hid (And.intro S4 f4); clear S4 f4)
      go_meet
      case rel =>
       have s4 := K4.out.1
       rw [if_pos HL.out.1] at s4
       refine ⟨3, s4, K2.out.2.1.trans (K4.out.2.mono (by simp)), .inr ⟨by decide, by decide, ?_⟩⟩
       rcases K2.out.2.2.2.1 with ⟨k1, k2⟩ | ⟨k, _⟩
       ·rw [k2, if_pos (by rw [← hD.out]; exact HL.out.2)]
       ·exact absurd HL.out.1 k
    case rest =>
     obtain ⟨E2, s4, f4, hE2⟩ := hcut
     have l4 := HRp.out _ _ f4 _ _ _ H.out.2.1
     have hK4 : K ≤ wc.heap.size := Nat.le_trans H.out.2.2.2.2.2.2.2 f4.size
     have K4 := Lib.hid (And.intro s4 (And.intro f4 (And.intro hE2 (And.intro l4 hK4))))
     obtain ⟨w4, hw4⟩ : ∃ w4, w4 = wc := ⟨_, rfl⟩
     rw [← hw4] at K4 ⊢
     clear s4 f4 hE2 hw4 c3 cB l4 hK4 K2 HT
     go_wp2
     go_loopg [11] n (fun k s11 wr => ∃ (i : Nat) (la1 : Option Addr) (lc1 : Nat), s11 = .int .i64 (i : Nat) ∧ i + k = n ∧ (E2 = 0 ∨ i = 0) ∧ Sw wr R p F bs a2 out oa oc most E2 ∧ Ll K wr B la1 lc1 (L ++ List.replicate i v) ∧ Fr (B :: blk la) w4 wr ∧ (∀ x ∈ blk la1, x ∈ blk la ∨ w4.heap.size ≤ x))
     case atStart => exact ⟨0, la, lc, rfl, by omega, .inr rfl, K4.out.1, by rw [List.replicate_zero, List.append_nil]; exact K4.out.2.2.2.1, Fr.refl _ _, fun x hx => .inl hx⟩
     case round =>
      obtain ⟨i, la1, lc1, rfl, hik, hi0, hst, hll, hfr, hnew⟩ := hrel
      have c3 := cell_of hst.box 3
      simp only [List.getElem?_toArray, List.getElem?_cons_zero, List.getElem?_cons_succ] at c3
      have hfin : ∀ L', Ll K wr B la1 lc1 L' → ((M = .error E2 ∧ 0 < E2 ∧ E2 < 100) ∨ (M = .ok (L', a2) ∧ E2 = 0)) → RepR K w R p F bs out oa oc most B la M wr := fun L' l h => by
       refine ⟨a2, la1, lc1, L', E2, hst, l, ?_, fun x hx => ?_, h⟩
       ·exact (K4.out.2.1.mono (by simp)).trans (hfr.mono (fun x hx => .inl (by simp only [List.mem_cons] at hx ⊢; rcases hx with h | h <;> simp [h])))
       ·rcases hnew x hx with k | k
        ·exact .inl k
        ·exact .inr (Nat.le_trans K4.out.2.1.size k)
      by_cases hi : i < n
      ·by_cases h0 : E2 = 0
       ·obtain ⟨k, rfl⟩ : ∃ k, gk = k + 1 := ⟨gk - 1, by omega⟩
        obtain ⟨C1, hC1⟩ : ∃ C1, C1 = (L ++ List.replicate i v).length := ⟨_, rfl⟩
        have hC1b : C1 ≤ 700 := by rw [hC1, List.length_append, List.length_replicate, ← H.out.2.2.2.2.2.1]; omega
        have cB := cell_of hll.box 0
        simp only [List.getElem?_toArray, List.getElem?_cons_zero, List.getElem?_cons_succ] at cB
        rw [← hC1] at cB
        have hKr : K ≤ wr.heap.size := Nat.le_trans K4.out.2.2.2.2 hfr.size
        have HJ := Lib.hid (And.intro hst (And.intro hll (And.intro hfr (And.intro hnew (And.intro hC1 (And.intro hik hKr))))))
        subst h0
        clear hst hll hfr hnew hC1 hfin hik hKr hi0
        go_wp2_with (at_builtin; go_loud (refine wpList_append sty_int rfl _ _ rfl (.slice la1 C1 lc1) C1 (ints (L ++ List.replicate i v)) (blk la1) rfl (own_blk la1 C1 lc1) (by rw [HJ.out.2.2.2.2.1]; exact ownsRow_fr HJ.out.2.1.own ((Fr.refl [] wr).alloc _) (by simp)) (some ⟨wr.heap.size, 0, none⟩) 1 1 [.int .i64 (v : Nat)] (by first | rfl | simp) (Nat.le_refl _) (fun h => by cases h) (cs_one _ _ _ _ (alloc_at _ _)) rfl (by intro u hu; simp only [List.mem_singleton] at hu; rw [hu]; rfl) (by omega) (by unfold maxLen; omega) ?_); intro ao2 cp2 w5 A5; have HA := HJ.out.2.1.app HJ.out.2.2.2.2.1 HJ.out.2.2.2.2.2.2 A5; have f5 : Fr (blk la1) wr w5 := ((Fr.refl _ wr).alloc _).trans A5.fr; have b5 := f5.blk HJ.out.2.1.box (fun hx => (HJ.out.2.1.new B hx).2 rfl); have z5 := frozen_of b5 0; have d5 := cell_of b5 0; rw [← HJ.out.2.2.2.2.1] at d5; simp only [List.getElem?_toArray, List.getElem?_cons_zero, List.getElem?_cons_succ] at d5; have HB := Lib.hid HA; clear A5 f5 b5 HA cB)
        go_roundg k
        case measure => omega
        case rel =>
         obtain ⟨j1, j2, j3, j4, j5, j6, j7⟩ := HJ.out
         obtain ⟨q1, q2, q3⟩ := HB.out
         have hLK : ∀ x ∈ B :: blk la1, K ≤ x := fun x hx => by
          rcases List.mem_cons.1 hx with h | h
          ·rw [h]; exact j2.bK
          ·exact (j2.new x h).1
         refine ⟨i + 1, ao2, cp2, by go_num, by omega, .inl (by trivial), ?_, ?_, ?_, fun x hx => ?_⟩
         ·obtain ⟨hR, hF, ho, hp⟩ := H.out.2.2.2.2.2.2.1
          exact j1.fr q2 (fun hx => by have := hLK _ hx; omega) (fun x hx hx2 => by have := hLK _ hx2; have := hF x hx; omega) (fun x hx hx2 => by have := hLK _ hx2; have := ho x hx; omega)
         ·rw [List.replicate_succ', ← List.append_assoc]
          exact q1
         ·refine j3.step q2 (fun x hx => ?_)
          rcases List.mem_cons.1 hx with h | h
          ·exact .inl (by simp [h])
          ·rcases j4 x h with k | k
           ·exact .inl (by simp [k])
           ·exact .inr k
         ·rcases q3 x hx with k | k
          ·exact j4 x k
          ·exact .inr (Nat.le_trans j3.size k)
       ·have d0 : ((E2 : Int) == 0) = false := by simp; omega
        have hM3 : M = .error E2 ∧ E2 < 100 := by
         rcases K4.out.2.2.1 with ⟨k1, _⟩ | ⟨k1, k2, k3⟩
         ·exact absurd k1 h0
         ·exact ⟨k3, k2⟩
        have HFin := Lib.hid (hfin _ hll (.inl ⟨hM3.1, by omega, hM3.2⟩))
        clear hst hll hfr hnew hfin hM3 h0 hi0
        go_wp2
        refine bodyPost_end (results_none rfl _ _ _) rfl ?_
        exact ⟨rfl, HFin.out⟩
      ·obtain rfl : i = n := by omega
       have HFin : Go.RowKit.Hid (RepR K w R p F bs out oa oc most B la M wr) := Lib.hid (hfin _ hll (by
        rcases K4.out.2.2.1 with ⟨k1, k2⟩ | ⟨k1, k2, k3⟩
        ·exact .inr ⟨k2, k1⟩
        ·exact .inl ⟨k3, by omega, k2⟩))
       clear hst hll hfr hnew hfin hi0
       go_wp2
       refine bodyPost_end (results_none rfl _ _ _) rfl ?_
       exact ⟨rfl, HFin.out⟩
end Go.Proofs.YtkmpfgpfbmeihaaGreatDoor.inf
namespace Go.Proofs.YtkmpfgpfbmeihaaGreatDoor.inf
open Go Go.RowKit lib bm bl huf
theorem ilens_end {bs : List UInt8} {ls L : List Nat} {n k a : Nat} (h : n ≤ L.length) : ilens bs ls n (k + 1) L a = .ok (L, a) := by rw [ilens, if_pos h]
theorem ilens_sym {bs : List UInt8} {ls L : List Nat} {n k a c : Nat} (h : L.length < n) (hs : isym bs ls a = .error c) : ilens bs ls n (k + 1) L a = .error c := by rw [ilens, if_neg (by omega), hs]
theorem ilens_lit {bs : List UInt8} {ls L : List Nat} {n k a s a1 : Nat} (h : L.length < n) (hs : isym bs ls a = .ok (s, a1)) (h16 : s < 16) : ilens bs ls n (k + 1) L a = ilens bs ls n k (L ++ [s]) a1 := by
 rw [ilens, if_neg (by omega), hs]
 simp only [if_pos h16]
theorem ilens_take {bs : List UInt8} {ls L : List Nat} {n k a s a1 c : Nat} (h : L.length < n) (hs : isym bs ls a = .ok (s, a1)) (h16 : 16 ≤ s) (ht : itake bs a1 (wide s) = .error c) : ilens bs ls n (k + 1) L a = .error c := by
 rw [ilens, if_neg (by omega), hs]
 simp only [if_neg (show ¬ s < 16 by omega), ht]
theorem ilens_form {bs : List UInt8} {ls L : List Nat} {n k a s a1 v a2 : Nat} (h : L.length < n) (hs : isym bs ls a = .ok (s, a1)) (h16 : 16 ≤ s) (ht : itake bs a1 (wide s) = .ok (v, a2)) (hf : (s = 16 ∧ L = []) ∨ n - L.length < least s + v) : ilens bs ls n (k + 1) L a = .error 3 := by
 rw [ilens, if_neg (by omega), hs]
 simp only [if_neg (show ¬ s < 16 by omega), ht]
 rw [if_pos hf]
theorem ilens_rep {bs : List UInt8} {ls L : List Nat} {n k a s a1 v a2 : Nat} (h : L.length < n) (hs : isym bs ls a = .ok (s, a1)) (h16 : 16 ≤ s) (ht : itake bs a1 (wide s) = .ok (v, a2)) (hf : ¬ ((s = 16 ∧ L = []) ∨ n - L.length < least s + v)) :
  ilens bs ls n (k + 1) L a = ilens bs ls n k (L ++ List.replicate (least s + v) (if s = 16 then L.getLast?.getD 0 else 0)) a2 := by
 rw [ilens, if_neg (by omega), hs]
 simp only [if_neg (show ¬ s < 16 by omega), ht]
 rw [if_neg hf]
structure Own (w wr : World) (ao : Option Addr) (cap : Nat) (L : List Nat) : Prop where
 own : wr.ownsRow 0 3 1 (.slice ao L.length cap) L.length (ints L)
 new : ∀ x ∈ blk ao, w.heap.size ≤ x
 le : L.length ≤ cap
 max : cap ≤ maxLen
 nil : ao = none → cap = 0
theorem Own.start (w wr : World) : Own w wr none 0 [] := ⟨⟨by simp [ints], .inl ⟨rfl, rfl⟩⟩, by simp [blk], Nat.le_refl _, Nat.zero_le _, fun _ => rfl⟩
theorem Own.fr {w wr w2 : World} {S : List Nat} {ao : Option Addr} {cap : Nat} {L : List Nat} (h : Own w wr ao cap L) (f : Fr S wr w2) (hS : ∀ x ∈ S, x < w.heap.size) : Own w w2 ao cap L :=
 ⟨ownsRow_fr h.own f (fun k hk hkS => by
  have hk2 : k ∈ blk ao := by rw [← own_blk ao L.length cap, hk]; simp
  have := h.new k hk2
  have := hS k hkS
  omega), h.new, h.le, h.max, h.nil⟩
theorem Own.app {w wr w2 : World} {ao ao2 : Option Addr} {cap cap2 n : Nat} {L : List Nat} {x : Nat} {o : Obj} (h : Own w wr ao cap L) (hn : n = L.length) (fw : w.heap.size ≤ wr.heap.size)
  (A : Appended (wr.alloc o) w2 3 1 (blk ao) ao2 (n + 1) cap2 (ints L ++ [.int .i64 (x : Nat)])) : Own w w2 ao2 cap2 (L ++ [x]) ∧ Fr (blk ao) wr w2 := by
 have el : (L ++ [x]).length = n + 1 := by rw [hn]; simp
 have ei : ints (L ++ [x]) = ints L ++ [.int .i64 (x : Nat)] := by simp [ints]
 refine ⟨⟨by rw [el, ei]; exact A.own, fun y hy => ?_, by rw [el]; exact A.le, A.max, A.nil⟩, ((Fr.refl _ wr).alloc _).trans A.fr⟩
 rcases A.at_ y hy with k | k
 ·exact h.new y k
 ·rw [k, World.size_alloc]; omega
theorem Own.ri {w wr : World} {ao : Option Addr} {cap : Nat} {L : List Nat} (h : Own w wr ao cap L) : Ri wr ao cap L := ⟨cs_of_owns h.own, h.le, h.max, h.nil⟩
theorem St.up {w wr w2 : World} {R p : Nat} {F S : List Nat} {bs out : List UInt8} {at_ a1 oc most : Nat} {oa : Option Addr} (h0 : St w R p F bs at_ out oa oc most) (h : St wr R p F bs a1 out oa oc most) (f : Fr S wr w2) (hS : ∀ x ∈ S, w.heap.size ≤ x) : St w2 R p F bs a1 out oa oc most :=
 h.fr f (fun hR => by have := hS R hR; have := lt_of_block h0.box; omega) (fun x hx hxS => by have := hS x hxS; have := h0.low x hx; omega) (fun x hx hxS => by have := hS x hxS; have := owns_lt h0.own (blk_own hx); omega)
theorem Own.last {w wr : World} {ao : Option Addr} {cap : Nat} {L : List Nat} (h : Own w wr ao cap L) (h0 : 0 < L.length) : ∃ g, ao = some ⟨g, 0, none⟩ ∧ wr.cell? ⟨g, L.length - 1, none⟩ = some (.int .i64 (L.getLast?.getD 0 : Nat)) := by
 obtain ⟨h1, h2⟩ := h.own
 rcases h2 with ⟨h2, _⟩ | ⟨g, cap', cur, h2, hb, hg, hn, hm, hs, ht⟩
 ·simp only [Value.slice.injEq] at h2; omega
 ·simp only [Value.slice.injEq] at h2
  refine ⟨g, h2.1, ?_⟩
  rw [cell_of hg, ← Array.getElem?_toList]
  have e1 : (cur.toList.take (L.length * 1))[L.length - 1]? = (ints L)[L.length - 1]? := by rw [ht]
  rw [List.getElem?_take, if_pos (by omega)] at e1
  rw [e1, List.getLast?_eq_getElem?, ints, List.getElem?_map, List.getElem?_eq_getElem (show L.length - 1 < L.length by omega)]
  rfl
theorem Own.cell {w wr : World} {ao : Option Addr} {cap : Nat} {L : List Nat} (h : Own w wr ao cap L) {i : Nat} (h0 : i < L.length) : ∃ g, ao = some ⟨g, 0, none⟩ ∧ wr.cell? ⟨g, i, none⟩ = some (.int .i64 (lenAt L i : Nat)) := by
 obtain ⟨h1, h2⟩ := h.own
 rcases h2 with ⟨h2, _⟩ | ⟨g, cap', cur, h2, hb, hg, hn, hm, hs, ht⟩
 ·simp only [Value.slice.injEq] at h2; omega
 ·simp only [Value.slice.injEq] at h2
  refine ⟨g, h2.1, ?_⟩
  rw [cell_of hg, ← Array.getElem?_toList]
  have e1 : (cur.toList.take (L.length * 1))[i]? = (ints L)[i]? := by rw [ht]
  rw [List.getElem?_take, if_pos (by omega)] at e1
  rw [e1, ints, List.getElem?_map, List.getElem?_eq_getElem h0, lenAt, List.getElem?_eq_getElem h0]
  rfl
def LensGood (w : World) (R p : Nat) (F : List Nat) (bs out : List UInt8) (oa : Option Addr) (oc most n : Nat) (m : Except Nat (List Nat × Nat)) (e : Ending) (w' : World) : Prop :=
 (∃ c, m = .error c ∧ 0 < c ∧ c < 100 ∧ e = .returned (.tuple #[.slice none 0 0, .int .i64 (c : Nat)]) ∧ Fr (R :: p :: blk oa) w w') ∨
 (∃ L a ao cap, m = .ok (L, a) ∧ e = .returned (.tuple #[.slice ao L.length cap, .int .i64 0]) ∧ St w' R p F bs a out oa oc most ∧ Fr [p] w w' ∧ Own w w' ao cap L ∧ L.length = n ∧ ∀ x ∈ L, x ≤ 15)
set_option maxHeartbeats 8000000 in
theorem lengths_any (R p P n : Nat) (F : List Nat) (bs out : List UInt8) (ls : List Nat) (at_ oc most : Nat) (oa : Option Addr) (w : World) (h : St w R p F bs at_ out oa oc most) (hT : Tb w P ls (R :: p :: blk oa)) (hl : ls.length ≤ 19) (hn : n ≤ 400) :
  Calls Tryz.prog 191 #[.pointer (some ⟨R, 0, none⟩), .pointer (some ⟨P, 0, none⟩), .int .i64 (n : Nat)] w (LensGood w R p F bs out oa oc most n (ilens bs ls n (n + 1) [] at_)) := by
 obtain ⟨M, hM⟩ : ∃ M, M = ilens bs ls n (n + 1) [] at_ := ⟨_, rfl⟩
 rw [← hM]
 have H := Lib.hid (And.intro h (And.intro hT (And.intro hM hl)))
 clear h hT hM hl
 go_enter Tryz.func191, Tryz.ntmps191
 go_wp2
 go_loopg [6, 7, 8, 9, 10, 11, 12, 13, 14, 79] (n + 1) (fun k s6 s7 s8 s9 s10 s11 s12 s13 s14 s79 wr => ∃ (l a1 : Nat) (L : List Nat) (ao : Option Addr) (cap : Nat), s8 = .slice ao l cap ∧ l = L.length ∧ l ≤ n ∧ n + 1 ≤ l + k ∧ St wr R p F bs a1 out oa oc most ∧ Fr [p] w wr ∧ Own w wr ao cap L ∧ ilens bs ls n k L a1 = M ∧ ∀ x ∈ L, x ≤ 15)
 case atStart => exact ⟨0, at_, [], none, 0, rfl, rfl, by omega, by omega, H.out.1, .refl _ _, .start _ _, H.out.2.2.1.symm, by simp⟩
 case round =>
  obtain ⟨l, a1, L, ao, cap, rfl, hlL, hln, hlk, hst, hf, hown, hil, h15⟩ := hrel
  obtain ⟨k, rfl⟩ : ∃ k, gk = k + 1 := ⟨gk - 1, by omega⟩
  have c0 := cell_of hst.box 0
  simp only [List.getElem?_toArray, List.getElem?_cons_zero, List.getElem?_cons_succ] at c0
  by_cases hlt : l < n
  ·have HJ := Lib.hid (And.intro hst (And.intro hf (And.intro hown (And.intro hil (And.intro h15 hlL)))))
   clear hst hf hown hil h15 hlL
   have hp : ∀ x ∈ [p], x < w.heap.size := fun x hx => by simp at hx; rw [hx]; exact H.out.1.low _ H.out.1.pF.1
   have HP := Lib.hid hp
   clear hp
   go_upto_block 3 with (first
    | (go_at_call 206; refine (sym_any R p P F bs out ls a1 oc most oa wr HJ.out.1 (H.out.2.1.fr HJ.out.2.1 (by simp))).mono ?_; rintro e w2 (⟨v2, c, hm, hc0, hc1, rfl, f1⟩ | ⟨s, a2, hm, rfl, s2, f2⟩); rotate_left; (have hs19 := (isym_lt hm).1; have hls := H.out.2.2.2; rcases (show s < 16 ∨ (s = 16 ∧ l = 0) ∨ (s = 16 ∧ 0 < l) ∨ s = 17 ∨ s = 18 by omega) with hs | ⟨rfl, rfl⟩ | ⟨rfl, hl0⟩ | rfl | rfl); all_goals (try (have T2 : Calls Tryz.prog 134 #[.pointer (some ⟨R, 0, none⟩), .int .i64 2] w2 (RetV w2 R p F bs out oa oc most (itake bs a2 2)) := take_any R p F bs out a2 oc most 2 oa w2 s2 (by decide); have T3 : Calls Tryz.prog 134 #[.pointer (some ⟨R, 0, none⟩), .int .i64 3] w2 (RetV w2 R p F bs out oa oc most (itake bs a2 3)) := take_any R p F bs out a2 oc most 3 oa w2 s2 (by decide); have T7 : Calls Tryz.prog 134 #[.pointer (some ⟨R, 0, none⟩), .int .i64 7] w2 (RetV w2 R p F bs out oa oc most (itake bs a2 7)) := take_any R p F bs out a2 oc most 7 oa w2 s2 (by decide); have K2 := Lib.hid (And.intro hm (And.intro s2 (And.intro f2 (And.intro T2 (And.intro T3 (And.intro T7 (HJ.out.2.2.1.fr f2 HP.out))))))); clear hm s2 f2 T2 T3 T7 hs19 hls)); all_goals (first | (have _t := hl0; obtain ⟨g, rfl, hce⟩ := K2.out.2.2.2.2.2.2.last (by rw [← HJ.out.2.2.2.2.2]; exact hl0); rw [← HJ.out.2.2.2.2.2] at hce) | skip))
    | (go_at_call 134; (first | with_reducible refine K2.out.2.2.2.1.mono ?_ | with_reducible refine K2.out.2.2.2.2.1.mono ?_ | with_reducible refine K2.out.2.2.2.2.2.1.mono ?_); rintro e w3 (⟨v3, c, hm, hc0, hc1, rfl, f1⟩ | ⟨v, a3, hm, rfl, s3, f3⟩); all_goals (try (replace hce := f3.cell hce (by have := K2.out.2.2.2.2.2.2.new g (by simp [blk]); have := HP.out p (by simp); simp; omega); have hlb : ((l : Int) == 0) = false := by simp; omega)); all_goals (try (have hvb := itake_lt hm; have K3 := Lib.hid (And.intro hm (And.intro s3 f3)); clear hm s3 f3)))
    | (at_builtin; go_loud (refine wpList_append huf.sty_int rfl _ _ rfl (.slice ao l cap) l (ints L) (blk ao) rfl (own_blk ao l cap) (by have := ownsRow_fr K2.out.2.2.2.2.2.2.own ((Fr.refl [] w2).alloc (.cells #[.int .i64 (s : Nat)] 3 (0, 0))) (by simp); rwa [← HJ.out.2.2.2.2.2] at this) (some ⟨w2.heap.size, 0, none⟩) 1 1 [.int .i64 (s : Nat)] (by first | rfl | simp) (Nat.le_refl _) (fun h => by cases h) (cs_one _ _ _ _ (alloc_at _ _)) rfl (by intro u hu; simp only [List.mem_singleton] at hu; rw [hu]; rfl) (by omega) (by unfold maxLen; omega) ?_); intro ao2 cap2 w4 A4; have HA := Lib.hid A4; clear A4))
   ·go_roundg k
    case measure => omega
    case rel =>
     have hp := HP.out
     have hA := HJ.out.2.2.1.fr K2.out.2.2.1 hp
     have hA2 := hA.app (n := l) HJ.out.2.2.2.2.2 (HJ.out.2.1.trans K2.out.2.2.1).size HA.out
     refine ⟨l + 1, a2, L ++ [s], ao2, cap2, rfl, by rw [List.length_append, ← HJ.out.2.2.2.2.2]; rfl, by omega, by omega, H.out.1.up K2.out.2.1 hA2.2 (fun x hx => hA.new x hx), (HJ.out.2.1.trans K2.out.2.2.1).step hA2.2 (fun x hx => .inr (hA.new x hx)), hA2.1, ?_, ?_⟩
     ·rw [← HJ.out.2.2.2.1, ilens_lit (by rw [← HJ.out.2.2.2.2.2]; exact hlt) K2.out.1 hs]
     ·intro x hx
      rcases List.mem_append.1 hx with h1 | h1
      ·exact HJ.out.2.2.2.2.1 x h1
      ·simp at h1; omega
   ·go_ret2
    exact .inl ⟨c, by rw [← HJ.out.2.2.2.1, ilens_take (by rw [← HJ.out.2.2.2.2.2]; exact hlt) K2.out.1 (by decide) hm], hc0, hc1, rfl, ((HJ.out.2.1.trans K2.out.2.2.1).mono (by simp)).trans f1⟩
   ·go_ret2
    exact .inl ⟨3, by rw [← HJ.out.2.2.2.1, ilens_form (by rw [← HJ.out.2.2.2.2.2]; exact hlt) K2.out.1 (by decide) K3.out.1 (.inl ⟨rfl, List.eq_nil_of_length_eq_zero (HJ.out.2.2.2.2.2).symm⟩)], by decide, by decide, rfl, ((HJ.out.2.1.trans K2.out.2.2.1).trans K3.out.2.2).mono (by simp)⟩
   ·go_ret2
    exact .inl ⟨c, by rw [← HJ.out.2.2.2.1, ilens_take (by rw [← HJ.out.2.2.2.2.2]; exact hlt) K2.out.1 (by decide) hm], hc0, hc1, rfl, ((HJ.out.2.1.trans K2.out.2.2.1).mono (by simp)).trans f1⟩
   ·go_ret2
    exact .inl ⟨3, by rw [← HJ.out.2.2.2.1, ilens_form (by rw [← HJ.out.2.2.2.2.2]; exact hlt) K2.out.1 (by decide) K3.out.1 (.inr (by rw [← HJ.out.2.2.2.2.2]; show n - l < 3 + v; omega))], by decide, by decide, rfl, ((HJ.out.2.1.trans K2.out.2.2.1).trans K3.out.2.2).mono (by simp)⟩
   ·obtain ⟨t, ht⟩ : ∃ t, t = 3 + v := ⟨_, rfl⟩
    have et : (3 : Int) + (v : Nat) = (t : Nat) := by rw [ht]; omega
    rw [et]
    have htn : t ≤ n - l := by omega
    obtain ⟨x, hx⟩ : ∃ x, x = L.getLast?.getD 0 := ⟨_, rfl⟩
    have hx15 : x ≤ 15 := by
     rw [hx, List.getLast?_eq_getElem?, List.getElem?_eq_getElem (show L.length - 1 < L.length by have := HJ.out.2.2.2.2.2; omega)]
     exact HJ.out.2.2.2.2.1 _ (List.getElem_mem _)
    have hE : ilens bs ls n k (L ++ List.replicate t x) a3 = M := by
     rw [← HJ.out.2.2.2.1, ilens_rep (s := 16) (v := v) (a2 := a3) (by rw [← HJ.out.2.2.2.2.2]; exact hlt) K2.out.1 (by decide) K3.out.1 (by
      rintro (⟨_, h1⟩ | h1)
      ·have := HJ.out.2.2.2.2.2; rw [h1] at this; simp at this; omega
      ·rw [← HJ.out.2.2.2.2.2] at h1; have h2 : n - l < 3 + v := h1; omega), ht, hx]
     rfl
    rw [← hx]
    have hv0 : 0 < t := by omega
    have HB := Lib.hid (And.intro hE (And.intro hx15 (And.intro (K2.out.2.2.2.2.2.2.fr K3.out.2.2 HP.out) (And.intro ((HJ.out.2.1.trans K2.out.2.2.1).trans K3.out.2.2) ht))))
    clear hE hx15 ht et hvb c0 hx hce hlb
    go_wp2
    go_loopg [8, 79] t (fun k2 s8 s79 wr => ∃ (j : Nat) (ao2 : Option Addr) (cap2 : Nat), s79 = .int .i64 (j : Nat) ∧ s8 = .slice ao2 (l + j) cap2 ∧ j + k2 = t ∧ St wr R p F bs a3 out oa oc most ∧ Fr [p] w wr ∧ Own w wr ao2 cap2 (L ++ List.replicate j x))
    case atStart => exact ⟨0, (some ⟨g, 0, none⟩), cap, rfl, rfl, by omega, K3.out.2.1, HB.out.2.2.2.1, by simpa using HB.out.2.2.1⟩
    case round =>
     obtain ⟨j, ao2, cap2, rfl, rfl, hjt, hs3, hf3, how⟩ := hrel
     have hjl : l + j = (L ++ List.replicate j x).length := by rw [List.length_append, List.length_replicate, ← HJ.out.2.2.2.2.2]
     by_cases hj : j < t
     ·obtain ⟨k2, rfl⟩ : ∃ k2, gk = k2 + 1 := ⟨gk - 1, by omega⟩
      have HI := Lib.hid (And.intro hs3 (And.intro hf3 (And.intro how hjl)))
      clear hs3 hf3 how hjl
      go_wp2_with (at_builtin; go_loud (refine wpList_append huf.sty_int rfl _ _ rfl (.slice ao2 (l + j) cap2) (l + j) (ints (L ++ List.replicate j x)) (blk ao2) rfl (own_blk ao2 (l + j) cap2) (by have := ownsRow_fr HI.out.2.2.1.own ((Fr.refl [] wr).alloc (.cells #[.int .i64 (x : Nat)] 3 (0, 0))) (by simp); rwa [← HI.out.2.2.2] at this) (some ⟨wr.heap.size, 0, none⟩) 1 1 [.int .i64 (x : Nat)] (by first | rfl | simp) (Nat.le_refl _) (fun h => by cases h) (cs_one _ _ _ _ (alloc_at _ _)) rfl (by intro u hu; simp only [List.mem_singleton] at hu; rw [hu]; rfl) (by omega) (by unfold maxLen; omega) ?_); intro ao3 cap3 w5 A5; have HA := Lib.hid A5; clear A5)
      go_roundg k2
      case measure => omega
      case rel =>
       have hA2 := HI.out.2.2.1.app (n := l + j) (x := x) HI.out.2.2.2 HI.out.2.1.size HA.out
       refine ⟨j + 1, ao3, cap3, by go_num, rfl, by omega, H.out.1.up HI.out.1 hA2.2 (fun y hy => HI.out.2.2.1.new y hy), HI.out.2.1.step hA2.2 (fun y hy => .inr (HI.out.2.2.1.new y hy)), ?_⟩
       rw [List.replicate_succ', ← List.append_assoc]
       exact hA2.1
     ·obtain rfl : j = t := by omega
      have HI := Lib.hid (And.intro hs3 (And.intro hf3 (And.intro how hjl)))
      clear hs3 hf3 how hjl
      go_wp2
      go_roundg k
      case measure => omega
      case rel =>
       refine ⟨l + j, a3, L ++ List.replicate j x, ao2, cap2, rfl, HI.out.2.2.2, by omega, by omega, HI.out.1, HI.out.2.1, HI.out.2.2.1, HB.out.1, ?_⟩
       intro y hy
       rcases List.mem_append.1 hy with h1 | h1
       ·exact HJ.out.2.2.2.2.1 y h1
       ·rw [(List.mem_replicate.1 h1).2]; exact HB.out.2.1
   ·go_ret2
    exact .inl ⟨c, by rw [← HJ.out.2.2.2.1, ilens_take (by rw [← HJ.out.2.2.2.2.2]; exact hlt) K2.out.1 (by decide) hm], hc0, hc1, rfl, ((HJ.out.2.1.trans K2.out.2.2.1).mono (by simp)).trans f1⟩
   ·go_ret2
    exact .inl ⟨3, by rw [← HJ.out.2.2.2.1, ilens_form (by rw [← HJ.out.2.2.2.2.2]; exact hlt) K2.out.1 (by decide) K3.out.1 (.inr (by rw [← HJ.out.2.2.2.2.2]; show n - l < 3 + v; omega))], by decide, by decide, rfl, ((HJ.out.2.1.trans K2.out.2.2.1).trans K3.out.2.2).mono (by simp)⟩
   ·obtain ⟨t, ht⟩ : ∃ t, t = 3 + v := ⟨_, rfl⟩
    have et : (3 : Int) + (v : Nat) = (t : Nat) := by rw [ht]; omega
    rw [et]
    have htn : t ≤ n - l := by omega
    have hE : ilens bs ls n k (L ++ List.replicate t 0) a3 = M := by
     rw [← HJ.out.2.2.2.1, ilens_rep (s := 17) (v := v) (a2 := a3) (by rw [← HJ.out.2.2.2.2.2]; exact hlt) K2.out.1 (by decide) K3.out.1 (by
      rintro (⟨h1, _⟩ | h1)
      ·cases h1
      ·rw [← HJ.out.2.2.2.2.2] at h1; have h2 : n - l < 3 + v := h1; omega), ht]
     rfl
    have hx15 : 0 ≤ 15 := by decide
    have hv0 : 0 < t := by omega
    have HB := Lib.hid (And.intro hE (And.intro hx15 (And.intro (K2.out.2.2.2.2.2.2.fr K3.out.2.2 HP.out) (And.intro ((HJ.out.2.1.trans K2.out.2.2.1).trans K3.out.2.2) ht))))
    clear hE hx15 ht et hvb c0
    go_wp2
    go_loopg [8, 79] t (fun k2 s8 s79 wr => ∃ (j : Nat) (ao2 : Option Addr) (cap2 : Nat), s79 = .int .i64 (j : Nat) ∧ s8 = .slice ao2 (l + j) cap2 ∧ j + k2 = t ∧ St wr R p F bs a3 out oa oc most ∧ Fr [p] w wr ∧ Own w wr ao2 cap2 (L ++ List.replicate j 0))
    case atStart => exact ⟨0, ao, cap, rfl, rfl, by omega, K3.out.2.1, HB.out.2.2.2.1, by simpa using HB.out.2.2.1⟩
    case round =>
     obtain ⟨j, ao2, cap2, rfl, rfl, hjt, hs3, hf3, how⟩ := hrel
     have hjl : l + j = (L ++ List.replicate j 0).length := by rw [List.length_append, List.length_replicate, ← HJ.out.2.2.2.2.2]
     by_cases hj : j < t
     ·obtain ⟨k2, rfl⟩ : ∃ k2, gk = k2 + 1 := ⟨gk - 1, by omega⟩
      have HI := Lib.hid (And.intro hs3 (And.intro hf3 (And.intro how hjl)))
      clear hs3 hf3 how hjl
      go_wp2_with (at_builtin; go_loud (refine wpList_append huf.sty_int rfl _ _ rfl (.slice ao2 (l + j) cap2) (l + j) (ints (L ++ List.replicate j 0)) (blk ao2) rfl (own_blk ao2 (l + j) cap2) (by have := ownsRow_fr HI.out.2.2.1.own ((Fr.refl [] wr).alloc (.cells #[.int .i64 0] 3 (0, 0))) (by simp); rwa [← HI.out.2.2.2] at this) (some ⟨wr.heap.size, 0, none⟩) 1 1 [.int .i64 0] (by first | rfl | simp) (Nat.le_refl _) (fun h => by cases h) (cs_one _ _ _ _ (alloc_at _ _)) rfl (by intro u hu; simp only [List.mem_singleton] at hu; rw [hu]; rfl) (by omega) (by unfold maxLen; omega) ?_); intro ao3 cap3 w5 A5; have HA := Lib.hid A5; clear A5)
      go_roundg k2
      case measure => omega
      case rel =>
       have hA2 := HI.out.2.2.1.app (n := l + j) (x := 0) HI.out.2.2.2 HI.out.2.1.size HA.out
       refine ⟨j + 1, ao3, cap3, by go_num, rfl, by omega, H.out.1.up HI.out.1 hA2.2 (fun y hy => HI.out.2.2.1.new y hy), HI.out.2.1.step hA2.2 (fun y hy => .inr (HI.out.2.2.1.new y hy)), ?_⟩
       rw [List.replicate_succ', ← List.append_assoc]
       exact hA2.1
     ·obtain rfl : j = t := by omega
      have HI := Lib.hid (And.intro hs3 (And.intro hf3 (And.intro how hjl)))
      clear hs3 hf3 how hjl
      go_wp2
      go_roundg k
      case measure => omega
      case rel =>
       refine ⟨l + j, a3, L ++ List.replicate j 0, ao2, cap2, rfl, HI.out.2.2.2, by omega, by omega, HI.out.1, HI.out.2.1, HI.out.2.2.1, HB.out.1, ?_⟩
       intro y hy
       rcases List.mem_append.1 hy with h1 | h1
       ·exact HJ.out.2.2.2.2.1 y h1
       ·rw [(List.mem_replicate.1 h1).2]; exact HB.out.2.1
   ·go_ret2
    exact .inl ⟨c, by rw [← HJ.out.2.2.2.1, ilens_take (by rw [← HJ.out.2.2.2.2.2]; exact hlt) K2.out.1 (by decide) hm], hc0, hc1, rfl, ((HJ.out.2.1.trans K2.out.2.2.1).mono (by simp)).trans f1⟩
   ·go_ret2
    exact .inl ⟨3, by rw [← HJ.out.2.2.2.1, ilens_form (by rw [← HJ.out.2.2.2.2.2]; exact hlt) K2.out.1 (by decide) K3.out.1 (.inr (by rw [← HJ.out.2.2.2.2.2]; show n - l < 11 + v; omega))], by decide, by decide, rfl, ((HJ.out.2.1.trans K2.out.2.2.1).trans K3.out.2.2).mono (by simp)⟩
   ·obtain ⟨t, ht⟩ : ∃ t, t = 11 + v := ⟨_, rfl⟩
    have et : (11 : Int) + (v : Nat) = (t : Nat) := by rw [ht]; omega
    rw [et]
    have htn : t ≤ n - l := by omega
    have hE : ilens bs ls n k (L ++ List.replicate t 0) a3 = M := by
     rw [← HJ.out.2.2.2.1, ilens_rep (s := 18) (v := v) (a2 := a3) (by rw [← HJ.out.2.2.2.2.2]; exact hlt) K2.out.1 (by decide) K3.out.1 (by
      rintro (⟨h1, _⟩ | h1)
      ·cases h1
      ·rw [← HJ.out.2.2.2.2.2] at h1; have h2 : n - l < 11 + v := h1; omega), ht]
     rfl
    have hx15 : 0 ≤ 15 := by decide
    have hv0 : 0 < t := by omega
    have HB := Lib.hid (And.intro hE (And.intro hx15 (And.intro (K2.out.2.2.2.2.2.2.fr K3.out.2.2 HP.out) (And.intro ((HJ.out.2.1.trans K2.out.2.2.1).trans K3.out.2.2) ht))))
    clear hE hx15 ht et hvb c0
    go_wp2
    go_loopg [8, 79] t (fun k2 s8 s79 wr => ∃ (j : Nat) (ao2 : Option Addr) (cap2 : Nat), s79 = .int .i64 (j : Nat) ∧ s8 = .slice ao2 (l + j) cap2 ∧ j + k2 = t ∧ St wr R p F bs a3 out oa oc most ∧ Fr [p] w wr ∧ Own w wr ao2 cap2 (L ++ List.replicate j 0))
    case atStart => exact ⟨0, ao, cap, rfl, rfl, by omega, K3.out.2.1, HB.out.2.2.2.1, by simpa using HB.out.2.2.1⟩
    case round =>
     obtain ⟨j, ao2, cap2, rfl, rfl, hjt, hs3, hf3, how⟩ := hrel
     have hjl : l + j = (L ++ List.replicate j 0).length := by rw [List.length_append, List.length_replicate, ← HJ.out.2.2.2.2.2]
     by_cases hj : j < t
     ·obtain ⟨k2, rfl⟩ : ∃ k2, gk = k2 + 1 := ⟨gk - 1, by omega⟩
      have HI := Lib.hid (And.intro hs3 (And.intro hf3 (And.intro how hjl)))
      clear hs3 hf3 how hjl
      go_wp2_with (at_builtin; go_loud (refine wpList_append huf.sty_int rfl _ _ rfl (.slice ao2 (l + j) cap2) (l + j) (ints (L ++ List.replicate j 0)) (blk ao2) rfl (own_blk ao2 (l + j) cap2) (by have := ownsRow_fr HI.out.2.2.1.own ((Fr.refl [] wr).alloc (.cells #[.int .i64 0] 3 (0, 0))) (by simp); rwa [← HI.out.2.2.2] at this) (some ⟨wr.heap.size, 0, none⟩) 1 1 [.int .i64 0] (by first | rfl | simp) (Nat.le_refl _) (fun h => by cases h) (cs_one _ _ _ _ (alloc_at _ _)) rfl (by intro u hu; simp only [List.mem_singleton] at hu; rw [hu]; rfl) (by omega) (by unfold maxLen; omega) ?_); intro ao3 cap3 w5 A5; have HA := Lib.hid A5; clear A5)
      go_roundg k2
      case measure => omega
      case rel =>
       have hA2 := HI.out.2.2.1.app (n := l + j) (x := 0) HI.out.2.2.2 HI.out.2.1.size HA.out
       refine ⟨j + 1, ao3, cap3, by go_num, rfl, by omega, H.out.1.up HI.out.1 hA2.2 (fun y hy => HI.out.2.2.1.new y hy), HI.out.2.1.step hA2.2 (fun y hy => .inr (HI.out.2.2.1.new y hy)), ?_⟩
       rw [List.replicate_succ', ← List.append_assoc]
       exact hA2.1
     ·obtain rfl : j = t := by omega
      have HI := Lib.hid (And.intro hs3 (And.intro hf3 (And.intro how hjl)))
      clear hs3 hf3 how hjl
      go_wp2
      go_roundg k
      case measure => omega
      case rel =>
       refine ⟨l + j, a3, L ++ List.replicate j 0, ao2, cap2, rfl, HI.out.2.2.2, by omega, by omega, HI.out.1, HI.out.2.1, HI.out.2.2.1, HB.out.1, ?_⟩
       intro y hy
       rcases List.mem_append.1 hy with h1 | h1
       ·exact HJ.out.2.2.2.2.1 y h1
       ·rw [(List.mem_replicate.1 h1).2]; exact HB.out.2.1
   ·go_ret2
    exact .inl ⟨c, by rw [← HJ.out.2.2.2.1, ilens_sym (by rw [← HJ.out.2.2.2.2.2]; exact hlt) hm], hc0, hc1, rfl, (HJ.out.2.1.mono (by simp)).trans f1⟩
  ·obtain rfl : l = n := by omega
   have e1 : ilens bs ls l (k + 1) L a1 = .ok (L, a1) := ilens_end (by omega)
   have HJ := Lib.hid (And.intro hst (And.intro hf (And.intro hown (And.intro hil (And.intro h15 (And.intro hlL e1))))))
   clear hst hf hown hil h15 hlL e1 hlt hln
   go_wp2
   go_ret2
   exact .inr ⟨L, a1, ao, cap, by rw [← HJ.out.2.2.2.1, HJ.out.2.2.2.2.2.2], by rw [← HJ.out.2.2.2.2.2.1]; rfl, HJ.out.1, HJ.out.2.1, HJ.out.2.2.1, HJ.out.2.2.2.2.2.1.symm, HJ.out.2.2.2.2.1⟩
end Go.Proofs.YtkmpfgpfbmeihaaGreatDoor.inf
namespace Go.Proofs.YtkmpfgpfbmeihaaGreatDoor.inf
open Go Go.RowKit lib bm bl huf
def ordV : Array Value := #[.int .i64 16, .int .i64 17, .int .i64 18, .int .i64 0, .int .i64 8, .int .i64 7, .int .i64 9, .int .i64 6, .int .i64 10, .int .i64 5, .int .i64 11, .int .i64 4, .int .i64 12, .int .i64 3, .int .i64 13, .int .i64 2, .int .i64 14, .int .i64 1, .int .i64 15]
def zeroV : Array Value := #[.int .i64 0, .int .i64 0, .int .i64 0, .int .i64 0, .int .i64 0, .int .i64 0, .int .i64 0, .int .i64 0, .int .i64 0, .int .i64 0, .int .i64 0, .int .i64 0, .int .i64 0, .int .i64 0, .int .i64 0, .int .i64 0, .int .i64 0, .int .i64 0, .int .i64 0]
theorem info19 : (Tryz.prog.info? 287).map (·.size) = some 19 := by kernel_rfl
theorem results_19 {fn : Func} {p : Tmp} (h : fn.results = #[.cell p 287]) (tmps : Array Value) (w : World) (g : Nat) (cs : Array Value) (fr : Nat × Nat)
  (hp : tmps.getD p undef = .pointer (some ⟨g, 0, none⟩)) (hg : w.heap[g]? = some (.cells cs 287 fr)) (hs : cs.size = 19) : (results fn tmps).run Tryz.prog w = .ok (.agg cs) w :=
 results_cell_row h tmps w g 287 cs fr _ hp hg Tryz.underlying287 rfl (by rw [info19, hs])
theorem order_any (w : World) : Calls Tryz.prog 189 #[] w fun e w' => e = .returned (.agg ordV) ∧ Fr [] w w' := by
 go_enter Tryz.func189, Tryz.ntmps189
 go_wp2_with (refine wpList_store_row rfl 287 (.tmp 0) (.tmp 1) rfl w.heap.size ordV rfl rfl 287 zeroV (heap_alloc_last w _) info19 rfl (by kernel_rfl) ?_; rw [World.setRow_alloc_new])
 simp only [Act.put]
 refine bodyPost_ret (results_19 rfl _ _ w.heap.size ordV (0, 0) rfl (alloc_at w _) rfl) rfl ?_
 exact ⟨rfl, (Fr.refl [] w).alloc _⟩
theorem ri_drop {w : World} {a : Option Addr} {cap : Nat} {xs : List Nat} (h : Ri w a cap xs) (k : Nat) (hk : k ≤ xs.length) : Ri w (cutAtN a cap k 1) (cap - k) (xs.drop k) :=
 ⟨by rw [List.map_drop]; exact cs_drop h.cs k (by simpa using hk) (by simpa using h.le), by have := h.le; simp; omega, Nat.le_trans (Nat.sub_le _ _) h.max, fun hn => by have := h.nil (cutAtN_none hn); omega⟩
theorem lenAt_set {fs : List Nat} {i v : Nat} (hi : i < fs.length) (t : Nat) : lenAt (fs.set i v) t = if t = i then v else lenAt fs t := by
 unfold lenAt
 rw [List.getElem?_set]
 by_cases e : i = t
 ·subst e; simp [hi]
 ·rw [if_neg e, if_neg (fun h => e h.symm)]
theorem ow_list {w : World} {Q : Nat} {fs : List Nat} (h : Ow w Q 19 (lenAt fs)) (hl : fs.length = 19) : Ri w (some ⟨Q, 0, none⟩) 19 fs := by
 have e : (List.range 19).map (lenAt fs) = fs := by
  refine List.ext_getElem (by simp [hl]) fun i h1 h2 => ?_
  simp [lenAt, h2]
 have := h.cs
 rw [e] at this
 exact ⟨this, by omega, by decide, fun h => by cases h⟩
theorem places_ord : places = defl.ordL := rfl
theorem ordV_at {i : Nat} (h : i < 19) : ordV[i]? = some (.int .i64 ((defl.ord i : Nat) : Int)) := by
 have e : ordV = (defl.ordL.map fun x => Value.int .i64 (x : Nat)).toArray := rfl
 have hl : i < defl.ordL.length := by simp [defl.ordL]; omega
 rw [e]
 simp [defl.ord, List.getElem?_eq_getElem hl]
theorem places_drop {m j : Nat} (h : j < m) (hm : m ≤ 19) : (places.take m).drop j = defl.ord j :: (places.take m).drop (j + 1) := by
 have hl : places.length = 19 := rfl
 have h1 : j < (places.take m).length := by rw [List.length_take]; omega
 rw [List.drop_eq_getElem_cons h1]
 congr 1
 simp [defl.ord, ← places_ord, List.getElem?_eq_getElem (show j < places.length by omega)]
set_option maxHeartbeats 8000000 in
theorem dynamic_any (R p : Nat) (F : List Nat) (bs out : List UInt8) (at_ oc most : Nat) (oa : Option Addr) (w : World) (h : St w R p F bs at_ out oa oc most) :
  Calls Tryz.prog 168 #[.pointer (some ⟨R, 0, none⟩)] w (Ret w R p F bs oa most (idyn bs most out at_)) := by
 obtain ⟨M, hM⟩ : ∃ M, M = idyn bs most out at_ := ⟨_, rfl⟩
 rw [← hM]
 have TT : ∀ (n : Nat) (a : Nat) (w' : World), St w' R p F bs a out oa oc most → n ≤ 31 → Calls Tryz.prog 134 #[.pointer (some ⟨R, 0, none⟩), .int .i64 (n : Nat)] w' (RetV w' R p F bs out oa oc most (itake bs a n)) := fun n a w' s hn => take_any R p F bs out a oc most n oa w' s hn
 have T3 : ∀ (a : Nat) (w' : World), St w' R p F bs a out oa oc most → Calls Tryz.prog 134 #[.pointer (some ⟨R, 0, none⟩), .int .i64 3] w' (RetV w' R p F bs out oa oc most (itake bs a 3)) := fun a w' s => TT 3 a w' s (by decide)
 have T4 : ∀ (a : Nat) (w' : World), St w' R p F bs a out oa oc most → Calls Tryz.prog 134 #[.pointer (some ⟨R, 0, none⟩), .int .i64 4] w' (RetV w' R p F bs out oa oc most (itake bs a 4)) := fun a w' s => TT 4 a w' s (by decide)
 have T5 : ∀ (a : Nat) (w' : World), St w' R p F bs a out oa oc most → Calls Tryz.prog 134 #[.pointer (some ⟨R, 0, none⟩), .int .i64 5] w' (RetV w' R p F bs out oa oc most (itake bs a 5)) := fun a w' s => TT 5 a w' s (by decide)
 have HT := Lib.hid (And.intro T3 (And.intro T4 T5))
 have H := Lib.hid (And.intro h hM)
 clear h hM TT T3 T4 T5
 go_enter Tryz.func168, Tryz.ntmps168
 go_upto_region 14 with (first
  | (go_at_call 134; (with_reducible refine (HT.out.2.2 at_ w H.out.1).mono ?_); rintro e w1 (⟨v, c, hm, hc0, hc1, rfl, f1⟩ | ⟨lit, a1, hm, rfl, s1, f1⟩); all_goals (try (have hv1 := itake_lt hm; have K1 := Lib.hid (And.intro hm (And.intro s1 f1)); clear hm s1 f1)))
  | (go_at_call 134; (with_reducible refine (HT.out.2.2 a1 w1 K1.out.2.1).mono ?_); rintro e w2 (⟨v, c, hm, hc0, hc1, rfl, f1⟩ | ⟨dist, a2, hm, rfl, s2, f2⟩); all_goals (try (have hv2 := itake_lt hm; have K2 := Lib.hid (And.intro hm (And.intro s2 f2)); clear hm s2 f2)))
  | (go_at_call 134; (with_reducible refine (HT.out.2.1 a2 w2 K2.out.2.1).mono ?_); rintro e w3 (⟨v, c, hm, hc0, hc1, rfl, f1⟩ | ⟨n, a3, hm, rfl, s3, f3⟩); all_goals (try (have hv3 := itake_lt hm; have K3 := Lib.hid (And.intro hm (And.intro s3 f3)); clear hm s3 f3))))
 ·go_ret
  exact .inl ⟨c, by rw [H.out.2]; simp only [idyn, hm], hc0, hc1, rfl, f1⟩
 ·go_ret
  exact .inl ⟨3, by rw [H.out.2]; simp only [idyn, K1.out.1, if_pos (show 29 < lit by omega)], by decide, by decide, rfl, K1.out.2.2.mono (by simp)⟩
 ·go_ret
  exact .inl ⟨c, by rw [H.out.2]; simp only [idyn, K1.out.1, if_neg (show ¬ 29 < lit by omega), hm], hc0, hc1, rfl, (K1.out.2.2.mono (by simp)).trans f1⟩
 ·go_ret
  exact .inl ⟨3, by rw [H.out.2]; simp only [idyn, K1.out.1, if_neg (show ¬ 29 < lit by omega), K2.out.1, if_pos (show 29 < dist by omega)], by decide, by decide, rfl, (K1.out.2.2.trans K2.out.2.2).mono (by simp)⟩
 ·go_ret
  exact .inl ⟨c, by rw [H.out.2]; simp only [idyn, K1.out.1, if_neg (show ¬ 29 < lit by omega), K2.out.1, if_neg (show ¬ 29 < dist by omega), hm], hc0, hc1, rfl, ((K1.out.2.2.trans K2.out.2.2).mono (by simp)).trans f1⟩
 ·have hM3 : M = idyn2 bs most out lit dist n a3 := by rw [H.out.2]; simp only [idyn, K1.out.1, if_neg (show ¬ 29 < lit by omega), K2.out.1, if_neg (show ¬ 29 < dist by omega), K3.out.1]
  have hl1 : lit ≤ 29 := by omega
  have hd1 : dist ≤ 29 := by omega
  have hn1 : n ≤ 15 := by omega
  have hf3 : Fr [p] w w3 := ((K1.out.2.2.trans K2.out.2.2).trans K3.out.2.2)
  have HK := Lib.hid (And.intro hM3 (And.intro K3.out.2.1 (And.intro hf3 H.out.1)))
  clear hM3 hf3 K1 K2 K3 H hv1 hv2 hv3
  obtain ⟨m, hm⟩ : ∃ m, m = n + 4 := ⟨_, rfl⟩
  have em : (n : Int) + 4 = (m : Nat) := by omega
  have hm19 : m ≤ 19 := by omega
  have HM := Lib.hid hm
  clear hm
  obtain ⟨hu, ⟨ti, hi', hz', hs', hb'⟩, hcz, hp⟩ := huf.sty_int
  obtain ⟨Q, hQ⟩ : ∃ Q, Q = w3.heap.size := ⟨_, rfl⟩
  have HQ := Lib.hid hQ
  clear hQ
  go_upto_region 15 with (refine wpList_make_full _ rfl _ _ 28 rfl 0 3 ti (.int .i64 0) 1 hu hi' hz' hs' .i64 .i64 19 19 19 rfl rfl rfl rfl (by rw [hb']; omega) (by unfold maxLen; omega) (by omega) ?_; intro w4 own4 grow4; have H4 := Lib.hid (And.intro own4 grow4); clear own4 grow4)
  rw [← HQ.out] at H4 ⊢
  have hq4 : Ow w4 Q 19 (fun _ => 0) := ow_made H4.out.1
  have f4 : Fr [] w3 w4 := (Fr.refl [] w3).grown H4.out.2 (fun k hk => by cases hk)
  have HW := Lib.hid (And.intro hq4 f4)
  clear hq4 f4 H4 hu hi' hz' hs' hb' hcz hp
  go_cut [8, 46] from 46 to 46 (fun s8 s46 wz => ∃ O : Nat, s8 = .pointer (some ⟨O, 0, none⟩) ∧ wz.heap[O]? = some (.cells ordV 287 (0, 0)) ∧ Fr [] w4 wz ∧ w4.heap.size ≤ O)
  case first =>
   go_wp2_with (first | (go_at_call 189; refine (order_any w4).mono ?_; rintro e w5 ⟨rfl, f5⟩; have K5 := Lib.hid f5; clear f5) | (refine wpList_store_row rfl 287 (.tmp 8) (.tmp 46) rfl w5.heap.size ordV rfl rfl 287 zeroV (heap_alloc_last w5 _) info19 rfl (by kernel_rfl) ?_; rw [World.setRow_alloc_new]))
   simp only [Act.put]
   go_meet
   exact ⟨w5.heap.size, rfl, alloc_at w5 _, K5.out.alloc _, K5.out.size⟩
  case rest =>
  obtain ⟨O, rfl, hO, f6, hO4⟩ := hcut
  obtain ⟨w7, rfl⟩ : ∃ w7 : World, w7 = wc := ⟨_, rfl⟩
  have f37 : Fr [] w3 w7 := HW.out.2.trans f6
  have hQ7 : Ow w7 Q 19 (lenAt (List.replicate 19 0)) := (HW.out.1.fr f6 (by simp)).congr fun s hs => by simp only [lenAt, List.getElem?_replicate, if_pos hs]; rfl
  have hQO : Q < O := by
   obtain ⟨A, hA, _⟩ := HW.out.1
   have := lt_of_block hA
   omega
  have hQ3 : w3.heap.size ≤ Q := by rw [HQ.out]; exact Nat.le_refl _
  have H7 := Lib.hid (And.intro hQ7 (And.intro hO (And.intro f37 (And.intro hQO hQ3))))
  clear hQ7 hO f37 hQO f6 hO4 hQ3
  have d1 : decide ((286 : Int) < (lit : Int) + 257) = false := by simp; omega
  have d2 : decide ((30 : Int) < (dist : Int) + 1) = false := by simp; omega
  simp only [d1, d2]
  clear d1 d2
  have hsl := defl.slice_arr O m hm19
  go_wp2
  clear hsl
  go_loopg [2, 4, 10, 51] m (fun k s2 s4 s10 s51 wr => ∃ (j a1 : Nat) (fs : List Nat), s51 = .int .i64 (j : Nat) ∧ s4 = .int .i64 0 ∧ j + k = m ∧ St wr R p F bs a1 out oa oc most ∧ Ow wr Q 19 (lenAt fs) ∧ fs.length = 19 ∧ (∀ x ∈ fs, x ≤ 15) ∧ wr.heap[O]? = some (.cells ordV 287 (0, 0)) ∧ Fr [p] w wr ∧ ifirst bs ((places.take m).drop j) fs a1 = ifirst bs (places.take m) (List.replicate 19 0) a3)
  case atStart => exact ⟨0, a3, List.replicate 19 0, rfl, rfl, by omega, HK.out.2.1.fr0 H7.out.2.2.1, H7.out.1, rfl, fun x hx => by rw [(List.mem_replicate.1 hx).2]; decide, H7.out.2.1, HK.out.2.2.1.trans (H7.out.2.2.1.mono (by simp)), rfl⟩
  case round =>
   obtain ⟨j, a1, fs, rfl, rfl, hjm, hst, how, hfl, hf15, hO, hfw, hfi⟩ := hrel
   have hw3 : w.heap.size ≤ w3.heap.size := HK.out.2.2.1.size
   have hp0 : p < w.heap.size := HK.out.2.2.2.low _ HK.out.2.2.2.pF.1
   by_cases hj : j < m
   ·obtain ⟨k, rfl⟩ : ∃ k, gk = k + 1 := ⟨gk - 1, by omega⟩
    have cO := cell_of hO j
    rw [ordV_at (by omega)] at cO
    obtain ⟨i, hi⟩ : ∃ i, i = defl.ord j := ⟨_, rfl⟩
    have hi19 : i < 19 := by rw [hi]; exact defl.ord_lt j
    have hpd := places_drop hj hm19
    rw [← hi] at cO hpd
    rw [hpd] at hfi
    have HJ := Lib.hid (And.intro hst (And.intro how (And.intro hfl (And.intro hf15 (And.intro hO (And.intro hfw hfi))))))
    clear hst how hfl hf15 hO hfw hfi hi hpd
    go_wp2_with (go_at_call 134; refine (HT.out.1 a1 wr HJ.out.1).mono ?_; rintro e w8 (⟨v, c, hm, hc0, hc1, rfl, f1⟩ | ⟨v, a2, hm, rfl, s8, f8⟩); rotate_left; all_goals (try (have hv := itake_lt hm; have hx8 := HJ.out.2.1.fr f8 (show Q ∉ [p] by have := H7.out.2.2.2.2; simp; omega); have K8 := Lib.hid (And.intro hm (And.intro s8 (And.intro f8 hx8))); clear hm s8 f8; have c8 := hx8.cell hi19; have z8 := hx8.frozen i; clear hx8)); all_goals (try (have hx9 := HJ.out.2.1.fr f1 (show Q ∉ R :: p :: blk oa by have := H7.out.2.2.2.2; have hu := HK.out.2.2.2.under; intro hq; have := hu Q hq; omega); have c8 := hx9.cell hi19; have z8 := hx9.frozen i; have K9 := Lib.hid (And.intro hm f1); clear hm f1 hx9)))
    ·go_roundg k
     case measure => omega
     case rel =>
      have hQw : ∀ x ∈ [Q], w.heap.size ≤ x := fun x hx => by have := H7.out.2.2.2.2; simp at hx; omega
      have fQ : Fr [Q] w8 (w8.setCell ⟨Q, i, none⟩ (.int .i64 (v : Nat))) := (Fr.refl [Q] _).setCell (by simp) _
      refine ⟨j + 1, a2, fs.set i v, by go_num, rfl, by omega, HK.out.2.2.2.up K8.out.2.1 fQ hQw, (K8.out.2.2.2.set hi19 v).congr (fun t _ => (lenAt_set (by rw [HJ.out.2.2.1]; exact hi19) t).symm), by rw [List.length_set, HJ.out.2.2.1], fun x hx => ?_, fQ.blk (K8.out.2.2.1.blk HJ.out.2.2.2.2.1 (by have := H7.out.2.2.2; simp; omega)) (by have := H7.out.2.2.2.1; simp; omega), (HJ.out.2.2.2.2.2.1.trans K8.out.2.2.1).step fQ (fun x hx => .inr (hQw x hx)), ?_⟩
      ·rcases List.mem_or_eq_of_mem_set hx with h1 | h1
       ·exact HJ.out.2.2.2.1 x h1
       ·rw [h1]; omega
      ·rw [← HJ.out.2.2.2.2.2.2, ifirst, K8.out.1]
    ·go_ret
     have hQw : ∀ x ∈ [Q], w.heap.size ≤ x := fun x hx => by have := H7.out.2.2.2.2; simp at hx; omega
     refine .inl ⟨c, ?_, hc0, hc1, rfl, ((HJ.out.2.2.2.2.2.1.mono (by simp)).trans K9.out.2).step ((Fr.refl [Q] _).setCell (by simp) _) (fun x hx => .inr (hQw x hx))⟩
     rw [HK.out.1, idyn2, ← HM.out, ← HJ.out.2.2.2.2.2.2, ifirst, K9.out.1]
   ·obtain rfl : j = m := by omega
    have hok : ifirst bs (places.take j) (List.replicate 19 0) a3 = .ok (fs, a1) := by
     rw [← hfi, List.drop_of_length_le (by rw [List.length_take]; omega), ifirst]
    have hM4 : M = if iwhole fs false = false then .error 3 else idyn3 bs most out lit dist fs a1 := by
     rw [HK.out.1, idyn2, ← HM.out, hok]
    have W1 : Calls Tryz.prog 190 #[.slice (some ⟨Q, 0, none⟩) 19 19, .bool false] wr (WholeGood wr fs false) := by
     have := whole_any (some ⟨Q, 0, none⟩) 19 fs false wr (ow_list how hfl) hf15 (by omega)
     rwa [hfl] at this
    obtain ⟨wo, rfl⟩ : ∃ wo : World, wo = wr := ⟨_, rfl⟩
    obtain ⟨l1, hl1e⟩ : ∃ l1, l1 = lit + 257 := ⟨_, rfl⟩
    obtain ⟨N, hNe⟩ : ∃ N, N = lit + 257 + dist + 1 := ⟨_, rfl⟩
    have e1 : (lit : Int) + 257 = (l1 : Nat) := by omega
    have eN : (l1 : Int) + (dist : Int) + 1 = (N : Nat) := by omega
    have hN400 : N ≤ 316 := by omega
    have hl1N : l1 + 1 ≤ N := by omega
    have hl1b : 257 ≤ l1 := by omega
    have hLE := fun (w' : World) (P : Nat) (s : St w' R p F bs a1 out oa oc most) (tb : Tb w' P fs (R :: p :: blk oa)) => lengths_any R p P N F bs out fs a1 oc most oa w' s tb (by omega) (by omega)
    have HJ := Lib.hid (And.intro hst (And.intro hM4 (And.intro W1 (And.intro hfw (And.intro hl1e (And.intro hNe hLE))))))
    have hun := Lib.hid HK.out.2.2.2.under
    clear hst how hfl hf15 hO hfw hfi hok hM4 W1 hl1e hNe hLE hj hjm
    go_upto_region 29 with (first
     | (go_at_call 190; (with_reducible refine HJ.out.2.2.1.mono ?_); rintro e w9 (⟨hiw, rfl, f9⟩ | ⟨hiw, P, D, first, sa, sc, rfl, htb, f9⟩); all_goals (try (have K9 := Lib.hid (And.intro hiw (And.intro htb f9)); clear htb)); all_goals (try (have K9b := Lib.hid (And.intro hiw f9))); all_goals clear hiw f9)
     | (go_at_call 191; (with_reducible refine (HJ.out.2.2.2.2.2.2 w9 P (HJ.out.1.fr0 K9.out.2.2) (tabb_tb K9.out.2.1 (Nat.le_refl _) (fun x hx => Nat.lt_of_lt_of_le (hun.out x hx) HJ.out.2.2.2.1.size))).mono ?_); rintro e w10 (⟨c, hm, hc0, hc1, rfl, f10⟩ | ⟨L, a4, ao, cap, hm, he, s10, f10, own, hLN, hL15⟩); rotate_left; (rw [hLN] at he; subst he; have K10 := Lib.hid (And.intro hm (And.intro s10 (And.intro f10 (And.intro own (And.intro hLN hL15))))); clear hm s10 f10 own hLN hL15)))
    ·go_ret
     exact .inl ⟨3, by rw [HJ.out.2.1, if_pos K9b.out.1], by decide, by decide, rfl, (HJ.out.2.2.2.1.trans (K9b.out.2.mono (by simp))).mono (by simp)⟩
    ·have hM5 : M = if lenAt L 256 = 0 then .error 3 else if iwhole (L.take l1) false = false then .error 3 else if iwhole (L.drop l1) true = false then .error 3 else isyms bs most (L.take l1) (L.drop l1) (fuel bs) out a4 := by
      have hlens := K10.out.1
      rw [HJ.out.2.1, if_neg (by rw [K9.out.1]; simp), idyn3]
      rw [HJ.out.2.2.2.2.2.1] at hlens
      rw [hlens, ← HJ.out.2.2.2.2.1]
     obtain ⟨g, rfl, hcell⟩ := K10.out.2.2.2.1.cell (i := 256) (by rw [K10.out.2.2.2.2.1]; omega)
     obtain ⟨z, hz⟩ : ∃ z, z = lenAt L 256 := ⟨_, rfl⟩
     rw [← hz] at hcell hM5
     have hcapN : N ≤ cap := by have := K10.out.2.2.2.1.le; rw [K10.out.2.2.2.2.1] at this; exact this
     have hcapm : cap ≤ 9223372036854775807 := by have := K10.out.2.2.2.1.max; unfold maxLen at this; exact this
     have ri : Ri w10 (some ⟨g, 0, none⟩) cap L := K10.out.2.2.2.1.ri
     have lt : (L.take l1).length = l1 := by rw [List.length_take, K10.out.2.2.2.2.1]; omega
     have ld : (L.drop l1).length = N - l1 := by rw [List.length_drop, K10.out.2.2.2.2.1]
     have W2 : Calls Tryz.prog 190 #[.slice (some ⟨g, 0, none⟩) l1 cap, .bool false] w10 (WholeGood w10 (L.take l1) false) := by
      have := whole_any (some ⟨g, 0, none⟩) cap (L.take l1) false w10 (Ri.take ri l1) (fun x hx => K10.out.2.2.2.2.2 x (List.mem_of_mem_take hx)) (by omega)
      rwa [lt] at this
     have W3 : ∀ w', Fr [] w10 w' → Calls Tryz.prog 190 #[.slice (cutAtN (some ⟨g, 0, none⟩) cap l1 1) (N - l1) (cap - l1), .bool true] w' (WholeGood w' (L.drop l1) true) := fun w' f' => by
      have := whole_any (cutAtN (some ⟨g, 0, none⟩) cap l1 1) (cap - l1) (L.drop l1) true w' (ri_drop (ri.fr f') l1 (by rw [K10.out.2.2.2.2.1]; omega)) (fun x hx => K10.out.2.2.2.2.2 x (List.mem_of_mem_drop hx)) (by omega)
      rwa [ld] at this
     have f910 : Fr [p] w w10 := (HJ.out.2.2.2.1.trans (K9.out.2.2.mono (by simp))).trans K10.out.2.2.1
     have hsl1 := lib.run_slice_to huf.sty_int l1 (some ⟨g, 0, none⟩) N cap l1 rfl (by omega)
     have hsl2 := lib.run_slice_from huf.sty_int l1 (some ⟨g, 0, none⟩) N cap l1 rfl (by omega) hcapN
     have HL := Lib.hid (And.intro hM5 (And.intro W2 (And.intro W3 (And.intro f910 hz))))
     clear hM5 ri lt ld W2 W3 f910 hz
     go_wp2_with (first
      | (go_at_call 190; (with_reducible refine HL.out.2.1.mono ?_); rintro e w11 (⟨hiw, rfl, f9⟩ | ⟨hiw, P2, D2, first2, sa2, sc2, rfl, htb, f9⟩); all_goals (try (have K11 := Lib.hid (And.intro hiw (And.intro htb f9)); clear htb)); all_goals (try (have K11b := Lib.hid (And.intro hiw f9))); all_goals clear hiw f9)
      | (go_at_call 190; (with_reducible refine (HL.out.2.2.1 w11 K11.out.2.2).mono ?_); rintro e w12 (⟨hiw, rfl, f9⟩ | ⟨hiw, P3, D3, first3, sa3, sc3, rfl, htb, f9⟩); all_goals (try (have K12 := Lib.hid (And.intro hiw (And.intro htb f9)); clear htb)); all_goals (try (have K12b := Lib.hid (And.intro hiw f9))); all_goals clear hiw f9)
      | (go_at_call 188; refine (symbols_any R p P2 P3 F bs out (L.take l1) (L.drop l1) a4 oc most oa w12 (K10.out.2.1.fr0 (K11.out.2.2.trans K12.out.2.2)) ((tabb_tb K11.out.2.1 (Nat.le_refl _) (fun x hx => Nat.lt_of_lt_of_le (hun.out x hx) HL.out.2.2.2.1.size)).fr K12.out.2.2 (by simp)) (tabb_tb K12.out.2.1 (Nat.le_refl _) (fun x hx => Nat.lt_of_lt_of_le (hun.out x hx) (Nat.le_trans HL.out.2.2.2.1.size K11.out.2.2.size)))).mono ?_; rintro e w13 (⟨c, hm, hc0, hc1, rfl, f6⟩ | ⟨o6, a6, oa6, oc6, hm, rfl, s6, f6⟩); all_goals (have Km := Lib.hid hm; clear hm); all_goals (try (have K6 := Lib.hid (And.intro s6 f6); clear s6 f6))))
     ·have hze : ((z : Int) == 0) = true := by assumption
      have hz0 : z = 0 := by have := beq_iff_eq.1 hze; omega
      go_ret
      exact .inl ⟨3, by rw [HL.out.1, if_pos hz0], by decide, by decide, rfl, HL.out.2.2.2.1.mono (by simp)⟩
     ·have hze : ((z : Int) == 0) = false := by assumption
      have hz0 : z ≠ 0 := fun he => by rw [he] at hze; cases hze
      go_ret
      exact .inl ⟨3, by rw [HL.out.1, if_neg hz0, if_pos K11b.out.1], by decide, by decide, rfl, (HL.out.2.2.2.1.trans (K11b.out.2.mono (by simp))).mono (by simp)⟩
     ·have hze : ((z : Int) == 0) = false := by assumption
      have hz0 : z ≠ 0 := fun he => by rw [he] at hze; cases hze
      go_ret
      exact .inl ⟨3, by rw [HL.out.1, if_neg hz0, if_neg (by rw [K11.out.1]; simp), if_pos K12b.out.1], by decide, by decide, rfl, ((HL.out.2.2.2.1.trans (K11.out.2.2.mono (by simp))).trans (K12b.out.2.mono (by simp))).mono (by simp)⟩
     ·have hze : ((z : Int) == 0) = false := by assumption
      have hz0 : z ≠ 0 := fun he => by rw [he] at hze; cases hze
      go_ret
      exact .inl ⟨c, by rw [HL.out.1, if_neg hz0, if_neg (by rw [K11.out.1]; simp), if_neg (by rw [K12.out.1]; simp), Km.out], hc0, hc1, rfl, (((HL.out.2.2.2.1.trans (K11.out.2.2.mono (by simp))).trans (K12.out.2.2.mono (by simp))).mono (by simp)).trans f6⟩
     ·have hze : ((z : Int) == 0) = false := by assumption
      have hz0 : z ≠ 0 := fun he => by rw [he] at hze; cases hze
      go_ret
      exact .inr ⟨o6, a6, oa6, oc6, by rw [HL.out.1, if_neg hz0, if_neg (by rw [K11.out.1]; simp), if_neg (by rw [K12.out.1]; simp), Km.out], rfl, K6.out.1, (Way.of _ _ _ _ _ ((HL.out.2.2.2.1.trans (K11.out.2.2.mono (by simp))).trans (K12.out.2.2.mono (by simp)))).trans K6.out.2⟩
    ·go_ret
     have hlens := hm
     rw [HJ.out.2.2.2.2.2.1] at hlens
     exact .inl ⟨c, by rw [HJ.out.2.1, if_neg (by rw [K9.out.1]; simp), idyn3, hlens], hc0, hc1, rfl, ((HJ.out.2.2.2.1.trans (K9.out.2.2.mono (by simp))).mono (by simp)).trans f10⟩
end Go.Proofs.YtkmpfgpfbmeihaaGreatDoor.inf
namespace Go.Proofs.YtkmpfgpfbmeihaaGreatDoor.inf
open Go Go.RowKit lib bm bl huf
def ihead3 (bs : List UInt8) (lit dist : Nat) (fs : List Nat) (a : Nat) : Except Nat (List Nat × List Nat × Nat) :=
 match ilens bs fs (lit + 257 + dist + 1) (lit + 257 + dist + 1 + 1) [] a with
 | .error e => .error e
 | .ok (ls, a5) => if lenAt ls 256 = 0 then .error 3 else if iwhole (ls.take (lit + 257)) false = false then .error 3 else if iwhole (ls.drop (lit + 257)) true = false then .error 3 else .ok (ls.take (lit + 257), ls.drop (lit + 257), a5)
def ihead2 (bs : List UInt8) (lit dist n a : Nat) : Except Nat (List Nat × List Nat × Nat) :=
 match ifirst bs (places.take (n + 4)) (List.replicate 19 0) a with
 | .error e => .error e
 | .ok (fs, a4) => if iwhole fs false = false then .error 3 else ihead3 bs lit dist fs a4
def ihead (bs : List UInt8) (a : Nat) : Except Nat (List Nat × List Nat × Nat) :=
 match itake bs a 5 with
 | .error e => .error e
 | .ok (lit, a1) => if 29 < lit then .error 3 else match itake bs a1 5 with
  | .error e => .error e
  | .ok (dist, a2) => if 29 < dist then .error 3 else match itake bs a2 4 with
   | .error e => .error e
   | .ok (n, a3) => ihead2 bs lit dist n a3
theorem idyn_by (bs : List UInt8) (most : Nat) (out : List UInt8) (a : Nat) : idyn bs most out a = match ihead bs a with | .error e => .error e | .ok (ll, dl, a5) => isyms bs most ll dl (fuel bs) out a5 := by
 unfold idyn ihead
 cases itake bs a 5 with
 | error e => rfl
 | ok x =>
  obtain ⟨lit, a1⟩ := x
  dsimp only
  split
  ·rfl
  ·cases itake bs a1 5 with
   | error e => rfl
   | ok x =>
    obtain ⟨dist, a2⟩ := x
    dsimp only
    split
    ·rfl
    ·cases itake bs a2 4 with
     | error e => rfl
     | ok x =>
      obtain ⟨n, a3⟩ := x
      dsimp only
      unfold idyn2 ihead2
      cases ifirst bs (places.take (n + 4)) (List.replicate 19 0) a3 with
      | error e => rfl
      | ok x =>
       obtain ⟨fs, a4⟩ := x
       dsimp only
       split
       ·rfl
       ·unfold idyn3 ihead3
        cases ilens bs fs (lit + 257 + dist + 1) (lit + 257 + dist + 1 + 1) [] a4 with
        | error e => rfl
        | ok x =>
         obtain ⟨ls, a5⟩ := x
         dsimp only
         split
         ·rfl
         ·split
          ·rfl
          ·split <;> rfl
theorem single_weight : ∀ {ls : List Nat}, some_ ls < 2 → ones ls = true → weight ls ≤ 16384 := by
 have h0 : ∀ {ls : List Nat}, some_ ls = 0 → weight ls = 0 := by
  intro ls
  induction ls with
  | nil => intro _; rfl
  | cons x t ih =>
   intro h
   unfold some_ at h ih
   rw [List.filter_cons] at h
   by_cases hx : 0 < x
   ·simp [hx] at h
   ·have : x = 0 := by omega
    simp [hx] at h
    rw [weight, if_pos this, ih (by simpa using h)]
 intro ls
 induction ls with
 | nil => intro _ _; decide
 | cons x t ih =>
  intro h ho
  have ho2 : x ≤ 1 ∧ ones t = true := by
   unfold ones at ho ⊢
   simpa using ho
  unfold some_ at h
  rw [List.filter_cons] at h
  rw [weight]
  by_cases hx : 0 < x
  ·have hx1 : x = 1 := by omega
   simp [hx] at h
   have h2 : some_ t = 0 := by unfold some_; omega
   rw [hx1, h0 h2]
   decide
  ·have : x = 0 := by omega
   simp [hx] at h
   rw [if_pos this, Nat.zero_add]
   exact ih (by unfold some_; simpa using h) ho2.2
theorem iwhole_f (ls : List Nat) : iwhole ls false = decide (weight ls = 32768) := by
 unfold iwhole
 by_cases h : weight ls = 32768
 ·rw [h]; rfl
 ·rw [decide_eq_false h]; simp
theorem iwhole_t (ls : List Nat) : iwhole ls true = (decide (weight ls = 32768) || (decide (some_ ls < 2) && ones ls)) := by
 unfold iwhole
 by_cases h : weight ls = 32768
 ·rw [h]; rfl
 ·rw [decide_eq_false h, Bool.false_or, Bool.false_or, Bool.true_and]
  by_cases h2 : (decide (some_ ls < 2) && ones ls) = true
  ·rw [h2, Bool.and_true]
   simp only [Bool.and_eq_true, decide_eq_true_eq] at h2
   have := single_weight h2.1 h2.2
   simp
   omega
  ·rw [Bool.eq_false_iff.2 h2, Bool.and_false]
theorem irep_spec {bs : List UInt8} {cl : List Nat} {N : Nat} {L L' : List Nat} {a a' : Nat} (hcl : cl.length = 19) (hL : L.length < N) (h15 : ∀ l ∈ L, l ≤ 15) (h : irep bs cl N L a = .ok (L', a')) : L.length < L'.length ∧ L'.length ≤ N ∧ ∀ l ∈ L', l ≤ 15 := by
 unfold irep at h
 split at h
 ·cases h
 ·split at h
  ·rename_i s a1 hs h16
   simp only [Except.ok.injEq, Prod.mk.injEq] at h
   rw [← h.1]
   refine ⟨by simp, by simp; omega, fun l hl => ?_⟩
   rcases List.mem_append.1 hl with k | k
   ·exact h15 l k
   ·simp at k; omega
  ·split at h
   ·cases h
   ·split at h
    ·cases h
    ·rename_i hc
     simp only [Except.ok.injEq, Prod.mk.injEq] at h
     have hl3 : ∀ s, 3 ≤ least s := fun s => by unfold least; split <;> omega
     rw [← h.1]
     have hc2 := fun k => hc (.inr k)
     refine ⟨by rw [List.length_append, List.length_replicate]; exact Nat.lt_add_of_pos_right (Nat.lt_of_lt_of_le (by decide : 0 < 3) (Nat.le_trans (hl3 _) (Nat.le_add_right _ _))), by rw [List.length_append, List.length_replicate]; omega, fun l hl => ?_⟩
     rcases List.mem_append.1 hl with k | k
     ·exact h15 l k
     ·rw [List.eq_of_mem_replicate k]
      split
      ·cases he : L.getLast? with
       | none => simp
       | some x => exact h15 x (List.mem_of_getLast? he)
      ·omega
theorem Sw.keep {w w' : World} {R p O : Nat} {F : List Nat} {bs out : List UInt8} {at_ oc most E : Nat} {oa : Option Addr} (h : Sw w R p F bs at_ out oa oc most E) (f : Fr [O + 1] w w') (hl : R < O ∧ p < O ∧ (∀ x ∈ F, x < O) ∧ ∀ x ∈ blk oa, x < O) : Sw w' R p F bs at_ out oa oc most E :=
 h.fr f (by have := hl.1; simp; omega) (fun x hx => by have := hl.2.2.1 x hx; simp; omega) (fun x hx => by have := hl.2.2.2 x hx; simp; omega)
theorem Ld.frS {S X : List Nat} {w w' : World} {a : Option Addr} {cap : Nat} {ls : List Nat} (h : Ld w a cap ls X) (f : Fr S w w') (hS : ∀ x ∈ blk a, x ∉ S) : Ld w' a cap ls X :=
 ⟨⟨h.ri.cs.fr f hS, h.ri.le, h.ri.max, h.ri.nil⟩, fun x hx => ⟨Nat.lt_of_lt_of_le (h.low x hx).1 f.size, (h.low x hx).2⟩, h.le, h.len, h.wt⟩
def LenR (w : World) (R p : Nat) (F : List Nat) (bs out : List UInt8) (oa : Option Addr) (oc most : Nat) (m : Except Nat (List Nat × List Nat × Nat)) (e : Ending) (w' : World) : Prop :=
 ∃ a1 n1 c1 a2 n2 c2 a' E, e = .returned (.tuple #[.slice a1 n1 c1, .slice a2 n2 c2]) ∧ Sw w' R p F bs a' out oa oc most E ∧ Fr [R, p] w w' ∧
  ((m = .error E ∧ 0 < E ∧ E < 100) ∨ (∃ ll dl, m = .ok (ll, dl, a') ∧ E = 0 ∧ n1 = ll.length ∧ n2 = dl.length ∧ Ld w' a1 c1 ll (R :: p :: blk oa) ∧ Ld w' a2 c2 dl (R :: p :: blk oa)))
set_option maxHeartbeats 8000000 in
theorem rlengths_any (R p : Nat) (F : List Nat) (bs out : List UInt8) (at_ oc most : Nat) (oa : Option Addr) (w : World) (h : Sw w R p F bs at_ out oa oc most 0) :
  Calls Tryz.prog 143 #[.pointer (some ⟨R, 0, none⟩)] w (LenR w R p F bs out oa oc most (ihead bs at_)) := by
 obtain ⟨M, hM⟩ : ∃ M, M = ihead bs at_ := ⟨_, rfl⟩
 rw [← hM]
 have H := Lib.hid (And.intro h (And.intro hM (rtake_any R p F bs out at_ oc most 5 oa w h (by decide))))
 clear h hM
 go_enter Tryz.func143, Tryz.ntmps143
 go_upto_region 2 with (go_at_call 139; refine H.out.2.2.mono ?_; rintro e w1 (⟨a1, hm, rfl, s1, f1⟩ | ⟨lit, a1, hm, rfl, s1, f1⟩))
 ·have c3 := cell_of s1.box 3
  simp only [List.getElem?_toArray, List.getElem?_cons_zero, List.getElem?_cons_succ] at c3
  have hM1 : M = .error 4 := by rw [H.out.2.1]; unfold ihead; rw [hm]
  have K1 := Lib.hid (And.intro hM1 (And.intro s1 f1))
  clear hm s1 f1 hM1
  go_wp2
  go_ret2
  exact ⟨_, _, _, _, _, _, a1, 4, rfl, K1.out.2.1, K1.out.2.2, .inl ⟨K1.out.1, by decide, by decide⟩⟩
 ·have hv := itake_lt hm
  have hlit : lit < 32 := hv
  obtain ⟨l1, hl1⟩ : ∃ l1, l1 = lit + 257 := ⟨_, rfl⟩
  have el : wrap64 ((lit : Int) + 257) = (l1 : Int) := by unfold wrap64; omega
  rw [el]
  have hl1b : 257 ≤ l1 ∧ l1 < 289 := by omega
  have hM1 : M = if 29 < lit then .error 3 else match itake bs a1 5 with
    | .error e => .error e
    | .ok (dist, a2) => if 29 < dist then .error 3 else match itake bs a2 4 with
     | .error e => .error e
     | .ok (n, a3) => ihead2 bs lit dist n a3 := by rw [H.out.2.1]; unfold ihead; rw [hm]
  have K1 := Lib.hid (And.intro hM1 (And.intro s1 (And.intro f1 (And.intro hl1 (rtake_any R p F bs out a1 oc most 5 oa w1 s1 (by decide))))))
  clear hm hv el
  by_cases hbig : 286 < l1
  ·have d0 : decide ((286 : Int) < l1) = true := by simp; omega
   have hf := Lib.hid (fail_any R p F bs out a1 oc most 0 3 oa w1 s1)
   clear s1 f1 hl1 hM1
   go_upto_region 4 with (go_at_call 144; refine hf.out.mono ?_; rintro e w2 ⟨rfl, S2, f2⟩)
   have s2 : Sw w2 R p F bs a1 out oa oc most 3 := S2
   have c3 := cell_of s2.box 3
   simp only [List.getElem?_toArray, List.getElem?_cons_zero, List.getElem?_cons_succ] at c3
   have K2 := Lib.hid (And.intro s2 f2)
   have HB := Lib.hid hbig
   clear s2 S2 f2 d0 hbig
   go_wp2
   go_ret2
   exact ⟨_, _, _, _, _, _, a1, 3, rfl, K2.out.1, K1.out.2.2.1.trans (K2.out.2.mono (by simp)), .inl ⟨by rw [K1.out.1, if_pos (by have := K1.out.2.2.2.1; have := HB.out; omega)], by decide, by decide⟩⟩
  ·have d0 : decide ((286 : Int) < l1) = false := by simp; omega
   have hlit29 : lit ≤ 29 := by omega
   have hl286 : l1 ≤ 286 := by omega
   have c3 := cell_of s1.box 3
   simp only [List.getElem?_toArray, List.getElem?_cons_zero, List.getElem?_cons_succ] at c3
   clear s1 f1 hl1 hM1 hbig
   go_upto_region 7 with (go_at_call 139; refine K1.out.2.2.2.2.mono ?_; rintro e w2 (⟨a2, hm, rfl, s2, f2⟩ | ⟨dist, a2, hm, rfl, s2, f2⟩))
   ·clear c3
    have c3 := cell_of s2.box 3
    simp only [List.getElem?_toArray, List.getElem?_cons_zero, List.getElem?_cons_succ] at c3
    have K2 := Lib.hid (And.intro hm (And.intro s2 f2))
    clear hm s2 f2
    go_wp2
    go_ret2
    exact ⟨_, _, _, _, _, _, a2, 4, rfl, K2.out.2.1, K1.out.2.2.1.trans K2.out.2.2, .inl ⟨by rw [K1.out.1, if_neg (by omega), K2.out.1], by decide, by decide⟩⟩
   ·have hv := itake_lt hm
    have hdist : dist < 32 := hv
    obtain ⟨dd, hdd⟩ : ∃ dd, dd = dist + 1 := ⟨_, rfl⟩
    have ed : wrap64 ((dist : Int) + 1) = (dd : Int) := by unfold wrap64; omega
    rw [ed]
    have hddb : 1 ≤ dd ∧ dd ≤ 32 := by omega
    have hM2 : M = if 29 < dist then .error 3 else match itake bs a2 4 with
      | .error e => .error e
      | .ok (n, a3) => ihead2 bs lit dist n a3 := by rw [K1.out.1, if_neg (by omega), hm]
    have f02 := K1.out.2.2.1.trans f2
    have K2 := Lib.hid (And.intro hM2 (And.intro s2 (And.intro f02 (And.intro hdd K1.out.2.2.2.1))))
    clear hm hv ed c3 K1
    by_cases hbig : 30 < dd
    ·have d1 : decide ((30 : Int) < dd) = true := by simp; omega
     have hf := Lib.hid (fail_any R p F bs out a2 oc most 0 3 oa w2 s2)
     have HB := Lib.hid hbig
     clear s2 f2 hdd hM2 f02 hbig
     go_upto_region 9 with (go_at_call 144; refine hf.out.mono ?_; rintro e w3 ⟨rfl, S3, f3⟩)
     have s3 : Sw w3 R p F bs a2 out oa oc most 3 := S3
     have c3 := cell_of s3.box 3
     simp only [List.getElem?_toArray, List.getElem?_cons_zero, List.getElem?_cons_succ] at c3
     have K3 := Lib.hid (And.intro s3 f3)
     clear s3 S3 f3 d1 d0
     go_wp2
     go_ret2
     exact ⟨_, _, _, _, _, _, a2, 3, rfl, K3.out.1, K2.out.2.2.1.trans (K3.out.2.mono (by simp)), .inl ⟨by rw [K2.out.1, if_pos (by have := K2.out.2.2.2.1; have := HB.out; omega)], by decide, by decide⟩⟩
    ·have d1 : decide ((30 : Int) < dd) = false := by simp; omega
     have hdist29 : dist ≤ 29 := by omega
     have hdd30 : dd ≤ 30 := by omega
     have c3 := cell_of s2.box 3
     simp only [List.getElem?_toArray, List.getElem?_cons_zero, List.getElem?_cons_succ] at c3
     clear s2 f2 hdd hM2 f02 hbig
     have hM3 : M = match itake bs a2 4 with
       | .error e => .error e
       | .ok (n, a3) => ihead2 bs lit dist n a3 := by rw [K2.out.1, if_neg (by omega)]
     have HM3 := Lib.hid hM3
     clear hM3
     go_upto_region 11 with fail
     clear d0 d1 c3
     obtain ⟨hu, ⟨ti, hi', hz', hs', hb'⟩, hcz, hp⟩ := huf.sty_int
     obtain ⟨O, hO⟩ : ∃ O, O = w2.heap.size := ⟨_, rfl⟩
     obtain ⟨wO, hwO⟩ : ∃ wO, wO = w2.alloc (.cells ordV 3 (0, 0)) := ⟨_, rfl⟩
     have hbO : wO.heap[O]? = some (.cells ordV 3 (0, 0)) := by rw [hwO, hO]; exact alloc_at w2 _
     have fO : Fr [] w2 wO := by rw [hwO]; exact (Fr.refl [] w2).alloc _
     have hsO : wO.heap.size = O + 1 := by rw [hwO, World.size_alloc, ← hO]
     have HO := Lib.hid (And.intro hbO (And.intro fO (And.intro hsO (And.intro hO hwO))))
     clear hbO fO hsO hO hwO
     go_upto_region 12 with fail
     rw [← HO.out.2.2.2.1]
     have eO : w2.alloc (.cells #[.int .i64 16, .int .i64 17, .int .i64 18, .int .i64 0, .int .i64 8, .int .i64 7, .int .i64 9, .int .i64 6, .int .i64 10, .int .i64 5, .int .i64 11, .int .i64 4, .int .i64 12, .int .i64 3, .int .i64 13, .int .i64 2, .int .i64 14, .int .i64 1, .int .i64 15] 3 (0, 0)) = wO := HO.out.2.2.2.2.symm
     rw [eO]
     clear eO
     go_upto_region 13 with (refine wpList_make_full _ rfl _ _ 28 rfl 0 3 ti (.int .i64 0) 1 hu hi' hz' hs' .i64 .i64 19 19 19 rfl rfl rfl rfl (by rw [hb']; omega) (by unfold maxLen; omega) (by omega) ?_; intro w4 own4 grow4; have H4 := Lib.hid (And.intro own4 grow4); clear own4 grow4)
     rw [HO.out.2.2.1] at H4 ⊢
     have hq4 : Ow w4 (O + 1) 19 (lenAt (List.replicate 19 0)) := (ow_made H4.out.1).congr fun s hs => by simp only [lenAt, List.getElem?_replicate, if_pos hs]; rfl
     have f4 : Fr [] wO w4 := (Fr.refl [] wO).grown H4.out.2 (fun k hk => by cases hk)
     have f24 : Fr [] w2 w4 := HO.out.2.1.trans f4
     have s4 : Sw w4 R p F bs a2 out oa oc most 0 := K2.out.2.1.fr0 f24
     have htk := rtake_any R p F bs out a2 oc most 4 oa w4 s4 (by decide)
     have hlow : R < O ∧ p < O ∧ (∀ x ∈ F, x < O) ∧ ∀ x ∈ blk oa, x < O := by
      rw [HO.out.2.2.2.1]
      exact ⟨lt_of_block K2.out.2.1.box, K2.out.2.1.low _ K2.out.2.1.pF.1, K2.out.2.1.low, fun x hx => owns_lt K2.out.2.1.own (blk_own hx)⟩
     have HW := Lib.hid (And.intro hq4 (And.intro (f4.blk HO.out.1 (by simp)) (And.intro (K2.out.2.2.1.trans (f24.mono (by simp))) (And.intro htk (And.intro hlow (by rw [HO.out.2.2.2.1]; exact K2.out.2.2.1.size : w.heap.size ≤ O))))))
     have hdl := Lib.hid (And.intro K2.out.2.2.2.1 K2.out.2.2.2.2)
     clear hq4 f4 f24 s4 htk hlow H4 hu hi' hz' hs' hb' hcz hp K2
     go_cut [8] from 39 to 42 (fun s8 wc => ∃ m a3 E : Nat, s8 = .int .i64 (m : Nat) ∧ m ≤ 19 ∧ Sw wc R p F bs a3 out oa oc most E ∧ Fr [R, p] w4 wc ∧ ((E = 0 ∧ ∃ n, m = n + 4 ∧ M = ihead2 bs lit dist n a3) ∨ (E = 4 ∧ M = .error 4)))
     case first =>
      go_wp2_with (go_at_call 139; refine HW.out.2.2.2.1.mono ?_; rintro e w5 (⟨a3, hm, rfl, s5, f5⟩ | ⟨n, a3, hm, rfl, s5, f5⟩); all_goals (have K5 := Lib.hid (And.intro hm (And.intro s5 f5)); clear hm s5 f5))
      ·go_meet
       case rel => exact ⟨4, a3, 4, rfl, by decide, K5.out.2.1, K5.out.2.2, .inr ⟨rfl, by rw [HM3.out, K5.out.1]⟩⟩
      ·go_meet
       case rel =>
        have hn : n < 16 := itake_lt K5.out.1
        have en : wrap64 ((n : Int) + 4) = ((n + 4 : Nat) : Int) := by unfold wrap64; omega
        rw [en]
        exact ⟨n + 4, a3, 0, rfl, by omega, K5.out.2.1, K5.out.2.2, .inl ⟨rfl, n, rfl, by rw [HM3.out, K5.out.1]⟩⟩
     case rest =>
      obtain ⟨m, a3, E, rfl, hm19, s5, f5, hE⟩ := hcut
      have hOw : Ow wc (O + 1) 19 (lenAt (List.replicate 19 0)) := HW.out.1.fr f5 (by have := HW.out.2.2.2.2.1; simp; omega)
      have hbO : wc.heap[O]? = some (.cells ordV 3 (0, 0)) := f5.blk HW.out.2.1 (by have := HW.out.2.2.2.2.1; simp; omega)
      have K5 := Lib.hid (And.intro s5 (And.intro (HW.out.2.2.1.trans f5) (And.intro hE (And.intro hOw hbO))))
      obtain ⟨w5, hw5⟩ : ∃ w5, w5 = wc := ⟨_, rfl⟩
      rw [← hw5] at K5 ⊢
      clear s5 f5 hE hOw hbO hw5
      go_upto_block 0 with fail
      go_cut [9] from 42 to 62 (fun s9 wc => ∃ (fs : List Nat) (a4 E2 : Nat), Sw wc R p F bs a4 out oa oc most E2 ∧ Fr [R, p] w wc ∧ Ow wc (O + 1) 19 (lenAt fs) ∧ fs.length = 19 ∧ (∀ x ∈ fs, x ≤ 15) ∧ ((E2 = 0 ∧ M = if iwhole fs false = false then .error 3 else ihead3 bs lit dist fs a4) ∨ (E2 ≠ 0 ∧ E2 < 100 ∧ M = .error E2)))
      case first =>
       go_wp2
       go_loopg [9] m (fun k s9 wr => ∃ (i a4 : Nat) (fs : List Nat) (E2 : Nat), s9 = .int .i64 (i : Nat) ∧ i + k = m ∧ Sw wr R p F bs a4 out oa oc most E2 ∧ Ow wr (O + 1) 19 (lenAt fs) ∧ fs.length = 19 ∧ (∀ x ∈ fs, x ≤ 15) ∧ wr.heap[O]? = some (.cells ordV 3 (0, 0)) ∧ Fr [R, p] w wr ∧
        ((E2 = 0 ∧ ∃ n, m = n + 4 ∧ M = match ifirst bs ((places.take m).drop i) fs a4 with | .error e => .error e | .ok (fs, a4) => if iwhole fs false = false then .error 3 else ihead3 bs lit dist fs a4) ∨ (E2 ≠ 0 ∧ E2 < 100 ∧ M = .error E2)))
       case atStart =>
        refine ⟨0, a3, List.replicate 19 0, E, rfl, by omega, K5.out.1, K5.out.2.2.2.1, rfl, fun x hx => by rw [(List.mem_replicate.1 hx).2]; decide, K5.out.2.2.2.2, K5.out.2.1, ?_⟩
        rcases K5.out.2.2.1 with ⟨k1, n, k2, k3⟩ | ⟨k1, k2⟩
        ·exact .inl ⟨k1, n, k2, by rw [k3, k2]; rfl⟩
        ·exact .inr ⟨by omega, by omega, by rw [k1]; exact k2⟩
       case round =>
        obtain ⟨i, a4, fs, E2, rfl, him, hst, how, hfl, hf15, hbO, hfw, hcs⟩ := hrel
        have c3 := cell_of hst.box 3
        simp only [List.getElem?_toArray, List.getElem?_cons_zero, List.getElem?_cons_succ] at c3
        have hlow := HW.out.2.2.2.2
        by_cases hi : i < m
        ·by_cases h0 : E2 = 0
         ·subst h0
          obtain ⟨k, rfl⟩ : ∃ k, gk = k + 1 := ⟨gk - 1, by omega⟩
          obtain ⟨n, hmn, hMi⟩ : ∃ n, m = n + 4 ∧ M = match ifirst bs ((places.take m).drop i) fs a4 with | .error e => .error e | .ok (fs, a4) => if iwhole fs false = false then .error 3 else ihead3 bs lit dist fs a4 := by
           rcases hcs with ⟨_, k⟩ | ⟨k, _⟩
           ·exact k
           ·exact absurd rfl k
          obtain ⟨t, ht⟩ : ∃ t, t = defl.ord i := ⟨_, rfl⟩
          have ht19 : t < 19 := by rw [ht]; exact defl.ord_lt i
          rw [places_drop hi hm19, ← ht, ifirst] at hMi
          have cO := cell_of hbO i
          rw [ordV_at (by omega), ← ht] at cO
          obtain ⟨S, hS⟩ : ∃ S, S = [R, p] := ⟨_, rfl⟩
          have hOS : O ∉ S := by rw [hS]; simp; omega
          have q0 : ∀ x, (sup S wr.drew x).cell? ⟨O, i, none⟩ = some (.int .i64 (t : Nat)) := fun x => (sup_fr S wr.drew x).cell ((Fr.drew1 [] wr).cell cO (by simp)) hOS
          have htk := rtake_any R p F bs out a4 oc most 3 oa wr.drew (hst.fr0 (Fr.drew1 [] wr)) (by decide)
          have HS := Lib.hid hS
          have HJ := Lib.hid (And.intro hst (And.intro how (And.intro hfl (And.intro hf15 (And.intro hbO (And.intro hfw (And.intro hMi (And.intro htk (And.intro ⟨n, hmn⟩ him)))))))) : _ ∧ _ ∧ _ ∧ _ ∧ _ ∧ _ ∧ _ ∧ _ ∧ (∃ n, m = n + 4) ∧ _)
          clear hst how hfl hf15 hbO hfw hMi htk hmn him hcs ht cO hS hOS
          have hi19 : i < 19 := by omega
          go_upto_region 17 with fail
          clear c3
          refine region_mix 8 [(false, 0), (false, 1), (false, 2), (false, 3), (false, 4), (false, 5), (true, 6), (false, 7)] S (by kernel_rfl) (by kernel_rfl) (fun _ _ d _ _ h => by cases d <;> exact h) ?_
          simp only [List.map_cons, List.map_nil, List.getD_cons_zero, List.getD_cons_succ, List.drop_succ_cons, List.drop_zero, List.drop_nil]
          refine mix_seg 6 rfl ?_
          simp only [List.take_succ_cons, List.take_zero, List.drop_succ_cons, List.drop_zero, List.map_cons, List.map_nil]
          repeat (go_big_quiet_step (fail))
          refine wpQuiet_nil ?_
          clear q0
          refine mix_eff rfl ?_
          intro X hX
          go_wp2_with (go_at_call 139; refine HJ.out.2.2.2.2.2.2.2.1.mono ?_; rintro e w6 (⟨a5, hm, rfl, s6, f6⟩ | ⟨v, a5, hm, rfl, s6, f6⟩); all_goals (have hw6 := HJ.out.2.1.fr ((Fr.drew1 [R, p] wr).trans f6) (show O + 1 ∉ [R, p] by have := HW.out.2.2.2.2.1; simp; omega); have c6 := hw6.cell ht19; have z6 := hw6.frozen t; have K6 := Lib.hid (And.intro hm (And.intro s6 (And.intro f6 hw6))); clear hm s6 f6 hw6))
          ·refine hX.out _ _ (by rw [HS.out]; exact K6.out.2.2.1) ?_
           clear hX X
           refine mix_seg 1 rfl ?_
           simp only [List.take_succ_cons, List.take_zero, List.drop_succ_cons, List.drop_zero, List.map_cons, List.map_nil]
           repeat (go_big_quiet_step (fail))
           refine wpQuiet_nil ?_
           refine mix_nil ?_
           go_wp2
           go_roundg k
           case measure => have := HJ.out.2.2.2.2.2.2.2.2.2; omega
           case rel =>
            obtain ⟨j1, j2, j3, j4, j5, j6, j7, j8, j9, j10⟩ := HJ.out
            obtain ⟨q1, q2, q3, q4⟩ := K6.out
            have fQ : Fr [O + 1] w6 (w6.setCell ⟨O + 1, t, none⟩ (.int .i64 0)) := (Fr.refl [O + 1] _).setCell (by simp) _
            refine ⟨i + 1, a5, fs.set t 0, 4, by go_num, by omega, q2.keep fQ hlow.1, (q4.set ht19 0).congr (fun u _ => (lenAt_set (by rw [j3]; exact ht19) u).symm), by rw [List.length_set, j3], fun x hx => ?_, fQ.blk (((Fr.drew1 [R, p] wr).trans q3).blk j5 (by simp; omega)) (by simp), (j6.trans ((Fr.drew1 [R, p] wr).trans q3)).step fQ (fun x hx => .inr (by simp at hx; omega)), .inr ⟨by decide, by decide, ?_⟩⟩
            ·rcases List.mem_or_eq_of_mem_set hx with h1 | h1
             ·exact j4 x h1
             ·omega
            ·rw [j7, q1]
          ·refine hX.out _ _ (by rw [HS.out]; exact K6.out.2.2.1) ?_
           clear hX X
           refine mix_seg 1 rfl ?_
           simp only [List.take_succ_cons, List.take_zero, List.drop_succ_cons, List.drop_zero, List.map_cons, List.map_nil]
           repeat (go_big_quiet_step (fail))
           refine wpQuiet_nil ?_
           refine mix_nil ?_
           go_wp2
           go_roundg k
           case measure => have := HJ.out.2.2.2.2.2.2.2.2.2; omega
           case rel =>
            obtain ⟨j1, j2, j3, j4, j5, j6, j7, j8, ⟨n, j9⟩, j10⟩ := HJ.out
            obtain ⟨q1, q2, q3, q4⟩ := K6.out
            have hv8 : v < 8 := itake_lt q1
            have fQ : Fr [O + 1] w6 (w6.setCell ⟨O + 1, t, none⟩ (.int .i64 (v : Nat))) := (Fr.refl [O + 1] _).setCell (by simp) _
            refine ⟨i + 1, a5, fs.set t v, 0, by go_num, by omega, q2.keep fQ hlow.1, (q4.set ht19 v).congr (fun u _ => (lenAt_set (by rw [j3]; exact ht19) u).symm), by rw [List.length_set, j3], fun x hx => ?_, fQ.blk (((Fr.drew1 [R, p] wr).trans q3).blk j5 (by simp; omega)) (by simp), (j6.trans ((Fr.drew1 [R, p] wr).trans q3)).step fQ (fun x hx => .inr (by simp at hx; omega)), .inl ⟨by trivial, n, j9, ?_⟩⟩
            ·rcases List.mem_or_eq_of_mem_set hx with h1 | h1
             ·exact j4 x h1
             ·omega
            ·rw [j7, q1]
         ·have d0 : ((E2 : Int) == 0) = false := by simp; omega
          have hE3 : E2 < 100 ∧ M = .error E2 := by
           rcases hcs with ⟨k1, _⟩ | ⟨_, k2, k3⟩
           ·exact absurd k1 h0
           ·exact ⟨k2, k3⟩
          have HE := Lib.hid (And.intro h0 hE3)
          have HJ := Lib.hid (And.intro hst (And.intro hfw (And.intro how (And.intro hfl hf15))))
          clear hst how hfl hf15 hbO hfw hcs h0 hE3
          go_wp2
          go_meet
          case rel => exact ⟨fs, a4, E2, HJ.out.1, HJ.out.2.1, HJ.out.2.2.1, HJ.out.2.2.2.1, HJ.out.2.2.2.2, .inr ⟨HE.out.1, HE.out.2.1, HE.out.2.2⟩⟩
        ·obtain rfl : i = m := by omega
         have hcs2 : (E2 = 0 ∧ M = if iwhole fs false = false then .error 3 else ihead3 bs lit dist fs a4) ∨ (E2 ≠ 0 ∧ E2 < 100 ∧ M = .error E2) := by
          rcases hcs with ⟨k1, n, k2, k3⟩ | k
          ·rw [List.drop_of_length_le (by rw [List.length_take]; omega), ifirst] at k3
           exact .inl ⟨k1, k3⟩
          ·exact .inr k
         have HJ := Lib.hid (And.intro hst (And.intro hfw (And.intro how (And.intro hfl (And.intro hf15 hcs2)))))
         clear hst how hfl hf15 hbO hfw hcs hcs2
         go_wp2
         go_meet
         case rel => exact ⟨fs, a4, E2, HJ.out.1, HJ.out.2.1, HJ.out.2.2.1, HJ.out.2.2.2.1, HJ.out.2.2.2.2.1, HJ.out.2.2.2.2.2⟩
      case rest =>
       obtain ⟨fs, a4, E2, s6, f6, ow6, hfl, hf15, hE2⟩ := hcut
       have c3 := cell_of s6.box 3
       simp only [List.getElem?_toArray, List.getElem?_cons_zero, List.getElem?_cons_succ] at c3
       obtain ⟨w6, hw6⟩ : ∃ w6, w6 = wc := ⟨_, rfl⟩
       rw [← hw6] at s6 f6 ow6 c3 ⊢
       clear hw6 K5
       by_cases h0 : E2 = 0
       ·subst h0
        have hM6 : M = if iwhole fs false = false then .error 3 else ihead3 bs lit dist fs a4 := by
         rcases hE2 with ⟨_, k⟩ | ⟨k, _⟩
         ·exact k
         ·exact absurd rfl k
        rw [iwhole_f] at hM6
        have hri : Ri w6 (some ⟨O + 1, 0, none⟩) 19 fs := ow_list ow6 hfl
        have hcp := rcomplete_any (some ⟨O + 1, 0, none⟩) 19 fs w6 hri hf15 (by omega)
        rw [hfl] at hcp
        have hfl3 := fail_any R p F bs out a4 oc most 0 3 oa w6 s6
        obtain ⟨bc, hbc⟩ : ∃ b : Bool, b = decide (weight fs = 32768) := ⟨_, rfl⟩
        rw [← hbc] at hcp hM6
        have hlow := HW.out.2.2.2.2
        obtain ⟨A6, hA6, _⟩ := ow6
        have hO6 := lt_of_block hA6
        have K6 := Lib.hid (And.intro s6 (And.intro f6 (And.intro hri (And.intro hM6 (And.intro hcp (And.intro hfl3 (And.intro hbc (And.intro hfl (And.intro hf15 hO6)))))))))
        clear s6 f6 hri hM6 hcp hfl3 hbc hfl hf15 hO6 hA6 hE2
        go_upto_region 20 with fail
        clear c3
        go_upto_if 69 with (go_at_call 175; refine K6.out.2.2.2.2.1.mono ?_; rintro e w7 ⟨rfl, rfl⟩)
        go_cut [] from 70 to 71 (fun wd => ∃ E3 : Nat, Sw wd R p F bs a4 out oa oc most E3 ∧ Fr [R] w6 wd ∧ ((E3 = 0 ∧ bc = true ∧ M = ihead3 bs lit dist fs a4) ∨ (E3 ≠ 0 ∧ E3 < 100 ∧ M = .error E3)))
        case first =>
         cases bc
         ·go_wp2_with (go_at_call 144; refine K6.out.2.2.2.2.2.1.mono ?_; rintro e w8 ⟨rfl, S8, f8⟩; have K8 := Lib.hid (And.intro S8 f8); clear S8 f8)
          go_meet
          case rel => exact ⟨3, K8.out.1, K8.out.2, .inr ⟨by decide, by decide, by rw [K6.out.2.2.2.1]; rfl⟩⟩
         ·go_wp2
          go_meet
          case rel => exact ⟨0, K6.out.1, Fr.refl _ _, .inl ⟨rfl, by trivial, by rw [K6.out.2.2.2.1]; rfl⟩⟩
        case rest =>
         obtain ⟨E3, s7, f7, hE3⟩ := hcut
         obtain ⟨w7, hw7⟩ : ∃ w7, w7 = wc := ⟨_, rfl⟩
         rw [← hw7] at s7 f7 ⊢
         clear hw7
         obtain ⟨B, hB⟩ : ∃ B, B = w7.heap.size := ⟨_, rfl⟩
         obtain ⟨N, hN⟩ : ∃ N, N = l1 + dd := ⟨_, rfl⟩
         have eN : (l1 : Int) + (dd : Int) = (N : Int) := by omega
         have hN316 : N ≤ 316 := by omega
         have hlN : l1 < N := by omega
         obtain ⟨w8, hw8⟩ : ∃ w8, w8 = w7.alloc (.cells #[.slice none 0 0] 28 (0, 0)) := ⟨_, rfl⟩
         have b8 : w8.heap[B]? = some (.cells #[.slice none 0 0] 28 (0, 0)) := by rw [hw8, hB]; exact alloc_at w7 _
         have f8 : Fr [] w7 w8 := by rw [hw8]; exact (Fr.refl [] w7).alloc _
         have hOB : O + 1 < B := by rw [hB]; exact Nat.lt_of_lt_of_le K6.out.2.2.2.2.2.2.2.2.2 f7.size
         have hwB : w.heap.size ≤ B := by rw [hB]; exact Nat.le_trans K6.out.2.1.size f7.size
         have ll8 : Ll B w8 B none 0 [] := ⟨b8, World.ownsRow_nil _ _ _ _, Nat.le_refl _, by simp [blk]⟩
         have r8 : Ri w8 (some ⟨O + 1, 0, none⟩) 19 fs := by
          have r7 : Ri w7 (some ⟨O + 1, 0, none⟩) 19 fs := ⟨K6.out.2.2.1.cs.fr f7 (by intro x hx; simp [blk] at hx; simp; omega), K6.out.2.2.1.le, K6.out.2.2.1.max, K6.out.2.2.1.nil⟩
          exact r7.fr f8
         have K8 := Lib.hid (And.intro (s7.fr0 f8) (And.intro (K6.out.2.1.trans ((f7.mono (by simp)).trans (f8.mono (by simp)))) (And.intro ll8 (And.intro r8 (And.intro hE3 (And.intro hB (And.intro hOB (And.intro hwB hw8))))))))
         have HN := Lib.hid hN
         clear s7 f7 hE3 hB b8 f8 hOB hwB ll8 r8 hw8 hN
         go_upto_block 2 with fail
         rw [← K8.out.2.2.2.2.2.1]
         rw [← K8.out.2.2.2.2.2.2.2.2]
         go_cut [] from 72 to 90 (fun wc => ∃ (L : List Nat) (la : Option Addr) (lc a5 E4 : Nat), Sw wc R p F bs a5 out oa oc most E4 ∧ Ll B wc B la lc L ∧ Fr [R, p] w wc ∧ ((E4 = 0 ∧ L.length = N ∧ (∀ x ∈ L, x ≤ 15) ∧ M = if lenAt L 256 = 0 then .error 3 else if iwhole (L.take l1) false = false then .error 3 else if iwhole (L.drop l1) true = false then .error 3 else .ok (L.take l1, L.drop l1, a5)) ∨ (E4 ≠ 0 ∧ E4 < 100 ∧ M = .error E4)))
         case first =>
          go_wp2
          go_loopg [] (N + 1) (fun k wr => ∃ (L : List Nat) (la : Option Addr) (lc a5 E4 : Nat), Sw wr R p F bs a5 out oa oc most E4 ∧ Ll B wr B la lc L ∧ Fr [R, p] w wr ∧ Ri wr (some ⟨O + 1, 0, none⟩) 19 fs ∧ B ≤ wr.heap.size ∧
           ((E4 = 0 ∧ bc = true ∧ L.length ≤ N ∧ (∀ x ∈ L, x ≤ 15) ∧ N + 1 ≤ L.length + k ∧ M = match ilens bs fs N k L a5 with | .error e => .error e | .ok (ls, a5) => if lenAt ls 256 = 0 then .error 3 else if iwhole (ls.take l1) false = false then .error 3 else if iwhole (ls.drop l1) true = false then .error 3 else .ok (ls.take l1, ls.drop l1, a5)) ∨ (E4 ≠ 0 ∧ E4 < 100 ∧ M = .error E4)))
          case atStart =>
           refine ⟨[], none, 0, a4, E3, K8.out.1, K8.out.2.2.1, K8.out.2.1, K8.out.2.2.2.1, Nat.le_of_lt (lt_of_block K8.out.2.2.1.box), ?_⟩
           rcases K8.out.2.2.2.2.1 with ⟨k1, k2, k3⟩ | k
           ·refine .inl ⟨k1, k2, Nat.zero_le _, by simp, by simp, ?_⟩
            rw [k3]
            unfold ihead3
            have e1 : lit + 257 = l1 := hdl.out.2.symm
            have e2 : l1 + dist + 1 = N := by have := HN.out; have := hdl.out.1; omega
            rw [e1, e2]
           ·exact .inr k
          case round =>
           obtain ⟨L, la, lc, a5, E4, hst, hll, hfw, hri, hBw, hcs⟩ := hrel
           have c3 := cell_of hst.box 3
           have cB := cell_of hll.box 0
           simp only [List.getElem?_toArray, List.getElem?_cons_zero, List.getElem?_cons_succ] at c3 cB
           obtain ⟨C, hC⟩ : ∃ C, C = L.length := ⟨_, rfl⟩
           rw [← hC] at cB
           by_cases h0 : E4 = 0
           ·subst h0
            obtain ⟨hbt, hLN, hL15, hfu, hMi⟩ : bc = true ∧ L.length ≤ N ∧ (∀ x ∈ L, x ≤ 15) ∧ N + 1 ≤ L.length + gk ∧ M = match ilens bs fs N gk L a5 with | .error e => .error e | .ok (ls, a5) => if lenAt ls 256 = 0 then .error 3 else if iwhole (ls.take l1) false = false then .error 3 else if iwhole (ls.drop l1) true = false then .error 3 else .ok (ls.take l1, ls.drop l1, a5) := by
             rcases hcs with ⟨_, k⟩ | ⟨k, _⟩
             ·exact k
             ·exact absurd rfl k
            obtain ⟨k, rfl⟩ : ∃ k, gk = k + 1 := ⟨gk - 1, by omega⟩
            rw [ilens_by] at hMi
            have hwt : weight fs = 32768 := by have := K6.out.2.2.2.2.2.2.1; rw [hbt] at this; simpa using this.symm
            have hld : Ld wr (some ⟨O + 1, 0, none⟩) 19 fs (R :: p :: blk oa) := ⟨hri, fun x hx => by
             simp only [blk, List.mem_singleton] at hx
             have := K8.out.2.2.2.2.2.2.1
             refine ⟨by omega, fun hm => ?_⟩
             simp only [List.mem_cons] at hm
             rcases hm with h | h | h
             ·omega
             ·omega
             ·have := hlow.1.2.2.2 x h; omega, K6.out.2.2.2.2.2.2.2.2.1, by rw [K6.out.2.2.2.2.2.2.2.1]; decide, by omega⟩
            by_cases hCN : C < N
            ·have d1 : decide ((C : Int) < (N : Int)) = true := by simp; omega
             have hOB := K8.out.2.2.2.2.2.2.1
             have hrp := rrep_any B R p F bs out (some ⟨O + 1, 0, none⟩) 19 fs B la lc N L a5 oc most oa wr hst hld K6.out.2.2.2.2.2.2.2.1 hll (by omega) (fun x hx => by have := hlow.1.2.2.1 x hx; omega) (fun x hx => by have := hlow.1.2.2.2 x hx; omega) hBw (by omega) (by omega)
             rw [if_neg (by omega)] at hMi
             have HJ := Lib.hid (And.intro hrp (And.intro hMi (And.intro hfw (And.intro hri (And.intro hL15 (And.intro hfu (And.intro hbt (And.intro hll (And.intro hC hBw)))))))))
             clear hrp hMi hfw hri hL15 hfu hbt hll hC hBw hcs hld hst hLN hwt
             go_wp2_with (go_at_call 176; go_loud (refine HJ.out.1.mono ?_); rintro e w9 ⟨rfl, h9⟩; have K9 := Lib.hid h9; clear h9)
             go_roundg k
             case measure => omega
             case rel =>
              obtain ⟨j1, j2, j3, j4, j5, j6, j7, j8, j9, j10⟩ := HJ.out
              obtain ⟨a6, la6, lc6, L6, E6, q1, q2, q3, q4, q5⟩ := K9.out
              have hSn : ∀ x ∈ R :: p :: B :: blk la, x ∈ [R, p] ∨ w.heap.size ≤ x := fun x hx => by
               have := K8.out.2.2.2.2.2.2.2.1
               simp only [List.mem_cons] at hx
               rcases hx with h | h | h | h
               ·exact .inl (by simp [h])
               ·exact .inl (by simp [h])
               ·exact .inr (by omega)
               ·exact .inr (by have := (j8.new x h).1; omega)
              have hO9 : ∀ x ∈ blk (some (⟨O + 1, 0, none⟩ : Addr)), x ∉ R :: p :: B :: blk la := fun x hx hm => by
               simp only [blk, List.mem_singleton] at hx
               simp only [List.mem_cons] at hm
               rcases hm with h | h | h | h
               ·omega
               ·omega
               ·omega
               ·have := (j8.new x h).1; omega
              refine ⟨L6, la6, lc6, a6, E6, q1, q2, j3.step q3 hSn, ⟨j4.cs.fr q3 hO9, j4.le, j4.max, j4.nil⟩, Nat.le_trans j10 q3.size, ?_⟩
              rcases q5 with ⟨k1, k2, k3⟩ | ⟨k1, k2⟩
              ·exact .inr ⟨by omega, k3, by rw [j2, k1]⟩
              ·obtain ⟨g1, g2, g3⟩ := irep_spec K6.out.2.2.2.2.2.2.2.1 (by omega) j5 k1
               exact .inl ⟨k2, j7, g2, g3, by omega, by rw [j2, k1]⟩
            ·have hLe : L.length = N := by omega
             have d1 : decide (C < N) = false := by simp; omega
             rw [if_pos (by omega)] at hMi
             have HJ := Lib.hid (And.intro hst (And.intro hll (And.intro hfw (And.intro hLe (And.intro hL15 hMi)))))
             clear hst hll hfw hLe hL15 hMi hcs hld hri hbt hfu hC hBw hLN hwt hCN
             go_wp2
             go_meet
             case rel => exact ⟨L, la, lc, a5, 0, HJ.out.1, HJ.out.2.1, HJ.out.2.2.1, .inl ⟨rfl, HJ.out.2.2.2.1, HJ.out.2.2.2.2.1, HJ.out.2.2.2.2.2⟩⟩
           ·have d0 : ((E4 : Int) == 0) = false := by simp; omega
            have hE5 : E4 < 100 ∧ M = .error E4 := by
             rcases hcs with ⟨k1, _⟩ | ⟨_, k2, k3⟩
             ·exact absurd k1 h0
             ·exact ⟨k2, k3⟩
            have HJ := Lib.hid (And.intro hst (And.intro hll (And.intro hfw (And.intro h0 hE5))))
            clear hst hll hfw hE5 h0 hcs hri hC hBw
            go_wp2
            go_meet
            case rel => exact ⟨L, la, lc, a5, E4, HJ.out.1, HJ.out.2.1, HJ.out.2.2.1, .inr ⟨HJ.out.2.2.2.1, HJ.out.2.2.2.2.1, HJ.out.2.2.2.2.2⟩⟩
         case rest =>
          obtain ⟨L, la, lc, a5, E4, s9, l9, f9, hE4⟩ := hcut
          have c3 := cell_of s9.box 3
          have cB := cell_of l9.box 0
          simp only [List.getElem?_toArray, List.getElem?_cons_zero, List.getElem?_cons_succ] at c3 cB
          by_cases h0 : E4 = 0
          ·subst h0
           obtain ⟨hLN, hL15, hMi⟩ : L.length = N ∧ (∀ x ∈ L, x ≤ 15) ∧ M = if lenAt L 256 = 0 then .error 3 else if iwhole (L.take l1) false = false then .error 3 else if iwhole (L.drop l1) true = false then .error 3 else .ok (L.take l1, L.drop l1, a5) := by
            rcases hE4 with ⟨_, k⟩ | ⟨k, _⟩
            ·exact k
            ·exact absurd rfl k
           rw [hLN] at cB
           have ri : Ri wc la lc L := by
            obtain ⟨ao, cp, he, k1, k2, k3⟩ := owns_form l9.own
            simp only [Value.slice.injEq] at he
            obtain ⟨rfl, _, rfl⟩ := he
            exact ⟨cs_of_owns l9.own, k1, k2, k3⟩
           obtain ⟨g, o, rfl, hcell⟩ := ri.at (i := 256) (by omega)
           obtain ⟨z, hz⟩ : ∃ z, z = lenAt L 256 := ⟨_, rfl⟩
           have hz2 : L[256]'(by omega) = z := by rw [hz]; unfold lenAt; rw [List.getElem?_eq_getElem (by omega)]; rfl
           rw [hz2] at hcell
           rw [← hz] at hMi
           have hcapN : N ≤ lc := by have := ri.le; omega
           have hcapm : lc ≤ 9223372036854775807 := by have := ri.max; unfold maxLen at this; exact this
           have lt : (L.take l1).length = l1 := by rw [List.length_take]; omega
           have ld : (L.drop l1).length = N - l1 := by rw [List.length_drop, hLN]
           have r1 : Ri wc (some ⟨g, o, none⟩) lc (L.take l1) := Ri.take ri l1
           have r2 : Ri wc (cutAtN (some ⟨g, o, none⟩) lc l1 1) (lc - l1) (L.drop l1) := ri_drop ri l1 (by omega)
           have h1 : ∀ x ∈ L.take l1, x ≤ 15 := fun x hx => hL15 x (List.mem_of_mem_take hx)
           have h2 : ∀ x ∈ L.drop l1, x ≤ 15 := fun x hx => hL15 x (List.mem_of_mem_drop hx)
           have W2 := rcomplete_any _ lc (L.take l1) wc r1 h1 (by omega)
           have W3 := rcomplete_any _ (lc - l1) (L.drop l1) wc r2 h2 (by omega)
           have W4 := single_any _ (lc - l1) (L.drop l1) wc r2 h2 (by omega)
           rw [lt] at W2
           rw [ld] at W3 W4
           rw [iwhole_f, iwhole_t] at hMi
           obtain ⟨b1, hb1⟩ : ∃ b, b = decide (weight (L.take l1) = 32768) := ⟨_, rfl⟩
           obtain ⟨b2, hb2⟩ : ∃ b, b = decide (weight (L.drop l1) = 32768) := ⟨_, rfl⟩
           obtain ⟨b3, hb3⟩ : ∃ b, b = (decide (some_ (L.drop l1) < 2) && ones (L.drop l1)) := ⟨_, rfl⟩
           rw [← hb1] at W2 hMi
           rw [← hb2] at W3 hMi
           rw [← hb3] at W4 hMi
           have hg : B ≤ g ∧ g ≠ B := l9.new g (by simp [blk])
           have hgw : g < wc.heap.size := owns_lt l9.own (blk_own (x := g) (by simp [blk]))
           have hfl := fail_any R p F bs out a5 oc most 0 3 oa wc s9
           have hX : ∀ x, x = g → x ∉ R :: p :: blk oa := fun x hx hm => by
            have hOB := K8.out.2.2.2.2.2.2.1
            simp only [List.mem_cons] at hm
            rcases hm with h | h | h
            ·omega
            ·omega
            ·have := hlow.1.2.2.2 x h; omega
           have hld : b1 = true → (b2 || b3) = true → Ld wc (some ⟨g, o, none⟩) lc (L.take l1) (R :: p :: blk oa) ∧ Ld wc (cutAtN (some ⟨g, o, none⟩) lc l1 1) (lc - l1) (L.drop l1) (R :: p :: blk oa) := fun k1 k2 => by
            refine ⟨⟨r1, fun x hx => ?_, h1, by omega, ?_⟩, ⟨r2, fun x hx => ?_, h2, by omega, ?_⟩⟩
            ·simp only [blk, List.mem_singleton] at hx
             exact ⟨by omega, hX x hx⟩
            ·rw [hb1] at k1
             have := of_decide_eq_true k1
             omega
            ·have hx2 : x = g := by
              unfold cutAtN at hx
              split at hx
              ·simp [blk] at hx; exact hx
              ·simp [blk, addr_add] at hx; exact hx
             exact ⟨by omega, hX x hx2⟩
            ·have k3 : iwhole (L.drop l1) true = true := by rw [iwhole_t, ← hb2, ← hb3]; exact k2
             unfold iwhole at k3
             simp only [Bool.and_eq_true, decide_eq_true_eq] at k3
             exact k3.1
           have hsl1 := lib.run_slice_to huf.sty_int l1 (some ⟨g, o, none⟩) N lc l1 rfl (by omega)
           have hsl2 := lib.run_slice_from huf.sty_int l1 (some ⟨g, o, none⟩) N lc l1 rfl (by omega) hcapN
           obtain ⟨qa, hqa⟩ : ∃ q, q = cutAtN (some ⟨g, o, none⟩) lc l1 1 := ⟨_, rfl⟩
           obtain ⟨qc, hqc⟩ : ∃ q, q = lc - l1 := ⟨_, rfl⟩
           obtain ⟨qn, hqn⟩ : ∃ q, q = N - l1 := ⟨_, rfl⟩
           rw [← hqa, ← hqc] at W3 W4 hsl2 hld
           rw [← hqn] at W3 W4 hsl2 ld
           have HL := Lib.hid (And.intro hMi (And.intro W2 (And.intro W3 (And.intro W4 (And.intro hld (And.intro s9 (And.intro f9 (And.intro hfl (And.intro lt ld)))))))))
           clear hMi W2 W3 W4 hld s9 f9 l9 hfl ri lt ld r1 r2 h1 h2 hb1 hb2 hb3 hg hgw hX hqa hqc hqn hz hz2 hLN hL15 hE4
           obtain ⟨w9, hw9⟩ : ∃ w9, w9 = wc := ⟨_, rfl⟩
           rw [← hw9] at HL c3 cB hcell ⊢
           clear hw9
           go_upto_region 29 with fail
           clear c3 cB hsl1 hsl2
           go_cut [120] from 102 to 120 (fun s120 wd => s120 = .bool (decide (z = 0) || (!b1 || (!b2 && !b3))) ∧ w9 = wd)
           case first =>
            by_cases hz0 : z = 0
            ·subst hz0
             go_wp2
             go_meet
             case rel => exact ⟨by simp, rfl⟩
            ·have dz : ((z : Int) == 0) = false := by simp; omega
             have hz3 := Lib.hid hz0
             clear hz0
             cases b1
             ·go_wp2_with (go_at_call 175; refine HL.out.2.1.mono ?_; rintro e w10 ⟨rfl, rfl⟩)
              go_meet
              case rel => exact ⟨by simp, rfl⟩
             ·cases b2
              ·cases b3
               ·go_wp2_with (first | (go_at_call 175; refine HL.out.2.1.mono ?_; rintro e w10 ⟨rfl, rfl⟩) | (go_at_call 175; refine HL.out.2.2.1.mono ?_; rintro e w10 ⟨rfl, rfl⟩) | (go_at_call 177; refine HL.out.2.2.2.1.mono ?_; rintro e w10 ⟨rfl, rfl⟩))
                go_meet
                case rel => exact ⟨by simp, rfl⟩
               ·go_wp2_with (first | (go_at_call 175; refine HL.out.2.1.mono ?_; rintro e w10 ⟨rfl, rfl⟩) | (go_at_call 175; refine HL.out.2.2.1.mono ?_; rintro e w10 ⟨rfl, rfl⟩) | (go_at_call 177; refine HL.out.2.2.2.1.mono ?_; rintro e w10 ⟨rfl, rfl⟩))
                go_meet
                case rel => exact ⟨by simp [hz3.out], rfl⟩
              ·go_wp2_with (first | (go_at_call 175; refine HL.out.2.1.mono ?_; rintro e w10 ⟨rfl, rfl⟩) | (go_at_call 175; refine HL.out.2.2.1.mono ?_; rintro e w10 ⟨rfl, rfl⟩))
               go_meet
               case rel => exact ⟨by simp [hz3.out], rfl⟩
           case rest =>
            obtain ⟨rfl, rfl⟩ := hcut
            obtain ⟨bt, hbt⟩ : ∃ b : Bool, b = (decide (z = 0) || (!b1 || (!b2 && !b3))) := ⟨_, rfl⟩
            rw [← hbt]
            have HT := Lib.hid hbt
            clear hbt
            cases bt
            ·go_wp2
             go_ret2
             have h := HT.out
             have hz0 : z ≠ 0 := fun h0 => by rw [h0] at h; simp at h
             have hb1 : b1 = true := by cases b1 <;> simp [hz0] at h ⊢
             have hb2 : (b2 || b3) = true := by cases b2 <;> cases b3 <;> simp [hz0, hb1] at h ⊢
             obtain ⟨d1, d2⟩ := HL.out.2.2.2.2.1 hb1 hb2
             refine ⟨_, _, _, _, _, _, a5, 0, rfl, HL.out.2.2.2.2.2.1, HL.out.2.2.2.2.2.2.1, .inr ⟨L.take l1, L.drop l1, ?_, rfl, HL.out.2.2.2.2.2.2.2.2.1.symm, HL.out.2.2.2.2.2.2.2.2.2.symm, d1, d2⟩⟩
             rw [HL.out.1, if_neg hz0, hb1, hb2, if_neg (by decide), if_neg (by decide)]
            ·go_wp2_with (go_at_call 144; refine HL.out.2.2.2.2.2.2.2.1.mono ?_; rintro e w10 ⟨rfl, S10, f10⟩)
             go_ret2
             refine ⟨_, _, _, _, _, _, a5, 3, rfl, S10, HL.out.2.2.2.2.2.2.1.trans (f10.mono (by simp)), .inl ⟨?_, by decide, by decide⟩⟩
             have h := HT.out
             rw [HL.out.1]
             by_cases hz0 : z = 0
             ·rw [if_pos hz0]
             ·rw [if_neg hz0]
              cases b1
              ·rfl
              ·rw [if_neg (by decide)]
               cases b2 <;> cases b3 <;> simp [hz0] at h ⊢
          ·have d0 : ((E4 : Int) != 0) = true := by simp; omega
           have hE5 : E4 < 100 ∧ M = .error E4 := by
            rcases hE4 with ⟨k1, _⟩ | ⟨_, k2, k3⟩
            ·exact absurd k1 h0
            ·exact ⟨k2, k3⟩
           have HJ := Lib.hid (And.intro s9 (And.intro f9 (And.intro h0 hE5)))
           clear s9 f9 l9 hE4 h0 hE5 cB
           go_wp2
           go_ret2
           exact ⟨_, _, _, _, _, _, a5, E4, rfl, HJ.out.1, HJ.out.2.1, .inl ⟨HJ.out.2.2.2.2, by have := HJ.out.2.2.1; omega, HJ.out.2.2.2.1⟩⟩
       ·have d0 : ((E2 : Int) != 0) = true := by simp; omega
        have hE3 : E2 < 100 ∧ M = .error E2 := by
         rcases hE2 with ⟨k1, _⟩ | ⟨_, k2, k3⟩
         ·exact absurd k1 h0
         ·exact ⟨k2, k3⟩
        have HE := Lib.hid (And.intro h0 (And.intro hE3 (And.intro s6 f6)))
        clear hE2 hE3 h0 s6 f6 ow6 hfl hf15
        go_wp2
        go_ret2
        exact ⟨_, _, _, _, _, _, a4, E2, rfl, HE.out.2.2.1, HE.out.2.2.2, .inl ⟨HE.out.2.1.2, by have := HE.out.1; omega, HE.out.2.1.1⟩⟩
end Go.Proofs.YtkmpfgpfbmeihaaGreatDoor.inf
namespace Go.Proofs.YtkmpfgpfbmeihaaGreatDoor.inf
open Go Go.RowKit lib bm bl huf
theorem info3 : (Tryz.prog.info? 213).map (·.size) = some 3 := by kernel_rfl
theorem results_3 {fn : Func} {p : Tmp} (h : fn.results = #[.cell p 213]) (tmps : Array Value) (w : World) (g : Nat) (cs : Array Value) (fr : Nat × Nat)
  (hp : tmps.getD p undef = .pointer (some ⟨g, 0, none⟩)) (hg : w.heap[g]? = some (.cells cs 213 fr)) (hs : cs.size = 3) : (results fn tmps).run Tryz.prog w = .ok (.agg cs) w :=
 results_cell_row h tmps w g 213 cs fr _ hp hg Tryz.underlying213 rfl (by rw [info3, hs])
def kindV : Array Value := #[.func (.func 166) #[] #[], .func (.func 167) #[] #[], .func (.func 168) #[] #[]]
theorem kinds_any (w : World) : Calls Tryz.prog 135 #[] w fun e w' => e = .returned (.agg kindV) ∧ Fr [] w w' := by
 go_enter Tryz.func135, Tryz.ntmps135
 go_wp2_with (refine wpList_store_row rfl 213 (.tmp 0) (.tmp 1) rfl w.heap.size kindV rfl rfl 213 #[.nilFunc, .nilFunc, .nilFunc] (heap_alloc_last w _) info3 rfl (by kernel_rfl) ?_; rw [World.setRow_alloc_new])
 simp only [Act.put]
 refine bodyPost_ret (results_3 rfl _ _ w.heap.size kindV (0, 0) rfl (alloc_at w _) rfl) rfl ?_
 exact ⟨rfl, (Fr.refl [] w).alloc _⟩
def iend (x : Except Nat (List UInt8 × Nat)) : Except Nat (List UInt8 × Nat) := match x with
 | .error e => .error e
 | .ok (o, a) => .ok (o, (a + 7) / 8)
theorem iraw_end (bs : List UInt8) (m : Nat) : iraw bs m = iend (irawF bs m (fuel bs) [] 0) := rfl
def RawGood (w : World) (m : Except Nat (List UInt8 × Nat)) (e : Ending) (w' : World) : Prop :=
 (∃ c, m = .error c ∧ 0 < c ∧ c < 100 ∧ e = .returned (.tuple #[.slice none 0 0, .int .i64 0, .int .i64 (c : Nat)]) ∧ Fr [] w w') ∨
 (∃ out used ao, m = .ok (out, used) ∧ e = .returned (.tuple #[.slice ao out.length out.length, .int .i64 (used : Nat), .int .i64 0]) ∧ lib.Rd w' ao out.length out ∧ (∀ x ∈ blk ao, w.heap.size ≤ x ∧ x < w'.heap.size) ∧ Fr [] w w')
set_option maxHeartbeats 4000000 in
theorem raw_any (a : Option Addr) (cap : Nat) (bs : List UInt8) (m : Nat) (w : World) (h : lib.Rd w a cap bs) (hlen : bs.length ≤ 100000000) (hm8 : m ≤ 100000000) :
  Calls Tryz.prog 110 #[.slice a bs.length cap, .int .i64 (m : Nat)] w (RawGood w (iraw bs m)) := by
 have hread := bits.read_new a cap bs w h.cs h.le h.nil (by omega)
 obtain ⟨M, hM⟩ : ∃ M, M = iraw bs m := ⟨_, rfl⟩
 rw [← hM]
 have H := Lib.hid (And.intro hread (And.intro hM hlen))
 clear h hread hM hlen
 go_enter Tryz.func110, Tryz.ntmps110
 go_upto_block 0 with (go_at_call 133; refine H.out.1.mono ?_; rintro e w1 ⟨p, F, rfl, hrd, f1, hF⟩; have K1 := Lib.hid (And.intro hrd (And.intro f1 hF)); clear hrd f1 hF)
 obtain ⟨R, hR⟩ : ∃ R, R = w1.heap.size := ⟨_, rfl⟩
 go_wp2
 rw [← hR]
 obtain ⟨w2, hw2⟩ : ∃ w2, w2 = w1.alloc (.cells #[.pointer (some ⟨p, 0, none⟩), .slice none 0 0, .int .i64 (m : Nat)] 209) := ⟨_, rfl⟩
 have f2 : Fr [] w1 w2 := by rw [hw2]; exact (Fr.refl [] w1).alloc _
 have S2 : St w2 R p F bs 0 [] none 0 m := by
  refine ⟨by rw [hw2, hR]; exact alloc_at w1 _, bits.rd_fr K1.out.1 f2 (by simp), World.ownsRow_nil _ _ _ _, fun hx => ?_, by simp [blk], by simp [blk], fun x hx => ?_, hm8, H.out.2.2, by simp⟩
  ·have := (K1.out.2.2 R hx).2; omega
  ·exact Nat.lt_of_lt_of_le (K1.out.2.2 x hx).2 f2.size
 have hRw : w.heap.size ≤ R := by rw [hR]; exact K1.out.2.1.size
 have hpw : w.heap.size ≤ p := (K1.out.2.2 p S2.pF.1).1
 rw [← hw2]
 clear hw2 hR
 obtain ⟨M0, hM0⟩ : ∃ M0, M0 = irawF bs m (fuel bs) [] 0 := ⟨_, rfl⟩
 have hM : M = iend M0 := by rw [H.out.2.1, hM0, iraw_end]
 have B0 : ∀ (w' : World) (a' : Nat) (out' : List UInt8) (oa' : Option Addr) (oc' : Nat), St w' R p F bs a' out' oa' oc' m → Calls Tryz.prog 166 #[.pointer (some ⟨R, 0, none⟩)] w' (Ret w' R p F bs oa' m (iblock bs m 0 out' a')) := fun w' a' out' oa' oc' s => by
  unfold iblock; rw [if_pos rfl]; exact stored_any R p F bs out' a' oc' m oa' w' s
 have B1 : ∀ (w' : World) (a' : Nat) (out' : List UInt8) (oa' : Option Addr) (oc' : Nat), St w' R p F bs a' out' oa' oc' m → Calls Tryz.prog 167 #[.pointer (some ⟨R, 0, none⟩)] w' (Ret w' R p F bs oa' m (iblock bs m 1 out' a')) := fun w' a' out' oa' oc' s => by
  unfold iblock; rw [if_neg (by decide), if_pos rfl]; exact fixed_any R p F bs out' a' oc' m oa' w' s
 have B2 : ∀ (w' : World) (a' : Nat) (out' : List UInt8) (oa' : Option Addr) (oc' : Nat), St w' R p F bs a' out' oa' oc' m → Calls Tryz.prog 168 #[.pointer (some ⟨R, 0, none⟩)] w' (Ret w' R p F bs oa' m (iblock bs m 2 out' a')) := fun w' a' out' oa' oc' s => by
  unfold iblock; rw [if_neg (by decide), if_neg (by decide)]; exact dynamic_any R p F bs out' a' oc' m oa' w' s
 have T1 : ∀ (w' : World) (a' : Nat) (out' : List UInt8) (oa' : Option Addr) (oc' : Nat), St w' R p F bs a' out' oa' oc' m → Calls Tryz.prog 134 #[.pointer (some ⟨R, 0, none⟩), .int .i64 1] w' (RetV w' R p F bs out' oa' oc' m (itake bs a' 1)) := fun w' a' out' oa' oc' s => take_any R p F bs out' a' oc' m 1 oa' w' s (by decide)
 have T2 : ∀ (w' : World) (a' : Nat) (out' : List UInt8) (oa' : Option Addr) (oc' : Nat), St w' R p F bs a' out' oa' oc' m → Calls Tryz.prog 134 #[.pointer (some ⟨R, 0, none⟩), .int .i64 2] w' (RetV w' R p F bs out' oa' oc' m (itake bs a' 2)) := fun w' a' out' oa' oc' s => take_any R p F bs out' a' oc' m 2 oa' w' s (by decide)
 have HB := Lib.hid (And.intro B0 (And.intro B1 (And.intro B2 (And.intro T1 T2))))
 have HK := Lib.hid (And.intro S2 (And.intro (K1.out.2.1.trans f2) (And.intro hRw (And.intro hpw (And.intro hM0 hM)))))
 clear B0 B1 B2 T1 T2 S2 f2 hRw hpw hM0 hM
 -- what a way behind w2 turns is new behind w
 go_loopg [4, 5, 6, 8, 9] (fuel bs) (fun k s4 s5 s6 s8 s9 wr => ∃ (last a1 : Nat) (out1 : List UInt8) (oa1 : Option Addr) (oc1 : Nat), s8 = .int .i64 (last : Nat) ∧ St wr R p F bs a1 out1 oa1 oc1 m ∧ Way w2 R p none wr oa1 ∧ (last = 0 → irawF bs m k out1 a1 = M0 ∧ 8 * bs.length + 1 ≤ a1 + k) ∧ (last ≠ 0 → M0 = .ok (out1, a1)))
 case atStart => exact ⟨0, 0, [], none, 0, rfl, HK.out.1, .refl _ _ _ _, fun _ => ⟨HK.out.2.2.2.2.1.symm, by unfold fuel; omega⟩, fun h => absurd rfl h⟩
 case round =>
  obtain ⟨last, a1, out1, oa1, oc1, rfl, hst, hway, hl0, hl1⟩ := hrel
  have hup : ∀ (w' : World), Fr (R :: p :: blk oa1) wr w' → Fr [] w w' := fun w' f => by
   have f1 : Fr (R :: p :: blk none) w2 w' := hway.frW f
   refine HK.out.2.1.step f1 (fun x hx => .inr ?_)
   simp only [List.mem_cons, blk, List.not_mem_nil, or_false] at hx
   rcases hx with rfl | rfl
   ·exact HK.out.2.2.1
   ·exact HK.out.2.2.2.1
  by_cases hl : last = 0
  ·subst hl
   obtain ⟨hir, hfu⟩ := hl0 rfl
   have ha8 := hst.pF.2
   obtain ⟨k, rfl⟩ : ∃ k, gk = k + 1 := ⟨gk - 1, by omega⟩
   have HJ := Lib.hid (And.intro hst (And.intro hway (And.intro hir hfu)))
   have HU := Lib.hid hup
   clear hst hway hl0 hl1 hir hfu hup
   have ix0 : ∀ w : World, (Instr.index 213 (.agg #[.func (.func 166) #[] #[], .func (.func 167) #[] #[], .func (.func 168) #[] #[]]) (.int .i64 0)).run Tryz.prog w = .ok (.func (.func 166) #[] #[]) w := fun _ => by kernel_rfl
   have ix1 : ∀ w : World, (Instr.index 213 (.agg #[.func (.func 166) #[] #[], .func (.func 167) #[] #[], .func (.func 168) #[] #[]]) (.int .i64 1)).run Tryz.prog w = .ok (.func (.func 167) #[] #[]) w := fun _ => by kernel_rfl
   have ix2 : ∀ w : World, (Instr.index 213 (.agg #[.func (.func 166) #[] #[], .func (.func 167) #[] #[], .func (.func 168) #[] #[]]) (.int .i64 2)).run Tryz.prog w = .ok (.func (.func 168) #[] #[]) w := fun _ => by kernel_rfl
   go_wp2_with (first
    | (go_at_call 134; (with_reducible refine (HB.out.2.2.2.1 wr a1 out1 oa1 oc1 HJ.out.1).mono ?_); rintro e w3 (⟨v, c, hm, hc0, hc1, rfl, f3⟩ | ⟨last, a2, hm, rfl, s3, f3⟩); all_goals (try (have hv1 := itake_lt hm; have K3 := Lib.hid (And.intro hm (And.intro s3 f3)); clear hm s3 f3)))
    | (go_at_call 134; (with_reducible refine (HB.out.2.2.2.2 w3 a2 out1 oa1 oc1 K3.out.2.1).mono ?_); rintro e w4 (⟨v, c, hm, hc0, hc1, rfl, f4⟩ | ⟨h, a3, hm, rfl, s4, f4⟩); rotate_left; (have hv2 := itake_lt hm; rcases (show h = 0 ∨ h = 1 ∨ h = 2 ∨ h = 3 by omega) with rfl | rfl | rfl | rfl); all_goals (try (have K4 := Lib.hid (And.intro hm (And.intro s4 f4)); clear hm s4 f4)))
    | (go_at_call 135; refine (kinds_any w4).mono ?_; rintro e w5 ⟨he, f5⟩; unfold kindV at he; subst he; have K5 := Lib.hid f5; clear f5)
    | (go_at_call 166; refine (HB.out.1 w5 a3 out1 oa1 oc1 (K4.out.2.1.fr0 K5.out)).mono ?_; rintro e w6 (⟨c, hm, hc0, hc1, rfl, f6⟩ | ⟨o6, a6, oa6, oc6, hm, rfl, s6, f6⟩); all_goals (have Km := Lib.hid hm; clear hm); all_goals (try (have K6 := Lib.hid (And.intro s6 f6); clear s6 f6)))
    | (go_at_call 167; refine (HB.out.2.1 w5 a3 out1 oa1 oc1 (K4.out.2.1.fr0 K5.out)).mono ?_; rintro e w6 (⟨c, hm, hc0, hc1, rfl, f6⟩ | ⟨o6, a6, oa6, oc6, hm, rfl, s6, f6⟩); all_goals (have Km := Lib.hid hm; clear hm); all_goals (try (have K6 := Lib.hid (And.intro s6 f6); clear s6 f6)))
    | (go_at_call 168; refine (HB.out.2.2.1 w5 a3 out1 oa1 oc1 (K4.out.2.1.fr0 K5.out)).mono ?_; rintro e w6 (⟨c, hm, hc0, hc1, rfl, f6⟩ | ⟨o6, a6, oa6, oc6, hm, rfl, s6, f6⟩); all_goals (have Km := Lib.hid hm; clear hm); all_goals (try (have K6 := Lib.hid (And.intro s6 f6); clear s6 f6))))
   ·go_ret3
    refine .inl ⟨c, ?_, hc0, hc1, rfl, HU.out _ f3⟩
    rw [HK.out.2.2.2.2.2, ← HJ.out.2.2.1, irawF]
    simp only [hm]
    rfl
   ·go_ret3
    refine .inl ⟨c, ?_, hc0, hc1, rfl, HU.out _ ((K3.out.2.2.trans (K4.out.2.2.trans (K5.out.mono (by simp)))).mono (by simp) |>.trans f6)⟩
    rw [HK.out.2.2.2.2.2, ← HJ.out.2.2.1, irawF]
    simp only [K3.out.1, K4.out.1, if_neg (show ¬ 0 = 3 by decide), Km.out]
    rfl
   ·go_roundg k
    case measure => omega
    case rel =>
     have h1 := itake_at K3.out.1
     have h2 := itake_at K4.out.1
     have h3 := iblock_at Km.out
     have hfu := HJ.out.2.2.2
     have hst : irawF bs m (k + 1) out1 a1 = if last = 0 then irawF bs m k o6 a6 else .ok (o6, a6) := by
      rw [irawF]
      simp only [K3.out.1, K4.out.1, if_neg (show ¬ 0 = 3 by decide), Km.out]
     rw [HJ.out.2.2.1] at hst
     refine ⟨last, a6, o6, oa6, oc6, rfl, K6.out.1, (HJ.out.2.1.trans (Way.of _ _ _ _ _ (K3.out.2.2.trans (K4.out.2.2.trans (K5.out.mono (by simp)))))).trans K6.out.2, fun h0 => ⟨?_, by omega⟩, fun h0 => ?_⟩
     ·rw [if_pos h0] at hst; exact hst.symm
     ·rw [if_neg h0] at hst; exact hst
   ·go_ret3
    refine .inl ⟨c, ?_, hc0, hc1, rfl, HU.out _ ((K3.out.2.2.trans (K4.out.2.2.trans (K5.out.mono (by simp)))).mono (by simp) |>.trans f6)⟩
    rw [HK.out.2.2.2.2.2, ← HJ.out.2.2.1, irawF]
    simp only [K3.out.1, K4.out.1, if_neg (show ¬ 1 = 3 by decide), Km.out]
    rfl
   ·go_roundg k
    case measure => omega
    case rel =>
     have h1 := itake_at K3.out.1
     have h2 := itake_at K4.out.1
     have h3 := iblock_at Km.out
     have hfu := HJ.out.2.2.2
     have hst : irawF bs m (k + 1) out1 a1 = if last = 0 then irawF bs m k o6 a6 else .ok (o6, a6) := by
      rw [irawF]
      simp only [K3.out.1, K4.out.1, if_neg (show ¬ 1 = 3 by decide), Km.out]
     rw [HJ.out.2.2.1] at hst
     refine ⟨last, a6, o6, oa6, oc6, rfl, K6.out.1, (HJ.out.2.1.trans (Way.of _ _ _ _ _ (K3.out.2.2.trans (K4.out.2.2.trans (K5.out.mono (by simp)))))).trans K6.out.2, fun h0 => ⟨?_, by omega⟩, fun h0 => ?_⟩
     ·rw [if_pos h0] at hst; exact hst.symm
     ·rw [if_neg h0] at hst; exact hst
   ·go_ret3
    refine .inl ⟨c, ?_, hc0, hc1, rfl, HU.out _ ((K3.out.2.2.trans (K4.out.2.2.trans (K5.out.mono (by simp)))).mono (by simp) |>.trans f6)⟩
    rw [HK.out.2.2.2.2.2, ← HJ.out.2.2.1, irawF]
    simp only [K3.out.1, K4.out.1, if_neg (show ¬ 2 = 3 by decide), Km.out]
    rfl
   ·go_roundg k
    case measure => omega
    case rel =>
     have h1 := itake_at K3.out.1
     have h2 := itake_at K4.out.1
     have h3 := iblock_at Km.out
     have hfu := HJ.out.2.2.2
     have hst : irawF bs m (k + 1) out1 a1 = if last = 0 then irawF bs m k o6 a6 else .ok (o6, a6) := by
      rw [irawF]
      simp only [K3.out.1, K4.out.1, if_neg (show ¬ 2 = 3 by decide), Km.out]
     rw [HJ.out.2.2.1] at hst
     refine ⟨last, a6, o6, oa6, oc6, rfl, K6.out.1, (HJ.out.2.1.trans (Way.of _ _ _ _ _ (K3.out.2.2.trans (K4.out.2.2.trans (K5.out.mono (by simp)))))).trans K6.out.2, fun h0 => ⟨?_, by omega⟩, fun h0 => ?_⟩
     ·rw [if_pos h0] at hst; exact hst.symm
     ·rw [if_neg h0] at hst; exact hst
   ·go_ret3
    refine .inl ⟨3, ?_, by decide, by decide, rfl, HU.out _ ((K3.out.2.2.trans K4.out.2.2).mono (by simp))⟩
    rw [HK.out.2.2.2.2.2, ← HJ.out.2.2.1, irawF]
    simp only [K3.out.1, K4.out.1, if_pos]
    rfl
   ·go_ret3
    refine .inl ⟨c, ?_, hc0, hc1, rfl, HU.out _ ((K3.out.2.2.mono (by simp)).trans f4)⟩
    rw [HK.out.2.2.2.2.2, ← HJ.out.2.2.1, irawF]
    simp only [K3.out.1, hm]
    rfl
  ·have hM : M = .ok (out1, (a1 + 7) / 8) := by rw [HK.out.2.2.2.2.2, hl1 hl]; rfl
   have c0 := cell_of hst.box 0
   have c1 := cell_of hst.box 1
   simp only [List.getElem?_toArray, List.getElem?_cons_zero, List.getElem?_cons_succ] at c0 c1
   obtain ⟨N, hN⟩ : ∃ N, N = out1.length := ⟨_, rfl⟩
   rw [← hN] at c1
   obtain ⟨hro, hrl⟩ := rd_of_owns hst.own
   have hle := hro.le
   rw [← hN] at hle
   have hsl := fun w => run_slice_cut3 bits.sliceU8 N oa1 oc1 hle w
   have hus : ∀ w', Fr [] wr w' → Calls Tryz.prog 136 #[.pointer (some ⟨p, 0, none⟩)] w' fun e w'' => e = .returned (.int .i64 ((a1 + 7) / 8 : Nat)) ∧ w'' = w' := fun w' f' => (bits.used_any p F bs a1 w' (bits.rd_fr hst.rd f' (by simp))).mono fun e w'' h => ⟨h.1, h.2.symm⟩
   obtain ⟨u, hu⟩ : ∃ u, u = (a1 + 7) / 8 := ⟨_, rfl⟩
   rw [← hu] at hM hus
   have hNm : N ≤ m := by rw [hN]; exact hst.om
   have hl9 : ((last : Int) == 0) = false := by simp; omega
   have HJ := Lib.hid (And.intro hst (And.intro hway (And.intro hM (And.intro hN (And.intro hro hus)))))
   have HU := Lib.hid hup
   clear hst hway hl0 hl1 hup hM hN hro hrl hus hu
   go_upto_region 16 with fail
   go_quiet (exact Calls.quiet_of_same (HJ.out.2.2.2.2.2 _ (Fr.drewN [] _ _)))
   go_wp2
   go_ret3
   have hN := HJ.out.2.2.2.1
   have hro := HJ.out.2.2.2.2.1
   refine .inr ⟨out1, u, oa1, HJ.out.2.2.1, by rw [hN]; rfl, ?_, fun x hx => ⟨?_, ?_⟩, HU.out _ (Fr.drewN _ _ _)⟩
   ·have h1 : lib.Rd wr oa1 out1.length out1 := ⟨hro.cs, Nat.le_refl _, Nat.le_trans hro.le hro.max, fun h => by have := hro.nil h; have := hro.le; omega⟩
    exact h1.fr (Fr.drewN _ _ _)
   ·rcases HJ.out.2.1.new x hx with h1 | h1
    ·simp [blk] at h1
    ·exact Nat.le_trans HK.out.2.1.size h1
   ·exact owns_lt HJ.out.1.own (blk_own hx)
end Go.Proofs.YtkmpfgpfbmeihaaGreatDoor.inf
