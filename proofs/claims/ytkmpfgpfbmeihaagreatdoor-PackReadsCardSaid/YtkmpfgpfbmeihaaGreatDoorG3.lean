/-
  Texts of this proof, one behind the other: RfHead, Take, Put, Read, HuffC, HuffD, Writer, Ref5, RfB, HuffM, HuffR, RfC, InfA, IntsRow.
-/
import Derived.Test.YtkmpfgpfbmeihaaGreatDoorG2
import Derived.Deep.DeepCutAuto
import Derived.StillTailTactics
import Derived.Deep.LoopGhost
import Derived.Deep.CutBlock
import Derived.WalkMore
import Derived.OwnWalk
import Derived.Laws.OwnMore
import Derived.Lib.AppendZerosOnto
import Derived.Lib.AppendZeros
import Derived.Deep.WholeRow
set_option maxRecDepth 100000
set_option linter.unusedVariables false
set_option linter.unusedSimpArgs false
namespace Go.Proofs.YtkmpfgpfbmeihaaGreatDoor.pk
open Go Go.RowKit lib bm
def RHeadP (w : World) (P : Except Nat (Nat × Nat × Nat)) (e : Ending) (w' : World) : Prop :=
 Fr [] w w' ∧ ((∃ x, P = .error x ∧ 0 < x ∧ x < 100 ∧ e = .returned (.tuple #[.int .i64 0, .int .i64 0, .int .i64 0, .int .i64 (x : Nat)])) ∨
  ∃ k s n, P = .ok (k, s, n) ∧ k < 8 ∧ s ≤ 65536 ∧ e = .returned (.tuple #[.int .i64 (k : Nat), .int .i64 (s : Nat), .int .i64 (n : Nat), .int .i64 0]))
set_option maxHeartbeats 8000000 in
theorem rhead_read (a : Option Addr) (cap : Nat) (bs : List UInt8) (w : World) (h : lib.Rd w a cap bs) (hlen : bs.length ≤ 100000000) :
  Calls Tryz.prog 86 #[.slice a bs.length cap] w (RHeadP w (phead bs)) := by
 obtain ⟨P, hP⟩ : ∃ P, P = phead bs := ⟨_, rfl⟩
 rw [← hP]
 have hP0 : phF bs 5 0 0 0 = P := hP.symm
 obtain ⟨L, hL⟩ : ∃ L, L = bs.length := ⟨_, rfl⟩
 have H := Lib.hid (And.intro h (And.intro hL hP0))
 rw [← hL] at hlen ⊢
 clear h hP hP0 hL
 go_enter Tryz.func86, Tryz.ntmps86
 go_upto_block 0 with fail
 go_wp2
 go_loopg [6, 7, 8] 5 (fun k s6 s7 s8 wr => ∃ i kd sz : Nat, s6 = .int .i64 (kd : Nat) ∧ s7 = .int .i64 (sz : Nat) ∧ s8 = .int .i64 (i : Nat) ∧ i + k = 5 ∧ kd < 8 ∧ (0 < i → sz < 2 ^ (7 * i - 3)) ∧ phF bs k i kd sz = P ∧ Fr [] w wr)
 case atStart => exact ⟨0, 0, 0, rfl, rfl, rfl, rfl, by decide, by simp, H.out.2.2, Fr.refl _ _⟩
 case round =>
  obtain ⟨i, kd, sz, rfl, rfl, rfl, hik, hkd, hsz, hph, hf⟩ := hrel
  by_cases hi : i < 5
  ·obtain ⟨k, rfl⟩ : ∃ k, gk = k + 1 := ⟨gk - 1, by omega⟩
   by_cases hin : i < L
   ·have hin' : i < bs.length := by rw [← H.out.2.1]; exact hin
    obtain ⟨g, o, rfl, hc⟩ := (H.out.1.fr hf).at hin'
    have hbi : bs[i]? = some bs[i] := List.getElem?_eq_getElem hin'
    have hb := UInt8.toNat_lt bs[i]
    obtain ⟨b, hbv⟩ : ∃ b, b = bs[i] := ⟨_, rfl⟩
    rw [← hbv] at hc hbi hb
    obtain ⟨c, hcv⟩ : ∃ c, c = b.toNat := ⟨_, rfl⟩
    rw [← hcv] at hc hb
    rw [phF, hbi] at hph
    simp only [← hcv] at hph
    have HT := Lib.hid (And.intro hph hf)
    clear hph hf hbi hbv hcv hin'
    have h127 := u8_and127 c hb
    obtain ⟨y, hy⟩ : ∃ y, y = c % 128 := ⟨_, rfl⟩
    rw [← hy] at h127
    by_cases h0 : i = 0
    ·subst h0
     rw [Nat.add_zero] at hc
     have h7 := u8_and7 (c / 16) (by omega)
     have h15 := inf.u8_and15 c hb
     obtain ⟨y1, hy1⟩ : ∃ y, y = c / 16 % 8 := ⟨_, rfl⟩
     obtain ⟨y2, hy2⟩ : ∃ y, y = c % 16 := ⟨_, rfl⟩
     have hph := HT.out.1
     rw [if_pos rfl, ← hy1, ← hy2] at hph
     rw [← hy1, show ((c / 16 : Nat) : Int) = (c : Int) / 16 by omega] at h7
     rw [← hy2] at h15
     have hy1b : y1 < 8 := by omega
     have hy2b : y2 < 16 := by omega
     have HP := Lib.hid hph
     clear hph hy hy1 hy2 hsz
     by_cases hk0 : y1 = 0
     ·subst hk0
      go_wp2
      refine bodyPost_ret (delta.results_tmp4 rfl _ _ _) rfl ?_
      exact ⟨HT.out.2, .inl ⟨3, by rw [← HP.out]; simp, by decide, by decide, rfl⟩⟩
     ·have d0 : ((y1 : Int) == 0) = false := by simp; omega
      by_cases hk5 : y1 = 5
      ·subst hk5
       go_wp2
       refine bodyPost_ret (delta.results_tmp4 rfl _ _ _) rfl ?_
       exact ⟨HT.out.2, .inl ⟨3, by rw [← HP.out]; simp, by decide, by decide, rfl⟩⟩
      ·have d5 : ((y1 : Int) == 5) = false := by simp; omega
       have hph := HP.out
       rw [if_neg (by omega)] at hph
       by_cases h128 : 128 ≤ c
       ·rw [if_pos h128] at hph
        have HP2 := Lib.hid hph
        have dL : decide ((c : Int) < 128) = false := by simp; omega
        clear hph hk0 hk5
        go_wp2
        go_roundg k
        case measure => omega
        case rel => exact ⟨1, y1, y2, by go_num, by go_num, rfl, by omega, hy1b, fun _ => by omega, HP2.out, HT.out.2⟩
       ·rw [if_neg h128] at hph
        have HP2 := Lib.hid hph
        have hL : (c : Int) < 128 := by omega
        have hs1 : decide ((2147483647 : Int) < y2) = false := by simp; omega
        have hs2 : decide ((65536 : Int) < y2) = false := by simp; omega
        clear hph hk0 hk5
        go_wp2
        refine bodyPost_ret (delta.results_tmp4 rfl _ _ _) rfl ?_
        exact ⟨HT.out.2, .inr ⟨y1, y2, 1, HP2.out.symm, hy1b, by omega, rfl⟩⟩
    ·have hph := HT.out.1
     rw [if_neg h0, ← hy] at hph
     have hsz1 := hsz (by omega)
     have d0 : ((i : Int) == 0) = false := by simp; omega
     obtain ⟨m, hm⟩ : ∃ m, m = 7 * i - 3 := ⟨_, rfl⟩
     obtain ⟨q, hq⟩ : ∃ q, q = 2 ^ m := ⟨_, rfl⟩
     have hm25 : m ≤ 25 := by omega
     have hqb : q ≤ 33554432 := by
      have := Nat.pow_le_pow_right (n := 2) (by decide) hm25
      rw [hq]; simpa using this
     rw [← hm, ← hq] at hph hsz1
     obtain ⟨z, hz⟩ : ∃ z, z = sz + y * q := ⟨_, rfl⟩
     rw [← hz] at hph
     have hyq : y * q ≤ 127 * q := Nat.mul_le_mul_right _ (by omega)
     have hzb : z < 4294967296 ∧ (i < 4 → z < 2 ^ (7 * (i + 1) - 3)) := by
      refine ⟨by omega, fun _ => ?_⟩
      rw [show 7 * (i + 1) - 3 = m + 7 by omega, Nat.pow_add, ← hq]
      omega
     obtain ⟨yq, hyq2⟩ : ∃ yq, yq = y * q := ⟨_, rfl⟩
     rw [← hyq2] at hz hyq
     have hyb : y < 128 := by omega
     have hzz := Lib.hid hz
     have hszb : sz < 4294967296 := by omega
     have hyqb : yq < 4294967296 := by omega
     have hzb1 := hzb.1
     have esh : wrap64 ((y : Int) * 2 ^ (4 + 7 * (i - 1))) = (yq : Int) := by
      rw [show 4 + 7 * (i - 1) = m by omega]
      have e1 : (y : Int) * 2 ^ m = ((y * q : Nat) : Int) := by rw [hq, Int.natCast_mul, Int.natCast_pow]; rfl
      rw [e1, ← hyq2]; unfold wrap64; omega
     have HP := Lib.hid (And.intro hph (And.intro hzb.2 hzb1))
     clear hzb1
     clear hm25 hqb hm hph hsz hsz1 hy hz hzb hyq hq hyq2
     by_cases h128 : 128 ≤ c
     ·have HP2 := Lib.hid ((if_pos h128).symm.trans HP.out.1)
      have dL : decide ((c : Int) < 128) = false := by simp; omega
      go_wp2
      go_roundg k
      case measure => omega
      case rel => exact ⟨i + 1, kd, z, by go_num, by rw [hzz.out]; go_num, by go_num, by omega, hkd, fun _ => by
       by_cases hi4 : i < 4
       ·exact HP.out.2.1 hi4
       ·obtain rfl : i = 4 := by omega
        exact HP.out.2.2, HP2.out, HT.out.2⟩
     ·have hph := (if_neg h128).symm.trans HP.out.1
      have dL : (c : Int) < 128 := by omega
      by_cases hz3 : 2147483647 < z
      ·have HP2 := Lib.hid ((if_pos hz3).symm.trans hph)
       have d1 : decide ((2147483647 : Int) < (sz : Int) + (yq : Int)) = true := by have := hzz.out; simp; omega
       clear hph
       go_wp2
       refine bodyPost_ret (delta.results_tmp4 rfl _ _ _) rfl ?_
       exact ⟨HT.out.2, .inl ⟨3, HP2.out.symm, by decide, by decide, rfl⟩⟩
      ·have hph := (if_neg hz3).symm.trans hph
       have d1 : decide ((2147483647 : Int) < (sz : Int) + (yq : Int)) = false := by have := hzz.out; simp; omega
       by_cases hz5 : 65536 < z
       ·have HP2 := Lib.hid ((if_pos hz5).symm.trans hph)
        have d2 : decide ((65536 : Int) < (sz : Int) + (yq : Int)) = true := by have := hzz.out; simp; omega
        clear hph
        go_wp2
        refine bodyPost_ret (delta.results_tmp4 rfl _ _ _) rfl ?_
        exact ⟨HT.out.2, .inl ⟨5, HP2.out.symm, by decide, by decide, rfl⟩⟩
       ·have HP2 := Lib.hid ((if_neg hz5).symm.trans hph)
        have d2 : decide ((65536 : Int) < (sz : Int) + (yq : Int)) = false := by have := hzz.out; simp; omega
        clear hph
        go_wp2
        refine bodyPost_ret (delta.results_tmp4 rfl _ _ _) rfl ?_
        exact ⟨HT.out.2, .inr ⟨kd, z, i + 1, HP2.out.symm, hkd, by omega, by rw [hzz.out]; first | rfl | go_num⟩⟩
   ·have hbi : bs[i]? = none := List.getElem?_eq_none (by rw [← H.out.2.1]; omega)
    rw [phF, hbi] at hph
    have HT := Lib.hid (And.intro hph hf)
    have dg : L ≤ i := by omega
    clear hbi hph hf hsz
    go_wp2
    refine bodyPost_ret (delta.results_tmp4 rfl _ _ _) rfl ?_
    exact ⟨HT.out.2, .inl ⟨4, HT.out.1.symm, by decide, by decide, rfl⟩⟩
  ·obtain rfl : i = 5 := by omega
   obtain rfl : gk = 0 := by omega
   rw [phF] at hph
   have HT := Lib.hid (And.intro hph hf)
   clear hph hf hsz
   go_wp2
   refine bodyPost_ret (delta.results_tmp4 rfl _ _ _) rfl ?_
   exact ⟨HT.out.2, .inl ⟨3, HT.out.1.symm, by decide, by decide, rfl⟩⟩
def RBackP (w : World) (P : Except Nat (Nat × Nat)) (e : Ending) (w' : World) : Prop :=
 Fr [] w w' ∧ ((∃ x, P = .error x ∧ 0 < x ∧ x < 100 ∧ e = .returned (.tuple #[.int .i64 0, .int .i64 0, .int .i64 (x : Nat)])) ∨
  ∃ v n, P = .ok (v, n) ∧ v < 68719476736 ∧ e = .returned (.tuple #[.int .i64 (v : Nat), .int .i64 (n : Nat), .int .i64 0]))
set_option maxHeartbeats 8000000 in
theorem rback_read (a : Option Addr) (cap : Nat) (bs : List UInt8) (w : World) (h : lib.Rd w a cap bs) (hlen : bs.length ≤ 100000000) :
  Calls Tryz.prog 87 #[.slice a bs.length cap] w (RBackP w (pback bs)) := by
 obtain ⟨P, hP⟩ : ∃ P, P = pback bs := ⟨_, rfl⟩
 rw [← hP]
 have hP0 : pbF bs 5 0 0 = P := hP.symm
 obtain ⟨L, hL⟩ : ∃ L, L = bs.length := ⟨_, rfl⟩
 have H := Lib.hid (And.intro h (And.intro hL hP0))
 rw [← hL] at hlen ⊢
 clear h hP hP0 hL
 go_enter Tryz.func87, Tryz.ntmps87
 go_upto_block 0 with fail
 go_wp2
 go_loopg [5, 6] 5 (fun k s5 s6 wr => ∃ i v : Nat, s5 = .int .i64 (v : Nat) ∧ s6 = .int .i64 (i : Nat) ∧ i + k = 5 ∧ ((i = 0 → v = 0) ∧ (i = 1 → v ≤ 127) ∧ (i = 2 → v ≤ 16511) ∧ (i = 3 → v ≤ 2113663) ∧ (i = 4 → v ≤ 270549119) ∧ v ≤ 34630287487) ∧ pbF bs k i v = P ∧ Fr [] w wr)
 case atStart => exact ⟨0, 0, rfl, rfl, rfl, by decide, H.out.2.2, Fr.refl _ _⟩
 case round =>
  obtain ⟨i, v, rfl, rfl, hik, hv, hph, hf⟩ := hrel
  by_cases hi : i < 5
  ·obtain ⟨k, rfl⟩ : ∃ k, gk = k + 1 := ⟨gk - 1, by omega⟩
   by_cases hin : i < L
   ·have hin' : i < bs.length := by rw [← H.out.2.1]; exact hin
    obtain ⟨g, o, rfl, hc⟩ := (H.out.1.fr hf).at hin'
    have hbi : bs[i]? = some bs[i] := List.getElem?_eq_getElem hin'
    have hb := UInt8.toNat_lt bs[i]
    obtain ⟨b, hbv⟩ : ∃ b, b = bs[i] := ⟨_, rfl⟩
    rw [← hbv] at hc hbi hb
    obtain ⟨c, hcv⟩ : ∃ c, c = b.toNat := ⟨_, rfl⟩
    rw [← hcv] at hc hb
    rw [pbF, hbi] at hph
    simp only [← hcv] at hph
    have HT := Lib.hid hf
    clear hf hbi hbv hcv hin'
    have h127 := u8_and127 c hb
    obtain ⟨y, hy⟩ : ∃ y, y = c % 128 := ⟨_, rfl⟩
    have hyb : y < 128 := by omega
    rw [← hy] at h127 hph
    obtain ⟨u, hu⟩ : ∃ u, u = (if 0 < i then (v + 1) * 128 else 0) := ⟨_, rfl⟩
    rw [← hu] at hph
    have hzv : (i + 1 = 1 → u + y ≤ 127) ∧ (i + 1 = 2 → u + y ≤ 16511) ∧ (i + 1 = 3 → u + y ≤ 2113663) ∧ (i + 1 = 4 → u + y ≤ 270549119) ∧ u + y ≤ 34630287487 := by
     by_cases h0 : 0 < i
     ·rw [if_pos h0] at hu; omega
     ·rw [if_neg h0] at hu; omega
    have HZ := Lib.hid (And.intro hzv hph)
    have hzb : u + y ≤ 34630287487 := by omega
    by_cases h0 : i = 0
    ·subst h0
     rw [Nat.add_zero] at hc
     obtain rfl : v = 0 := by omega
     rw [if_neg (by decide)] at hu
     subst hu
     have HP1 := Lib.hid (show (if c < 128 then .ok (y, 0 + 1) else pbF bs k (0 + 1) y : Except Nat (Nat × Nat)) = P by rw [Nat.zero_add] at hph; exact hph)
     have HZ2 := Lib.hid (show y ≤ 127 by omega)
     clear hph hzv hy hv HZ
     by_cases h128 : c < 128
     ·have HP2 := Lib.hid ((if_pos h128).symm.trans HP1.out)
      have hci : (c : Int) < 128 := by omega
      go_wp2
      go_ret3
      exact ⟨HT.out, .inr ⟨y, 1, HP2.out.symm, by omega, rfl⟩⟩
     ·have HP2 := Lib.hid ((if_neg h128).symm.trans HP1.out)
      have dL : decide ((c : Int) < 128) = false := by simp; omega
      go_wp2
      go_roundg k
      case measure => omega
      case rel => exact ⟨1, y, by go_num, by go_num, by omega, ⟨by omega, fun _ => HZ2.out, by omega, by omega, by omega, by omega⟩, HP2.out, HT.out⟩
    ·have d0 : decide ((0 : Int) < (i : Int)) = true := by simp; omega
     have hu2 := Lib.hid (show ((v : Int) + 1) * 128 = (u : Int) by rw [if_pos (by omega)] at hu; omega)
     have hvb : v ≤ 270549119 := by omega
     have HU := Lib.hid hu
     clear hph hzv hy hv hu
     by_cases h128 : c < 128
     ·have HP2 := Lib.hid ((if_pos h128).symm.trans HZ.out.2)
      have hci : (c : Int) < 128 := by omega
      go_wp2
      go_ret3
      exact ⟨HT.out, .inr ⟨u + y, i + 1, HP2.out.symm, by omega, by rw [Int.natCast_add, ← hu2.out] <;> first | rfl | go_num⟩⟩
     ·have HP2 := Lib.hid ((if_neg h128).symm.trans HZ.out.2)
      have dL : decide ((c : Int) < 128) = false := by simp; omega
      go_wp2
      go_roundg k
      case measure => omega
      case rel => exact ⟨i + 1, u + y, by rw [Int.natCast_add, ← hu2.out] <;> first | rfl | go_num, by go_num, by omega, ⟨by omega, HZ.out.1⟩, HP2.out, HT.out⟩
   ·have hbi : bs[i]? = none := List.getElem?_eq_none (by rw [← H.out.2.1]; omega)
    rw [pbF, hbi] at hph
    have HT := Lib.hid (And.intro hph hf)
    have dg : L ≤ i := by omega
    clear hbi hph hf
    go_wp2
    go_ret3
    exact ⟨HT.out.2, .inl ⟨4, HT.out.1.symm, by decide, by decide, rfl⟩⟩
  ·obtain rfl : i = 5 := by omega
   obtain rfl : gk = 0 := by omega
   rw [pbF] at hph
   have HT := Lib.hid (And.intro hph hf)
   clear hph hf
   go_wp2
   go_ret3
   exact ⟨HT.out.2, .inl ⟨3, HT.out.1.symm, by decide, by decide, rfl⟩⟩
end Go.Proofs.YtkmpfgpfbmeihaaGreatDoor.pk
namespace Go.Proofs.YtkmpfgpfbmeihaaGreatDoor.bits
open Go Go.RowKit lib bm
def RdT (T : TypeId) (w : World) (p : Nat) (F : List Nat) (bs : List UInt8) (at_ : Nat) : Prop :=
 ∃ ao cap, w.heap[p]? = some (.cells #[.slice ao bs.length cap, .int .i64 at_] T (0, 0)) ∧ Cs w ao (bs.map bv) ∧ F = p :: blk ao ∧
  p ∉ blk ao ∧ bs.length ≤ 140737488351232 ∧ at_ ≤ 8 * bs.length ∧ bs.length ≤ cap ∧ cap ≤ maxLen ∧ (ao = none → cap = 0)
abbrev Rd (w : World) (p : Nat) (F : List Nat) (bs : List UInt8) (at_ : Nat) : Prop := RdT 264 w p F bs at_
set_option maxHeartbeats 1000000 in
theorem take_good (p : Nat) (F : List Nat) (bs : List UInt8) (at_ : Nat) (n : Int) (w : World) (hR : Rd w p F bs at_) (hn0 : 0 ≤ n) (hn2 : n ≤ 32) (hn3 : at_ + n ≤ 8 * bs.length) :
  Calls Tryz.prog 165 #[.pointer (some ⟨p, 0, none⟩), .int .i64 n] w fun e w' =>
   e = .returned (.tuple #[.int .u32 (num bs / 2 ^ at_ % 2 ^ n.toNat : Nat), .bool true]) ∧ Rd w' p F bs (at_ + n.toNat) ∧ Fr [p] w w' := by
 obtain ⟨ao, cap, hr, hcs, rfl, hpb, hlen, hat, hcap, hmax⟩ := hR
 obtain ⟨n, rfl⟩ := Int.eq_ofNat_of_zero_le hn0
 have h1 : decide ((n : Int) < 0) = false := by simp
 have h2 : decide (32 < (n : Int)) = false := by simp; omega
 have h3 : decide (8 * (bs.length : Int) - at_ < (n : Int)) = false := by simp; omega
 have c0 := cell_of hr 0
 have c1 := cell_of hr 1
 simp only [List.getElem?_toArray, List.getElem?_cons_zero, List.getElem?_cons_succ] at c0 c1
 have Hr := Lib.hid hr
 clear hr
 go_enter Tryz.func165, Tryz.ntmps165
 go_wp2
 go_quiet (fail)
 clear c0 c1
 go_wp2
 go_loopw [6, 7] (fun v i wr => ∃ k : Nat, k ≤ n ∧ i = .int .i64 k ∧ v = .int .u32 (num bs / 2 ^ at_ % 2 ^ k : Nat) ∧
   wr.heap[p]? = some (.cells #[.slice ao bs.length cap, .int .i64 (at_ + k : Nat)] 264 (0, 0)) ∧ Fr [p] w wr)
  (fun _ i _ => n - (intOf i).toNat)
 case atStart => exact ⟨0, by omega, rfl, by simp [Nat.mod_one], by simpa using Hr.out, Fr.drewN _ _ _⟩
 case round =>
  obtain ⟨k, hk, rfl, rfl, hr', hb⟩ := hrel
  by_cases hkn : k < n
  ·obtain ⟨g, o, rfl, hc⟩ := hcs.at (by simp; omega)
   have hq : (at_ + k) / 8 < bs.length := by omega
   have cd : wr.cell? ⟨g, o + (at_ + k) / 8, none⟩ = some (bv (bs.getD ((at_ + k) / 8) 0)) := by
    refine hb.cell (hc _ _ ?_) (by simpa [blk, eq_comm] using hpb)
    simp [List.getD, hq]
   unfold bv at cd
   have c0 := cell_of hr' 0
   have c1 := cell_of hr' 1
   have f1 := frozen_of hr' 1
   simp only [List.getElem?_toArray, List.getElem?_cons_zero, List.getElem?_cons_succ] at c0 c1
   have Hr' := Lib.hid hr'
   clear hr' hc
   have hby : (bs.getD ((at_ + k) / 8) 0).toNat < 256 := UInt8.toNat_lt _
   generalize hbn : (bs.getD ((at_ + k) / 8) 0).toNat = bn at cd hby
   have Hbn := Lib.hid hbn
   clear hbn
   have hv : num bs / 2 ^ at_ % 2 ^ k < 4294967296 := by
    refine Nat.lt_of_lt_of_le (Nat.mod_lt _ (Nat.two_pow_pos _)) ?_
    exact Nat.pow_le_pow_right (by omega) (show k ≤ 32 by omega)
   generalize hvn : num bs / 2 ^ at_ % 2 ^ k = vn at hv ⊢
   have Hvn := Lib.hid hvn
   clear hvn
   go_wp2
   all_goals
    go_quiet (fail)
    go_wp2
    go_roundw
    case rel =>
     first
     | exact ⟨k + (n - k), by omega, int_eq (by omega), int_eq (take_step bs at_ k (n - k) vn bn hq (by omega) (by omega) Hvn.out Hbn.out),
       (setCell_of (w := wr.drewN nq) Hr'.out _).trans (by simp; omega), (hb.drewsN nq).setCell (by simp) _⟩
     | exact ⟨k + (8 - (at_ + k) % 8), by omega, int_eq (by omega), int_eq (take_step bs at_ k (8 - (at_ + k) % 8) vn bn hq (by omega) (by omega) Hvn.out Hbn.out),
       (setCell_of (w := wr.drewN nq) Hr'.out _).trans (by simp; omega), (hb.drewsN nq).setCell (by simp) _⟩
    case measure => simp [intOf]; omega
  ·obtain rfl : k = n := by omega
   have hcs' : Cs wr ao (bs.map bv) := hcs.fr hb (by intro x hx; simp; rintro rfl; exact hpb hx)
   have Hr' := Lib.hid hr'
   clear hr' hcs
   go_wp2
   go_ret2
   exact ⟨by simp, ⟨ao, cap, by simpa using Hr'.out, hcs', rfl, hpb, hlen, by simp; omega, hcap, hmax⟩, hb⟩
set_option maxHeartbeats 1000000 in
theorem take_bad (p : Nat) (F : List Nat) (bs : List UInt8) (at_ : Nat) (n : Int) (w : World) (hR : Rd w p F bs at_) (hn : n < 0 ∨ 32 < n ∨ 8 * bs.length < at_ + n) :
  Calls Tryz.prog 165 #[.pointer (some ⟨p, 0, none⟩), .int .i64 n] w fun e w' =>
   e = .returned (.tuple #[.int .u32 0, .bool false]) ∧ Rd w' p F bs at_ ∧ Fr [] w w' := by
 obtain ⟨ao, cap, hr, hcs, rfl, hpb, hlen, hat, hcap, hmax⟩ := hR
 have c0 := cell_of hr 0
 have c1 := cell_of hr 1
 simp only [List.getElem?_toArray, List.getElem?_cons_zero, List.getElem?_cons_succ] at c0 c1
 have Hr := Lib.hid hr
 clear hr
 have done : ∀ m, Rd (w.drewN m) p (p :: blk ao) bs at_ := fun m => ⟨ao, cap, Hr.out, hcs, rfl, hpb, hlen, hat, hcap, hmax⟩
 have Hd := Lib.hid done
 clear done
 by_cases a1 : n < 0
 ·have h1 : decide (n < 0) = true := by simp; omega
  go_enter Tryz.func165, Tryz.ntmps165
  go_wp2
  go_quiet (fail)
  go_wp2
  go_ret2
  exact ⟨rfl, Hd.out _, Fr.drewN _ _ _⟩
 ·have h1 : decide (n < 0) = false := by simp; omega
  by_cases a2 : 32 < n
  ·have h2 : decide (32 < n) = true := by simp; omega
   go_enter Tryz.func165, Tryz.ntmps165
   go_wp2
   go_quiet (fail)
   go_wp2
   go_ret2
   exact ⟨rfl, Hd.out _, Fr.drewN _ _ _⟩
  ·have h2 : decide (32 < n) = false := by simp; omega
   have h3 : decide (8 * (bs.length : Int) - at_ < n) = true := by simp; omega
   go_enter Tryz.func165, Tryz.ntmps165
   go_wp2
   go_quiet (fail)
   go_wp2
   go_ret2
   exact ⟨rfl, Hd.out _, Fr.drewN _ _ _⟩
end Go.Proofs.YtkmpfgpfbmeihaaGreatDoor.bits
namespace Go.Proofs.YtkmpfgpfbmeihaaGreatDoor.bits
open Go Go.RowKit lib bm
theorem sliceU8 : SliceTy Tryz.prog 23 5 (.int .u8 0) 1 1 := SliceTy.of Tryz.underlying23 (by kernel_rfl) rfl (by decide)
def Wv (w : World) (p : Nat) (v : Value) (M L : Nat) : Prop :=
 w.heap[p]? = some (.cells #[v, .int .u64 (M / 2 ^ (8 * (L / 8)) : Nat), .int .i64 (L % 8 : Nat)] 245 (0, 0)) ∧
  w.ownsRow 0 5 1 v (L / 8) ((dig (L / 8) M).map bv) ∧ v.ownBlock ≠ some p ∧ M < 2 ^ L
def Wr (w : World) (p : Nat) (F : List Nat) (M L : Nat) : Prop := ∃ v, Wv w p v M L ∧ F = p :: v.ownBlock.toList
theorem bv_ofNat (W : Nat) : Value.int .u8 (IntKind.u8.wrap (W : Int)) = bv (UInt8.ofNat W) := by
 unfold bv
 rw [IntKind.wrap_u8', UInt8.toNat_ofNat']
 exact int_eq (by omega)
theorem dig_row (q N : Nat) : (dig (q + 1) N).map bv = (dig q N).map bv ++ [Value.int .u8 (IntKind.u8.wrap ((N / 2 ^ (8 * q) : Nat) : Int))] := by
 rw [dig_snoc, List.map_append, bv_ofNat]
 rfl
theorem sub_tail (K q : Nat) : K - 8 * q - 8 = K - 8 * (q + 1) := by omega
theorem div_tail (N q : Nat) : N / 2 ^ (8 * q) / 2 ^ 8 = N / 2 ^ (8 * (q + 1)) := by
 rw [Nat.div_div_eq_div_mul, ← Nat.pow_add, Nat.mul_add]
set_option maxHeartbeats 1000000 in
theorem put_ok (p : Nat) (F : List Nat) (M L : Nat) (x : Nat) (n : Int) (w : World) (hW : Wr w p F M L) (hx : x < 4294967296) (hL : L ≤ 562949953421312) :
  Calls Tryz.prog 247 #[.pointer (some ⟨p, 0, none⟩), .int .u32 x, .int .i64 n] w fun e w' =>
   e = .returned (.tuple #[]) ∧ Fr F w w' ∧ ∃ F', Wr w' p F' (M + 2 ^ L * (x % 2 ^ (min n.toNat 32))) (L + min n.toNat 32) ∧ ∀ y ∈ F', y ∈ F ∨ w.heap.size ≤ y := by
 obtain ⟨v, ⟨hr, hown, hpb, hM⟩, rfl⟩ := hW
 have c0 := cell_of hr 0
 have c1 := cell_of hr 1
 have c2 := cell_of hr 2
 simp only [List.getElem?_toArray, List.getElem?_cons_zero, List.getElem?_cons_succ] at c0 c1 c2
 have f1 := frozen_of hr 1
 have f2 := frozen_of hr 2
 have Hr := Lib.hid hr
 clear hr
 obtain ⟨W, hW⟩ : ∃ W : Nat, W = M / 2 ^ (8 * (L / 8)) := ⟨_, rfl⟩
 rw [← hW] at c1
 have HW := Lib.hid hW
 clear hW
 go_enter Tryz.func247, Tryz.ntmps247
 go_upto_region 0 with fail
 obtain ⟨m, hm, hm32⟩ : ∃ m : Nat, m = min n.toNat 32 ∧ m ≤ 32 := ⟨_, rfl, by omega⟩
 have Hm := Lib.hid hm
 clear hm
 go_cut [2] (fun n2 wc => n2 = .int .i64 m ∧ w = wc)
 case first =>
  go_wp2
  all_goals (go_meet; exact ⟨int_eq (by have := Hm.out; omega), rfl⟩)
 case rest =>
 obtain ⟨rfl, rfl⟩ := hcut
 go_upto_region 1 with fail
 have hl8 : L % 8 < 8 := by omega
 go_cut [] (fun wc => wc.heap[p]? = some (.cells #[v, .int .u64 ((M + 2 ^ L * (x % 2 ^ m)) / 2 ^ (8 * (L / 8)) : Nat), .int .i64 (L % 8 : Nat)] 245 (0, 0)) ∧ Fr [p] w wc)
 case first =>
  go_region
  all_goals go_wp2
  go_meet
  refine ⟨(setCell_of Hr.out _).trans ?_, ((Fr.refl _ w).setCell (by simp) _).drew⟩
  have e := put_word M L x m hM hx hm32
  rw [← HW.out] at e
  rw [e]
  rfl
 case rest =>
 obtain ⟨hr1, fr1⟩ := hcut
 clear c2 f2
 have c2 := cell_of hr1 2
 have f2 := frozen_of hr1 2
 simp only [List.getElem?_toArray, List.getElem?_cons_zero, List.getElem?_cons_succ] at c2
 go_upto_region 2 with fail
 go_cut [] (fun wz => wz.heap[p]? = some (.cells #[v, .int .u64 ((M + 2 ^ L * (x % 2 ^ m)) / 2 ^ (8 * (L / 8)) : Nat), .int .i64 (L % 8 + m : Nat)] 245 (0, 0)) ∧ Fr [p] w wz)
 case first =>
  have Hr1 := Lib.hid hr1
  clear hr1
  go_wp2
  go_meet
  exact ⟨(setCell_of Hr1.out _).trans rfl, fr1.setCell (by simp) _⟩
 case rest =>
 obtain ⟨hr2, fr2⟩ := hcut
 have hN := put_lt M L x m hM
 have hdig : dig (L / 8) (M + 2 ^ L * (x % 2 ^ m)) = dig (L / 8) M := by
  rw [show 2 ^ L = 2 ^ (8 * (L / 8)) * 2 ^ (L % 8) from by rw [← Nat.pow_add, Nat.div_add_mod], Nat.mul_assoc, dig_add]
 rw [← hdig] at hown
 clear hdig
 have Hm' := Lib.hid Hm
 clear hr1 c2 f2 Hm Hr c0 c1 f1
 obtain ⟨N, hNe⟩ : ∃ N, N = M + 2 ^ L * (x % 2 ^ m) := ⟨_, rfl⟩
 rw [← hNe] at hr2 hN hown
 have HN := Lib.hid hNe
 clear hNe
 have hK : L / 8 * 8 ≤ L + m := by omega
 have own2 := ownsRow_fr (hown) fr2 (by intro k hk; simp; rintro rfl; exact hpb hk)
 have HM := Lib.hid hM
 have HR2 := Lib.hid hr2
 clear hM hr2 hown
 go_wp2
 go_loopg [] 5 (fun k wr => ∃ (u : Value) (q : Nat), k + q = L / 8 + 5 ∧ L / 8 ≤ q ∧ 8 * q ≤ L + m ∧
  wr.heap[p]? = some (.cells #[u, .int .u64 (N / 2 ^ (8 * q) : Nat), .int .i64 (L + m - 8 * q : Nat)] 245 (0, 0)) ∧
  wr.ownsRow 0 5 1 u q ((dig q N).map bv) ∧ u.ownBlock ≠ some p ∧ Fr (p :: v.ownBlock.toList) w wr ∧ (∀ y, u.ownBlock = some y → v.ownBlock = some y ∨ w.heap.size ≤ y))
 case atStart =>
  exact ⟨v, L / 8, by omega, by omega, by omega, by rw [HR2.out, show L + m - 8 * (L / 8) = L % 8 + m from by omega], own2, hpb, fr2.mono (by simp), fun y hy => .inl hy⟩
 case round =>
  obtain ⟨u, q, hgk, hq1, hq2, hr, hown, hub, hfr, hown'⟩ := hrel
  have c0 := cell_of hr 0
  have c1 := cell_of hr 1
  have c2 := cell_of hr 2
  simp only [List.getElem?_toArray, List.getElem?_cons_zero, List.getElem?_cons_succ] at c0 c1 c2
  have f0 := frozen_of hr 0
  have f1 := frozen_of hr 1
  have f2 := frozen_of hr 2
  have Hr := Lib.hid hr
  clear hr
  by_cases hlt : 8 ≤ L + m - 8 * q
  ·obtain ⟨W, hW⟩ : ∃ W : Nat, W = N / 2 ^ (8 * q) := ⟨_, rfl⟩
   rw [← hW] at c1
   have HW := Lib.hid hW
   clear hW
   have hps : p < wr.heap.size := lt_of_block Hr.out
   have ea : p ≠ wr.heap.size := Nat.ne_of_lt hps
   go_upto_region 5 with fail
   go_cut [] (fun wz => ∃ u', wz.heap[p]? = some (.cells #[u', .int .u64 (N / 2 ^ (8 * q) : Nat), .int .i64 (L + m - 8 * q : Nat)] 245 (0, 0)) ∧
      wz.ownsRow 0 5 1 u' (q + 1) ((dig (q + 1) N).map bv) ∧ u'.ownBlock ≠ some p ∧ Fr (p :: v.ownBlock.toList) w wz ∧ (∀ y, u'.ownBlock = some y → v.ownBlock = some y ∨ w.heap.size ≤ y))
   case first =>
    go_region_law (refine step_append sliceU8 rfl (.tmp 51) (.tmp 57) rfl u q ((dig q N).map bv) _ (by rfl) (by rfl) (by first | exact hown.alloc _ | exact hown.drew.alloc _) _ 1 1 _ (by rfl) (by decide) (by simp) (by exact cs_one _ _ _ _ (alloc_at _ _)) (by rfl) (by simp [Value.oneCell']) (by omega) (by unfold maxLen; omega) ?_; intro ao1 cap1 w1 A1; have hb1 := A1.fr.blk (alloc_old _ Hr.out) (by simpa using hub); have g0 := cell_of hb1 0; have g1 := frozen_of hb1 0; simp only [List.getElem?_toArray, List.getElem?_cons_zero] at g0)
    all_goals go_wp2
    all_goals go_meet
    all_goals
     have hsz := hfr.size
     have hat := A1.at_
     simp only [World.size_drew, World.size_alloc] at hat
     have hne : (Value.slice ao1 (q + 1) cap1).ownBlock ≠ some p := by
      intro h
      rcases hat p (by rw [← own_blk ao1 (q + 1) cap1, h]; simp) with h | h
      ·exact hub (by simpa using h)
      ·omega
     refine ⟨_, (setCell_of hb1 _).trans rfl, ?_, hne, ?_, ?_⟩
     ·rw [dig_row, ← HW.out]
      exact ownsRow_setCell_other A1.own hne _
     ·refine Fr.setCell (((hfr.alloc _).drew).step A1.fr ?_) (by simp) _
      intro k hk
      rcases hown' k (by simpa using hk) with h | h
      ·left; simp [h]
      ·right; exact h
     ·intro y hy
      rcases hat y (by rw [← own_blk ao1 (q + 1) cap1, hy]; simp) with h | h
      ·exact hown' y (by simpa using h)
      ·right; omega
   case rest =>
   obtain ⟨u', hr', own', hub', fr', ob'⟩ := hcut
   clear c0 c1 c2 f0 f1 f2 hown hub hfr hown' ea hps
   have c1 := cell_of hr' 1
   have c2 := cell_of hr' 2
   simp only [List.getElem?_toArray, List.getElem?_cons_zero, List.getElem?_cons_succ] at c1 c2
   have f1 := frozen_of hr' 1
   have f2 := frozen_of hr' 2
   have Hr' := Lib.hid hr'
   clear hr'
   rw [← HW.out] at c1
   go_wp2
   go_roundg (gk - 1)
   case measure => omega
   case rel =>
    refine ⟨u', q + 1, by omega, by omega, by omega, (setCell_of (setCell_of Hr'.out _) _).trans ?_, ownsRow_setCell_other (ownsRow_setCell_other own' hub' _) hub' _, hub', Fr.setCell (fr'.setCell (by simp) _) (by simp) _, ob'⟩
    rw [← div_tail, ← HW.out, ← sub_tail]
    have e1 : ((W : Int) / 256) = ((W / 2 ^ 8 : Nat) : Int) := by omega
    have e2 : ((L + m - 8 * q : Nat) : Int) - 8 = ((L + m - 8 * q - 8 : Nat) : Int) := by omega
    rw [e1, e2]
    rfl
  ·obtain rfl : q = (L + m) / 8 := by omega
   have Ho := Lib.hid hown
   clear hown
   go_wp2
   go_end0
   refine ⟨rfl, hfr, p :: u.ownBlock.toList, ?_, ?_⟩
   ·rw [← Hm'.out.out, ← HN.out]
    refine ⟨u, ⟨?_, Ho.out, hub, hN⟩, rfl⟩
    rw [Hr.out, show L + m - 8 * ((L + m) / 8) = (L + m) % 8 from by omega]
   ·intro y hy
    rcases List.mem_cons.1 hy with rfl | hy
    ·simp
    ·rcases hown' y (by simpa using hy) with h | h
     ·left; simp [h]
     ·right; exact h
end Go.Proofs.YtkmpfgpfbmeihaaGreatDoor.bits
namespace Go.Proofs.YtkmpfgpfbmeihaaGreatDoor.bits
open Go Go.RowKit lib bm
theorem bv_one (bs : List UInt8) : ∀ u ∈ bs.map bv, u.oneCell' = true := by
 intro u hu
 obtain ⟨b, _, rfl⟩ := List.mem_map.1 hu
 rfl
set_option maxHeartbeats 400000 in
theorem used_any (p : Nat) (F : List Nat) (bs : List UInt8) (at_ : Nat) (w : World) (hR : Rd w p F bs at_) :
  Calls Tryz.prog 136 #[.pointer (some ⟨p, 0, none⟩)] w fun e w' => e = .returned (.int .i64 ((at_ + 7) / 8 : Nat)) ∧ w = w' := by
 obtain ⟨ao, cap, hr, hcs, rfl, hpb, hlen, hat, hcap, hmax⟩ := hR
 have c1 := cell_of hr 1
 simp only [List.getElem?_toArray, List.getElem?_cons_zero, List.getElem?_cons_succ] at c1
 clear hr
 go_enter Tryz.func136, Tryz.ntmps136
 go_wp2
 go_ret
 exact ⟨ret_eq (int_eq (by omega)), rfl⟩
theorem rd_at {T : TypeId} {w w' : World} {p : Nat} {F : List Nat} {bs : List UInt8} {a a' : Nat} (h : RdT T w p F bs a) (hf : Fr [p] w w')
  (hh : ∀ ao cap, w.heap[p]? = some (.cells #[.slice ao bs.length cap, .int .i64 a] T (0, 0)) → w'.heap[p]? = some (.cells #[.slice ao bs.length cap, .int .i64 a'] T (0, 0))) (ha : a' ≤ 8 * bs.length) : RdT T w' p F bs a' := by
 obtain ⟨ao, cap, hr, hcs, rfl, hpb, hlen, hat, hcap, hmax⟩ := h
 exact ⟨ao, cap, hh ao cap hr, hcs.fr hf (by intro x hx; simp; rintro rfl; exact hpb hx), rfl, hpb, hlen, ha, hcap, hmax⟩
theorem rd_fr {T : TypeId} {w w' : World} {p : Nat} {F S : List Nat} {bs : List UInt8} {a : Nat} (h : RdT T w p F bs a) (hf : Fr S w w') (hn : ∀ x ∈ F, x ∉ S) : RdT T w' p F bs a := by
 obtain ⟨ao, cap, hr, hcs, rfl, hpb, hlen, hat, hcap, hmax⟩ := h
 exact ⟨ao, cap, hf.blk hr (hn p (by simp)), hcs.fr hf (by intro x hx; exact hn x (by simp [hx])), rfl, hpb, hlen, hat, hcap, hmax⟩
set_option maxHeartbeats 400000 in
theorem align_any (p : Nat) (F : List Nat) (bs : List UInt8) (at_ : Nat) (w : World) (hR : Rd w p F bs at_) :
  Calls Tryz.prog 204 #[.pointer (some ⟨p, 0, none⟩)] w fun e w' => e = .returned (.tuple #[]) ∧ Rd w' p F bs ((at_ + 7) / 8 * 8) ∧ Fr [p] w w' := by
 have hR' := Lib.hid hR
 obtain ⟨ao, cap, hr, hcs, rfl, hpb, hlen, hat, hcap, hmax⟩ := hR
 have c1 := cell_of hr 1
 have f1 := frozen_of hr 1
 simp only [List.getElem?_toArray, List.getElem?_cons_zero, List.getElem?_cons_succ] at c1
 clear hr
 go_enter Tryz.func204, Tryz.ntmps204
 go_wp2
 go_end0
 refine ⟨rfl, rd_at hR'.out ((Fr.refl _ w).setCell (by simp) _) (fun ao cap h => (setCell_of h _).trans ?_) (by omega), (Fr.refl _ w).setCell (by simp) _⟩
 have e : ((at_ : Int) + 7) / 8 * 8 = ((at_ + 7) / 8 * 8 : Nat) := by omega
 rw [e]
 rfl
set_option maxHeartbeats 400000 in
theorem read_new (ao : Option Addr) (cap : Nat) (bs : List UInt8) (w : World) (hcs : Cs w ao (bs.map bv)) (hcap : bs.length ≤ cap) (hnone : ao = none → cap = 0) (hlen : bs.length ≤ 140737488351232) :
  Calls Tryz.prog 133 #[.slice ao bs.length cap] w fun e w' => ∃ p F, e = .returned (.pointer (some ⟨p, 0, none⟩)) ∧ Rd w' p F bs 0 ∧ Fr [] w w' ∧ ∀ x ∈ F, w.heap.size ≤ x ∧ x < w'.heap.size := by
 go_enter Tryz.func133, Tryz.ntmps133
 go_wp2_with (refine wpList_append sliceU8 rfl _ _ rfl (.slice none 0 0) 0 [] [] rfl rfl (World.ownsRow_nil _ _ _ _) _ _ _ (bs.map bv) rfl hcap hnone hcs (by simp) (bv_one bs) (by omega) (by unfold maxLen; omega) ?_; intro ao1 cap1 w1 A1; simp only [Nat.zero_add, List.nil_append] at A1)
 go_ret
 have hb : ∀ x ∈ blk ao1, x = w.heap.size ∧ x < w1.heap.size := fun x hx => ⟨by simpa using A1.at_ x hx, A1.lt x hx⟩
 have hcs1 : Cs (w1.alloc (.cells #[.slice ao1 bs.length cap1, .int .i64 0] 264)) ao1 (bs.map bv) := (cs_of_owns A1.own).belowAll (below_of_fr ((Fr.refl _ _).alloc _))
 refine ⟨w1.heap.size, _, rfl, ⟨ao1, cap1, alloc_at _ _, hcs1, rfl, fun h => ?_, hlen, by omega, A1.le, A1.max, A1.nil⟩, A1.fr.alloc _, fun x hx => ?_⟩
 ·have := (hb _ h).2
  omega
 ·rw [World.size_alloc]
  rcases List.mem_cons.1 hx with rfl | hx
  ·exact ⟨A1.fr.size, by omega⟩
  ·have := hb _ hx
   omega
theorem read_any (ao : Option Addr) (cap : Nat) (bs : List UInt8) (w : World) (hcs : Cs w ao (bs.map bv)) (hcap : bs.length ≤ cap) (hnone : ao = none → cap = 0) (hlen : bs.length ≤ 140737488351232) :
  Calls Tryz.prog 133 #[.slice ao bs.length cap] w fun e w' => ∃ p F, e = .returned (.pointer (some ⟨p, 0, none⟩)) ∧ Rd w' p F bs 0 ∧ Fr [] w w' ∧ ∀ x ∈ F, w.heap.size ≤ x :=
 (read_new ao cap bs w hcs hcap hnone hlen).mono fun _ _ ⟨p, F, h1, h2, h3, h4⟩ => ⟨p, F, h1, h2, h3, fun x hx => (h4 x hx).1⟩
def BytesGood (p : Nat) (F : List Nat) (bs : List UInt8) (at_ n : Nat) (w : World) (e : Ending) (w' : World) : Prop :=
 ∃ ao', e = .returned (.tuple #[.slice ao' n n, .bool true]) ∧ Fresh w' w.heap.size 5 ao' (((bs.drop ((at_ + 7) / 8)).take n).map bv) ∧ (ao' = none → n = 0) ∧
    (∀ x ∈ blk ao', w.heap.size ≤ x) ∧ Rd w' p F bs ((at_ + 7) / 8 * 8 + 8 * n) ∧ Fr [p] w w'
set_option maxHeartbeats 1000000 in
theorem bytes_good (p : Nat) (F : List Nat) (bs : List UInt8) (at_ : Nat) (n : Int) (w : World) (hR : Rd w p F bs at_) (hn0 : 0 ≤ n) (hn : n ≤ bs.length - ((at_ + 7) / 8 : Nat)) :
  Calls Tryz.prog 185 #[.pointer (some ⟨p, 0, none⟩), .int .i64 n] w (BytesGood p F bs at_ n.toNat w) := by
 obtain ⟨n, rfl⟩ := Int.eq_ofNat_of_zero_le hn0
 have h1 : decide ((n : Int) < 0) = false := by simp
 go_enter Tryz.func185, Tryz.ntmps185
 go_upto_region 1 with fail
 go_cut [] (fun w1 => Rd w1 p F bs ((at_ + 7) / 8 * 8) ∧ Fr [p] w w1)
 case first =>
  go_wp2_with (go_at_call 204; refine (align_any p F bs at_ _ hR).mono ?_; rintro e w' ⟨rfl, hR1, fr1⟩)
  go_meet
  exact ⟨hR1, fr1⟩
 case rest =>
 obtain ⟨hR1, fr1⟩ := hcut
 clear hR
 have HR1 := Lib.hid hR1
 obtain ⟨ao, cap, hr, hcs, rfl, hpb, hlen, hat, hcap, hmax⟩ := hR1
 have c0 := cell_of hr 0
 have c1 := cell_of hr 1
 have f1 := frozen_of hr 1
 simp only [List.getElem?_toArray, List.getElem?_cons_zero, List.getElem?_cons_succ] at c0 c1
 have Hr := Lib.hid hr
 clear hr
 have h2 : decide ((bs.length : Int) - (at_ + 7) / 8 < (n : Int)) = false := by simp; omega
 generalize hA : (at_ + 7) / 8 = A at *
 go_upto_region 2 with fail
 go_cut [25] (fun s25 w2 => s25 = .bool false ∧ Rd w2 p (p :: blk ao) bs (A * 8) ∧ Fr [p] w w2)
 case first =>
  go_quiet (fail)
  go_wp2
  go_meet
  exact ⟨by simpa using hn, ⟨ao, cap, Hr.out, hcs, rfl, hpb, hlen, hat, hcap, hmax⟩, fr1.drewsN _⟩
 case rest =>
 obtain ⟨rfl, hR2, fr2⟩ := hcut
 clear c0 c1 f1 Hr hcs fr1 HR1 hat
 obtain ⟨ao, cap, hr, hcs, hF, hpb, hlen, hat, hcap, hmax⟩ := hR2
 have c0 := cell_of hr 0
 have c1 := cell_of hr 1
 have f1 := frozen_of hr 1
 simp only [List.getElem?_toArray, List.getElem?_cons_zero, List.getElem?_cons_succ] at c0 c1
 have Hr := Lib.hid hr
 clear hr
 go_wp2
 refine region_tail 17 (by kernel_rfl) (by kernel_rfl) ?_
 simp only [List.take_succ_cons, List.take_zero, List.drop_succ_cons, List.drop_zero]
 repeat (go_big_quiet_step (fail))
 refine wpQuiet_nil ?_
 have hcut := hcs.cut cap A (A + n) (by omega) (by simp; omega) (by simpa using hcap)
 go_wp2_with (refine wpList_append sliceU8 rfl _ _ rfl (.slice none 0 0) 0 [] [] rfl rfl (World.ownsRow_nil _ _ _ _) (cutAt ao cap A) (A + n - A) (cap - A) _ rfl (by omega) (fun h => by have := hmax.2 (cutAt_none h); omega) hcut (by simp; omega) (by rw [← List.map_drop, ← List.map_take]; exact bv_one _) (by omega) (by unfold maxLen; omega) ?_; intro ao1 cap1 w1 A1; simp only [Nat.zero_add, List.nil_append] at A1; have hle1 : n ≤ cap1 := (by have := A1.le; omega); have hb1 := A1.fr.blk (w := wc.drew) Hr.out (by simp); have d1 := cell_of hb1 1; have g1 := frozen_of hb1 1; simp only [List.getElem?_toArray, List.getElem?_cons_zero, List.getElem?_cons_succ] at d1)
 all_goals
  go_ret2
  have e0 : A + n - A = n := by omega
  rw [e0, ← List.map_drop, ← List.map_take] at A1
  have hne : p ∉ blk ao1 := fun h => by
   have h1 := A1.at_ p h
   have h2 := lt_of_block Hr.out
   simp at h1
   omega
  have hsz := fr2.size
  have fr3 : Fr [] wc w1 := (Fr.drew1 [] wc).trans A1.fr
  have fr4 : Fr [p] w (w1.setCell ⟨p, 1, none⟩ (.int .i64 (A * 8 + 8 * n))) := (fr2.trans (fr3.mono (by simp))).setCell (by simp) _
  have hown := ownsRow_setCell_other (a := ⟨p, 1, none⟩) A1.own (fun h => hne (by rw [← own_blk ao1 n cap1, h]; simp)) (.int .i64 (A * 8 + 8 * n))
  unfold BytesGood
  rw [hA]
  have hblk : ∀ x ∈ blk ao1, w.heap.size ≤ x := fun x hx => by
   have := A1.at_ x hx
   simp at this
   omega
  refine ⟨ao1, rfl, fresh_of_cells hown hblk, fun h => ?_, hblk, ⟨ao, cap, (setCell_of hb1 _).trans ?_, (hcs.fr fr3 (by simp)).fr ((Fr.refl [p] w1).setCell (by simp) _) (by intro x hx; simp; rintro rfl; exact hpb hx), (by first | exact hF | rfl), hpb, hlen, by omega, hcap, hmax⟩, fr4⟩
  ·have := A1.nil h
   omega
  ·have e : ((A : Int) * 8 + 8 * (n : Int)) = ((A * 8 + 8 * n : Nat) : Int) := by omega
   rw [e]
   rfl
set_option maxHeartbeats 1000000 in
theorem bytes_bad (p : Nat) (F : List Nat) (bs : List UInt8) (at_ : Nat) (n : Int) (w : World) (hR : Rd w p F bs at_) (hn : n < 0 ∨ bs.length - ((at_ + 7) / 8 : Nat) < n) :
  Calls Tryz.prog 185 #[.pointer (some ⟨p, 0, none⟩), .int .i64 n] w fun e w' =>
   e = .returned (.tuple #[.slice none 0 0, .bool false]) ∧ Rd w' p F bs ((at_ + 7) / 8 * 8) ∧ Fr [p] w w' := by
 go_enter Tryz.func185, Tryz.ntmps185
 go_upto_region 1 with fail
 go_cut [] (fun w1 => Rd w1 p F bs ((at_ + 7) / 8 * 8) ∧ Fr [p] w w1)
 case first =>
  go_wp2_with (go_at_call 204; refine (align_any p F bs at_ _ hR).mono ?_; rintro e w' ⟨rfl, hR1, fr1⟩)
  go_meet
  exact ⟨hR1, fr1⟩
 case rest =>
 obtain ⟨hR1, fr1⟩ := hcut
 clear hR
 obtain ⟨ao, cap, hr, hcs, rfl, hpb, hlen, hat, hcap, hmax⟩ := hR1
 have c0 := cell_of hr 0
 have c1 := cell_of hr 1
 simp only [List.getElem?_toArray, List.getElem?_cons_zero, List.getElem?_cons_succ] at c0 c1
 have Hr := Lib.hid hr
 clear hr
 have done : ∀ m, Rd (wc.drewN m) p (p :: blk ao) bs ((at_ + 7) / 8 * 8) := fun m => ⟨ao, cap, Hr.out, hcs, rfl, hpb, hlen, hat, hcap, hmax⟩
 have Hd := Lib.hid done
 clear done
 by_cases a1 : n < 0
 ·have h1 : decide (n < 0) = true := by simp; omega
  go_upto_region 2 with fail
  go_quiet (fail)
  go_wp2
  go_ret2
  exact ⟨rfl, Hd.out _, fr1.drewsN _⟩
 ·have h1 : decide (n < 0) = false := by simp; omega
  have h2 : decide ((bs.length : Int) - (at_ + 7) / 8 < n) = true := by simp; omega
  go_upto_region 2 with fail
  go_quiet (fail)
  go_wp2
  go_ret2
  exact ⟨rfl, Hd.out _, fr1.drewsN _⟩
end Go.Proofs.YtkmpfgpfbmeihaaGreatDoor.bits
namespace Go.Proofs.YtkmpfgpfbmeihaaGreatDoor.huf
open Go Go.RowKit lib bm bl
theorem take_b (p : Nat) (F : List Nat) (bs : List UInt8) (at_ n : Nat) (w : World) (h : bits.Rd w p F bs at_) (hn : n ≤ 32) (hl : at_ + n ≤ 8 * bs.length) :
  Calls Tryz.prog 165 #[.pointer (some ⟨p, 0, none⟩), .int .i64 n] w fun e w' => e = .returned (.tuple #[.int .u32 (bval (((bytesBits bs).drop at_).take n) : Nat), .bool true]) ∧ bits.Rd w' p F bs (at_ + n) ∧ Fr [p] w w' := by
 have h1 := bits.take_good p F bs at_ n w h (by omega) (by omega) (by omega)
 rw [Int.toNat_natCast, num_bits bs at_ n hl] at h1
 exact h1
structure Ri (w : World) (a : Option Addr) (cap : Nat) (xs : List Nat) : Prop where
 cs : Cs w a (xs.map fun x => .int .i64 (x : Nat))
 le : xs.length ≤ cap
 max : cap ≤ maxLen
 nil : a = none → cap = 0
theorem Ri.fr {w w' : World} {a : Option Addr} {cap : Nat} {xs : List Nat} (h : Ri w a cap xs) (f : Fr [] w w') : Ri w' a cap xs := ⟨h.cs.fr f (by simp), h.le, h.max, h.nil⟩
theorem Ri.at {w : World} {a : Option Addr} {cap : Nat} {xs : List Nat} (h : Ri w a cap xs) {i : Nat} (hi : i < xs.length) : ∃ g o, a = some ⟨g, o, none⟩ ∧ w.cell? ⟨g, o + i, none⟩ = some (.int .i64 (xs[i] : Nat)) := by
 obtain ⟨g, o, rfl, hc⟩ := h.cs.at (by simp; omega)
 exact ⟨g, o, rfl, hc i _ (by simp [hi])⟩
theorem weight_append : ∀ a b : List Nat, weight (a ++ b) = weight a + weight b
 | [], b => by simp [weight]
 | x :: a, b => by rw [List.cons_append, weight, weight, weight_append a b]; omega
theorem weight_le : ∀ l : List Nat, weight l ≤ 16384 * l.length
 | [] => Nat.zero_le _
 | x :: l => by
  have := weight_le l
  have h : (if x = 0 then 0 else 2 ^ (15 - x)) ≤ 16384 := by
   split
   ·omega
   ·exact Nat.le_trans (Nat.pow_le_pow_right (by decide) (show 15 - x ≤ 14 by omega)) (by decide)
  rw [weight, List.length_cons]
  omega
set_option maxHeartbeats 1000000 in
theorem count_any (a : Option Addr) (cap : Nat) (ls : List Nat) (w : World) (h : Ri w a cap ls) (hle : ∀ l ∈ ls, l ≤ 15) (hlen : ls.length ≤ 100000) :
  Calls Tryz.prog 217 #[.slice a ls.length cap] w fun e w' => e = .returned (.tuple #[.int .i64 (weight ls : Nat), .bool true]) ∧ w = w' := by
 obtain ⟨L, hL⟩ : ∃ L, L = ls.length := ⟨_, rfl⟩
 rw [← hL] at hlen ⊢
 have H := Lib.hid (And.intro h (And.intro hle hL))
 clear h hle hL
 go_enter Tryz.func217, Tryz.ntmps217
 go_upto_block 0 with fail
 go_wp2
 go_loopg [4, 6, 9] L (fun k s4 s6 s9 wr => ∃ i : Nat, s9 = .int .i64 (i : Nat) ∧ s4 = .int .i64 (weight (ls.take i) : Nat) ∧ i + k = L ∧ w = wr)
 case atStart => exact ⟨0, rfl, rfl, by omega, rfl⟩
 case round =>
  obtain ⟨i, rfl, rfl, hik, rfl⟩ := hrel
  by_cases hi : i < L
  ·obtain ⟨k, rfl⟩ : ∃ k, gk = k + 1 := ⟨gk - 1, by omega⟩
   have hil : i < ls.length := by rw [← H.out.2.2]; exact hi
   obtain ⟨g, o, rfl, hc⟩ := H.out.1.at hil
   have h15 := H.out.2.1 _ (List.getElem_mem hil)
   have hw := weight_append (ls.take i) [ls[i]]
   rw [← List.take_succ_eq_append_getElem hil] at hw
   have hwl := weight_le (ls.take i)
   rw [List.length_take] at hwl
   generalize ls[i] = x at *
   generalize hW : weight (ls.take i) = W at *
   generalize hW2 : weight (ls.take (i + 1)) = W2 at *
   have hWb : W ≤ 1638400000 := by omega
   by_cases h0 : x = 0
   ·subst h0
    have e : W2 = W := by rw [hw]; simp [weight]
    have HE := Lib.hid (And.intro e hW2)
    clear e hw hwl hW hW2
    go_wp2
    go_roundg k
    case measure => omega
    case rel => exact ⟨i + 1, by go_num, by rw [HE.out.2, HE.out.1], by omega, rfl⟩
   ·have hx : 1 ≤ x := by omega
    obtain ⟨y, hy⟩ : ∃ y, y = 15 - x := ⟨_, rfl⟩
    have e1 : (15 : Int) - (x : Int) = (y : Int) := by omega
    have hp : 2 ^ y ≤ 16384 := Nat.le_trans (Nat.pow_le_pow_right (by decide) (show y ≤ 14 by omega)) (by decide)
    have e : W2 = W + 2 ^ y := by rw [hw, hy]; simp [weight, h0]
    obtain ⟨z, hz⟩ : ∃ z, z = 2 ^ y := ⟨_, rfl⟩
    rw [← hz] at hp e
    have e2 : (2 : Int) ^ y = (z : Int) := by rw [hz]; exact cast_pow y
    have HE := Lib.hid (And.intro e hW2)
    have hy14 : y ≤ 14 := by omega
    clear e hw hwl hW hW2 hz hy
    go_wp2
    go_roundg k
    case measure => omega
    case rel => exact ⟨i + 1, by go_num, by rw [HE.out.2, HE.out.1]; first | go_num | rfl, by omega, rfl⟩
  ·obtain rfl : i = L := by omega
   have hW : weight (ls.take i) = weight ls := by rw [List.take_of_length_le (by rw [← H.out.2.2]; exact Nat.le_refl _)]
   have HW := Lib.hid hW
   clear hW
   go_wp2
   go_ret2
   exact ⟨by rw [← HW.out]; rfl, rfl⟩
end Go.Proofs.YtkmpfgpfbmeihaaGreatDoor.huf
namespace Go.Proofs.YtkmpfgpfbmeihaaGreatDoor.huf
open Go Go.RowKit lib bm bl
theorem complete_any (a : Option Addr) (cap : Nat) (ls : List Nat) (w : World) (h : Ri w a cap ls) (hle : ∀ l ∈ ls, l ≤ 15) (hlen : ls.length ≤ 100000) :
  Calls Tryz.prog 208 #[.slice a ls.length cap] w fun e w' => e = .returned (.bool (decide (weight ls = 32768))) ∧ w = w' := by
 have hc := Lib.hid (count_any a cap ls w h hle hlen)
 clear h hle
 go_enter Tryz.func208, Tryz.ntmps208
 go_wp2_with (go_at_call 217; refine hc.out.mono ?_; rintro e w' ⟨rfl, rfl⟩)
 go_ret
 refine ⟨ret_eq (bool_eq ?_), rfl⟩
 first
  | (rw [Bool.eq_iff_iff]; simp; omega)
  | simp
theorem share_top (ls : List Nat) (hle : ∀ l ∈ ls, l ≤ 15) (hw : weight ls ≤ 32768) (l : Nat) (hl : l ≤ 15) : nxt ls l ≤ 32768 := by
 have h1 := nxt_share ls l hl
 have h2 := share_le ls (show l ≤ 16 by omega)
 rw [share_weight ls hle] at h2
 have h3 : nxt ls l * 1 ≤ nxt ls l * 2 ^ (15 - l) := Nat.mul_le_mul_left _ (Nat.two_pow_pos _)
 omega
def cw (ls : List Nat) (l i j : Nat) : Nat := if lenAt ls j ≠ 0 ∧ (lenAt ls j < l ∨ (lenAt ls j = l ∧ j < i)) then code ls j else 0
def codeAt (ls : List Nat) (j : Nat) : Nat := if lenAt ls j = 0 then 0 else code ls j
def codesOf (ls : List Nat) : List Nat := (List.range ls.length).map (codeAt ls)
theorem cw_step {ls : List Nat} {l i j : Nat} (h : j ≠ i ∨ lenAt ls i ≠ l) : cw ls l (i + 1) j = cw ls l i j := by
 unfold cw
 congr 1
 rw [eq_iff_iff]
 constructor
 ·rintro ⟨h1, h2 | ⟨h2, h3⟩⟩
  ·exact ⟨h1, .inl h2⟩
  ·refine ⟨h1, .inr ⟨h2, ?_⟩⟩
   rcases Nat.lt_or_ge j i with k | k
   ·exact k
   ·obtain rfl : j = i := by omega
    rcases h with h | h
    ·exact absurd rfl h
    ·exact absurd h2 h
 ·rintro ⟨h1, h2 | ⟨h2, h3⟩⟩
  ·exact ⟨h1, .inl h2⟩
  ·exact ⟨h1, .inr ⟨h2, by omega⟩⟩
theorem cw_hit {ls : List Nat} {l i : Nat} (h0 : l ≠ 0) (h : lenAt ls i = l) : cw ls l (i + 1) i = nxt ls l + (ls.take i).count l := by
 unfold cw
 rw [if_pos ⟨by omega, .inr ⟨h, by omega⟩⟩, code, h]
theorem cw_next {ls : List Nat} {l j : Nat} (h0 : l ≠ 0) (hj : j < ls.length) : cw ls l ls.length j = cw ls (l + 1) 0 j := by
 unfold cw
 congr 1
 rw [eq_iff_iff]
 constructor
 ·rintro ⟨h1, h2 | ⟨h2, h3⟩⟩
  ·exact ⟨h1, .inl (by omega)⟩
  ·exact ⟨h1, .inl (by omega)⟩
 ·rintro ⟨h1, h2 | ⟨h2, h3⟩⟩
  ·rcases Nat.lt_or_ge (lenAt ls j) l with k | k
   ·exact ⟨h1, .inl k⟩
   ·exact ⟨h1, .inr ⟨by omega, hj⟩⟩
  ·omega
theorem cw_end {ls : List Nat} {j : Nat} (hle : lenAt ls j ≤ 15) : cw ls 16 0 j = codeAt ls j := by
 unfold cw codeAt
 by_cases h : lenAt ls j = 0
 ·rw [if_pos h, if_neg (fun hc => hc.1 h)]
 ·rw [if_neg h, if_pos ⟨h, .inl (by omega)⟩]
theorem cw_start (ls : List Nat) (j : Nat) : cw ls 1 0 j = 0 := by
 unfold cw
 rw [if_neg]
 rintro ⟨h1, h2 | ⟨h2, h3⟩⟩ <;> omega
theorem u32sTy : SliceTy Tryz.prog 147 32 (.int .u32 0) 1 4 := SliceTy.of Tryz.underlying147 (by kernel_rfl) rfl (by decide)
def Cw (w : World) (ls : List Nat) (Q l i : Nat) : Prop := ∃ A, w.heap[Q]? = some (.cells A 32 (0, 0)) ∧ A.size = ls.length ∧ ∀ j, j < ls.length → A[j]? = some (.int .u32 (cw ls l i j : Nat))
theorem cw_made {w : World} {ls : List Nat} {Q : Nat} (h : w.ownsRow 0 32 1 (.slice (some ⟨Q, 0, none⟩) ls.length ls.length) ls.length (madeCells (Value.int .u32 0).cells (ls.length * 1)).toList) : Cw w ls Q 1 0 := by
 obtain ⟨o1, o2⟩ := h
 rcases o2 with ⟨o2, _⟩ | ⟨g, c', cur, o2, _, hg, _, _, hsz, ht⟩
 ·cases o2
 ·simp only [Value.slice.injEq, Option.some.injEq, Addr.mk.injEq, and_true, true_and] at o2
  obtain ⟨rfl, rfl⟩ := o2
  refine ⟨cur, hg, by omega, fun j hj => ?_⟩
  rw [cw_start]
  have hj' : j < cur.toList.length := by simp; omega
  have h1 : cur.toList[j]? = (madeCells (Value.int .u32 0).cells (ls.length * 1)).toList[j]? := by
   rw [← ht, List.getElem?_take, if_pos (by omega)]
  rw [← Array.getElem?_toList, h1, show (Value.int .u32 0).cells = #[.int .u32 0] from rfl, toList_madeCells_one, List.getElem?_replicate, if_pos (by omega)]
  rfl
def CodesGood (w : World) (ls : List Nat) (e : Ending) (w' : World) : Prop :=
 ∃ g, e = .returned (.tuple #[.slice (some ⟨g, 0, none⟩) ls.length ls.length, .int .i64 0]) ∧ Cs w' (some ⟨g, 0, none⟩) ((codesOf ls).map fun x => .int .u32 (x : Nat)) ∧ w.heap.size ≤ g ∧ g < w'.heap.size ∧ Fr [] w w'
set_option maxHeartbeats 2000000 in
theorem codes_any (a : Option Addr) (cap : Nat) (ls : List Nat) (w : World) (h : Ri w a cap ls) (hle : ∀ l ∈ ls, l ≤ 15) (hlen : ls.length ≤ 400) (hw : weight ls ≤ 32768) :
  Calls Tryz.prog 205 #[.slice a ls.length cap] w (CodesGood w ls) := by
 obtain ⟨L, hL⟩ : ∃ L, L = ls.length := ⟨_, rfl⟩
 have hc := count_any a cap ls w h hle (by omega)
 rw [← hL] at hlen hc ⊢
 obtain ⟨W, hW⟩ : ∃ W, W = weight ls := ⟨_, rfl⟩
 rw [← hW] at hc hw
 have H := Lib.hid (And.intro h (And.intro hle (And.intro hL (And.intro hc hW))))
 obtain ⟨hu, ⟨ti, hi', hz', hs', hb'⟩, hcz, hp⟩ := u32sTy
 clear h hle hL hc hW
 have d1 : decide ((400 : Int) < L) = false := by simp; omega
 have d2 : decide ((32768 : Int) < W) = false := by simp; omega
 go_enter Tryz.func205, Tryz.ntmps205
 go_upto_block 1 with (first | (go_at_call 217; refine H.out.2.2.2.1.mono ?_; rintro e w' ⟨rfl, rfl⟩) | (refine wpList_make_full _ rfl _ _ 147 rfl 0 32 ti (.int .u32 0) 1 hu hi' hz' hs' .i64 .i64 (L : Nat) (L : Nat) L rfl rfl rfl rfl (by rw [hb']; omega) (by unfold maxLen; omega) (by omega) ?_; intro w3 own3 grow3; have H3 := Lib.hid (And.intro own3 grow3); clear own3 grow3))
 obtain ⟨Q, hQ⟩ : ∃ Q, Q = w.heap.size := ⟨_, rfl⟩
 rw [← hQ] at H3 ⊢
 have hst : Cw w3 ls Q 1 0 := cw_made (by rw [← H.out.2.2.1]; exact H3.out.1)
 have f3 : Fr [] w w3 := (Fr.refl [] w).grown H3.out.2 (fun k hk => by cases hk)
 have HS := Lib.hid (And.intro hst (And.intro f3 hQ))
 clear hst f3 hQ H3 hu hi' hz' hs' hb' hcz hp d1 d2
 go_wp2
 go_loopg [7, 8, 9, 10, 38] 15 (fun k s7 s8 s9 s10 s38 wr => ∃ l nx : Nat, s8 = .int .i64 (l : Nat) ∧ s7 = .int .u32 (nx : Nat) ∧ l + k = 16 ∧ 1 ≤ l ∧ 2 * nx = nxt ls l ∧ Cw wr ls Q l 0 ∧ Fr [] w wr)
 case atStart => exact ⟨1, 0, rfl, rfl, rfl, Nat.le_refl _, rfl, HS.out.1, HS.out.2.1⟩
 case round =>
  obtain ⟨l, nx, rfl, rfl, hlk, hl1, hnx, hcw, hf⟩ := hrel
  by_cases hl : l ≤ 15
  ·obtain ⟨k, rfl⟩ : ∃ k, gk = k + 1 := ⟨gk - 1, by omega⟩
   have hb := share_top ls H.out.2.1 (by rw [← H.out.2.2.2.2]; exact hw) l hl
   obtain ⟨wo, rfl⟩ : ∃ wo : World, wo = wr := ⟨_, rfl⟩
   obtain ⟨n2, hn2⟩ : ∃ n2, n2 = nxt ls l := ⟨_, rfl⟩
   rw [← hn2] at hnx hb
   have HX := Lib.hid (And.intro hcw (And.intro hf (And.intro hn2 (And.intro hnx hlk))))
   have hnxb : nx ≤ 16384 := by omega
   have e2 : (nx : Int) * 2 = (n2 : Int) := by omega
   clear hcw hf hn2 hnx hlk
   go_upto_block 3 with fail
   clear e2
   go_wp2
   go_loopg [7, 9, 10, 38] L (fun k s7 s9 s10 s38 wr => ∃ i y : Nat, s38 = .int .i64 (i : Nat) ∧ s7 = .int .u32 (y : Nat) ∧ i + k = L ∧ y = n2 + (ls.take i).count l ∧ Cw wr ls Q l i ∧ Fr [] w wr)
   case atStart => exact ⟨0, n2, rfl, rfl, by omega, by simp, HX.out.1, HX.out.2.1⟩
   case round =>
    obtain ⟨i, y, rfl, rfl, hik, hy, hcw, hf⟩ := hrel
    have hcl := List.count_le_length (a := l) (l := ls.take i)
    rw [List.length_take] at hcl
    have hyb : y ≤ 40000 := by omega
    by_cases hi : i < L
    ·obtain ⟨k2, rfl⟩ : ∃ k2, gk = k2 + 1 := ⟨gk - 1, by omega⟩
     have hil : i < ls.length := by rw [← H.out.2.2.1]; exact hi
     obtain ⟨g, o, rfl, hc⟩ := (H.out.1.fr hf).at hil
     have hla : lenAt ls i = ls[i] := by unfold lenAt; rw [List.getElem?_eq_getElem hil]; rfl
     have hct := count_take_succ ls i l hil
     rw [hla] at hct
     obtain ⟨A, hA, hAs, hAt⟩ := hcw
     have zA := frozen_of hA i
     obtain ⟨x0, hx0⟩ : ∃ x, wr.cell? ⟨Q, i, none⟩ = some x := ⟨_, by rw [cell_of hA]; exact hAt i hil⟩
     have f2 : Fr [Q] wr (wr.setCell ⟨Q, i, none⟩ (.int .u32 (y : Nat))) := (Fr.refl [Q] wr).setCell (by simp) _
     obtain ⟨v, hv⟩ : ∃ v, v = ls[i] := ⟨_, rfl⟩
     rw [← hv] at hc hla hct
     have HI := Lib.hid (And.intro (And.intro hla hct) (And.intro (And.intro hA (And.intro hAs hAt)) (And.intro hf (And.intro hy (And.intro hik (And.intro f2 hv))))))
     clear hla hct hA hAs hAt hf hy hik f2 hv hcl
     by_cases hvl : v = l
     ·have d1 : ((v : Int) == (l : Int)) = true := by simp; omega
      go_wp2
      go_roundg k2
      case measure => have := HI.out.2.2.2.2.1; omega
      case rel =>
       obtain ⟨⟨hla, hct⟩, ⟨hA, hAs, hAt⟩, hf, hy, hik, f2, _⟩ := HI.out
       rw [if_pos hvl] at hct
       refine ⟨i + 1, y + 1, by go_num, by go_num, by omega, by omega, ⟨_, setCell_of hA _, by simp [hAs], fun j hj => ?_⟩, hf.step f2 (fun z hz => .inr (by simp at hz; rw [hz, HS.out.2.2]; exact Nat.le_refl _))⟩
       by_cases e : j = i
       ·subst e
        rw [Array.getElem?_setIfInBounds_self_of_lt (by omega), cw_hit (by omega) (by rw [hla, hvl]), hy, HX.out.2.2.1]
       ·rw [Array.getElem?_setIfInBounds_ne (by omega), cw_step (.inl e)]
        exact hAt j hj
     ·have d1 : ((v : Int) == (l : Int)) = false := by simp; omega
      go_wp2
      go_roundg k2
      case measure => have := HI.out.2.2.2.2.1; omega
      case rel =>
       obtain ⟨⟨hla, hct⟩, ⟨hA, hAs, hAt⟩, hf, hy, hik, f2, _⟩ := HI.out
       rw [if_neg hvl] at hct
       exact ⟨i + 1, y, by go_num, by go_num, by omega, by omega, ⟨A, hA, hAs, fun j hj => by rw [cw_step (.inr (by rw [hla]; exact hvl))]; exact hAt j hj⟩, hf⟩
    ·obtain rfl : i = L := by omega
     have ht : ls.take i = ls := List.take_of_length_le (by rw [← H.out.2.2.1]; exact Nat.le_refl _)
     rw [ht] at hy
     have HI := Lib.hid (And.intro hcw (And.intro hf hy))
     clear hcw hf hy hcl ht hik
     go_wp2
     go_roundg k
     case measure => have := HX.out.2.2.2.2; omega
     case rel =>
      have hlk := HX.out.2.2.2.2
      obtain ⟨⟨A, hA, hAs, hAt⟩, hf, hy⟩ := HI.out
      refine ⟨l + 1, y, by go_num, rfl, by omega, by omega, ?_, ⟨A, hA, hAs, fun j hj => ?_⟩, hf⟩
      ·rw [nxt, if_neg (by omega), ← HX.out.2.2.1, hy]
      ·rw [← cw_next (by omega) hj, ← H.out.2.2.1]
       exact hAt j hj
  ·obtain rfl : l = 16 := by omega
   obtain ⟨A, hA, hAs, hAt⟩ := hcw
   have HI := Lib.hid (And.intro hA (And.intro hAs (And.intro hAt hf)))
   clear hA hAs hAt hf hnx hlk
   go_wp2
   go_ret2
   obtain ⟨hA, hAs, hAt, hf⟩ := HI.out
   unfold CodesGood
   rw [← H.out.2.2.1]
   refine ⟨Q, rfl, .inr ⟨Q, 0, rfl, fun j v hv => ?_⟩, by rw [HS.out.2.2]; exact Nat.le_refl _, lt_of_block hA, hf⟩
   have hj : j < ls.length := by
    have := (List.getElem?_eq_some_iff.1 hv).1
    simpa [codesOf] using this
   rw [Nat.zero_add, cell_of hA, hAt j hj, cw_end (H.out.2.1 _ (lenAt_mem hj))]
   rw [← hv]
   simp [codesOf, hj]
end Go.Proofs.YtkmpfgpfbmeihaaGreatDoor.huf
namespace Go.Proofs.YtkmpfgpfbmeihaaGreatDoor.bits
open Go Go.RowKit lib bm
def WrPost (p : Nat) (F : List Nat) (w : World) (M L : Nat) (e : Ending) (w' : World) : Prop :=
 e = .returned (.tuple #[]) ∧ Fr F w w' ∧ ∃ F', Wr w' p F' M L ∧ ∀ y ∈ F', y ∈ F ∨ w.heap.size ≤ y
theorem put_any (p : Nat) (F : List Nat) (M L : Nat) (x : Nat) (n : Int) (w : World) (hW : Wr w p F M L) (hx : x < 4294967296) (hL : L ≤ 562949953421312) :
  Calls Tryz.prog 247 #[.pointer (some ⟨p, 0, none⟩), .int .u32 x, .int .i64 n] w (WrPost p F w (M + 2 ^ L * (x % 2 ^ (min n.toNat 32))) (L + min n.toNat 32)) :=
 (put_ok p F M L x n w hW hx hL).mono fun _ _ h => h
theorem put_int (p : Nat) (F : List Nat) (M L : Nat) (x n : Int) (w : World) (hW : Wr w p F M L) (hx0 : 0 ≤ x) (hx : x < 4294967296) (hL : L ≤ 562949953421312) :
  Calls Tryz.prog 247 #[.pointer (some ⟨p, 0, none⟩), .int .u32 x, .int .i64 n] w (WrPost p F w (M + 2 ^ L * (x.toNat % 2 ^ (min n.toNat 32))) (L + min n.toNat 32)) := by
 obtain ⟨x, rfl⟩ := Int.eq_ofNat_of_zero_le hx0
 exact put_any p F M L x n w hW (by omega) hL
set_option maxHeartbeats 400000 in
theorem walign_any (p : Nat) (F : List Nat) (M L : Nat) (w : World) (hW : Wr w p F M L) (hL : L ≤ 562949953421200) :
  Calls Tryz.prog 252 #[.pointer (some ⟨p, 0, none⟩)] w (WrPost p F w M ((L + 7) / 8 * 8)) := by
 have HW := Lib.hid hW
 obtain ⟨v, ⟨hr, hown, hpb, hM⟩, rfl⟩ := hW
 have c2 := cell_of hr 2
 simp only [List.getElem?_toArray, List.getElem?_cons_zero, List.getElem?_cons_succ] at c2
 clear hr hown
 by_cases h0 : L % 8 = 0
 ·have h1 : decide ((0 : Int) < ((L % 8 : Nat) : Int)) = false := by simp; omega
  go_enter Tryz.func252, Tryz.ntmps252
  go_wp2
  go_end0
  refine ⟨rfl, Fr.refl _ _, _, ?_, fun y hy => .inl hy⟩
  rw [show (L + 7) / 8 * 8 = L from by omega]
  exact HW.out
 ·have h1 : decide ((0 : Int) < ((L % 8 : Nat) : Int)) = true := by simp; omega
  have hL2 : L ≤ 562949953421312 := by omega
  go_enter Tryz.func252, Tryz.ntmps252
  go_wp2_with (go_at_call 247; refine (put_int p _ M L _ _ _ HW.out (by omega) (by omega) hL2).mono ?_; rintro e w' ⟨rfl, fr1, F1, hw2, hF1⟩)
  go_end0
  refine ⟨rfl, fr1, F1, ?_, hF1⟩
  have e1 : (8 - (L : Int) % 8).toNat = 8 - L % 8 := by omega
  have e2 : L + min (8 - L % 8) 32 = (L + 7) / 8 * 8 := by omega
  rw [← e2]
  simpa [e1] using hw2
set_option maxHeartbeats 1000000 in
theorem raw_any (p : Nat) (F : List Nat) (M L : Nat) (ao : Option Addr) (cap : Nat) (bs : List UInt8) (w : World) (hW : Wr w p F M L) (hcs : Cs w ao (bs.map bv)) (hcap : bs.length ≤ cap) (hnone : ao = none → cap = 0)
  (hap : bs ≠ [] → ∀ x ∈ blk ao, x ∉ F) (hL : L + 8 * bs.length ≤ 562949953421200) :
  Calls Tryz.prog 251 #[.pointer (some ⟨p, 0, none⟩), .slice ao bs.length cap] w (WrPost p F w (M + 2 ^ ((L + 7) / 8 * 8) * num bs) ((L + 7) / 8 * 8 + 8 * bs.length)) := by
 have hL1 : L ≤ 562949953421200 := by omega
 have hal := walign_any p F M L w hW hL1
 obtain ⟨q, hq, hqL⟩ : ∃ q, (L + 7) / 8 = q ∧ 8 * q ≤ L + 7 := ⟨_, rfl, by omega⟩
 rw [hq] at hal ⊢
 have Hal := Lib.hid hal
 clear hal hq
 go_enter Tryz.func251, Tryz.ntmps251
 go_upto_region 0 with fail
 go_cut [] (fun wc => Fr F w wc ∧ ∃ F', Wr wc p F' M (q * 8) ∧ ∀ y ∈ F', y ∈ F ∨ w.heap.size ≤ y)
 case first =>
  go_wp2_with (go_at_call 252; refine Hal.out.mono ?_; rintro e w' ⟨rfl, fr1, hw1⟩)
  go_meet
  exact ⟨fr1, hw1⟩
 case rest =>
 obtain ⟨fr1, F', hW1, hF'⟩ := hcut
 obtain ⟨v, ⟨hr, hown, hpb, hM⟩, rfl⟩ := hW1
 rw [show q * 8 / 8 = q from by omega] at hown hr
 rw [show q * 8 % 8 = 0 from by omega] at hr
 have hM8 : M < 2 ^ (8 * q) := by rwa [Nat.mul_comm]
 have hcs1 : Cs wc ao (bs.map bv) := by
  by_cases hbs : bs = []
  ·exact .inl (by rw [hbs]; rfl)
  ·exact hcs.fr fr1 (hap hbs)
 have c0 := cell_of hr 0
 have f0 := frozen_of hr 0
 simp only [List.getElem?_toArray, List.getElem?_cons_zero] at c0
 have Hr := Lib.hid hr
 clear hr
 go_wp2_with (refine wpList_append sliceU8 rfl _ _ rfl v q _ v.ownBlock.toList rfl rfl hown ao bs.length cap (bs.map bv) rfl hcap hnone hcs1 (by simp) (bv_one bs) (by omega) (by unfold maxLen; omega) ?_; intro ao1 cap1 w1 A1; have hb1 := A1.fr.blk Hr.out (by simpa using hpb); have d1 := cell_of hb1 0; have g1 := frozen_of hb1 0; simp only [List.getElem?_toArray, List.getElem?_cons_zero] at d1)
 go_end0
 have hne : (Value.slice ao1 (q + bs.length) cap1).ownBlock ≠ some p := by
  intro h
  have h2 := lt_of_block Hr.out
  rcases A1.at_ p (by rw [← own_blk ao1 (q + bs.length) cap1, h]; simp) with h1 | h1
  ·exact hpb (by simpa using h1)
  ·omega
 have fr2 : Fr F w w1 := fr1.step A1.fr (fun k hk => hF' k (by simp [Option.mem_toList.1 hk]))
 refine ⟨rfl, ?_, _, ⟨.slice ao1 (q + bs.length) cap1, ⟨?_, ?_, hne, ?_⟩, rfl⟩, ?_⟩
 ·exact fr2.setCell (by have := hF' p (by simp); simpa using this) _
 ·refine (setCell_of hb1 _).trans ?_
  have hd := raw_lt q M bs hM8
  rw [show q * 8 + 8 * bs.length = 8 * (q + bs.length) from by omega, Nat.mul_div_cancel_left _ (by omega : 0 < 8), Nat.mul_mod_right, show q * 8 = 8 * q from by omega,
   Nat.div_eq_of_lt hM8, Nat.div_eq_of_lt (by rw [Nat.mul_add]; exact hd)]
  rfl
 ·rw [show q * 8 + 8 * bs.length = 8 * (q + bs.length) from by omega, Nat.mul_div_cancel_left _ (by omega : 0 < 8), show q * 8 = 8 * q from by omega, raw_dig q M bs hM8, List.map_append]
  exact ownsRow_setCell_other A1.own hne _
 ·rw [show q * 8 = 8 * q from by omega]
  exact raw_lt q M bs hM8
 ·intro y hy
  rcases List.mem_cons.1 hy with rfl | hy
  ·exact hF' _ (by simp)
  ·rw [own_blk] at hy
   rcases A1.at_ y hy with h | h
   ·exact hF' y (by simp [Option.mem_toList.1 h])
   ·right
    have := fr1.size
    omega
end Go.Proofs.YtkmpfgpfbmeihaaGreatDoor.bits
namespace Go.Proofs.YtkmpfgpfbmeihaaGreatDoor.bits
open Go Go.RowKit lib bm
abbrev Rf (w : World) (p : Nat) (F : List Nat) (bs : List UInt8) (at_ : Nat) : Prop := RdT 223 w p F bs at_
set_option maxHeartbeats 400000 in
theorem left_any (p : Nat) (F : List Nat) (bs : List UInt8) (at_ : Nat) (w : World) (hR : Rf w p F bs at_) :
  Calls Tryz.prog 192 #[.pointer (some ⟨p, 0, none⟩)] w fun e w' => e = .returned (.int .i64 (8 * bs.length - at_)) ∧ ∃ n, w' = w.drewN n := by
 obtain ⟨ao, cap, hr, hcs, rfl, hpb, hlen, hat, hcap, hmax⟩ := hR
 have c0 := cell_of hr 0
 have c1 := cell_of hr 1
 simp only [List.getElem?_toArray, List.getElem?_cons_zero, List.getElem?_cons_succ] at c0 c1
 clear hr
 go_enter Tryz.func192, Tryz.ntmps192
 go_wp2
 go_quiet (fail)
 go_wp2
 go_ret
 exact ⟨rfl, _, rfl⟩
set_option maxHeartbeats 400000 in
theorem rused_any (p : Nat) (F : List Nat) (bs : List UInt8) (at_ : Nat) (w : World) (hR : Rf w p F bs at_) :
  Calls Tryz.prog 145 #[.pointer (some ⟨p, 0, none⟩)] w fun e w' => e = .returned (.int .i64 ((at_ + 7) / 8 : Nat)) ∧ w = w' := by
 obtain ⟨ao, cap, hr, hcs, rfl, hpb, hlen, hat, hcap, hmax⟩ := hR
 have c1 := cell_of hr 1
 simp only [List.getElem?_toArray, List.getElem?_cons_zero, List.getElem?_cons_succ] at c1
 clear hr
 go_enter Tryz.func145, Tryz.ntmps145
 go_wp2
 go_ret
 exact ⟨ret_eq (int_eq (by omega)), rfl⟩
set_option maxHeartbeats 400000 in
theorem ralign_any (p : Nat) (F : List Nat) (bs : List UInt8) (at_ : Nat) (w : World) (hR : Rf w p F bs at_) :
  Calls Tryz.prog 171 #[.pointer (some ⟨p, 0, none⟩)] w fun e w' => e = .returned (.tuple #[]) ∧ Rf w' p F bs ((at_ + 7) / 8 * 8) ∧ Fr [p] w w' := by
 have hR' := Lib.hid hR
 obtain ⟨ao, cap, hr, hcs, rfl, hpb, hlen, hat, hcap, hmax⟩ := hR
 have c1 := cell_of hr 1
 have f1 := frozen_of hr 1
 simp only [List.getElem?_toArray, List.getElem?_cons_zero, List.getElem?_cons_succ] at c1
 clear hr
 go_enter Tryz.func171, Tryz.ntmps171
 go_wp2
 go_end0
 refine ⟨rfl, rd_at hR'.out ((Fr.refl _ w).setCell (by simp) _) (fun ao cap h => (setCell_of h _).trans ?_) (by omega), (Fr.refl _ w).setCell (by simp) _⟩
 have e : ((at_ : Int) + 7) / 8 * 8 = ((at_ + 7) / 8 * 8 : Nat) := by omega
 rw [e]
 rfl
theorem one_bit (bs : List UInt8) (a bn : Nat) (hlt : a / 8 < bs.length) (hb : (bs.getD (a / 8) 0).toNat = bn) :
  bits .and .u32 ((bn : Int) / 2 ^ (a % 8) % 4294967296) 1 = ((num bs / 2 ^ a % 2 : Nat) : Int) := by
 have hbn : bn < 256 := by rw [← hb]; exact UInt8.toNat_lt _
 have hbd : bn / 2 ^ (a % 8) < 4294967296 := Nat.lt_of_le_of_lt (Nat.div_le_self _ _) (by omega)
 have hc := chunk bs a 1 hlt (by omega)
 rw [hb] at hc
 have h := u32_and_nat (bn / 2 ^ (a % 8)) 1 hbd (by decide)
 rw [Nat.and_one_is_mod] at h
 have hm : ((bn / 2 ^ (a % 8) : Nat) : Int) % 4294967296 = ((bn / 2 ^ (a % 8) : Nat) : Int) := Int.emod_eq_of_lt (Int.natCast_nonneg _) (Int.ofNat_lt.2 hbd)
 rw [cast_pow, ← Int.natCast_ediv, hm]
 rw [show (2 : Nat) ^ 1 = 2 from rfl] at hc
 rw [hc]
 exact h
set_option maxHeartbeats 1000000 in
theorem rone_any (p : Nat) (F : List Nat) (bs : List UInt8) (at_ : Nat) (w : World) (hR : Rf w p F bs at_) (h8 : at_ < 8 * bs.length) :
  Calls Tryz.prog 193 #[.pointer (some ⟨p, 0, none⟩)] w fun e w' => e = .returned (.int .u32 (num bs / 2 ^ at_ % 2 : Nat)) ∧ Rf w' p F bs (at_ + 1) ∧ Fr [p] w w' := by
 obtain ⟨ao, cap, hr, hcs, rfl, hpb, hlen, hat, hcap, hmax⟩ := hR
 have hHcs := Lib.hid hcs
 obtain ⟨g, o, rfl, hc⟩ := hcs.at (by simp; omega)
 have hq : at_ / 8 < bs.length := by omega
 have cd : w.cell? ⟨g, o + at_ / 8, none⟩ = some (bv (bs.getD (at_ / 8) 0)) := hc _ _ (by simp [List.getD, hq])
 unfold bv at cd
 have c0 := cell_of hr 0
 have c1 := cell_of hr 1
 have f1 := frozen_of hr 1
 simp only [List.getElem?_toArray, List.getElem?_cons_zero, List.getElem?_cons_succ] at c0 c1
 have Hr := Lib.hid hr
 have hby : (bs.getD (at_ / 8) 0).toNat < 256 := UInt8.toNat_lt _
 generalize hbn : (bs.getD (at_ / 8) 0).toNat = bn at cd hby
 have Hbn := Lib.hid hbn
 clear hr hbn hc
 go_enter Tryz.func193, Tryz.ntmps193
 go_wp2
 go_quiet (fail)
 go_wp2
 go_ret
 have fr := ((Fr.refl [p] w).drewsN nq).setCell (p := ⟨p, 1, none⟩) (by simp) (.int .i64 (at_ + 1))
 refine ⟨ret_eq (int_eq (one_bit bs at_ bn hq Hbn.out)), ⟨_, cap, (setCell_of (w := w.drewN nq) Hr.out _).trans rfl, hHcs.out.fr fr (by intro x hx; simp; rintro rfl; exact hpb hx), rfl, hpb, hlen, by omega, hcap, hmax⟩, fr⟩
theorem rtake_step (x vn a k : Nat) (hk : k < 32) (hv : x / 2 ^ a % 2 ^ k = vn) :
  bits .or .u32 (vn : Int) (((x / 2 ^ (a + k) % 2 : Nat) : Int) * 2 ^ k % 4294967296) = ((x / 2 ^ a % 2 ^ (k + 1) : Nat) : Int) := by
 rw [more, hv, u32_put vn _ k 1 (by rw [← hv]; exact Nat.mod_lt _ (Nat.two_pow_pos _)) (Nat.mod_lt _ (by decide)) (by omega)]
set_option maxHeartbeats 1000000 in
theorem rtake_good (p : Nat) (F : List Nat) (bs : List UInt8) (at_ : Nat) (n : Int) (w : World) (hR : Rf w p F bs at_) (hn0 : 0 ≤ n) (hn2 : n ≤ 32) (hn3 : at_ + n ≤ 8 * bs.length) :
  Calls Tryz.prog 170 #[.pointer (some ⟨p, 0, none⟩), .int .i64 n] w fun e w' =>
   e = .returned (.tuple #[.int .u32 (num bs / 2 ^ at_ % 2 ^ n.toNat : Nat), .bool true]) ∧ Rf w' p F bs (at_ + n.toNat) ∧ Fr [p] w w' := by
 obtain ⟨n, rfl⟩ := Int.eq_ofNat_of_zero_le hn0
 have h1 : decide ((n : Int) < 0) = false := by simp
 have h2 : decide (32 < (n : Int)) = false := by simp; omega
 have h3 : decide (8 * (bs.length : Int) - at_ < (n : Int)) = false := by simp; omega
 have hpF : p ∈ F := by obtain ⟨_, _, _, _, h, _⟩ := hR; rw [h]; simp
 go_enter Tryz.func170, Tryz.ntmps170
 go_upto_region 1 with fail
 go_cut [19] (fun s wc => s = .bool false ∧ Rf wc p F bs at_ ∧ Fr [p] w wc)
 case first =>
  go_wp2_with (go_at_call 192; refine (left_any p F bs at_ _ hR).mono ?_; rintro e w' ⟨rfl, k, rfl⟩)
  go_meet
  exact ⟨by first | rfl | simpa using h3, rd_fr hR (Fr.drewN [] _ _) (by simp), Fr.drewN _ _ _⟩
 case rest =>
 obtain ⟨rfl, hR1, fr1⟩ := hcut
 have HR1 := Lib.hid hR1
 clear hR hR1
 go_wp2
 go_loopg [6, 7] n (fun k s6 s7 wr => ∃ i, i + k = n ∧ s7 = .int .i64 i ∧ s6 = .int .u32 (num bs / 2 ^ at_ % 2 ^ i : Nat) ∧ Rf wr p F bs (at_ + i) ∧ Fr [p] w wr)
 case atStart => exact ⟨0, by omega, rfl, by simp [Nat.mod_one], HR1.out, fr1⟩
 case round =>
  obtain ⟨i, hi, rfl, rfl, hR, fr2⟩ := hrel
  by_cases hin : i < n
  ·have hlt : at_ + i < 8 * bs.length := by omega
   have hv : num bs / 2 ^ at_ % 2 ^ i < 4294967296 := by
    refine Nat.lt_of_lt_of_le (Nat.mod_lt _ (Nat.two_pow_pos _)) ?_
    rw [← p32]
    exact pow_le i 32 (by omega)
   generalize hvn : num bs / 2 ^ at_ % 2 ^ i = vn at hv ⊢
   have Hvn := Lib.hid hvn
   clear hvn
   have hst := rtake_step (num bs) vn at_ i (by omega) Hvn.out
   have Hst := Lib.hid hst
   clear hst
   go_wp2_with (go_at_call 193; refine (rone_any p F bs _ _ hR hlt).mono ?_; rintro e w' ⟨rfl, hR2, fr3⟩; generalize num bs / 2 ^ (at_ + i) % 2 = bit at Hst)
   go_roundg (n - (i + 1))
   case measure => omega
   case rel => exact ⟨i + 1, by omega, by go_num, int_eq Hst.out, hR2, fr2.trans fr3⟩
  ·obtain rfl : i = n := by omega
   go_wp2
   go_ret2
   exact ⟨by simp, by simpa using hR, fr2⟩
set_option maxHeartbeats 1000000 in
theorem rtake_bad (p : Nat) (F : List Nat) (bs : List UInt8) (at_ : Nat) (n : Int) (w : World) (hR : Rf w p F bs at_) (hn : n < 0 ∨ 32 < n ∨ 8 * bs.length < at_ + n) :
  Calls Tryz.prog 170 #[.pointer (some ⟨p, 0, none⟩), .int .i64 n] w fun e w' =>
   e = .returned (.tuple #[.int .u32 0, .bool false]) ∧ Rf w' p F bs at_ ∧ Fr [] w w' := by
 have HR := Lib.hid hR
 clear hR
 by_cases a1 : n < 0
 ·have h1 : decide (n < 0) = true := by simp; omega
  go_enter Tryz.func170, Tryz.ntmps170
  go_wp2
  go_ret2
  exact ⟨rfl, HR.out, Fr.refl _ _⟩
 ·have h1 : decide (n < 0) = false := by simp; omega
  by_cases a2 : 32 < n
  ·have h2 : decide (32 < n) = true := by simp; omega
   go_enter Tryz.func170, Tryz.ntmps170
   go_wp2
   go_ret2
   exact ⟨rfl, HR.out, Fr.refl _ _⟩
  ·have h2 : decide (32 < n) = false := by simp; omega
   have h3 : decide (8 * (bs.length : Int) - at_ < n) = true := by simp; omega
   go_enter Tryz.func170, Tryz.ntmps170
   go_wp2_with (go_at_call 192; refine (left_any p F bs at_ _ HR.out).mono ?_; rintro e w' ⟨rfl, k, rfl⟩)
   go_ret2
   exact ⟨rfl, rd_fr HR.out (Fr.drewN [] _ _) (by simp), Fr.drewN _ _ _⟩
end Go.Proofs.YtkmpfgpfbmeihaaGreatDoor.bits
namespace Go.Proofs.YtkmpfgpfbmeihaaGreatDoor.huf
open Go Go.RowKit lib bm bl
set_option maxHeartbeats 1000000 in
theorem weight_any (a : Option Addr) (cap : Nat) (ls : List Nat) (w : World) (h : Ri w a cap ls) (hle : ∀ l ∈ ls, l ≤ 15) (hlen : ls.length ≤ 100000) :
  Calls Tryz.prog 196 #[.slice a ls.length cap] w fun e w' => e = .returned (.int .i64 (weight ls : Nat)) ∧ w = w' := by
 obtain ⟨L, hL⟩ : ∃ L, L = ls.length := ⟨_, rfl⟩
 rw [← hL] at hlen ⊢
 have H := Lib.hid (And.intro h (And.intro hle hL))
 clear h hle hL
 go_enter Tryz.func196, Tryz.ntmps196
 go_upto_block 0 with fail
 go_wp2
 go_loopg [3, 4] L (fun k s3 s4 wr => ∃ i : Nat, s4 = .int .i64 (i : Nat) ∧ s3 = .int .i64 (weight (ls.take i) : Nat) ∧ i + k = L ∧ w = wr)
 case atStart => exact ⟨0, rfl, rfl, by omega, rfl⟩
 case round =>
  obtain ⟨i, rfl, rfl, hik, rfl⟩ := hrel
  by_cases hi : i < L
  ·obtain ⟨k, rfl⟩ : ∃ k, gk = k + 1 := ⟨gk - 1, by omega⟩
   have hil : i < ls.length := by rw [← H.out.2.2]; exact hi
   obtain ⟨g, o, rfl, hc⟩ := H.out.1.at hil
   have h15 := H.out.2.1 _ (List.getElem_mem hil)
   have hw := weight_append (ls.take i) [ls[i]]
   rw [← List.take_succ_eq_append_getElem hil] at hw
   have hwl := weight_le (ls.take i)
   rw [List.length_take] at hwl
   generalize ls[i] = x at *
   generalize hW : weight (ls.take i) = W at *
   generalize hW2 : weight (ls.take (i + 1)) = W2 at *
   have hWb : W ≤ 1638400000 := by omega
   by_cases h0 : x = 0
   ·subst h0
    have e : W2 = W := by rw [hw]; simp [weight]
    have HE := Lib.hid (And.intro e hW2)
    clear e hw hwl hW hW2
    go_wp2
    go_roundg k
    case measure => omega
    case rel => exact ⟨i + 1, by go_num, by rw [HE.out.2, HE.out.1], by omega, rfl⟩
   ·have hx : 1 ≤ x := by omega
    obtain ⟨y, hy⟩ : ∃ y, y = 15 - x := ⟨_, rfl⟩
    have e1 : (15 : Int) - (x : Int) = (y : Int) := by omega
    have hp : 2 ^ y ≤ 16384 := Nat.le_trans (Nat.pow_le_pow_right (by decide) (show y ≤ 14 by omega)) (by decide)
    have e : W2 = W + 2 ^ y := by rw [hw, hy]; simp [weight, h0]
    obtain ⟨z, hz⟩ : ∃ z, z = 2 ^ y := ⟨_, rfl⟩
    rw [← hz] at hp e
    have e2 : (2 : Int) ^ y = (z : Int) := by rw [hz]; exact cast_pow y
    have HE := Lib.hid (And.intro e hW2)
    have hy14 : y ≤ 14 := by omega
    clear e hw hwl hW hW2 hz hy
    go_wp2
    go_roundg k
    case measure => omega
    case rel => exact ⟨i + 1, by go_num, by rw [HE.out.2, HE.out.1]; first | go_num | rfl, by omega, rfl⟩
  ·obtain rfl : i = L := by omega
   have hW : weight (ls.take i) = weight ls := by rw [List.take_of_length_le (by rw [← H.out.2.2]; exact Nat.le_refl _)]
   have HW := Lib.hid hW
   clear hW
   go_wp2
   go_ret
   exact ⟨by rw [← HW.out]; rfl, rfl⟩
theorem rcomplete_any (a : Option Addr) (cap : Nat) (ls : List Nat) (w : World) (h : Ri w a cap ls) (hle : ∀ l ∈ ls, l ≤ 15) (hlen : ls.length ≤ 100000) :
  Calls Tryz.prog 175 #[.slice a ls.length cap] w fun e w' => e = .returned (.bool (decide (weight ls = 32768))) ∧ w = w' := by
 have hc := Lib.hid (weight_any a cap ls w h hle hlen)
 clear h hle
 go_enter Tryz.func175, Tryz.ntmps175
 go_wp2_with (go_at_call 196; refine hc.out.mono ?_; rintro e w' ⟨rfl, rfl⟩)
 go_ret
 refine ⟨ret_eq (bool_eq ?_), rfl⟩
 first
  | (rw [Bool.eq_iff_iff]; simp; omega)
  | simp
def RCodesGood (w : World) (ls : List Nat) (e : Ending) (w' : World) : Prop :=
 ∃ g, e = .returned (.tuple #[.slice (some ⟨g, 0, none⟩) ls.length ls.length, .int .i64 0]) ∧ Cs w' (some ⟨g, 0, none⟩) ((codesOf ls).map fun x => .int .u32 (x : Nat)) ∧ w.heap.size ≤ g ∧ g < w'.heap.size ∧ Fr [] w w'
set_option maxHeartbeats 2000000 in
theorem rcodes_any (a : Option Addr) (cap : Nat) (ls : List Nat) (w : World) (h : Ri w a cap ls) (hle : ∀ l ∈ ls, l ≤ 15) (hlen : ls.length ≤ 400) (hw : weight ls ≤ 32768) :
  Calls Tryz.prog 209 #[.slice a ls.length cap] w (RCodesGood w ls) := by
 obtain ⟨L, hL⟩ : ∃ L, L = ls.length := ⟨_, rfl⟩
 have hc := weight_any a cap ls w h hle (by omega)
 rw [← hL] at hlen hc ⊢
 obtain ⟨W, hW⟩ : ∃ W, W = weight ls := ⟨_, rfl⟩
 rw [← hW] at hc hw
 have H := Lib.hid (And.intro h (And.intro hle (And.intro hL (And.intro hc hW))))
 obtain ⟨hu, ⟨ti, hi', hz', hs', hb'⟩, hcz, hp⟩ := u32sTy
 clear h hle hL hc hW
 have d1 : decide ((400 : Int) < L) = false := by simp; omega
 have d2 : decide ((32768 : Int) < W) = false := by simp; omega
 go_enter Tryz.func209, Tryz.ntmps209
 go_upto_block 1 with (first | (go_at_call 196; refine H.out.2.2.2.1.mono ?_; rintro e w' ⟨rfl, rfl⟩) | (refine wpList_make_full _ rfl _ _ 147 rfl 0 32 ti (.int .u32 0) 1 hu hi' hz' hs' .i64 .i64 (L : Nat) (L : Nat) L rfl rfl rfl rfl (by rw [hb']; omega) (by unfold maxLen; omega) (by omega) ?_; intro w3 own3 grow3; have H3 := Lib.hid (And.intro own3 grow3); clear own3 grow3))
 obtain ⟨Q, hQ⟩ : ∃ Q, Q = w.heap.size := ⟨_, rfl⟩
 rw [← hQ] at H3 ⊢
 have hst : Cw w3 ls Q 1 0 := cw_made (by rw [← H.out.2.2.1]; exact H3.out.1)
 have f3 : Fr [] w w3 := (Fr.refl [] w).grown H3.out.2 (fun k hk => by cases hk)
 have HS := Lib.hid (And.intro hst (And.intro f3 hQ))
 clear hst f3 hQ H3 hu hi' hz' hs' hb' hcz hp d1 d2
 go_wp2
 go_loopg [5, 6, 7] 15 (fun k s5 s6 s7 wr => ∃ l nx : Nat, s6 = .int .i64 (l : Nat) ∧ s5 = .int .u32 (nx : Nat) ∧ l + k = 16 ∧ 1 ≤ l ∧ 2 * nx = nxt ls l ∧ Cw wr ls Q l 0 ∧ Fr [] w wr)
 case atStart => exact ⟨1, 0, rfl, rfl, rfl, Nat.le_refl _, rfl, HS.out.1, HS.out.2.1⟩
 case round =>
  obtain ⟨l, nx, rfl, rfl, hlk, hl1, hnx, hcw, hf⟩ := hrel
  by_cases hl : l ≤ 15
  ·obtain ⟨k, rfl⟩ : ∃ k, gk = k + 1 := ⟨gk - 1, by omega⟩
   have hb := share_top ls H.out.2.1 (by rw [← H.out.2.2.2.2]; exact hw) l hl
   obtain ⟨wo, rfl⟩ : ∃ wo : World, wo = wr := ⟨_, rfl⟩
   obtain ⟨n2, hn2⟩ : ∃ n2, n2 = nxt ls l := ⟨_, rfl⟩
   rw [← hn2] at hnx hb
   have HX := Lib.hid (And.intro hcw (And.intro hf (And.intro hn2 (And.intro hnx hlk))))
   have hnxb : nx ≤ 16384 := by omega
   have e2 : (nx : Int) * 2 = (n2 : Int) := by omega
   clear hcw hf hn2 hnx hlk
   go_upto_block 3 with fail
   clear e2
   go_wp2
   go_loopg [5, 7] L (fun k s5 s7 wr => ∃ i y : Nat, s7 = .int .i64 (i : Nat) ∧ s5 = .int .u32 (y : Nat) ∧ i + k = L ∧ y = n2 + (ls.take i).count l ∧ Cw wr ls Q l i ∧ Fr [] w wr)
   case atStart => exact ⟨0, n2, rfl, rfl, by omega, by simp, HX.out.1, HX.out.2.1⟩
   case round =>
    obtain ⟨i, y, rfl, rfl, hik, hy, hcw, hf⟩ := hrel
    have hcl := List.count_le_length (a := l) (l := ls.take i)
    rw [List.length_take] at hcl
    have hyb : y ≤ 40000 := by omega
    by_cases hi : i < L
    ·obtain ⟨k2, rfl⟩ : ∃ k2, gk = k2 + 1 := ⟨gk - 1, by omega⟩
     have hil : i < ls.length := by rw [← H.out.2.2.1]; exact hi
     obtain ⟨g, o, rfl, hc⟩ := (H.out.1.fr hf).at hil
     have hla : lenAt ls i = ls[i] := by unfold lenAt; rw [List.getElem?_eq_getElem hil]; rfl
     have hct := count_take_succ ls i l hil
     rw [hla] at hct
     obtain ⟨A, hA, hAs, hAt⟩ := hcw
     have zA := frozen_of hA i
     obtain ⟨x0, hx0⟩ : ∃ x, wr.cell? ⟨Q, i, none⟩ = some x := ⟨_, by rw [cell_of hA]; exact hAt i hil⟩
     have f2 : Fr [Q] wr (wr.setCell ⟨Q, i, none⟩ (.int .u32 (y : Nat))) := (Fr.refl [Q] wr).setCell (by simp) _
     obtain ⟨v, hv⟩ : ∃ v, v = ls[i] := ⟨_, rfl⟩
     rw [← hv] at hc hla hct
     have HI := Lib.hid (And.intro (And.intro hla hct) (And.intro (And.intro hA (And.intro hAs hAt)) (And.intro hf (And.intro hy (And.intro hik (And.intro f2 hv))))))
     clear hla hct hA hAs hAt hf hy hik f2 hv hcl
     by_cases hvl : v = l
     ·have d1 : ((v : Int) == (l : Int)) = true := by simp; omega
      go_wp2
      go_roundg k2
      case measure => have := HI.out.2.2.2.2.1; omega
      case rel =>
       obtain ⟨⟨hla, hct⟩, ⟨hA, hAs, hAt⟩, hf, hy, hik, f2, _⟩ := HI.out
       rw [if_pos hvl] at hct
       refine ⟨i + 1, y + 1, by go_num, by go_num, by omega, by omega, ⟨_, setCell_of hA _, by simp [hAs], fun j hj => ?_⟩, hf.step f2 (fun z hz => .inr (by simp at hz; rw [hz, HS.out.2.2]; exact Nat.le_refl _))⟩
       by_cases e : j = i
       ·subst e
        rw [Array.getElem?_setIfInBounds_self_of_lt (by omega), cw_hit (by omega) (by rw [hla, hvl]), hy, HX.out.2.2.1]
       ·rw [Array.getElem?_setIfInBounds_ne (by omega), cw_step (.inl e)]
        exact hAt j hj
     ·have d1 : ((v : Int) == (l : Int)) = false := by simp; omega
      go_wp2
      go_roundg k2
      case measure => have := HI.out.2.2.2.2.1; omega
      case rel =>
       obtain ⟨⟨hla, hct⟩, ⟨hA, hAs, hAt⟩, hf, hy, hik, f2, _⟩ := HI.out
       rw [if_neg hvl] at hct
       exact ⟨i + 1, y, by go_num, by go_num, by omega, by omega, ⟨A, hA, hAs, fun j hj => by rw [cw_step (.inr (by rw [hla]; exact hvl))]; exact hAt j hj⟩, hf⟩
    ·obtain rfl : i = L := by omega
     have ht : ls.take i = ls := List.take_of_length_le (by rw [← H.out.2.2.1]; exact Nat.le_refl _)
     rw [ht] at hy
     have HI := Lib.hid (And.intro hcw (And.intro hf hy))
     clear hcw hf hy hcl ht hik
     go_wp2
     go_roundg k
     case measure => have := HX.out.2.2.2.2; omega
     case rel =>
      have hlk := HX.out.2.2.2.2
      obtain ⟨⟨A, hA, hAs, hAt⟩, hf, hy⟩ := HI.out
      refine ⟨l + 1, y, by go_num, rfl, by omega, by omega, ?_, ⟨A, hA, hAs, fun j hj => ?_⟩, hf⟩
      ·rw [nxt, if_neg (by omega), ← HX.out.2.2.1, hy]
      ·rw [← cw_next (by omega) hj, ← H.out.2.2.1]
       exact hAt j hj
  ·obtain rfl : l = 16 := by omega
   obtain ⟨A, hA, hAs, hAt⟩ := hcw
   have HI := Lib.hid (And.intro hA (And.intro hAs (And.intro hAt hf)))
   clear hA hAs hAt hf hnx hlk
   go_wp2
   go_ret2
   obtain ⟨hA, hAs, hAt, hf⟩ := HI.out
   unfold RCodesGood
   rw [← H.out.2.2.1]
   refine ⟨Q, rfl, .inr ⟨Q, 0, rfl, fun j v hv => ?_⟩, by rw [HS.out.2.2]; exact Nat.le_refl _, lt_of_block hA, hf⟩
   have hj : j < ls.length := by
    have := (List.getElem?_eq_some_iff.1 hv).1
    simpa [codesOf] using this
   rw [Nat.zero_add, cell_of hA, hAt j hj, cw_end (H.out.2.1 _ (lenAt_mem hj))]
   rw [← hv]
   simp [codesOf, hj]
end Go.Proofs.YtkmpfgpfbmeihaaGreatDoor.huf
namespace Go.Proofs.YtkmpfgpfbmeihaaGreatDoor.huf
open Go Go.RowKit lib bm bl bits
def symn (ls : List Nat) (l : Nat) : Nat := if l = 0 then 0 else (syms ls l ls.length).length
structure Tab (w : World) (P D : Nat) (ls : List Nat) (first : Nat → Nat) (sa : Nat → Option Addr) (sc : Nat → Nat) : Prop where
 box : ∃ A, w.heap[P]? = some (.cells A 309 (0, 0)) ∧ A.size = 33 ∧ (∀ l, l < 16 → A[l]? = some (.int .u32 (first l : Nat))) ∧ (∀ l, l < 16 → A[16 + l]? = some (.slice (sa l) (symn ls l) (sc l))) ∧ A[32]? = some (.int .i64 (D : Nat))
 fst : ∀ l, 0 < symn ls l → first l = nxt ls l
 top : ∀ s, s < ls.length → lenAt ls s ≤ D
 low : D ≤ 15
 low' : ∀ l, first l ≤ 32768
 syms : ∀ l, l < 16 → 0 < l → Ri w (sa l) (sc l) (syms ls l ls.length)
 len : ls.length ≤ 400
theorem Tab.cells {w : World} {P D : Nat} {ls : List Nat} {first : Nat → Nat} {sa : Nat → Option Addr} {sc : Nat → Nat} (h : Tab w P D ls first sa sc) :
  (∀ l, l < 16 → w.cell? ⟨P, l, none⟩ = some (.int .u32 (first l : Nat))) ∧ (∀ l, l < 16 → w.cell? ⟨P, 16 + l, none⟩ = some (.slice (sa l) (symn ls l) (sc l))) ∧ w.cell? ⟨P, 32, none⟩ = some (.int .i64 (D : Nat)) := by
 obtain ⟨A, hA, _, h1, h2, h3⟩ := h.box
 exact ⟨fun l hl => by rw [cell_of hA]; exact h1 l hl, fun l hl => by rw [cell_of hA]; exact h2 l hl, by rw [cell_of hA]; exact h3⟩
theorem Tab.fr {w w' : World} {P D : Nat} {ls : List Nat} {first : Nat → Nat} {sa : Nat → Option Addr} {sc : Nat → Nat} (h : Tab w P D ls first sa sc) (f : Fr [] w w') : Tab w' P D ls first sa sc := by
 obtain ⟨A, hA, h1⟩ := h.box
 exact ⟨⟨A, f.blk hA (by simp), h1⟩, h.fst, h.top, h.low, h.low', fun l h1 h2 => (h.syms l h1 h2).fr f, h.len⟩
theorem symn_le (ls : List Nat) (l : Nat) : symn ls l ≤ ls.length := by
 unfold symn
 split
 ·omega
 ·have := List.length_filter_le (fun s => lenAt ls s == l) (List.range ls.length); rw [List.length_range] at this; exact this
theorem meets_symn {ls : List Nat} {n v l : Nat} (h : 0 < l) : meets ls n v l = (decide (0 < symn ls l) && (decide (nxt ls l < (v + 1) * 2 ^ (l - n)) && decide (v * 2 ^ (l - n) < nxt ls l + symn ls l))) := by
 unfold meets symn
 rw [if_neg (by omega)]
set_option maxHeartbeats 2000000 in
theorem more_any (P D : Nat) (ls : List Nat) (first : Nat → Nat) (sa : Nat → Option Addr) (sc : Nat → Nat) (v n : Nat) (w : World) (h : Tab w P D ls first sa sc) (hn : n ≤ 15) (hv : v < 2 ^ n) :
  Calls Tryz.prog 218 #[.pointer (some ⟨P, 0, none⟩), .int .u32 (v : Nat), .int .i64 (n : Nat)] w fun e w' => e = .returned (.bool (hmore ls n v)) ∧ Fr [] w w' := by
 have H := Lib.hid (And.intro h hv)
 have hD := h.low
 have hlen := h.len
 clear h hv
 go_enter Tryz.func218, Tryz.ntmps218
 go_upto_block 0 with fail
 go_wp2
 go_loopg [7, 8, 9, 10] 16 (fun k s7 s8 s9 s10 wr => ∃ (l : Nat), s7 = .int .i64 (l : Nat) ∧ l + k = 17 + n ∧ n < l ∧ Fr [] w wr ∧ ∀ m, n < m → m < l → meets ls n v m = false)
 case atStart => exact ⟨n + 1, by go_num, by omega, by omega, Fr.refl [] w, fun m h1 h2 => by omega⟩
 case round =>
  obtain ⟨l, rfl, hlk, hnl, hf, hno⟩ := hrel
  obtain ⟨hc1, hc2, hc3⟩ := (H.out.1.fr hf).cells
  have HF := Lib.hid hf
  clear hf
  by_cases hl : l ≤ D
  ·obtain ⟨k, rfl⟩ : ∃ k, gk = k + 1 := ⟨gk - 1, by omega⟩
   have hm := meets_symn (ls := ls) (n := n) (v := v) (l := l) (by omega)
   have hpl : (v + 1) * 2 ^ (l - n) ≤ 32768 := by
    have h1 : (v + 1) * 2 ^ (l - n) ≤ 2 ^ n * 2 ^ (l - n) := Nat.mul_le_mul_right _ H.out.2
    rw [← Nat.pow_add, show n + (l - n) = l by omega] at h1
    exact Nat.le_trans h1 (Nat.le_trans (Nat.pow_le_pow_right (by decide) (show l ≤ 15 by omega)) (by decide))
   have c1 := hc1 l (by omega)
   have c2 := hc2 l (by omega)
   obtain ⟨f1, hf1⟩ : ∃ f1, f1 = first l := ⟨_, rfl⟩
   obtain ⟨m1, hm1⟩ : ∃ m1, m1 = symn ls l := ⟨_, rfl⟩
   obtain ⟨x1, hx1⟩ : ∃ x1, x1 = (v + 1) * 2 ^ (l - n) := ⟨_, rfl⟩
   obtain ⟨x0, hx0⟩ : ∃ x0, x0 = v * 2 ^ (l - n) := ⟨_, rfl⟩
   have hf1l : f1 ≤ 32768 := by rw [hf1]; exact H.out.1.low' l
   have hm1l : m1 ≤ 400 := by rw [hm1]; have := symn_le ls l; omega
   rw [← hx1, ← hx0, ← hm1] at hm
   rw [← hf1] at c1
   rw [← hm1] at c2
   rw [← hx1] at hpl
   have hx01 : x0 ≤ x1 := by rw [hx0, hx1]; exact Nat.mul_le_mul_right _ (by omega)
   have hfn : 0 < m1 → f1 = nxt ls l := fun h0 => by rw [hf1]; exact H.out.1.fst l (by omega)
   have HI := Lib.hid (And.intro hno (And.intro hm (And.intro hfn (And.intro hx1 (And.intro hx0 (And.intro hf1 hm1))))))
   clear hno hm hfn hf1 hm1 hc1 hc2
   have hln : (n : Int) ≤ l := by omega
   go_upto_region 5 with fail
   have e0 : (v : Int) * 2 ^ (l - n) % 4294967296 = (x0 : Nat) := by
    have : ((v : Int) * 2 ^ (l - n)) = (x0 : Nat) := by rw [hx0]; push_cast; rfl
    rw [this]; omega
   have hv1 : v + 1 ≤ 32768 := Nat.le_trans H.out.2 (Nat.le_trans (Nat.pow_le_pow_right (by decide) hn) (by decide))
   have e1 : ((v : Int) + 1) * 2 ^ (l - n) % 4294967296 = (x1 : Nat) := by
    have : (((v : Int) + 1) * 2 ^ (l - n)) = (x1 : Nat) := by rw [hx1]; push_cast; rfl
    rw [this]; omega
   clear hx0 hx1
   go_quiet (fail)
   rw [e0, e1]
   clear e0 e1
   have b0 : decide ((0 : Int) < (m1 : Int)) = decide (0 < m1) := by simp
   have b1 : decide ((f1 : Int) < (x1 : Int)) = decide (f1 < x1) := by simp
   have b2 : decide ((x0 : Int) < (f1 : Int) + m1) = decide (x0 < f1 + m1) := by
    rw [decide_eq_decide]; omega
   have next : (meets ls n v l = false) → ∀ m, n < m → m < l + 1 → meets ls n v m = false := fun h m h1 h2 => by
    rcases Nat.lt_succ_iff_lt_or_eq.1 h2 with h3 | h3
    ·exact HI.out.1 m h1 h3
    ·rw [h3]; exact h
   have HN := Lib.hid next
   clear next
   by_cases p0 : 0 < m1
   ·have p0' := decide_eq_true p0
    rw [p0'] at b0
    by_cases p1 : f1 < x1
    ·rw [decide_eq_true p1] at b1
     by_cases p2 : x0 < f1 + m1
     ·rw [decide_eq_true p2] at b2
      go_wp2
      go_ret
      refine ⟨?_, ?_⟩
      ·rw [meets_true hnl (by rw [HI.out.2.1, ← HI.out.2.2.1 p0]; simp [p0, p1, p2])]; rfl
      ·exact HF.out.trans (Fr.drewN [] _ _)
     ·rw [decide_eq_false p2] at b2
      go_wp2
      go_roundg k
      case measure => omega
      case rel => exact ⟨l + 1, by go_num, by omega, by omega, HF.out.trans (Fr.drewN [] _ _), HN.out (by rw [HI.out.2.1, ← HI.out.2.2.1 p0]; simp [p2])⟩
    ·rw [decide_eq_false p1] at b1
     go_wp2
     go_roundg k
     case measure => omega
     case rel => exact ⟨l + 1, by go_num, by omega, by omega, HF.out.trans (Fr.drewN [] _ _), HN.out (by rw [HI.out.2.1, ← HI.out.2.2.1 p0]; simp [p1])⟩
   ·rw [decide_eq_false p0] at b0
    go_wp2
    go_roundg k
    case measure => omega
    case rel => exact ⟨l + 1, by go_num, by omega, by omega, HF.out.trans (Fr.drewN [] _ _), HN.out (by rw [HI.out.2.1]; simp [p0])⟩
  ·have d0 : decide ((l : Int) ≤ D) = false := by simp; omega
   go_wp2
   go_ret
   exact ⟨by rw [meets_false H.out.1.top fun m h1 h2 => hno m h1 (by omega)]; rfl, HF.out⟩
end Go.Proofs.YtkmpfgpfbmeihaaGreatDoor.huf
namespace Go.Proofs.YtkmpfgpfbmeihaaGreatDoor.huf
open Go Go.RowKit lib bm bl
theorem Tab.frS {S : List Nat} {w w' : World} {P D : Nat} {ls : List Nat} {first : Nat → Nat} {sa : Nat → Option Addr} {sc : Nat → Nat} (h : Tab w P D ls first sa sc) (f : Fr S w w') (hP : P ∉ S) (hs : ∀ l, l < 16 → 0 < l → ∀ x ∈ blk (sa l), x ∉ S) : Tab w' P D ls first sa sc := by
 obtain ⟨A, hA, h1⟩ := h.box
 exact ⟨⟨A, f.blk hA hP, h1⟩, h.fst, h.top, h.low, h.low', fun l h1 h2 => ⟨(h.syms l h1 h2).cs.fr f (hs l h1 h2), (h.syms l h1 h2).le, (h.syms l h1 h2).max, (h.syms l h1 h2).nil⟩, h.len⟩
theorem sym_none {ls : List Nat} {first : Nat → Nat} {n v : Nat} (hf : 0 < symn ls n → first n = nxt ls n) (h : ¬ (0 < n ∧ first n ≤ v ∧ v - first n < symn ls n)) : hsym ls n v = none := by
 refine hsym_none ?_
 by_cases h0 : n = 0
 ·exact .inl h0
 ·right
  by_cases hs : 0 < symn ls n
  ·have := hf hs
   unfold symn at h hs
   rw [if_neg h0] at h hs
   omega
  ·unfold symn at hs
   rw [if_neg h0] at hs
   omega
theorem b2n_lt (b : Bool) : b2n b < 2 := by cases b <;> decide
theorem or_bit (v : Nat) (b : Bool) (hv : v < 65536) : bits .or .u32 ((v : Int) * 2) (b2n b : Nat) = ((2 * v + b2n b : Nat) : Int) := by
 have hb : b2n b < 2 := by cases b <;> decide
 have e : (v : Int) * 2 = ((v * 2 : Nat) : Int) := by omega
 have h1 := or_add (b2n b) v 1 (by simpa using hb)
 rw [e, u32_or_nat (v * 2) (b2n b) (by omega) (by omega), Nat.or_comm, show v * 2 = v * 2 ^ 1 from rfl, h1]
 congr 1
 omega
set_option maxHeartbeats 4000000 in
theorem read_any (P D : Nat) (ls : List Nat) (first : Nat → Nat) (sa : Nat → Option Addr) (sc : Nat → Nat) (p : Nat) (F : List Nat) (bs : List UInt8) (at_ : Nat) (w : World) (h : Tab w P D ls first sa sc) (hr : bits.Rd w p F bs at_)
  (hP : P ≠ p) (hs : ∀ l, l < 16 → 0 < l → ∀ x ∈ blk (sa l), x ≠ p) (s m c : Nat) (hres : hread ls 15 0 0 ((bytesBits bs).drop at_) = (s, m, c)) :
  Calls Tryz.prog 206 #[.pointer (some ⟨P, 0, none⟩), .pointer (some ⟨p, 0, none⟩)] w fun e w' => e = .returned (.tuple #[.int .i64 (s : Nat), .int .i64 (c : Nat)]) ∧ bits.Rd w' p F bs (at_ + m) ∧ Fr [p] w w' := by
 have hlen := h.len
 have H := Lib.hid (And.intro h (And.intro hr (And.intro hP (And.intro hs hres))))
 clear h hr hP hs hres
 go_enter Tryz.func206, Tryz.ntmps206
 go_upto_block 0 with fail
 go_wp2
 go_loopg [6, 7, 8, 9, 10] 16 (fun k s6 s7 s8 s9 s10 wr => ∃ (n v : Nat), s6 = .int .u32 (v : Nat) ∧ s7 = .int .i64 (n : Nat) ∧ n + k = 16 ∧ 0 < k ∧ v < 2 ^ n ∧ bits.Rd wr p F bs (at_ + n) ∧ Fr [p] w wr ∧ hread ls (15 - n) n v ((bytesBits bs).drop (at_ + n)) = (s, m, c))
 case atStart => exact ⟨0, 0, rfl, rfl, by omega, by omega, by decide, H.out.2.1, Fr.refl [p] w, H.out.2.2.2.2⟩
 case round =>
  obtain ⟨n, v, rfl, rfl, hnk, hk0, hv, hrd, hf, hres⟩ := hrel
  obtain ⟨k, rfl⟩ : ∃ k, gk = k + 1 := ⟨gk - 1, by omega⟩
  have hT := H.out.1.frS hf (by simpa using H.out.2.2.1) (fun l h1 h2 x hx => by simpa using H.out.2.2.2.1 l h1 h2 x hx)
  obtain ⟨hc1, hc2, hc3⟩ := hT.cells
  have c1 := hc1 n (by omega)
  have c2 := hc2 n (by omega)
  have hvb : v < 65536 := Nat.lt_of_lt_of_le hv (Nat.le_trans (Nat.pow_le_pow_right (by decide) (show n ≤ 15 by omega)) (by decide))
  obtain ⟨f1, hf1⟩ : ∃ f1, f1 = first n := ⟨_, rfl⟩
  obtain ⟨m1, hm1⟩ : ∃ m1, m1 = symn ls n := ⟨_, rfl⟩
  have hf1l : f1 ≤ 32768 := by rw [hf1]; exact hT.low' n
  have hm1l : m1 ≤ 400 := by rw [hm1]; have := symn_le ls n; omega
  have hfs := hT.fst n
  rw [← hf1, ← hm1] at hfs
  rw [← hf1] at c1
  rw [← hm1] at c2
  have HR := Lib.hid (And.intro hv (And.intro hrd (And.intro hf (And.intro hres (And.intro hT (And.intro hfs (And.intro hf1 hm1)))))))
  clear hv hrd hf hres hT hfs hf1 hm1 hc1 hc2 hc3
  by_cases hit : 0 < n ∧ f1 ≤ v ∧ v - f1 < m1
  ·obtain ⟨i0, i1, i2⟩ := hit
   obtain ⟨y, rfl⟩ : ∃ y, v = f1 + y := ⟨v - f1, by omega⟩
   have hy : y < m1 := by omega
   have hnz : n ≠ 0 := by omega
   have hm2 : (syms ls n ls.length).length = m1 := by rw [HR.out.2.2.2.2.2.2.2]; unfold symn; rw [if_neg hnz]
   obtain ⟨g, o, ha, hcl⟩ := (HR.out.2.2.2.2.1.syms n (by omega) i0).at (i := y) (by omega)
   obtain ⟨z, hz⟩ : ∃ z, z = (syms ls n ls.length)[y]'(by omega) := ⟨_, rfl⟩
   rw [← hz] at hcl
   rw [ha] at c2
   have hh : hsym ls n (f1 + y) = some z := by
    have e := HR.out.2.2.2.2.2.1 (by omega)
    refine hsym_some i0 (by omega) ?_
    rw [show f1 + y - nxt ls n = y by omega, List.getElem?_eq_getElem (by omega), hz]
   have hres := HR.out.2.2.2.1
   rw [hread_hit hh] at hres
   obtain ⟨rfl, rfl, rfl⟩ : z = s ∧ n = m ∧ 0 = c := by simpa using hres
   have b0 : decide ((0 : Int) < n) = true := by simpa using i0
   have b1 : decide ((f1 : Int) ≤ (f1 : Int) + y) = true := by simp; omega
   have b2 : decide ((y : Int) < m1) = true := by simp; omega
   have b3 : (f1 : Int) + y - f1 = y := by omega
   clear i0 i1 i2 hm2 hz hh hres ha
   go_upto_region 6 with fail
   go_quiet (fail)
   go_wp2
   go_ret2
   exact ⟨rfl, bits.rd_fr HR.out.2.1 (Fr.drewN [] _ _) (by simp), HR.out.2.2.1.trans (Fr.drewN [p] _ _)⟩
  ·have hn0 : hsym ls n v = none := sym_none (first := first) (by rw [← HR.out.2.2.2.2.2.2.1, ← HR.out.2.2.2.2.2.2.2]; exact HR.out.2.2.2.2.2.1) (by rw [← HR.out.2.2.2.2.2.2.1, ← HR.out.2.2.2.2.2.2.2]; exact hit)
   have HM := Lib.hid hn0
   clear hn0
   go_upto_region 5 with fail
   go_cut [44] from 21 to 44 (fun s44 wc => s44 = .bool false ∧ wr = wc)
   case first =>
    by_cases i0 : 0 < n
    ·have b0 : decide ((0 : Int) < n) = true := by simpa using i0
     by_cases i1 : f1 ≤ v
     ·have b1 : decide ((f1 : Int) ≤ v) = true := by simpa using i1
      have b2 : decide ((v : Int) - f1 < m1) = false := by simp; omega
      clear hit
      go_wp2
      go_meet
      case rel => exact ⟨rfl, rfl⟩
     ·have b1 : decide ((f1 : Int) ≤ v) = false := by simpa using i1
      clear hit
      go_wp2
      go_meet
      case rel => exact ⟨rfl, rfl⟩
    ·have b0 : decide ((0 : Int) < n) = false := by simpa using i0
     clear hit
     go_wp2
     go_meet
     case rel => exact ⟨rfl, rfl⟩
   case rest =>
    obtain ⟨rfl, rfl⟩ := hcut
    have HMore := Lib.hid (more_any P D ls first sa sc v n wr HR.out.2.2.2.2.1 (by omega) HR.out.1)
    go_upto_region 7 with fail
    go_cut [69] from 61 to 69 (fun s69 wc => s69 = .bool (n == 15 || !hmore ls n v) ∧ Fr [] wr wc)
    case first =>
     by_cases i0 : n = 15
     ·have b0 : ((n : Int) == 15) = true := by simp; omega
      have b1 : (n == 15 || !hmore ls n v) = true := by simp [i0]
      clear hit
      go_wp2
      go_meet
      case rel => exact ⟨by rw [b1], Fr.refl [] _⟩
     ·have b0 : ((n : Int) == 15) = false := by simp; omega
      have b1 : (n == 15 || !hmore ls n v) = !hmore ls n v := by simp [i0]
      clear hit
      go_wp2_with (go_at_call 218; refine HMore.out.mono ?_; rintro e w2 ⟨rfl, f2⟩; have H2 := Lib.hid f2; clear f2)
      go_meet
      case rel => exact ⟨by rw [b1], H2.out⟩
    case rest =>
     obtain ⟨rfl, f2⟩ := hcut
     have H2 := Lib.hid f2
     clear f2
     have h2 : Fr [p] w wc := HR.out.2.2.1.trans (H2.out.mono (by simp))
     have r2 : bits.Rd wc p F bs (at_ + n) := bits.rd_fr HR.out.2.1 H2.out (by simp)
     have H3 := Lib.hid (And.intro h2 r2)
     clear h2 r2
     by_cases e1 : (n == 15 || !hmore ls n v) = true
     ·have hres : hread ls (15 - n) n v ((bytesBits bs).drop (at_ + n)) = (0, n, 3) := by
       by_cases h15 : n = 15
       ·subst h15; exact hread_end HM.out
       ·refine hread_form HM.out ?_
        simpa [h15] using e1
      rw [HR.out.2.2.2.1] at hres
      obtain ⟨rfl, rfl, rfl⟩ : s = 0 ∧ m = n ∧ c = 3 := by simpa using hres
      rw [e1]
      clear hit hres
      go_wp2
      go_ret2
      exact ⟨rfl, H3.out.2, H3.out.1⟩
     ·have e1' : (n == 15 || !hmore ls n v) = false := by simpa using e1
      have h15 : n ≠ 15 := by intro h; simp [h] at e1
      have hmr : hmore ls n v = true := by simp at e1; exact e1.2
      rw [e1']
      by_cases hq : at_ + n + 1 ≤ 8 * bs.length
      ·have htk := take_b p F bs (at_ + n) 1 wc H3.out.2 (by decide) hq
       have hlb : (bytesBits bs).length = 8 * bs.length := by simp [bytesBits_length]
       obtain ⟨b, t, hbt⟩ : ∃ b t, (bytesBits bs).drop (at_ + n) = b :: t := by
        cases hd : (bytesBits bs).drop (at_ + n) with
        | nil => have := congrArg List.length hd; rw [List.length_drop, hlb] at this; simp at this; omega
        | cons b t => exact ⟨b, t, rfl⟩
       have ht : (bytesBits bs).drop (at_ + (n + 1)) = t := by
        rw [← Nat.add_assoc, ← List.drop_drop, hbt]; rfl
       have hbv : bval (((bytesBits bs).drop (at_ + n)).take 1) = b2n b := by rw [hbt]; cases b <;> rfl
       rw [hbv] at htk
       have hres := HR.out.2.2.2.1
       rw [show 15 - n = (15 - (n + 1)) + 1 by omega, hbt, hread_step HM.out hmr, ← ht] at hres
       have HK := Lib.hid (And.intro htk hres)
       clear htk hlb hbt ht hbv hres hit
       go_upto_region 10 with (go_at_call 165; refine HK.out.1.mono ?_; rintro e w5 ⟨rfl, r5, f5⟩; have H5 := Lib.hid (And.intro r5 f5); clear r5 f5)
       go_wp2
       have hor := or_bit v b hvb
       rw [hor]
       go_roundg k
       case measure => omega
       case rel => exact ⟨n + 1, 2 * v + b2n b, rfl, by go_num, by omega, by omega, by rw [Nat.pow_succ]; have := HR.out.1; have := b2n_lt b; omega, H5.out.1, H3.out.1.trans H5.out.2, HK.out.2⟩
      ·have htk := bits.take_bad p F bs (at_ + n) 1 wc H3.out.2 (by omega)
       have hd : (bytesBits bs).drop (at_ + n) = [] := List.drop_eq_nil_of_le (by rw [bytesBits_length]; omega)
       have hres := HR.out.2.2.2.1
       rw [show 15 - n = (14 - n) + 1 by omega, hd, hread_torn HM.out hmr] at hres
       obtain ⟨rfl, rfl, rfl⟩ : 0 = s ∧ n = m ∧ 4 = c := by simpa using hres
       have HK := Lib.hid htk
       clear htk hd hres hit
       go_upto_region 10 with (go_at_call 165; refine HK.out.mono ?_; rintro e w5 ⟨rfl, r5, f5⟩; have H5 := Lib.hid (And.intro r5 f5); clear r5 f5)
       go_wp2
       go_ret2
       exact ⟨rfl, H5.out.1, H3.out.1.trans (H5.out.2.mono (by simp))⟩
end Go.Proofs.YtkmpfgpfbmeihaaGreatDoor.huf
namespace Go.Proofs.YtkmpfgpfbmeihaaGreatDoor.huf
open Go Go.RowKit lib bm bl
def ihit (ls : List Nat) (n v i : Nat) : Bool := decide (0 < n) && (lenAt ls i == n && code ls i == v)
def imore (ls : List Nat) (n v i : Nat) : Bool := decide (n < lenAt ls i) && code ls i / 2 ^ (lenAt ls i - n) == v
theorem find_upto {α : Type} (p : α → Bool) : ∀ (l : List α) (k : Nat), (∀ x ∈ l.take k, p x = false) → l.find? p = (l.drop k).find? p
 | l, 0, _ => rfl
 | [], k + 1, _ => rfl
 | x :: l, k + 1, h => by
  rw [List.find?_cons, h x (by simp), List.drop_succ_cons]
  exact find_upto p l k fun y hy => h y (by simp [hy])
theorem hsym_first {ls : List Nat} {n v i : Nat} (hi : i < ls.length) (hn : ∀ j, j < i → ihit ls n v j = false) (h : ihit ls n v i = true) : hsym ls n v = some i := by
 unfold hsym
 rw [find_upto _ _ i (fun x hx => ?_), List.drop_eq_getElem_cons (by simpa using hi), List.getElem_range, List.find?_cons]
 ·have h' := h
  unfold ihit at h'
  rw [h']
 ·obtain ⟨j, hj⟩ := List.getElem?_of_mem hx
  rw [List.getElem?_take] at hj
  split at hj
  ·rename_i hji
   rw [List.getElem?_range (by omega)] at hj
   obtain rfl := Option.some.inj hj
   exact hn _ hji
  ·cases hj
theorem hsym_nil {ls : List Nat} {n v : Nat} (hn : ∀ j, j < ls.length → ihit ls n v j = false) : hsym ls n v = none := by
 unfold hsym
 refine List.find?_eq_none.2 fun x hx => ?_
 have := hn x (List.mem_range.1 hx)
 unfold ihit at this
 rw [this]
 decide
def smore (ls : List Nat) (n v i : Nat) : Bool := (List.range i).any (imore ls n v)
theorem smore_succ (ls : List Nat) (n v i : Nat) : smore ls n v (i + 1) = (smore ls n v i || imore ls n v i) := by
 unfold smore
 rw [List.range_succ, List.any_append]
 simp
theorem hmore_lt {ls : List Nat} {n v : Nat} (hle : ∀ l ∈ ls, l ≤ 15) (h : hmore ls n v = true) : n < 15 := by
 unfold hmore at h
 obtain ⟨i, hi, h2⟩ := List.any_eq_true.1 h
 simp only [Bool.and_eq_true, decide_eq_true_eq] at h2
 have h3 := hle _ (lenAt_mem (List.mem_range.1 hi))
 omega
def Cu (w : World) (g : Nat) (ls : List Nat) : Prop := Cs w (some ⟨g, 0, none⟩) ((codesOf ls).map fun x => .int .u32 (x : Nat))
theorem Cu.at {w : World} {g : Nat} {ls : List Nat} (h : Cu w g ls) {i : Nat} (hi : i < ls.length) : w.cell? ⟨g, i, none⟩ = some (.int .u32 (codeAt ls i : Nat)) := by
 obtain ⟨g', o, e, hc⟩ := Cs.at h (by simp [codesOf]; omega)
 simp only [Option.some.injEq, Addr.mk.injEq, and_true] at e
 obtain ⟨rfl, rfl⟩ := e
 have := hc i (.int .u32 (codeAt ls i : Nat)) (by simp [codesOf, hi])
 rwa [Nat.zero_add] at this
set_option maxHeartbeats 8000000 in
theorem rread_any (a : Option Addr) (cap : Nat) (ls : List Nat) (p : Nat) (F : List Nat) (bs : List UInt8) (at_ : Nat) (w : World) (h : Ri w a cap ls) (hle : ∀ l ∈ ls, l ≤ 15) (hlen : ls.length ≤ 400) (hw : weight ls ≤ 32768)
  (hr : bits.Rf w p F bs at_) (hap : ∀ x ∈ blk a, x ≠ p) (hF : ∀ x ∈ F, x < w.heap.size) (s m c : Nat) (hres : hread ls 15 0 0 ((bytesBits bs).drop at_) = (s, m, c)) :
  Calls Tryz.prog 194 #[.slice a ls.length cap, .pointer (some ⟨p, 0, none⟩)] w fun e w' => e = .returned (.tuple #[.int .i64 (s : Nat), .int .i64 (c : Nat)]) ∧ bits.Rf w' p F bs (at_ + m) ∧ Fr [p] w w' := by
 have hcd := rcodes_any a cap ls w h hle hlen hw
 unfold RCodesGood at hcd
 obtain ⟨L, hL⟩ : ∃ L, L = ls.length := ⟨_, rfl⟩
 rw [← hL] at hcd hlen ⊢
 have hpF : p ∈ F := by obtain ⟨_, _, _, _, h, _⟩ := hr; rw [h]; simp
 have H := Lib.hid (And.intro h (And.intro hle (And.intro hL (And.intro hcd (And.intro hr (And.intro hap (And.intro (hF p hpF) hres)))))))
 have HW := Lib.hid hw
 clear h hle hL hcd hr hap hres hw hF hpF
 go_enter Tryz.func194, Tryz.ntmps194
 go_upto_region 2 with (go_at_call 209; refine H.out.2.2.2.1.mono ?_; rintro e w1 ⟨g, rfl, cu, hg1, hg2, f1⟩)
 have hcu : Cu w1 g ls := cu
 have hgp : g ≠ p := fun e => by have := H.out.2.2.2.2.2.2.1; omega
 have H1 := Lib.hid (And.intro hcu (And.intro f1 (And.intro hgp (bits.rd_fr H.out.2.2.2.2.1 f1 (by simp)))))
 clear hcu cu hg1 hg2 f1 hgp
 go_wp2
 go_loopg [8, 9, 10, 11] 16 (fun k s8 s9 s10 s11 wr => ∃ (n v : Nat), s9 = .int .u32 (v : Nat) ∧ s10 = .int .i64 (n : Nat) ∧ n + k = 16 ∧ 0 < k ∧ v < 2 ^ n ∧ bits.Rf wr p F bs (at_ + n) ∧ Fr [p] w1 wr ∧ hread ls (15 - n) n v ((bytesBits bs).drop (at_ + n)) = (s, m, c))
 case atStart => exact ⟨0, 0, rfl, rfl, by omega, by omega, by decide, H1.out.2.2.2, Fr.refl [p] _, H.out.2.2.2.2.2.2.2⟩
 case round =>
  obtain ⟨n, v, rfl, rfl, hnk, hk0, hv, hrd, hf, hres⟩ := hrel
  obtain ⟨k, rfl⟩ : ∃ k, gk = k + 1 := ⟨gk - 1, by omega⟩
  have hn15 : n ≤ 15 := by omega
  have hvb : v < 65536 := Nat.lt_of_lt_of_le hv (Nat.le_trans (Nat.pow_le_pow_right (by decide) hn15) (by decide))
  have HR := Lib.hid (And.intro hv (And.intro hrd (And.intro hf (And.intro hres hnk))))
  obtain ⟨wo, hwo⟩ : ∃ wo, wo = wr := ⟨_, rfl⟩
  rw [← hwo] at HR
  clear hv hrd hf hres hnk hk0
  go_upto_block 1 with fail
  subst hwo
  go_wp2
  go_loopg [8, 11] L (fun j s8 s11 wi => ∃ i : Nat, s11 = .int .i64 (i : Nat) ∧ s8 = .bool (smore ls n v i) ∧ i + j = L ∧ (∀ t, t < i → ihit ls n v t = false) ∧ Fr [] wo wi)
  case atStart => exact ⟨0, rfl, rfl, by omega, fun t ht => by omega, Fr.refl _ _⟩
  case round =>
   obtain ⟨i, rfl, rfl, hij, hnh, hfi⟩ := hrel
   by_cases hi : i < L
   ·obtain ⟨j, rfl⟩ : ∃ j, gk = j + 1 := ⟨gk - 1, by omega⟩
    have hil : i < ls.length := by rw [← H.out.2.2.1]; exact hi
    have fr1 : Fr [p] w wr := (H1.out.2.1.mono (by simp)).trans (HR.out.2.2.1.trans (hfi.mono (by simp)))
    obtain ⟨ga, oa, rfl, hx⟩ := Ri.at ⟨H.out.1.cs.fr fr1 (fun x hx => by simpa using H.out.2.2.2.2.2.1 x hx), H.out.1.le, H.out.1.max, H.out.1.nil⟩ hil
    have hcu : Cu wr g ls := H1.out.1.fr (HR.out.2.2.1.trans (hfi.mono (by simp))) (by simpa [blk] using H1.out.2.2.1)
    have hcc := hcu.at hil
    have hla : lenAt ls i = ls[i] := by unfold lenAt; rw [List.getElem?_eq_getElem hil]; rfl
    have h15 := H.out.2.1 _ (List.getElem_mem hil)
    have hcl : codeAt ls i < 32768 := by
     unfold codeAt
     split
     ·decide
     ·exact Nat.lt_of_lt_of_le (code_lt ls i H.out.2.1 HW.out (by omega)) (Nat.le_trans (Nat.pow_le_pow_right (by decide) (show lenAt ls i ≤ 15 by omega)) (by decide))
    obtain ⟨y, hy⟩ : ∃ y, y = codeAt ls i := ⟨_, rfl⟩
    obtain ⟨x, hx'⟩ : ∃ x, x = ls[i] := ⟨_, rfl⟩
    rw [← hy] at hcc hcl
    rw [← hx'] at hx hla h15
    have hhit : ihit ls n v i = (decide (0 < n) && (x == n && y == v)) := by
     unfold ihit
     rw [hla]
     by_cases h1 : 0 < n
     ·by_cases h2 : x = n
      ·have : y = code ls i := by rw [hy]; unfold codeAt; rw [if_neg (by omega)]
       rw [this]
      ·have : (x == n) = false := by simpa using h2
       rw [this]; simp
     ·have : decide (0 < n) = false := by simpa using h1
      rw [this]; simp
    have hmr : imore ls n v i = (decide (n < x) && y / 2 ^ (x - n) == v) := by
     unfold imore
     rw [hla]
     by_cases h1 : n < x
     ·have : y = code ls i := by rw [hy]; unfold codeAt; rw [if_neg (by omega)]
      rw [this]
     ·have : decide (n < x) = false := by simpa using h1
      rw [this]; simp
    have hsm := smore_succ ls n v i
    rw [hmr] at hsm
    obtain ⟨S0, hS0⟩ : ∃ S0, S0 = smore ls n v i := ⟨_, rfl⟩
    rw [← hS0] at hsm ⊢
    have HI := Lib.hid (And.intro hnh (And.intro hfi (And.intro hhit (And.intro hsm (And.intro hS0 (And.intro hil hij))))))
    clear hnh hfi hhit hmr hsm hS0 hil fr1 hcu hla hy hx' hij
    go_upto_region 11 with fail
    go_cut [44] from 27 to 44 (fun s44 wc => s44 = .bool (decide (0 < n) && (x == n && y == v)) ∧ wr = wc)
    case first =>
     by_cases e1 : x = n
     ·have b1 : ((x : Int) == (n : Int)) = true := by simp; omega
      have b1' : (x == n) = true := by simp; omega
      by_cases e2 : 0 < n
      ·have b2 : decide ((0 : Int) < (n : Int)) = true := by simp; omega
       have b2' : decide (0 < n) = true := by simpa using e2
       by_cases e3 : y = v
       ·have b3 : ((y : Int) == (v : Int)) = true := by simp; omega
        have b3' : (y == v) = true := by simp; omega
        go_wp2
        go_meet
        case rel => exact ⟨by rw [b1', b2', b3'] <;> rfl, rfl⟩
       ·have b3 : ((y : Int) == (v : Int)) = false := by simp; omega
        have b3' : (y == v) = false := by simpa using e3
        go_wp2
        go_meet
        case rel => exact ⟨by rw [b1', b2', b3'] <;> rfl, rfl⟩
      ·have b2 : decide ((0 : Int) < (n : Int)) = false := by simp; omega
       have b2' : decide (0 < n) = false := by simpa using e2
       go_wp2
       go_meet
       case rel => exact ⟨by rw [b2'] <;> rfl, rfl⟩
     ·have b1 : ((x : Int) == (n : Int)) = false := by simp; omega
      have b1' : (x == n) = false := by simpa using e1
      go_wp2
      go_meet
      case rel => exact ⟨by rw [b1', Bool.false_and, Bool.and_false] <;> rfl, rfl⟩
    case rest =>
     obtain ⟨rfl, rfl⟩ := hcut
     by_cases eh : (decide (0 < n) && (x == n && y == v)) = true
     ·rw [eh]
      have hh := HI.out.2.2.1
      rw [eh] at hh
      have hres := HR.out.2.2.2.1
      rw [hread_hit (hsym_first HI.out.2.2.2.2.2.1 HI.out.1 hh)] at hres
      obtain ⟨rfl, rfl, rfl⟩ : i = s ∧ n = m ∧ 0 = c := by simpa using hres
      clear hh hres eh
      go_wp2
      go_ret2
      exact ⟨rfl, bits.rd_fr HR.out.2.1 HI.out.2.1 (by simp), (H1.out.2.1.mono (by simp)).trans (HR.out.2.2.1.trans (HI.out.2.1.mono (by simp)))⟩
     ·have eh' : (decide (0 < n) && (x == n && y == v)) = false := by simpa using eh
      rw [eh']
      have hh := HI.out.2.2.1
      rw [eh'] at hh
      have HN := Lib.hid hh
      clear hh eh eh'
      go_upto_region 13 with fail
      cases S0
      ·by_cases e1 : n < x
       ·have b1 : decide ((n : Int) < (x : Int)) = true := by simp; omega
        obtain ⟨d, hd⟩ : ∃ d, d = x - n := ⟨_, rfl⟩
        have ed : (x : Int) - (n : Int) = (d : Int) := by omega
        obtain ⟨q, hq⟩ : ∃ q, q = y / 2 ^ d := ⟨_, rfl⟩
        have hqq : (y : Int) / 2 ^ d = (q : Int) := by rw [hq]; push_cast; rfl
        have hd15 : d ≤ 15 := by omega
        have hqb : q < 32768 := by rw [hq]; exact Nat.lt_of_le_of_lt (Nat.div_le_self _ _) hcl
        by_cases e2 : q = v
        ·have b2 : ((q : Int) == (v : Int)) = true := by simp; omega
         have HB : Go.RowKit.Hid ((false || (decide (n < x) && y / 2 ^ (x - n) == v)) = true) := Lib.hid (by rw [← hd, ← hq, e2]; simp [e1])
         clear hd hq e2
         go_quiet (fail)
         clear hx hcc
         go_wp2
         go_roundg j
         case measure => have := HI.out.2.2.2.2.2.2; omega
         case rel =>
          obtain ⟨k1, k2, k3, k4, k5, k6, k7⟩ := HI.out
          refine ⟨i + 1, by go_num, by rw [k4, HB.out], by omega, fun t ht => ?_, k2.trans (Fr.drewN _ _ _)⟩
          rcases Nat.lt_or_ge t i with q | q
          ·exact k1 t q
          ·rw [show t = i by omega]; exact HN.out
        ·have b2 : ((q : Int) == (v : Int)) = false := by simp; omega
         have HB : Go.RowKit.Hid ((false || (decide (n < x) && y / 2 ^ (x - n) == v)) = false) := Lib.hid (by rw [← hd, ← hq]; simp [e2])
         clear hd hq e2
         go_quiet (fail)
         clear hx hcc
         go_wp2
         go_roundg j
         case measure => have := HI.out.2.2.2.2.2.2; omega
         case rel =>
          obtain ⟨k1, k2, k3, k4, k5, k6, k7⟩ := HI.out
          refine ⟨i + 1, by go_num, by rw [k4, HB.out], by omega, fun t ht => ?_, k2.trans (Fr.drewN _ _ _)⟩
          rcases Nat.lt_or_ge t i with q | q
          ·exact k1 t q
          ·rw [show t = i by omega]; exact HN.out
       ·have b1 : decide ((n : Int) < (x : Int)) = false := by simp; omega
        have HB : Go.RowKit.Hid ((false || (decide (n < x) && y / 2 ^ (x - n) == v)) = false) := Lib.hid (by simp [e1])
        go_quiet (fail)
        clear hx hcc
        go_wp2
        go_roundg j
        case measure => have := HI.out.2.2.2.2.2.2; omega
        case rel =>
         obtain ⟨k1, k2, k3, k4, k5, k6, k7⟩ := HI.out
         refine ⟨i + 1, by go_num, by rw [k4, HB.out], by omega, fun t ht => ?_, k2.trans (Fr.drewN _ _ _)⟩
         rcases Nat.lt_or_ge t i with q | q
         ·exact k1 t q
         ·rw [show t = i by omega]; exact HN.out
      ·have HB : Go.RowKit.Hid ((true || (decide (n < x) && y / 2 ^ (x - n) == v)) = true) := Lib.hid (by simp)
       go_quiet (fail)
       clear hx hcc
       go_wp2
       go_roundg j
       case measure => have := HI.out.2.2.2.2.2.2; omega
       case rel =>
        obtain ⟨k1, k2, k3, k4, k5, k6, k7⟩ := HI.out
        refine ⟨i + 1, by go_num, by rw [k4, HB.out], by omega, fun t ht => ?_, k2.trans (Fr.drewN _ _ _)⟩
        rcases Nat.lt_or_ge t i with q | q
        ·exact k1 t q
        ·rw [show t = i by omega]; exact HN.out
   ·obtain rfl : i = L := by omega
    have hnone : hsym ls n v = none := hsym_nil fun t ht => hnh t (by rw [H.out.2.2.1]; exact ht)
    have hsm : smore ls n v i = hmore ls n v := by rw [H.out.2.2.1]; rfl
    rw [hsm]
    have HM := Lib.hid (And.intro hnone (And.intro hfi (bits.rd_fr HR.out.2.1 hfi (by simp))))
    clear hnone hfi hsm hnh hij
    by_cases hm : hmore ls n v = true
    ·have hn14 : n < 15 := hmore_lt H.out.2.1 hm
     rw [hm]
     have hres := HR.out.2.2.2.1
     by_cases hq : at_ + n < 8 * bs.length
     ·have hlf := bits.left_any p F bs (at_ + n) wr HM.out.2.2
      have d1 : ((8 * (bs.length : Int) - ((at_ + n : Nat) : Int)) == 0) = false := by simp; omega
      have hlb : (bytesBits bs).length = 8 * bs.length := by simp [bytesBits_length]
      obtain ⟨b, t, hbt⟩ : ∃ b t, (bytesBits bs).drop (at_ + n) = b :: t := by
       cases hd : (bytesBits bs).drop (at_ + n) with
       | nil => have := congrArg List.length hd; rw [List.length_drop, hlb] at this; simp at this; omega
       | cons b t => exact ⟨b, t, rfl⟩
      have ht : (bytesBits bs).drop (at_ + (n + 1)) = t := by
       rw [← Nat.add_assoc, ← List.drop_drop, hbt]; rfl
      have hbv : num bs / 2 ^ (at_ + n) % 2 = b2n b := by
       have := num_bits bs (at_ + n) 1 (by omega)
       rw [Nat.pow_one] at this
       rw [this, hbt]; cases b <;> rfl
      rw [show 15 - n = (15 - (n + 1)) + 1 by omega, hbt, hread_step HM.out.1 hm, ← ht] at hres
      have hon := fun (w' : World) (hR : bits.Rf w' p F bs (at_ + n)) => bits.rone_any p F bs (at_ + n) w' hR hq
      rw [hbv] at hon
      have HK := Lib.hid (And.intro hlf (And.intro hres hon))
      clear hlf hlb hbt ht hbv hres hon hm
      go_upto_region 18 with (go_at_call 192; refine HK.out.1.mono ?_; rintro e w5 ⟨rfl, q5, rfl⟩; have H5 := Lib.hid (bits.rd_fr HM.out.2.2 (Fr.drewN [] wr q5) (by simp)))
      have hb2 := b2n_lt b
      have hor := or_bit v b hvb
      clear d1
      go_wp2_with (go_at_call 193; refine (HK.out.2.2 _ H5.out).mono ?_; rintro e w6 ⟨rfl, r6, f6⟩; have H6 := Lib.hid (And.intro r6 f6); clear r6 f6)
      go_roundg k
      case measure => have := HR.out.2.2.2.2; omega
      case rel =>
       have hnk := HR.out.2.2.2.2
       exact ⟨n + 1, 2 * v + b2n b, by first | rfl | exact int_eq hor | (rw [hor]), by go_num, by omega, by omega, by rw [Nat.pow_succ]; have := HR.out.1; omega, H6.out.1, HR.out.2.2.1.trans ((HM.out.2.1.mono (by simp)).trans ((Fr.drewN [p] _ _).trans H6.out.2)), HK.out.2.1⟩
     ·have hlf := bits.left_any p F bs (at_ + n) wr HM.out.2.2
      have hat : at_ + n ≤ 8 * bs.length := by
       obtain ⟨_, _, _, _, _, _, _, hat, _, _⟩ := HM.out.2.2
       exact hat
      have d1 : ((8 * (bs.length : Int) - ((at_ + n : Nat) : Int)) == 0) = true := by simp; omega
      have hd : (bytesBits bs).drop (at_ + n) = [] := List.drop_eq_nil_of_le (by rw [bytesBits_length]; omega)
      rw [show 15 - n = (14 - n) + 1 by omega, hd, hread_torn HM.out.1 hm] at hres
      obtain ⟨rfl, rfl, rfl⟩ : 0 = s ∧ n = m ∧ 4 = c := by simpa using hres
      have HK := Lib.hid hlf
      clear hlf hd hres hm hat
      go_wp2_with (go_at_call 192; refine HK.out.mono ?_; rintro e w5 ⟨rfl, q5, rfl⟩)
      go_ret2
      exact ⟨rfl, bits.rd_fr HM.out.2.2 (Fr.drewN [] wr q5) (by simp), (H1.out.2.1.mono (by simp)).trans (HR.out.2.2.1.trans ((HM.out.2.1.mono (by simp)).trans (Fr.drewN [p] _ _)))⟩
    ·have hm' : hmore ls n v = false := by simpa using hm
     rw [hm']
     have hres := HR.out.2.2.2.1
     rw [hread_form HM.out.1 hm'] at hres
     obtain ⟨rfl, rfl, rfl⟩ : 0 = s ∧ n = m ∧ 3 = c := by simpa using hres
     clear hm hm' hres
     go_wp2
     go_ret2
     exact ⟨rfl, HM.out.2.2, (H1.out.2.1.mono (by simp)).trans (HR.out.2.2.1.trans (HM.out.2.1.mono (by simp)))⟩
end Go.Proofs.YtkmpfgpfbmeihaaGreatDoor.huf
namespace Go.Proofs.YtkmpfgpfbmeihaaGreatDoor.inf
open Go Go.RowKit lib bm bl huf
structure St (w : World) (R p : Nat) (F : List Nat) (bs : List UInt8) (at_ : Nat) (out : List UInt8) (oa : Option Addr) (oc most : Nat) : Prop where
 box : w.heap[R]? = some (.cells #[.pointer (some ⟨p, 0, none⟩), .slice oa out.length oc, .int .i64 (most : Nat)] 209 (0, 0))
 rd : bits.Rd w p F bs at_
 own : w.ownsRow 0 5 1 (.slice oa out.length oc) out.length (out.map bv)
 r1 : R ∉ F
 r2 : R ∉ blk oa
 r3 : ∀ x ∈ blk oa, x ∉ F
 low : ∀ x ∈ F, x < w.heap.size
 sm : most ≤ 100000000
 sb : bs.length ≤ 100000000
 om : out.length ≤ most
structure Way (w : World) (R p : Nat) (oa : Option Addr) (w' : World) (oa' : Option Addr) : Prop where
 fr : Fr (R :: p :: blk oa) w w'
 new : ∀ x ∈ blk oa', x ∈ blk oa ∨ w.heap.size ≤ x
theorem Way.refl (w : World) (R p : Nat) (oa : Option Addr) : Way w R p oa w oa := ⟨.refl _ w, fun _ h => .inl h⟩
theorem Way.trans {w w1 w2 : World} {R p : Nat} {oa oa1 oa2 : Option Addr} (h : Way w R p oa w1 oa1) (k : Way w1 R p oa1 w2 oa2) : Way w R p oa w2 oa2 :=
 ⟨h.fr.step k.fr fun x hx => by
  simp only [List.mem_cons] at hx ⊢
  rcases hx with rfl | rfl | hx
  ·exact .inl (.inl rfl)
  ·exact .inl (.inr (.inl rfl))
  ·rcases h.new x hx with h1 | h1
   ·exact .inl (.inr (.inr h1))
   ·exact .inr h1, fun x hx => by
  rcases k.new x hx with h1 | h1
  ·exact h.new x h1
  ·exact .inr (Nat.le_trans h.fr.size h1)⟩
theorem Way.frW {w w1 w2 : World} {R p : Nat} {oa oa1 : Option Addr} (h : Way w R p oa w1 oa1) (f : Fr (R :: p :: blk oa1) w1 w2) : Fr (R :: p :: blk oa) w w2 :=
 h.fr.step f fun x hx => by
  simp only [List.mem_cons] at hx ⊢
  rcases hx with rfl | rfl | hx
  ·exact .inl (.inl rfl)
  ·exact .inl (.inr (.inl rfl))
  ·rcases h.new x hx with h1 | h1
   ·exact .inl (.inr (.inr h1))
   ·exact .inr h1
theorem Way.of (w w' : World) (R p : Nat) (oa : Option Addr) (f : Fr [p] w w') : Way w R p oa w' oa := ⟨f.mono (by simp), fun _ h => .inl h⟩
theorem Way.of0 (w w' : World) (R p : Nat) (oa : Option Addr) (f : Fr [] w w') : Way w R p oa w' oa := ⟨f.mono (by simp), fun _ h => .inl h⟩
theorem Way.old {w w' : World} {R p : Nat} {oa oa' : Option Addr} (h : Way w R p oa w' oa') {x : Nat} (hx : x < w.heap.size) (hn : x ∉ R :: p :: blk oa) : x ∉ R :: p :: blk oa' := by
 simp only [List.mem_cons, not_or] at hn ⊢
 refine ⟨hn.1, hn.2.1, fun h1 => ?_⟩
 rcases h.new x h1 with h2 | h2
 ·exact hn.2.2 h2
 ·omega
theorem St.fr {w w' : World} {R p : Nat} {F S : List Nat} {bs out : List UInt8} {at_ oc most : Nat} {oa : Option Addr} (h : St w R p F bs at_ out oa oc most) (f : Fr S w w') (hR : R ∉ S) (hF : ∀ x ∈ F, x ∉ S) (ho : ∀ x ∈ blk oa, x ∉ S) : St w' R p F bs at_ out oa oc most :=
 ⟨f.blk h.box hR, bits.rd_fr h.rd f hF, ownsRow_fr h.own f (fun k hk => ho k (by rw [← own_blk oa out.length oc, hk]; simp)), h.r1, h.r2, h.r3, fun x hx => Nat.lt_of_lt_of_le (h.low x hx) f.size, h.sm, h.sb, h.om⟩
theorem St.fr0 {w w' : World} {R p : Nat} {F : List Nat} {bs out : List UInt8} {at_ oc most : Nat} {oa : Option Addr} (h : St w R p F bs at_ out oa oc most) (f : Fr [] w w') : St w' R p F bs at_ out oa oc most := h.fr f (by simp) (by simp) (by simp)
theorem St.pF {w : World} {R p : Nat} {F : List Nat} {bs out : List UInt8} {at_ oc most : Nat} {oa : Option Addr} (h : St w R p F bs at_ out oa oc most) : p ∈ F ∧ at_ ≤ 8 * bs.length := by
 obtain ⟨ao, cap, hr, hcs, rfl, hpb, hlen, hat, hcap, hmax⟩ := h.rd
 exact ⟨by simp, hat⟩
theorem St.take {w w' : World} {R p : Nat} {F : List Nat} {bs out : List UInt8} {at_ a' oc most : Nat} {oa : Option Addr} (h : St w R p F bs at_ out oa oc most) (f : Fr [p] w w') (hr : bits.Rd w' p F bs a') : St w' R p F bs a' out oa oc most := by
 have hp := h.pF.1
 refine ⟨f.blk h.box (by simp; rintro rfl; exact h.r1 hp), hr, ownsRow_fr h.own f (fun k hk => ?_), h.r1, h.r2, h.r3, fun x hx => Nat.lt_of_lt_of_le (h.low x hx) f.size, h.sm, h.sb, h.om⟩
 have hk2 : k ∈ blk oa := by rw [← own_blk oa out.length oc, hk]; simp
 simp
 rintro rfl
 exact h.r3 _ hk2 hp
theorem St.put {w1 w2 : World} {R p n : Nat} {F : List Nat} {bs out : List UInt8} {at_ oc most cp2 : Nat} {oa ao2 : Option Addr} {c : UInt8} {o : Obj} (h : St w1 R p F bs at_ out oa oc most) (hn : n = out.length) (hl : n < most)
  (A : Appended (w1.alloc o) w2 5 1 (blk oa) ao2 (n + 1) cp2 (out.map bv ++ [bv c])) :
  St (w2.setCell ⟨R, 1, none⟩ (.slice ao2 (n + 1) cp2)) R p F bs at_ (out ++ [c]) ao2 cp2 most ∧ Way w1 R p oa (w2.setCell ⟨R, 1, none⟩ (.slice ao2 (n + 1) cp2)) ao2 := by
 have f2 : Fr (blk oa) w1 w2 := ((Fr.refl _ w1).alloc _).trans A.fr
 have fR : Fr [R] w2 (w2.setCell ⟨R, 1, none⟩ (.slice ao2 (n + 1) cp2)) := (Fr.refl [R] w2).setCell (by simp) _
 have b2 := f2.blk h.box h.r2
 have hRw : R < w1.heap.size := lt_of_block h.box
 have hR2 : R ∉ blk ao2 := fun hx => by
  rcases A.at_ R hx with k | k
  ·exact h.r2 k
  ·rw [World.size_alloc] at k; omega
 have e : (out ++ [c]).length = n + 1 := by rw [hn]; simp
 have hpF := h.pF.1
 refine ⟨⟨?_, ?_, ?_, h.r1, hR2, fun x hx hF => ?_, fun x hx => Nat.lt_of_lt_of_le (h.low x hx) (Nat.le_trans f2.size fR.size), h.sm, h.sb, by rw [e]; omega⟩, ⟨?_, fun x hx => ?_⟩⟩
 ·rw [setCell_of b2, e]; rfl
 ·exact bits.rd_fr (bits.rd_fr h.rd f2 (fun x hx hb => h.r3 x hb hx)) fR (fun x hx hb => by simp at hb; rw [hb] at hx; exact h.r1 hx)
 ·rw [e, List.map_append]
  exact ownsRow_fr A.own fR (fun k hk => by
   have hk2 : k ∈ blk ao2 := by rw [← own_blk ao2 (n + 1) cp2, hk]; simp
   simp
   rintro rfl
   exact hR2 hk2)
 ·rcases A.at_ x hx with k | k
  ·exact h.r3 x k hF
  ·rw [World.size_alloc] at k
   have := h.low x hF
   omega
 ·exact (f2.mono (fun x hx => .inl (by simp [hx]))).trans (fR.mono (by simp))
 ·rcases A.at_ x hx with k | k
  ·exact .inl k
  ·rw [World.size_alloc] at k; exact .inr (by omega)
def Ret (w : World) (R p : Nat) (F : List Nat) (bs : List UInt8) (oa : Option Addr) (most : Nat) (m : Except Nat (List UInt8 × Nat)) (e : Ending) (w' : World) : Prop :=
 (∃ c, m = .error c ∧ 0 < c ∧ c < 100 ∧ e = .returned (.int .i64 (c : Nat)) ∧ Fr (R :: p :: blk oa) w w') ∨
 (∃ out a oa' oc', m = .ok (out, a) ∧ e = .returned (.int .i64 0) ∧ St w' R p F bs a out oa' oc' most ∧ Way w R p oa w' oa')
def RetV (w : World) (R p : Nat) (F : List Nat) (bs out : List UInt8) (oa : Option Addr) (oc most : Nat) (m : Except Nat (Nat × Nat)) (e : Ending) (w' : World) : Prop :=
 (∃ (v : Int) (c : Nat), m = .error c ∧ 0 < c ∧ c < 100 ∧ e = .returned (.tuple #[.int .i64 v, .int .i64 (c : Nat)]) ∧ Fr (R :: p :: blk oa) w w') ∨
 (∃ v a, m = .ok (v, a) ∧ e = .returned (.tuple #[.int .i64 (v : Nat), .int .i64 0]) ∧ St w' R p F bs a out oa oc most ∧ Fr [p] w w')
set_option maxHeartbeats 1000000 in
theorem take_any (R p : Nat) (F : List Nat) (bs out : List UInt8) (at_ oc most n : Nat) (oa : Option Addr) (w : World) (h : St w R p F bs at_ out oa oc most) (hn : n ≤ 31) :
  Calls Tryz.prog 134 #[.pointer (some ⟨R, 0, none⟩), .int .i64 (n : Nat)] w (RetV w R p F bs out oa oc most (itake bs at_ n)) := by
 have c0 := cell_of h.box 0
 simp only [List.getElem?_toArray, List.getElem?_cons_zero, List.getElem?_cons_succ] at c0
 have H := Lib.hid h
 clear h
 by_cases hl : at_ + n ≤ 8 * bs.length
 ·have hv : bval (((bytesBits bs).drop at_).take n) < 4294967296 := Nat.lt_of_lt_of_le (bval_take_lt _ _) (Nat.le_trans (Nat.pow_le_pow_right (by decide) (show n ≤ 32 by omega)) (by decide))
  obtain ⟨v, hv2⟩ : ∃ v, v = bval (((bytesBits bs).drop at_).take n) := ⟨_, rfl⟩
  have ht := take_b p F bs at_ n w H.out.rd (by omega) hl
  have e : itake bs at_ n = .ok (v, at_ + n) := by unfold itake; rw [if_pos hl, hv2]
  rw [e]
  rw [← hv2] at ht hv
  have HT := Lib.hid ht
  clear ht hv2 e
  go_enter Tryz.func134, Tryz.ntmps134
  go_wp2_with (go_at_call 165; refine HT.out.mono ?_; rintro e w1 ⟨rfl, hr, f1⟩)
  go_ret2
  exact .inr ⟨v, at_ + n, rfl, rfl, H.out.take f1 hr, f1⟩
 ·have ht := bits.take_bad p F bs at_ n w H.out.rd (.inr (.inr (by omega)))
  have e : itake bs at_ n = .error 4 := by unfold itake; rw [if_neg hl]
  rw [e]
  have HT := Lib.hid ht
  clear ht e
  go_enter Tryz.func134, Tryz.ntmps134
  go_wp2_with (go_at_call 165; refine HT.out.mono ?_; rintro e w1 ⟨rfl, hr, f1⟩)
  go_ret2
  exact .inl ⟨_, 4, rfl, by decide, by decide, rfl, f1.mono (by simp)⟩
set_option maxHeartbeats 1000000 in
theorem put_any (R p : Nat) (F : List Nat) (bs out : List UInt8) (at_ oc most : Nat) (oa : Option Addr) (c : UInt8) (w : World) (h : St w R p F bs at_ out oa oc most) :
  Calls Tryz.prog 186 #[.pointer (some ⟨R, 0, none⟩), .int .u8 (c.toNat : Nat)] w (Ret w R p F bs oa most ((iput most out c).map fun o => (o, at_))) := by
 have c1 := cell_of h.box 1
 have c2 := cell_of h.box 2
 simp only [List.getElem?_toArray, List.getElem?_cons_zero, List.getElem?_cons_succ] at c1 c2
 obtain ⟨n, hn⟩ : ∃ n, n = out.length := ⟨_, rfl⟩
 have hs := h.sm
 rw [← hn] at c1
 have H := Lib.hid (And.intro h hn)
 clear h
 by_cases hl : most ≤ n
 ·have e : iput most out c = .error 5 := by unfold iput; rw [if_pos (by omega)]
  rw [e]
  clear e hn
  go_enter Tryz.func186, Tryz.ntmps186
  go_upto_region 1 with fail
  go_quiet (fail)
  go_wp2
  go_ret
  exact .inl ⟨5, rfl, by decide, by decide, rfl, .drewN _ _ _⟩
 ·have e : iput most out c = .ok (out ++ [c]) := by unfold iput; rw [if_neg (by omega)]
  rw [e]
  clear e hn
  go_enter Tryz.func186, Tryz.ntmps186
  go_upto_region 1 with fail
  go_quiet (fail)
  obtain ⟨w1, hw1⟩ : ∃ w1, w1 = w.drewN nq := ⟨_, rfl⟩
  have f1 : Fr [] w w1 := by rw [hw1]; exact .drewN _ _ _
  have S1 := H.out.1.fr0 f1
  have c1' := f1.cell c1 (by simp)
  rw [← hw1]
  clear hw1 c1 c2
  have HS := Lib.hid (And.intro f1 S1)
  clear f1 S1
  go_wp2_with (at_builtin; go_loud (refine wpList_append bits.sliceU8 rfl _ _ rfl (.slice oa n oc) n (out.map bv) (blk oa) rfl (own_blk oa n oc) (by rw [H.out.2]; exact ownsRow_fr HS.out.2.own ((Fr.refl [] w1).alloc _) (by simp)) (some ⟨w1.heap.size, 0, none⟩) 1 1 [bv c] (by first | rfl | simp) (Nat.le_refl _) (fun h => by cases h) (cs_one _ _ _ _ (alloc_at _ _)) rfl (by intro u hu; simp only [List.mem_singleton] at hu; rw [hu]; rfl) (by omega) (by unfold maxLen; omega) ?_); intro ao2 cp2 w2 A2; have f2 : Fr (blk oa) w1 w2 := (Fr.refl _ w1).trans (((Fr.refl _ w1).alloc _).trans A2.fr); have b2 := f2.blk HS.out.2.box H.out.1.r2; have z1 := frozen_of b2 1; have d1 := cell_of b2 1; rw [← H.out.2] at d1; simp only [List.getElem?_toArray, List.getElem?_cons_zero, List.getElem?_cons_succ] at d1; have HA := Lib.hid (And.intro A2 (And.intro f2 b2)); clear A2 f2 b2 c1')
  go_ret
  have hP := HS.out.2.put H.out.2 (by omega) HA.out.1
  exact .inr ⟨_, _, ao2, cp2, rfl, rfl, hP.1, (Way.of0 _ _ _ _ _ HS.out.1).trans hP.2⟩
end Go.Proofs.YtkmpfgpfbmeihaaGreatDoor.inf
namespace Go.Proofs.YtkmpfgpfbmeihaaGreatDoor.huf
open Go Go.RowKit lib bm bl
structure Made (w w' : World) (e : TypeId) (size : Nat) (ao : Option Addr) (n cap : Nat) (xs : List Value) : Prop where
 own : w'.ownsRow 0 e size (.slice ao n cap) n xs
 fr : Fr [] w w'
 new : ∀ x ∈ blk ao, w.heap.size ≤ x
 le : n ≤ cap
 max : cap ≤ maxLen
 nil : ao = none → cap = 0
theorem Made.none (w : World) (e : TypeId) (size : Nat) : Made w w e size none 0 0 [] := ⟨⟨by simp, .inl ⟨rfl, rfl⟩⟩, .refl _ w, by simp [blk], Nat.le_refl _, Nat.zero_le _, fun _ => rfl⟩
theorem Made.app {w w1 w2 : World} {e : TypeId} {size : Nat} {ao ao2 : Option Addr} {n m cap cap2 : Nat} {xs ys : List Value} (h : Made w w1 e size ao n cap xs) (h2 : Appended w1 w2 e size (blk ao) ao2 m cap2 ys) : Made w w2 e size ao2 m cap2 ys :=
 ⟨h2.own, h.fr.step h2.fr (fun x hx => .inr (h.new x hx)), fun x hx => by
  rcases h2.at_ x hx with k | k
  ·exact h.new x k
  ·rw [k]; exact h.fr.size, h2.le, h2.max, h2.nil⟩
theorem Made.fr2 {w w1 w2 : World} {e : TypeId} {size : Nat} {ao : Option Addr} {n cap : Nat} {xs : List Value} (h : Made w w1 e size ao n cap xs) (f : Fr [] w1 w2) : Made w w2 e size ao n cap xs :=
 ⟨ownsRow_fr h.own f (by simp), h.fr.trans f, h.new, h.le, h.max, h.nil⟩
theorem Made.lt {w w' : World} {e : TypeId} {size : Nat} {ao : Option Addr} {n cap : Nat} {xs : List Value} (h : Made w w' e size ao n cap xs) : ∀ x ∈ blk ao, x < w'.heap.size := fun _ hx => owns_lt h.own (blk_own hx)
theorem Made.pre {w0 w w' : World} {e : TypeId} {size : Nat} {ao : Option Addr} {n cap : Nat} {xs : List Value} (h : Made w w' e size ao n cap xs) (f : Fr [] w0 w) : Made w0 w' e size ao n cap xs :=
 ⟨h.own, f.trans h.fr, fun x hx => Nat.le_trans f.size (h.new x hx), h.le, h.max, h.nil⟩
theorem sty_int : SliceTy Tryz.prog 28 3 (.int .i64 0) 1 8 := SliceTy.of Tryz.underlying28 (by kernel_rfl) rfl (by decide)
theorem info_int : (Tryz.prog.info? 3).map (fun i => (i.zero, i.size, i.bytes)) = some (some (.int .i64 0), 1, 8) := by kernel_rfl
def ints (l : List Nat) : List Value := l.map fun x => .int .i64 (x : Nat)
theorem ints_length (l : List Nat) : (ints l).length = l.length := by simp [ints]
theorem Ri.take {w : World} {a : Option Addr} {cap : Nat} {xs : List Nat} (h : Ri w a cap xs) (n : Nat) : Ri w a cap (xs.take n) := by
 refine ⟨?_, by have := h.le; rw [List.length_take]; omega, h.max, h.nil⟩
 rcases h.cs with h0 | ⟨g, o, e, hc⟩
 ·left
  have : xs = [] := by simpa using h0
  rw [this]; simp
 ·refine .inr ⟨g, o, e, fun j v hv => hc j v ?_⟩
  rw [List.map_take, List.getElem?_take] at hv
  split at hv
  ·exact hv
  ·cases hv
theorem ri_made {w w' : World} {ao : Option Addr} {n cap : Nat} {xs : List Nat} (h : Made w w' 3 1 ao n cap (ints xs)) (hn : n = xs.length) : Ri w' ao cap xs := ⟨cs_of_owns h.own, by rw [← hn]; exact h.le, h.max, h.nil⟩
def Ow (w : World) (Q N : Nat) (F : Nat → Nat) : Prop := ∃ A, w.heap[Q]? = some (.cells A 3 (0, 0)) ∧ A.size = N ∧ ∀ s, s < N → A[s]? = some (.int .i64 (F s : Nat))
theorem Ow.cell {w : World} {Q N : Nat} {F : Nat → Nat} (h : Ow w Q N F) {s : Nat} (hs : s < N) : w.cell? ⟨Q, s, none⟩ = some (.int .i64 (F s : Nat)) := by
 obtain ⟨A, hA, _, hF⟩ := h
 rw [cell_of hA, hF s hs]
theorem Ow.frozen {w : World} {Q N : Nat} {F : Nat → Nat} (h : Ow w Q N F) (s : Nat) : w.frozen? ⟨Q, s, none⟩ = false := by
 obtain ⟨A, hA, _, hF⟩ := h
 exact frozen_of hA s
theorem Ow.set {w : World} {Q N : Nat} {F : Nat → Nat} (h : Ow w Q N F) {s : Nat} (hs : s < N) (v : Nat) : Ow (w.setCell ⟨Q, s, none⟩ (.int .i64 (v : Nat))) Q N (fun t => if t = s then v else F t) := by
 obtain ⟨A, hA, hn, hF⟩ := h
 refine ⟨_, setCell_of hA _, by simp [hn], fun t ht => ?_⟩
 by_cases e : t = s
 ·subst e
  rw [Array.getElem?_setIfInBounds_self_of_lt (by omega)]
  simp only [if_true]
 ·rw [Array.getElem?_setIfInBounds_ne (by omega)]
  simp only [if_neg e]
  exact hF t ht
theorem Ow.fr {w w' : World} {S : List Nat} {Q N : Nat} {F : Nat → Nat} (h : Ow w Q N F) (f : Fr S w w') (hS : Q ∉ S) : Ow w' Q N F := by
 obtain ⟨A, hA, hn⟩ := h
 exact ⟨A, f.blk hA hS, hn⟩
theorem Ow.congr {w : World} {Q N : Nat} {F G : Nat → Nat} (h : Ow w Q N F) (e : ∀ s, s < N → F s = G s) : Ow w Q N G := by
 obtain ⟨A, hA, hn, hF⟩ := h
 exact ⟨A, hA, hn, fun s hs => by rw [hF s hs, e s hs]⟩
theorem Ow.cs {w : World} {Q N : Nat} {F : Nat → Nat} (h : Ow w Q N F) : Cs w (some ⟨Q, 0, none⟩) (ints ((List.range N).map F)) := by
 refine .inr ⟨Q, 0, rfl, fun j v hv => ?_⟩
 have hj : j < N := by have := (List.getElem?_eq_some_iff.1 hv).1; simpa [ints] using this
 rw [Nat.zero_add, h.cell hj, ← hv]
 simp [ints, hj]
theorem ow_made {w : World} {N Q : Nat} (h : w.ownsRow 0 3 1 (.slice (some ⟨Q, 0, none⟩) N N) N (madeCells (Value.int .i64 0).cells (N * 1)).toList) : Ow w Q N (fun _ => 0) := by
 obtain ⟨o1, o2⟩ := h
 rcases o2 with ⟨o2, _⟩ | ⟨g, c', cur, o2, _, hg, _, _, hsz, ht⟩
 ·cases o2
 ·simp only [Value.slice.injEq, Option.some.injEq, Addr.mk.injEq, and_true, true_and] at o2
  obtain ⟨rfl, rfl⟩ := o2
  refine ⟨cur, hg, by omega, fun j hj => ?_⟩
  have h1 : cur.toList[j]? = (madeCells (Value.int .i64 0).cells (N * 1)).toList[j]? := by
   rw [← ht, List.getElem?_take, if_pos (by omega)]
  rw [← Array.getElem?_toList, h1, show (Value.int .i64 0).cells = #[.int .i64 0] from rfl, toList_madeCells_one, List.getElem?_replicate, if_pos (by omega)]
  rfl
end Go.Proofs.YtkmpfgpfbmeihaaGreatDoor.huf
namespace Go.Proofs.YtkmpfgpfbmeihaaGreatDoor.defl
open Go Go.RowKit lib bm bl huf
def ordL : List Nat := [16, 17, 18, 0, 8, 7, 9, 6, 10, 5, 11, 4, 12, 3, 13, 2, 14, 1, 15]
def ord (i : Nat) : Nat := ordL[i]?.getD 0
theorem ord_lt (i : Nat) : ord i < 19 := by
 unfold ord
 cases h : ordL[i]? with
 | none => simp
 | some x =>
  have := List.mem_of_getElem? h
  simp only [ordL, List.mem_cons, List.not_mem_nil, or_false] at this
  simp only [Option.getD_some]
  omega
theorem slice_arr (O nc : Nat) (h : nc ≤ 19) (w : World) : (Instr.sliceAt 287 (.pointer (some ⟨O, 0, none⟩)) none (some (.int .i64 (nc : Nat))) none).run Tryz.prog w = .ok (.slice (some ⟨O, 0, none⟩) nc 19) w := by
 have e : Tryz.prog.arrayLen 287 = 19 := by kernel_rfl
 have el : Tryz.prog.elem 287 = 3 := by kernel_rfl
 have hu : Tryz.prog.underlying 287 = some (.array 19 3) := by kernel_rfl
 have := run_sliceAt_array_h (P := Tryz.prog) (t := 287) (w := w) ⟨O, 0, none⟩ (by rw [e, el]; exact hu) .i64 (nc : Nat) (by omega) (by rw [e]; omega)
 rw [this, e, el]
 obtain ⟨i, hi, _, hs, _⟩ := info_parts info_int
 simp [sizeOf, typeInfo, hi, slicedAt, Result.andThen]
 exact addr_add O 0 0
end Go.Proofs.YtkmpfgpfbmeihaaGreatDoor.defl
