/-
  The document's own writer of bits (stemmaref5.Writer): Put, Code, Align, Raw.
-/
import Derived.Test.YtcfhebhbgllphaaRef5w
import Derived.Test.YtcfhebhbgllphaaOps
namespace Go.Proofs.Ytcfhebhbgllphaa.bits
open Go Go.RowKit Go.Proofs.Ytcfhebhbgllphaa.lib Go.Proofs.Ytcfhebhbgllphaa.bm

theorem put_more (M L x j : Nat) : M + 2 ^ L * (x % 2 ^ j) + 2 ^ (L + j) * (x / 2 ^ j % 2) = M + 2 ^ L * (x % 2 ^ (j + 1)) := by
  have h := more x 0 j 1
  simp only [Nat.pow_zero, Nat.div_one, Nat.zero_add, Nat.pow_one] at h
  rw [h, Nat.mul_add, Nat.pow_add, Nat.add_assoc, Nat.mul_assoc]

set_option maxHeartbeats 1000000 in
theorem wput_any (p : Nat) (F : List Nat) (M L : Nat) (x n : Int) (w : World) (hW : Wf w p F M L) (hx0 : 0 ≤ x) (hx : x < 4294967296) (hL : L ≤ 562949953421200) :
    Calls Try.prog 20 #[.pointer (some ⟨p, 0, none⟩), .int .u32 x, .int .i64 n] w (WfPost p F w (M + 2 ^ L * (x.toNat % 2 ^ (min n.toNat 32))) (L + min n.toNat 32)) := by
  obtain ⟨x, rfl⟩ := Int.eq_ofNat_of_zero_le hx0
  rw [Int.toNat_natCast]
  obtain ⟨m, hm, hm32⟩ : ∃ m : Nat, m = min n.toNat 32 ∧ m ≤ 32 := ⟨_, rfl, by omega⟩
  have Hm := Lib.hid hm
  rw [← hm]
  clear hm
  have HW := Lib.hid hW
  clear hW
  have hx' : x < 4294967296 := by omega
  clear hx0 hx
  go_enter Try.func20, Try.ntmps20
  go_wp2
  go_loopg [6] m (fun k s6 wr => ∃ (j : Nat) (F' : List Nat), j + k = m ∧ s6 = .int .i64 j ∧ Wf wr p F' (M + 2 ^ L * (x % 2 ^ j)) (L + j) ∧ Fr F w wr ∧ ∀ y ∈ F', y ∈ F ∨ w.heap.size ≤ y)
  case atStart => exact ⟨0, F, by omega, rfl, by simpa [Nat.mod_one] using HW.out, Fr.refl _ _, fun y hy => .inl hy⟩
  case round =>
    obtain ⟨j, F', hjk, rfl, hw1, hfr, hF⟩ := hrel
    have Hw1 := Lib.hid hw1
    clear hw1
    go_upto_region 1 with fail
    go_cut [10] from 7 to 17 (fun b wz => b = .bool (decide (gk ≠ 0)) ∧ wr = wz)
    case first =>
      go_wp2
      all_goals (go_meet; exact ⟨bool_eq (by have := Hm.out; rw [decide_eq_decide]; omega), rfl⟩)
    case rest =>
    obtain ⟨rfl, rfl⟩ := hcut
    by_cases hk : gk = 0
    · rw [show decide (gk ≠ 0) = false from by simpa using hk]
      obtain rfl : j = m := by omega
      go_wp2
      go_end0
      exact ⟨rfl, hfr, F', Hw1.out, hF⟩
    · rw [show decide (gk ≠ 0) = true from by simpa using hk]
      obtain ⟨k, rfl⟩ : ∃ k, gk = k + 1 := ⟨gk - 1, by omega⟩
      have hd1 : ((x : Int) / 2 ^ j) = ((x / 2 ^ j : Nat) : Int) := by rw [cast_pow, ← Int.natCast_ediv]
      have hd : x / 2 ^ j < 4294967296 := Nat.lt_of_le_of_lt (Nat.div_le_self _ _) hx'
      have hd2 : (0 : Int) ≤ (x : Int) / 2 ^ j := by rw [hd1]; exact Int.natCast_nonneg _
      have hd3 : (x : Int) / 2 ^ j < 4294967296 := by rw [hd1]; omega
      have Hd1 := Lib.hid hd1
      clear hd1
      have hL2 : L + j ≤ 562949953421312 := by omega
      go_wp2_with (go_at_call 28; refine (wone_any p F' _ (L + j) _ _ Hw1.out hd2 hd3 hL2).mono ?_; rintro e w' ⟨rfl, fr1, F1, hw2, hF1⟩)
      go_roundg k
      case measure => omega
      case rel =>
        refine ⟨j + 1, F1, by omega, int_eq (by omega), ?_, hfr.step fr1 hF, fun y hy => ?_⟩
        · have e3 : ((x : Int) / 2 ^ j).toNat = x / 2 ^ j := by rw [Hd1.out, Int.toNat_natCast]
          rw [e3, put_more] at hw2
          exact hw2
        · rcases hF1 y hy with h | h
          · exact hF y h
          · right; have := hfr.size; omega

set_option maxHeartbeats 1000000 in
theorem wcode_any (p : Nat) (F : List Nat) (M L : Nat) (x n : Int) (w : World) (hW : Wf w p F M L) (hx0 : 0 ≤ x) (hx : x < 4294967296) (hL : L ≤ 562949953421200) :
    Calls Try.prog 25 #[.pointer (some ⟨p, 0, none⟩), .int .u32 x, .int .i64 n] w (WfPost p F w (M + 2 ^ L * revTo x.toNat (min n.toNat 32) (min n.toNat 32)) (L + min n.toNat 32)) := by
  obtain ⟨x, rfl⟩ := Int.eq_ofNat_of_zero_le hx0
  rw [Int.toNat_natCast]
  obtain ⟨m, hm, hm32⟩ : ∃ m : Nat, m = min n.toNat 32 ∧ m ≤ 32 := ⟨_, rfl, by omega⟩
  have Hm := Lib.hid hm
  rw [← hm]
  clear hm
  have hx' : x < 4294967296 := by omega
  clear hx0 hx
  have HW := Lib.hid hW
  clear hW
  go_enter Try.func25, Try.ntmps25
  go_upto_region 0 with fail
  go_cut [6] (fun s6 wc => s6 = .int .i64 ((m : Int) - 1) ∧ w = wc)
  case first =>
    go_wp2
    all_goals (go_meet; exact ⟨int_eq (by have := Hm.out; omega), rfl⟩)
  case rest =>
  obtain ⟨rfl, rfl⟩ := hcut
  go_wp2
  go_loopg [6] m (fun k s6 wr => ∃ j F', j + k = m ∧ s6 = .int .i64 ((k : Int) - 1) ∧ Wf wr p F' (M + 2 ^ L * revTo x m j) (L + j) ∧ Fr F w wr ∧ ∀ y ∈ F', y ∈ F ∨ w.heap.size ≤ y)
  case atStart => exact ⟨0, F, by omega, rfl, by simpa [revTo] using HW.out, Fr.refl _ _, fun y hy => .inl hy⟩
  case round =>
    obtain ⟨j, F', hjk, rfl, hw1, hfr, hF⟩ := hrel
    have Hw1 := Lib.hid hw1
    clear hw1
    by_cases hk : gk = 0
    · subst hk
      obtain rfl : j = m := by omega
      go_wp2
      go_end0
      exact ⟨rfl, hfr, F', Hw1.out, hF⟩
    · obtain ⟨k, rfl⟩ : ∃ k, gk = k + 1 := ⟨gk - 1, by omega⟩
      have hk0 : (0 : Int) ≤ (((k + 1 : Nat) : Int) - 1) := by omega
      have hd : x / 2 ^ k < 4294967296 := Nat.lt_of_le_of_lt (Nat.div_le_self _ _) hx'
      have hd1 : ((x : Int) / 2 ^ k) = ((x / 2 ^ k : Nat) : Int) := by rw [cast_pow, ← Int.natCast_ediv]
      have hd2 : (0 : Int) ≤ (x : Int) / 2 ^ k := by rw [hd1]; exact Int.natCast_nonneg _
      have hd3 : (x : Int) / 2 ^ k < 4294967296 := by rw [hd1]; omega
      have Hd1 := Lib.hid hd1
      clear hd1
      have hL2 : L + j ≤ 562949953421312 := by omega
      go_wp2_with (go_at_call 28; refine (wone_any p F' _ (L + j) _ _ Hw1.out hd2 hd3 hL2).mono ?_; rintro e w' ⟨rfl, fr1, F1, hw2, hF1⟩)
      go_roundg k
      case measure => omega
      case rel =>
        have e1 : j = m - 1 - k := by omega
        have hm1 : m - 1 - j = k := by omega
        refine ⟨j + 1, F1, by omega, int_eq (by omega), ?_, hfr.step fr1 hF, fun y hy => ?_⟩
        · have e3 : ((x : Int) / 2 ^ k).toNat = x / 2 ^ k := by rw [Hd1.out, Int.toNat_natCast]
          have e2 := code_more M L x m j
          rw [hm1] at e2
          rw [e3, e2] at hw2
          exact hw2
        · rcases hF1 y hy with h | h
          · exact hF y h
          · right; have := hfr.size; omega

set_option maxHeartbeats 400000 in
theorem walig_any (p : Nat) (F : List Nat) (M L : Nat) (w : World) (hW : Wf w p F M L) (hL : L ≤ 562949953421200) :
    Calls Try.prog 24 #[.pointer (some ⟨p, 0, none⟩)] w (WfPost p F w M ((L + 7) / 8 * 8)) := by
  obtain ⟨v, ⟨hr, hown, hpb, hM⟩, rfl⟩ := hW
  obtain ⟨ao, cap, rfl, _, _, _⟩ := owns_form hown
  have c0 := cell_of hr 0
  have c1 := cell_of hr 1
  have f1 := frozen_of hr 1
  simp only [List.getElem?_toArray, List.getElem?_cons_zero, List.getElem?_cons_succ] at c0 c1
  obtain ⟨q, hq, hq2⟩ : ∃ q, (L + 7) / 8 = q ∧ L ≤ q * 8 := ⟨_, rfl, by omega⟩
  rw [hq] at c0 hr hown hpb ⊢
  have hq3 : q ≤ 70368744177664 := by omega
  have Hr := Lib.hid hr
  have Ho := Lib.hid hown
  clear hr hown hq
  go_enter Try.func24, Try.ntmps24
  go_wp2
  go_end0
  have e8 : (q * 8 + 7) / 8 = q := by omega
  refine ⟨rfl, (Fr.refl _ w).setCell (by simp) _, _, ⟨.slice ao q cap, ⟨(setCell_of Hr.out _).trans ?_, by rw [e8]; exact ownsRow_setCell_other Ho.out hpb _, hpb, lt_up hM hq2⟩, rfl⟩, fun y hy => .inl hy⟩
  rw [show (8 * (q : Int)) = ((q * 8 : Nat) : Int) from by omega]
  rfl

set_option maxHeartbeats 1000000 in
theorem wraw_any (p : Nat) (F : List Nat) (M L : Nat) (ao : Option Addr) (cap : Nat) (bs : List UInt8) (w : World) (hW : Wf w p F M L) (hcs : Cs w ao (bs.map bv)) (hcap : bs.length ≤ cap) (hnone : ao = none → cap = 0)
    (hap : bs ≠ [] → ∀ x ∈ blk ao, x ∉ F) (hL : L + 8 * bs.length ≤ 562949953421200) :
    Calls Try.prog 22 #[.pointer (some ⟨p, 0, none⟩), .slice ao bs.length cap] w (WfPost p F w (M + 2 ^ ((L + 7) / 8 * 8) * num bs) ((L + 7) / 8 * 8 + 8 * bs.length)) := by
  have hL1 : L ≤ 562949953421200 := by omega
  have hal := walig_any p F M L w hW hL1
  obtain ⟨q, hq, hqL⟩ : ∃ q, (L + 7) / 8 = q ∧ 8 * q ≤ L + 7 := ⟨_, rfl, by omega⟩
  rw [hq] at hal ⊢
  have Hal := Lib.hid hal
  clear hal hq
  go_enter Try.func22, Try.ntmps22
  go_upto_region 0 with fail
  go_cut [] (fun wc => Fr F w wc ∧ ∃ F', Wf wc p F' M (q * 8) ∧ ∀ y ∈ F', y ∈ F ∨ w.heap.size ≤ y)
  case first =>
    go_wp2_with (go_at_call 24; refine Hal.out.mono ?_; rintro e w' ⟨rfl, fr1, hw1⟩)
    go_meet
    exact ⟨fr1, hw1⟩
  case rest =>
  obtain ⟨fr1, F', hW1, hF'⟩ := hcut
  obtain ⟨v, ⟨hr, hown, hpb, hM⟩, rfl⟩ := hW1
  rw [show (q * 8 + 7) / 8 = q from by omega] at hown
  have hM8 : M < 2 ^ (8 * q) := by rwa [Nat.mul_comm]
  have hcs1 : Cs wc ao (bs.map bv) := by
    by_cases hbs : bs = []
    · exact .inl (by rw [hbs]; rfl)
    · exact hcs.fr fr1 (hap hbs)
  have c0 := cell_of hr 0
  have f0 := frozen_of hr 0
  simp only [List.getElem?_toArray, List.getElem?_cons_zero] at c0
  have Hr := Lib.hid hr
  clear hr
  go_upto_region 1 with fail
  go_cut [] (fun wz => ∃ ao1 cap1, wz.heap[p]? = some (.cells #[.slice ao1 (q + bs.length) cap1, .int .i64 ((q * 8 : Nat) : Int)] 51 (0, 0)) ∧ wz.ownsRow 0 5 1 (.slice ao1 (q + bs.length) cap1) (q + bs.length) ((dig q M ++ bs).map bv) ∧
      (Value.slice ao1 (q + bs.length) cap1).ownBlock ≠ some p ∧ Fr F w wz ∧ ∀ y ∈ blk ao1, y ∈ F ∨ w.heap.size ≤ y)
  case first =>
    go_wp2_with (refine wpList_append sliceU8 rfl _ _ rfl v q _ v.ownBlock.toList rfl rfl hown ao bs.length cap (bs.map bv) rfl hcap hnone hcs1 (by simp) (bv_one bs) (by omega) (by unfold maxLen; omega) ?_; intro ao1 cap1 w1 A1; have hb1 := A1.fr.blk Hr.out (by simpa using hpb); have d1 := cell_of hb1 0; have g1 := frozen_of hb1 0; simp only [List.getElem?_toArray, List.getElem?_cons_zero] at d1)
    go_meet
    have hne : (Value.slice ao1 (q + bs.length) cap1).ownBlock ≠ some p := by
      intro h
      have h2 := lt_of_block Hr.out
      rcases A1.at_ p (by rw [← own_blk ao1 (q + bs.length) cap1, h]; simp) with h1 | h1
      · exact hpb (by simpa using h1)
      · omega
    have fr2 : Fr F w w1 := fr1.step A1.fr (fun k hk => hF' k (by simp [Option.mem_toList.1 hk]))
    refine ⟨ao1, cap1, (setCell_of hb1 _).trans rfl, ?_, hne, fr2.setCell (by have := hF' p (by simp); simpa using this) _, fun y hy => ?_⟩
    · rw [List.map_append]
      exact ownsRow_setCell_other A1.own hne _
    · rcases A1.at_ y hy with h | h
      · exact hF' y (by simp [Option.mem_toList.1 h])
      · right
        have := fr1.size
        omega
  case rest =>
  obtain ⟨ao1, cap1, hr1, own1, hne, fr2, hb1⟩ := hcut
  clear c0 f0 Hr
  have c0 := cell_of hr1 0
  have c1 := cell_of hr1 1
  have f1 := frozen_of hr1 1
  simp only [List.getElem?_toArray, List.getElem?_cons_zero, List.getElem?_cons_succ] at c0 c1
  have Hr1 := Lib.hid hr1
  have hpF := hF' p (by simp)
  clear hr1
  go_wp2
  go_end0
  have e8 : (q * 8 + 8 * bs.length + 7) / 8 = q + bs.length := by omega
  refine ⟨rfl, fr2.setCell hpF _, _, ⟨.slice ao1 (q + bs.length) cap1, ⟨(setCell_of Hr1.out _).trans ?_, ?_, hne, ?_⟩, rfl⟩, fun y hy => ?_⟩
  · rw [show (8 * ((q : Int) + (bs.length : Int))) = ((q * 8 + 8 * bs.length : Nat) : Int) from by omega]
    rfl
  · rw [e8, show q * 8 = 8 * q from by omega, raw_dig q M bs hM8]
    exact ownsRow_setCell_other own1 hne _
  · rw [show q * 8 = 8 * q from by omega]
    exact raw_lt q M bs hM8
  · rcases List.mem_cons.1 hy with rfl | hy
    · exact hpF
    · rw [own_blk] at hy
      exact hb1 y hy
end Go.Proofs.Ytcfhebhbgllphaa.bits
