/-
  (*bits.Writer): Code, Align, Raw, Bytes.
-/
import Derived.Test.YtolkoidbkaidkaaRead
namespace Go.Proofs.Ytolkoidbkaidkaa.bits
open Go Go.RowKit Go.Proofs.Ytolkoidbkaidkaa.lib Go.Proofs.Ytolkoidbkaidkaa.bm

/-- What a call that writes into a writer leaves. -/
def WrPost (p : Nat) (F : List Nat) (w : World) (M L : Nat) (e : Ending) (w' : World) : Prop :=
  e = .returned (.tuple #[]) ∧ Fr F w w' ∧ ∃ F', Wr w' p F' M L ∧ ∀ y ∈ F', y ∈ F ∨ w.heap.size ≤ y
theorem put_any (p : Nat) (F : List Nat) (M L : Nat) (x : Nat) (n : Int) (w : World) (hW : Wr w p F M L) (hx : x < 4294967296) (hL : L ≤ 562949953421312) :
    Calls Try.prog 95 #[.pointer (some ⟨p, 0, none⟩), .int .u32 x, .int .i64 n] w (WrPost p F w (M + 2 ^ L * (x % 2 ^ (min n.toNat 32))) (L + min n.toNat 32)) :=
  (put_ok p F M L x n w hW hx hL).mono fun _ _ h => h
theorem put_int (p : Nat) (F : List Nat) (M L : Nat) (x n : Int) (w : World) (hW : Wr w p F M L) (hx0 : 0 ≤ x) (hx : x < 4294967296) (hL : L ≤ 562949953421312) :
    Calls Try.prog 95 #[.pointer (some ⟨p, 0, none⟩), .int .u32 x, .int .i64 n] w (WrPost p F w (M + 2 ^ L * (x.toNat % 2 ^ (min n.toNat 32))) (L + min n.toNat 32)) := by
  obtain ⟨x, rfl⟩ := Int.eq_ofNat_of_zero_le hx0
  exact put_any p F M L x n w hW (by omega) hL
theorem wr_fr {w w' : World} {p : Nat} {F S : List Nat} {M L : Nat} (h : Wr w p F M L) (hf : Fr S w w') (hn : ∀ x ∈ F, x ∉ S) : Wr w' p F M L := by
  obtain ⟨v, ⟨hr, hown, hpb, hM⟩, rfl⟩ := h
  exact ⟨v, ⟨hf.blk hr (hn p (by simp)), ownsRow_fr hown hf (fun k hk => hn k (by simp [hk])), hpb, hM⟩, rfl⟩
theorem wr_lt {w : World} {p : Nat} {F : List Nat} {M L : Nat} (h : Wr w p F M L) : ∀ x ∈ F, x < w.heap.size := by
  obtain ⟨v, ⟨hr, hown, hpb, hM⟩, rfl⟩ := h
  intro x hx
  rcases List.mem_cons.1 hx with rfl | hx
  · exact lt_of_block hr
  · exact owns_lt hown (by simpa using hx)
theorem wr_M {w : World} {p : Nat} {F : List Nat} {M L : Nat} (h : Wr w p F M L) : M < 2 ^ L := by
  obtain ⟨v, ⟨hr, hown, hpb, hM⟩, rfl⟩ := h
  exact hM

set_option maxHeartbeats 1000000 in
theorem code_any (p : Nat) (F : List Nat) (M L : Nat) (x : Nat) (n : Int) (w : World) (hW : Wr w p F M L) (hx : x < 4294967296) (hL : L ≤ 562949953421200) :
    Calls Try.prog 94 #[.pointer (some ⟨p, 0, none⟩), .int .u32 x, .int .i64 n] w (WrPost p F w (M + 2 ^ L * revTo x (min n.toNat 32) (min n.toNat 32)) (L + min n.toNat 32)) := by
  obtain ⟨m, hm, hm32⟩ : ∃ m : Nat, m = min n.toNat 32 ∧ m ≤ 32 := ⟨_, rfl, by omega⟩
  have Hm := Lib.hid hm
  rw [← hm]
  clear hm
  go_enter Try.func94, Try.ntmps94
  go_upto_region 0 with fail
  go_cut [6] (fun s6 wc => s6 = .int .i64 ((m : Int) - 1) ∧ w = wc)
  case first =>
    go_wp2
    all_goals (go_meet; exact ⟨int_eq (by have := Hm.out; omega), rfl⟩)
  case rest =>
  obtain ⟨rfl, rfl⟩ := hcut
  have HW := Lib.hid hW
  clear hW
  go_wp2
  go_loopg [6] m (fun k s6 wr => ∃ j F', j + k = m ∧ s6 = .int .i64 ((k : Int) - 1) ∧ Wr wr p F' (M + 2 ^ L * revTo x m j) (L + j) ∧ Fr F w wr ∧ ∀ y ∈ F', y ∈ F ∨ w.heap.size ≤ y)
  case atStart => exact ⟨0, F, by omega, rfl, by simpa [revTo] using HW.out, Fr.refl _ _, fun y hy => .inl hy⟩
  case round =>
    obtain ⟨j, F', hjk, rfl, hw1, hfr, hF⟩ := hrel
    by_cases hk : gk = 0
    · subst hk
      obtain rfl : j = m := by omega
      go_wp2
      go_end0
      exact ⟨rfl, hfr, F', hw1, hF⟩
    · obtain ⟨k, rfl⟩ : ∃ k, gk = k + 1 := ⟨gk - 1, by omega⟩
      have hk0 : (0 : Int) ≤ (((k + 1 : Nat) : Int) - 1) := by omega
      have hd : x / 2 ^ k < 4294967296 := Nat.lt_of_le_of_lt (Nat.div_le_self _ _) hx
      have hd1 : ((x : Int) / 2 ^ k) = ((x / 2 ^ k : Nat) : Int) := by rw [cast_pow, ← Int.natCast_ediv]
      have hd2 : (0 : Int) ≤ (x : Int) / 2 ^ k := by rw [hd1]; exact Int.natCast_nonneg _
      have hd3 : (x : Int) / 2 ^ k < 4294967296 := by rw [hd1]; omega
      have Hd1 := Lib.hid hd1
      clear hd1
      have hL2 : L + j ≤ 562949953421312 := by omega
      go_wp2_with (go_at_call 95; refine (put_int p F' _ (L + j) _ _ _ hw1 hd2 hd3 hL2).mono ?_; rintro e w' ⟨rfl, fr1, F1, hw2, hF1⟩)
      go_roundg k
      case measure => omega
      case rel =>
        have e1 : j = m - 1 - k := by omega
        have hm1 : m - 1 - j = k := by omega
        refine ⟨j + 1, F1, by omega, int_eq (by omega), ?_, hfr.step fr1 hF, fun y hy => ?_⟩
        · have e3 : ((x : Int) / 2 ^ k).toNat = x / 2 ^ k := by rw [Hd1.out, Int.toNat_natCast]
          have hw3 : Wr w' p F1 (M + 2 ^ L * revTo x m j + 2 ^ (L + j) * (x / 2 ^ k % 2)) (L + j + 1) := by simpa [e3] using hw2
          have e2 := code_more M L x m j
          rw [hm1] at e2
          rw [← e2]
          exact hw3
        · rcases hF1 y hy with h | h
          · exact hF y h
          · right; have := hfr.size; omega

set_option maxHeartbeats 400000 in
theorem walign_any (p : Nat) (F : List Nat) (M L : Nat) (w : World) (hW : Wr w p F M L) (hL : L ≤ 562949953421200) :
    Calls Try.prog 100 #[.pointer (some ⟨p, 0, none⟩)] w (WrPost p F w M ((L + 7) / 8 * 8)) := by
  have HW := Lib.hid hW
  obtain ⟨v, ⟨hr, hown, hpb, hM⟩, rfl⟩ := hW
  have c2 := cell_of hr 2
  simp only [List.getElem?_toArray, List.getElem?_cons_zero, List.getElem?_cons_succ] at c2
  clear hr hown
  by_cases h0 : L % 8 = 0
  · have h1 : decide ((0 : Int) < ((L % 8 : Nat) : Int)) = false := by simp; omega
    go_enter Try.func100, Try.ntmps100
    go_wp2
    go_end0
    refine ⟨rfl, Fr.refl _ _, _, ?_, fun y hy => .inl hy⟩
    rw [show (L + 7) / 8 * 8 = L from by omega]
    exact HW.out
  · have h1 : decide ((0 : Int) < ((L % 8 : Nat) : Int)) = true := by simp; omega
    have hL2 : L ≤ 562949953421312 := by omega
    go_enter Try.func100, Try.ntmps100
    go_wp2_with (go_at_call 95; refine (put_int p _ M L _ _ _ HW.out (by omega) (by omega) hL2).mono ?_; rintro e w' ⟨rfl, fr1, F1, hw2, hF1⟩)
    go_end0
    refine ⟨rfl, fr1, F1, ?_, hF1⟩
    have e1 : (8 - (L : Int) % 8).toNat = 8 - L % 8 := by omega
    have e2 : L + min (8 - L % 8) 32 = (L + 7) / 8 * 8 := by omega
    rw [← e2]
    simpa [e1] using hw2

set_option maxHeartbeats 1000000 in
theorem raw_any (p : Nat) (F : List Nat) (M L : Nat) (ao : Option Addr) (cap : Nat) (bs : List UInt8) (w : World) (hW : Wr w p F M L) (hcs : Cs w ao (bs.map bv)) (hcap : bs.length ≤ cap) (hnone : ao = none → cap = 0)
    (hap : bs ≠ [] → ∀ x ∈ blk ao, x ∉ F) (hL : L + 8 * bs.length ≤ 562949953421200) :
    Calls Try.prog 99 #[.pointer (some ⟨p, 0, none⟩), .slice ao bs.length cap] w (WrPost p F w (M + 2 ^ ((L + 7) / 8 * 8) * num bs) ((L + 7) / 8 * 8 + 8 * bs.length)) := by
  have hL1 : L ≤ 562949953421200 := by omega
  have hal := walign_any p F M L w hW hL1
  obtain ⟨q, hq, hqL⟩ : ∃ q, (L + 7) / 8 = q ∧ 8 * q ≤ L + 7 := ⟨_, rfl, by omega⟩
  rw [hq] at hal ⊢
  have Hal := Lib.hid hal
  clear hal hq
  go_enter Try.func99, Try.ntmps99
  go_upto_region 0 with fail
  go_cut [] (fun wc => Fr F w wc ∧ ∃ F', Wr wc p F' M (q * 8) ∧ ∀ y ∈ F', y ∈ F ∨ w.heap.size ≤ y)
  case first =>
    go_wp2_with (go_at_call 100; refine Hal.out.mono ?_; rintro e w' ⟨rfl, fr1, hw1⟩)
    go_meet
    exact ⟨fr1, hw1⟩
  case rest =>
  obtain ⟨fr1, F', hW1, hF'⟩ := hcut
  obtain ⟨v, ⟨hr, hown, hpb, hM⟩, rfl⟩ := hW1
  rw [show q * 8 / 8 = q from by omega] at hown hr
  rw [show q * 8 % 8 = 0 from by omega] at hr
  have hM8 : M < 2 ^ (8 * q) := by rwa [Nat.mul_comm]
  have hcs1 : Cs wc ao (bs.map bv) := by
    by_cases hbs : bs = []
    · exact .inl (by rw [hbs]; rfl)
    · exact hcs.fr fr1 (hap hbs)
  have c0 := cell_of hr 0
  have f0 := frozen_of hr 0
  simp only [List.getElem?_toArray, List.getElem?_cons_zero] at c0
  have Hr := Lib.hid hr
  clear hr
  go_wp2_with (refine wpList_append sliceU8 rfl _ _ rfl v q _ v.ownBlock.toList rfl rfl hown ao bs.length cap (bs.map bv) rfl hcap hnone hcs1 (by simp) (bv_one bs) (by omega) (by unfold maxLen; omega) ?_; intro ao1 cap1 w1 A1; have hb1 := A1.fr.blk Hr.out (by simpa using hpb); have d1 := cell_of hb1 0; have g1 := frozen_of hb1 0; simp only [List.getElem?_toArray, List.getElem?_cons_zero] at d1)
  go_end0
  have hne : (Value.slice ao1 (q + bs.length) cap1).ownBlock ≠ some p := by
    intro h
    have h2 := lt_of_block Hr.out
    rcases A1.at_ p (by rw [← own_blk ao1 (q + bs.length) cap1, h]; simp) with h1 | h1
    · exact hpb (by simpa using h1)
    · omega
  have fr2 : Fr F w w1 := fr1.step A1.fr (fun k hk => hF' k (by simp [Option.mem_toList.1 hk]))
  refine ⟨rfl, ?_, _, ⟨.slice ao1 (q + bs.length) cap1, ⟨?_, ?_, hne, ?_⟩, rfl⟩, ?_⟩
  · exact fr2.setCell (by have := hF' p (by simp); simpa using this) _
  · refine (setCell_of hb1 _).trans ?_
    have hd := raw_lt q M bs hM8
    rw [show q * 8 + 8 * bs.length = 8 * (q + bs.length) from by omega, Nat.mul_div_cancel_left _ (by omega : 0 < 8), Nat.mul_mod_right, show q * 8 = 8 * q from by omega,
      Nat.div_eq_of_lt hM8, Nat.div_eq_of_lt (by rw [Nat.mul_add]; exact hd)]
    rfl
  · rw [show q * 8 + 8 * bs.length = 8 * (q + bs.length) from by omega, Nat.mul_div_cancel_left _ (by omega : 0 < 8), show q * 8 = 8 * q from by omega, raw_dig q M bs hM8, List.map_append]
    exact ownsRow_setCell_other A1.own hne _
  · rw [show q * 8 = 8 * q from by omega]
    exact raw_lt q M bs hM8
  · intro y hy
    rcases List.mem_cons.1 hy with rfl | hy
    · exact hF' _ (by simp)
    · rw [own_blk] at hy
      rcases A1.at_ y hy with h | h
      · exact hF' y (by simp [Option.mem_toList.1 h])
      · right
        have := fr1.size
        omega

def BytesPost (M L : Nat) (w : World) (e : Ending) (w' : World) : Prop :=
  ∃ ao, e = .returned (.slice ao ((L + 7) / 8) ((L + 7) / 8)) ∧ Fresh w' w.heap.size 5 ao ((dig ((L + 7) / 8) M).map bv) ∧ (ao = none → (L + 7) / 8 = 0) ∧ (∀ x ∈ blk ao, w.heap.size ≤ x) ∧ Fr [] w w'
set_option maxHeartbeats 1000000 in
theorem wbytes_any (p : Nat) (F : List Nat) (M L : Nat) (w : World) (hW : Wr w p F M L) (hL : L ≤ 562949953421200) :
    Calls Try.prog 24 #[.pointer (some ⟨p, 0, none⟩)] w (BytesPost M L w) := by
  obtain ⟨v, ⟨hr, hown, hpb, hM⟩, rfl⟩ := hW
  obtain ⟨ao, cap, rfl, hc1, hc2, hc3⟩ := owns_form hown
  have hcs := cs_of_owns hown
  obtain ⟨q, hq⟩ : ∃ q, L / 8 = q := ⟨_, rfl⟩
  rw [hq] at hr hown hcs hpb hc1
  have hlen : ((dig q M).map bv).length = q * 1 := by simp [dig_length]
  have c0 := cell_of hr 0
  have c1 := cell_of hr 1
  have c2 := cell_of hr 2
  simp only [List.getElem?_toArray, List.getElem?_cons_zero, List.getElem?_cons_succ] at c0 c1 c2
  have Hr := Lib.hid hr
  clear hr
  have Hq := Lib.hid hq
  have hq8 : 8 * q ≤ L := by omega
  clear hq
  go_enter Try.func24, Try.ntmps24
  go_upto_region 1 with fail
  go_cut [3] (fun s3 wc => ∃ ao1 cap1, s3 = .slice ao1 q cap1 ∧ Appended w wc 5 1 [] ao1 q cap1 ((dig q M).map bv))
  case first =>
    go_wp2_with (refine wpList_append sliceU8 rfl _ _ rfl (.slice none 0 0) 0 [] [] rfl rfl (World.ownsRow_nil _ _ _ _) ao q cap _ rfl hc1 hc3 hcs hlen (bv_one _) (by omega) (by unfold maxLen; omega) ?_; intro ao1 cap1 w1 A1; simp only [Nat.zero_add, List.nil_append] at A1)
    go_meet
    exact ⟨ao1, cap1, rfl, A1⟩
  case rest =>
  obtain ⟨ao1, cap1, rfl, A1⟩ := hcut
  have hb1 := A1.fr.blk Hr.out (by simp)
  have d1 := cell_of hb1 1
  have d2 := cell_of hb1 2
  simp only [List.getElem?_toArray, List.getElem?_cons_zero, List.getElem?_cons_succ] at d1 d2
  have Hb1 := Lib.hid hb1
  clear hb1
  by_cases h0 : L % 8 = 0
  · have h1 : decide ((0 : Int) < ((L % 8 : Nat) : Int)) = false := by simp; omega
    have hle := A1.le
    go_wp2
    all_goals go_ret
    all_goals
      have e : (L + 7) / 8 = q := by have := Hq.out; omega
      have hb : ∀ x ∈ blk ao1, w.heap.size ≤ x := fun x hx => by have := A1.at_ x hx; simp at this; omega
      unfold BytesPost
      rw [e]
      exact ⟨ao1, by first | rfl | simp, fresh_of_cells A1.own hb, fun h => by have := A1.nil h; omega, hb, A1.fr⟩
  · have h1 : decide ((0 : Int) < ((L % 8 : Nat) : Int)) = true := by simp; omega
    have hbv : Value.int .u8 (IntKind.u8.wrap ((M / 2 ^ (8 * q) : Nat) : Int)) = bv (UInt8.ofNat (M / 2 ^ (8 * q))) := bv_ofNat _
    obtain ⟨W, hW⟩ : ∃ W : Nat, W = M / 2 ^ (8 * q) := ⟨_, rfl⟩
    rw [← hW] at d1 hbv
    rw [IntKind.wrap_u8'] at hbv
    have HW := Lib.hid hW
    have Hbv := Lib.hid hbv
    clear hW hbv
    have hb : ∀ x ∈ blk ao1, w.heap.size ≤ x := fun x hx => by have := A1.at_ x hx; simp at this; omega
    have Hb := Lib.hid hb
    clear hb c1
    go_upto_region 3 with fail
    go_cut [3] (fun s3 wz => ∃ ao2 cap2, s3 = .slice ao2 (q + 1) cap2 ∧ wz.ownsRow 0 5 1 (.slice ao2 (q + 1) cap2) (q + 1) ((dig (q + 1) M).map bv) ∧ (∀ x ∈ blk ao2, w.heap.size ≤ x) ∧ Fr [] w wz ∧ q + 1 ≤ cap2)
    case first =>
      go_wp2_with (refine wpList_append sliceU8 rfl _ _ rfl (.slice ao1 q cap1) q _ (blk ao1) rfl (own_blk _ _ _) (A1.own.alloc _) _ 1 1 _ rfl (by decide) (by simp) (by exact cs_one _ _ _ _ (alloc_at _ _)) (by rfl) (by simp [Value.oneCell']) (by omega) (by unfold maxLen; omega) ?_; intro ao2 cap2 w2 A2)
      go_meet
      have hsz := A1.fr.size
      refine ⟨ao2, cap2, rfl, ?_, fun x hx => ?_, ((A1.fr.alloc _).step A2.fr fun x hx => ?_), A2.le⟩
      · have h := A2.own
        rw [Hbv.out, HW.out] at h
        rw [dig_snoc, List.map_append]
        exact h
      · rcases A2.at_ x hx with h | h
        · exact Hb.out x h
        · simp at h; omega
      · right; exact Hb.out x hx
    case rest =>
    obtain ⟨ao2, cap2, rfl, own2, hb2, fr2, hle⟩ := hcut
    have Hb2 := Lib.hid hb2
    clear hb2
    go_wp2
    all_goals go_ret
    all_goals
      have e : (L + 7) / 8 = q + 1 := by have := Hq.out; omega
      unfold BytesPost
      rw [e]
      refine ⟨ao2, by first | rfl | simp, fresh_of_cells own2 Hb2.out, fun h => ?_, Hb2.out, fr2⟩
      rcases own2.2 with ⟨h3, _⟩ | ⟨g, cap, cur, h3, _⟩
      · simp at h3
      · subst h; simp at h3
end Go.Proofs.Ytolkoidbkaidkaa.bits
