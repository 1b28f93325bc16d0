/-
  The document's own reader of bits (stemmaref5.Bits): it does what bits.Reader does.
-/
import Derived.Test.YtcfhebhbgllphaaWriter
import Derived.Test.YtcfhebhbgllphaaMix
namespace Go.Proofs.Ytcfhebhbgllphaa.bits
open Go Go.RowKit Go.Proofs.Ytcfhebhbgllphaa.lib Go.Proofs.Ytcfhebhbgllphaa.bm

abbrev Rf (w : World) (p : Nat) (F : List Nat) (bs : List UInt8) (at_ : Nat) : Prop := RdT 43 w p F bs at_

set_option maxHeartbeats 400000 in
theorem left_any (p : Nat) (F : List Nat) (bs : List UInt8) (at_ : Nat) (w : World) (hR : Rf w p F bs at_) :
    Calls Try.prog 26 #[.pointer (some ⟨p, 0, none⟩)] w fun e w' => e = .returned (.int .i64 (8 * bs.length - at_)) ∧ ∃ n, w' = w.drewN n := by
  obtain ⟨ao, cap, hr, hcs, rfl, hpb, hlen, hat, hcap, hmax⟩ := hR
  have c0 := cell_of hr 0
  have c1 := cell_of hr 1
  simp only [List.getElem?_toArray, List.getElem?_cons_zero, List.getElem?_cons_succ] at c0 c1
  clear hr
  go_enter Try.func26, Try.ntmps26
  go_wp2
  go_quiet (fail)
  go_wp2
  go_ret
  exact ⟨rfl, _, rfl⟩

set_option maxHeartbeats 400000 in
theorem rused_any (p : Nat) (F : List Nat) (bs : List UInt8) (at_ : Nat) (w : World) (hR : Rf w p F bs at_) :
    Calls Try.prog 19 #[.pointer (some ⟨p, 0, none⟩)] w fun e w' => e = .returned (.int .i64 ((at_ + 7) / 8 : Nat)) ∧ w = w' := by
  obtain ⟨ao, cap, hr, hcs, rfl, hpb, hlen, hat, hcap, hmax⟩ := hR
  have c1 := cell_of hr 1
  simp only [List.getElem?_toArray, List.getElem?_cons_zero, List.getElem?_cons_succ] at c1
  clear hr
  go_enter Try.func19, Try.ntmps19
  go_wp2
  go_ret
  exact ⟨ret_eq (int_eq (by omega)), rfl⟩

set_option maxHeartbeats 400000 in
theorem ralign_any (p : Nat) (F : List Nat) (bs : List UInt8) (at_ : Nat) (w : World) (hR : Rf w p F bs at_) :
    Calls Try.prog 18 #[.pointer (some ⟨p, 0, none⟩)] w fun e w' => e = .returned (.tuple #[]) ∧ Rf w' p F bs ((at_ + 7) / 8 * 8) ∧ Fr [p] w w' := by
  have hR' := Lib.hid hR
  obtain ⟨ao, cap, hr, hcs, rfl, hpb, hlen, hat, hcap, hmax⟩ := hR
  have c1 := cell_of hr 1
  have f1 := frozen_of hr 1
  simp only [List.getElem?_toArray, List.getElem?_cons_zero, List.getElem?_cons_succ] at c1
  clear hr
  go_enter Try.func18, Try.ntmps18
  go_wp2
  go_end0
  refine ⟨rfl, rd_at hR'.out ((Fr.refl _ w).setCell (by simp) _) (fun ao cap h => (setCell_of h _).trans ?_) (by omega), (Fr.refl _ w).setCell (by simp) _⟩
  have e : ((at_ : Int) + 7) / 8 * 8 = ((at_ + 7) / 8 * 8 : Nat) := by omega
  rw [e]
  rfl

theorem one_bit (bs : List UInt8) (a bn : Nat) (hlt : a / 8 < bs.length) (hb : (bs.getD (a / 8) 0).toNat = bn) :
    bits .and .u32 ((bn : Int) / 2 ^ (a % 8) % 4294967296) 1 = ((num bs / 2 ^ a % 2 : Nat) : Int) := by
  have hbn : bn < 256 := by rw [← hb]; exact UInt8.toNat_lt _
  have hbd : bn / 2 ^ (a % 8) < 4294967296 := Nat.lt_of_le_of_lt (Nat.div_le_self _ _) (by omega)
  have hc := chunk bs a 1 hlt (by omega)
  rw [hb] at hc
  have h := u32_and_nat (bn / 2 ^ (a % 8)) 1 hbd (by decide)
  rw [Nat.and_one_is_mod] at h
  have hm : ((bn / 2 ^ (a % 8) : Nat) : Int) % 4294967296 = ((bn / 2 ^ (a % 8) : Nat) : Int) := Int.emod_eq_of_lt (Int.natCast_nonneg _) (Int.ofNat_lt.2 hbd)
  rw [cast_pow, ← Int.natCast_ediv, hm]
  rw [show (2 : Nat) ^ 1 = 2 from rfl] at hc
  rw [hc]
  exact h

set_option maxHeartbeats 1000000 in
theorem rone_any (p : Nat) (F : List Nat) (bs : List UInt8) (at_ : Nat) (w : World) (hR : Rf w p F bs at_) (h8 : at_ < 8 * bs.length) :
    Calls Try.prog 27 #[.pointer (some ⟨p, 0, none⟩)] w fun e w' => e = .returned (.int .u32 (num bs / 2 ^ at_ % 2 : Nat)) ∧ Rf w' p F bs (at_ + 1) ∧ Fr [p] w w' := by
  obtain ⟨ao, cap, hr, hcs, rfl, hpb, hlen, hat, hcap, hmax⟩ := hR
  have hHcs := Lib.hid hcs
  obtain ⟨g, o, rfl, hc⟩ := hcs.at (by simp; omega)
  have hq : at_ / 8 < bs.length := by omega
  have cd : w.cell? ⟨g, o + at_ / 8, none⟩ = some (bv (bs.getD (at_ / 8) 0)) := hc _ _ (by simp [List.getD, hq])
  unfold bv at cd
  have c0 := cell_of hr 0
  have c1 := cell_of hr 1
  have f1 := frozen_of hr 1
  simp only [List.getElem?_toArray, List.getElem?_cons_zero, List.getElem?_cons_succ] at c0 c1
  have Hr := Lib.hid hr
  have hby : (bs.getD (at_ / 8) 0).toNat < 256 := UInt8.toNat_lt _
  generalize hbn : (bs.getD (at_ / 8) 0).toNat = bn at cd hby
  have Hbn := Lib.hid hbn
  clear hr hbn hc
  go_enter Try.func27, Try.ntmps27
  go_wp2
  go_quiet (fail)
  go_wp2
  go_ret
  have fr := ((Fr.refl [p] w).drewsN nq).setCell (p := ⟨p, 1, none⟩) (by simp) (.int .i64 (at_ + 1))
  refine ⟨ret_eq (int_eq (one_bit bs at_ bn hq Hbn.out)), ⟨_, cap, (setCell_of (w := w.drewN nq) Hr.out _).trans rfl, hHcs.out.fr fr (by intro x hx; simp; rintro rfl; exact hpb hx), rfl, hpb, hlen, by omega, hcap, hmax⟩, fr⟩

theorem rtake_step (x vn a k : Nat) (hk : k < 32) (hv : x / 2 ^ a % 2 ^ k = vn) :
    bits .or .u32 (vn : Int) (((x / 2 ^ (a + k) % 2 : Nat) : Int) * 2 ^ k % 4294967296) = ((x / 2 ^ a % 2 ^ (k + 1) : Nat) : Int) := by
  rw [more, hv, u32_put vn _ k 1 (by rw [← hv]; exact Nat.mod_lt _ (Nat.two_pow_pos _)) (Nat.mod_lt _ (by decide)) (by omega)]

set_option maxHeartbeats 1000000 in
theorem rtake_good (p : Nat) (F : List Nat) (bs : List UInt8) (at_ : Nat) (n : Int) (w : World) (hR : Rf w p F bs at_) (hn0 : 0 ≤ n) (hn2 : n ≤ 32) (hn3 : at_ + n ≤ 8 * bs.length) :
    Calls Try.prog 14 #[.pointer (some ⟨p, 0, none⟩), .int .i64 n] w fun e w' =>
      e = .returned (.tuple #[.int .u32 (num bs / 2 ^ at_ % 2 ^ n.toNat : Nat), .bool true]) ∧ Rf w' p F bs (at_ + n.toNat) ∧ Fr [p] w w' := by
  obtain ⟨n, rfl⟩ := Int.eq_ofNat_of_zero_le hn0
  have h1 : decide ((n : Int) < 0) = false := by simp
  have h2 : decide (32 < (n : Int)) = false := by simp; omega
  have h3 : decide (8 * (bs.length : Int) - at_ < (n : Int)) = false := by simp; omega
  have hpF : p ∈ F := by obtain ⟨_, _, _, _, h, _⟩ := hR; rw [h]; simp
  go_enter Try.func14, Try.ntmps14
  go_upto_region 1 with fail
  go_cut [19] (fun s wc => s = .bool false ∧ Rf wc p F bs at_ ∧ Fr [p] w wc)
  case first =>
    go_wp2_with (go_at_call 26; refine (left_any p F bs at_ _ hR).mono ?_; rintro e w' ⟨rfl, k, rfl⟩)
    go_meet
    exact ⟨by first | rfl | simpa using h3, rd_fr hR (Fr.drewN [] _ _) (by simp), Fr.drewN _ _ _⟩
  case rest =>
  obtain ⟨rfl, hR1, fr1⟩ := hcut
  have HR1 := Lib.hid hR1
  clear hR hR1
  go_wp2
  go_loopg [6, 7] n (fun k s6 s7 wr => ∃ i, i + k = n ∧ s7 = .int .i64 i ∧ s6 = .int .u32 (num bs / 2 ^ at_ % 2 ^ i : Nat) ∧ Rf wr p F bs (at_ + i) ∧ Fr [p] w wr)
  case atStart => exact ⟨0, by omega, rfl, by simp [Nat.mod_one], HR1.out, fr1⟩
  case round =>
    obtain ⟨i, hi, rfl, rfl, hR, fr2⟩ := hrel
    by_cases hin : i < n
    · have hlt : at_ + i < 8 * bs.length := by omega
      have hv : num bs / 2 ^ at_ % 2 ^ i < 4294967296 := by
        refine Nat.lt_of_lt_of_le (Nat.mod_lt _ (Nat.two_pow_pos _)) ?_
        rw [← p32]
        exact pow_le i 32 (by omega)
      generalize hvn : num bs / 2 ^ at_ % 2 ^ i = vn at hv ⊢
      have Hvn := Lib.hid hvn
      clear hvn
      have hst := rtake_step (num bs) vn at_ i (by omega) Hvn.out
      have Hst := Lib.hid hst
      clear hst
      go_wp2_with (go_at_call 27; refine (rone_any p F bs _ _ hR hlt).mono ?_; rintro e w' ⟨rfl, hR2, fr3⟩; generalize num bs / 2 ^ (at_ + i) % 2 = bit at Hst)
      go_roundg (n - (i + 1))
      case measure => omega
      case rel => exact ⟨i + 1, by omega, by go_num, int_eq Hst.out, hR2, fr2.trans fr3⟩
    · obtain rfl : i = n := by omega
      go_wp2
      go_ret2
      exact ⟨by simp, by simpa using hR, fr2⟩

set_option maxHeartbeats 1000000 in
theorem rtake_bad (p : Nat) (F : List Nat) (bs : List UInt8) (at_ : Nat) (n : Int) (w : World) (hR : Rf w p F bs at_) (hn : n < 0 ∨ 32 < n ∨ 8 * bs.length < at_ + n) :
    Calls Try.prog 14 #[.pointer (some ⟨p, 0, none⟩), .int .i64 n] w fun e w' =>
      e = .returned (.tuple #[.int .u32 0, .bool false]) ∧ Rf w' p F bs at_ ∧ Fr [] w w' := by
  have HR := Lib.hid hR
  clear hR
  by_cases a1 : n < 0
  · have h1 : decide (n < 0) = true := by simp; omega
    go_enter Try.func14, Try.ntmps14
    go_wp2
    go_ret2
    exact ⟨rfl, HR.out, Fr.refl _ _⟩
  · have h1 : decide (n < 0) = false := by simp; omega
    by_cases a2 : 32 < n
    · have h2 : decide (32 < n) = true := by simp; omega
      go_enter Try.func14, Try.ntmps14
      go_wp2
      go_ret2
      exact ⟨rfl, HR.out, Fr.refl _ _⟩
    · have h2 : decide (32 < n) = false := by simp; omega
      have h3 : decide (8 * (bs.length : Int) - at_ < n) = true := by simp; omega
      go_enter Try.func14, Try.ntmps14
      go_wp2_with (go_at_call 26; refine (left_any p F bs at_ _ HR.out).mono ?_; rintro e w' ⟨rfl, k, rfl⟩)
      go_ret2
      exact ⟨rfl, rd_fr HR.out (Fr.drewN [] _ _) (by simp), Fr.drewN _ _ _⟩

def RBytesGood (p : Nat) (F : List Nat) (bs : List UInt8) (at_ n : Nat) (w : World) (e : Ending) (w' : World) : Prop :=
  ∃ ao' cap', e = .returned (.tuple #[.slice ao' n cap', .bool true]) ∧ Cs w' ao' (((bs.drop ((at_ + 7) / 8)).take n).map bv) ∧ Rf w' p F bs ((at_ + 7) / 8 * 8 + 8 * n) ∧ Fr [p] w w' ∧ ∀ x ∈ blk ao', w.heap.size ≤ x
set_option maxHeartbeats 1000000 in
theorem rbytes_good (p : Nat) (F : List Nat) (bs : List UInt8) (at_ : Nat) (n : Int) (w : World) (hR : Rf w p F bs at_) (hn0 : 0 ≤ n) (hn : n ≤ bs.length - ((at_ + 7) / 8 : Nat)) :
    Calls Try.prog 16 #[.pointer (some ⟨p, 0, none⟩), .int .i64 n] w (RBytesGood p F bs at_ n.toNat w) := by
  obtain ⟨n, rfl⟩ := Int.eq_ofNat_of_zero_le hn0
  have h1 : decide ((n : Int) < 0) = false := by simp
  rw [Int.toNat_natCast]
  have hal := ralign_any p F bs at_ w hR
  obtain ⟨A, hA⟩ : ∃ A, (at_ + 7) / 8 = A := ⟨_, rfl⟩
  have HA := Lib.hid hA
  rw [hA] at hal hn
  have Hal := Lib.hid hal
  clear hal hA hR
  go_enter Try.func16, Try.ntmps16
  go_upto_region 1 with fail
  go_cut [] (fun w1 => Rf w1 p F bs (A * 8) ∧ Fr [p] w w1)
  case first =>
    go_wp2_with (go_at_call 18; refine Hal.out.mono ?_; rintro e w' ⟨rfl, hR1, fr1⟩)
    go_meet
    exact ⟨hR1, fr1⟩
  case rest =>
  obtain ⟨hR, fr1⟩ := hcut
  have h2 : decide ((8 * (bs.length : Int) - (A * 8 : Nat)) / 8 < (n : Int)) = false := by simp; omega
  have hA8 : A * 8 ≤ 8 * bs.length ∧ bs.length ≤ 140737488351232 := by obtain ⟨_, _, _, _, _, _, h1, h2, _⟩ := hR; exact ⟨h2, h1⟩
  have hA8a := hA8.1
  have hA8b := hA8.2
  go_upto_region 2 with fail
  go_cut [18] (fun s wc => s = .bool false ∧ Rf wc p F bs (A * 8) ∧ Fr [p] w wc)
  case first =>
    have HR := Lib.hid hR
    clear hR
    go_wp2_with (go_at_call 26; refine (left_any p F bs _ _ HR.out).mono ?_; rintro e w' ⟨rfl, k, rfl⟩)
    go_meet
    exact ⟨by first | rfl | (simp; done) | (simp; omega), rd_fr HR.out (Fr.drewN [] _ _) (by simp), fr1.drewsN _⟩
  case rest =>
  obtain ⟨rfl, hR, fr1⟩ := hcut
  obtain ⟨ao, cap, hr, hcs, rfl, hpb, hlen, hat, hcap, hmax⟩ := hR
  have c0 := cell_of hr 0
  have c1 := cell_of hr 1
  have f1 := frozen_of hr 1
  simp only [List.getElem?_toArray, List.getElem?_cons_zero, List.getElem?_cons_succ] at c0 c1
  have Hr := Lib.hid hr
  clear hr
  go_upto_region 4 with fail
  go_cut [6] (fun s wz => s = .int .i64 A ∧ wc = wz)
  case first =>
    go_wp2
    go_meet
    exact ⟨int_eq (by omega), rfl⟩
  case rest =>
  obtain ⟨rfl, rfl⟩ := hcut
  go_upto_region 5 with fail
  go_cut [] (fun wz => wz.heap[p]? = some (.cells #[.slice ao bs.length cap, .int .i64 (A * 8 + 8 * n : Nat)] 43 (0, 0)) ∧ Cs wz ao (bs.map bv) ∧ Fr [p] w wz)
  case first =>
    go_wp2
    go_meet
    have fr2 := fr1.setCell (p := ⟨p, 1, none⟩) (by simp) (.int .i64 (A * 8 + 8 * n))
    refine ⟨(setCell_of Hr.out _).trans ?_, hcs.fr ((Fr.refl [p] wc).setCell (by simp) _) (by intro x hx; simp; rintro rfl; exact hpb hx), fr2⟩
    have e : ((A : Int) * 8 + 8 * (n : Int)) = ((A * 8 + 8 * n : Nat) : Int) := by omega
    rw [e]
    rfl
  case rest =>
  clear hcs c0 c1 f1 Hr
  obtain ⟨hr, hcs, fr2⟩ := hcut
  have c0 := cell_of hr 0
  simp only [List.getElem?_toArray, List.getElem?_cons_zero, List.getElem?_cons_succ] at c0
  have Hr := Lib.hid hr
  have hcut := hcs.cut cap A (A + n) (by omega) (by simp; omega) (by simpa using hcap)
  have e0 : A + n - A = n := by omega
  rw [e0, ← List.map_drop, ← List.map_take] at hcut
  clear hr e0
  go_wp2_with (first | (refine wpList_slice_lh sliceU8 A n rfl _ _ _ rfl ao bs.length cap _ _ rfl rfl rfl rfl (by omega) (by omega) ?_) | (refine wpList_append sliceU8 rfl _ _ rfl (.slice none 0 0) 0 [] [] rfl rfl (World.ownsRow_nil _ _ _ _) (cutAt ao cap A) n (cap - A) _ rfl (by omega) (fun h => by have := hmax.2 (cutAt_none h); omega) hcut (by simp; omega) (bv_one _) (by omega) (by unfold maxLen; omega) ?_; intro ao1 cap1 w1 A1; simp only [Nat.zero_add, List.nil_append] at A1))
  go_ret2
  unfold RBytesGood
  rw [HA.out]
  have hcs1 : Cs w1 ao1 (((bs.drop A).take n).map bv) := cs_of_owns A1.own
  have fr3 : Fr [p] w w1 := fr2.trans (A1.fr.mono (by simp))
  refine ⟨ao1, cap1, rfl, hcs1, ⟨ao, cap, A1.fr.blk Hr.out (by simp), hcs.fr A1.fr (by simp), rfl, hpb, hlen, by omega, hcap, hmax⟩, fr3, fun x hx => ?_⟩
  have h1 := A1.at_ x hx
  have h2 := fr2.size
  simp at h1
  omega

set_option maxHeartbeats 1000000 in
theorem rbytes_bad (p : Nat) (F : List Nat) (bs : List UInt8) (at_ : Nat) (n : Int) (w : World) (hR : Rf w p F bs at_) (hn : n < 0 ∨ bs.length - ((at_ + 7) / 8 : Nat) < n) :
    Calls Try.prog 16 #[.pointer (some ⟨p, 0, none⟩), .int .i64 n] w fun e w' =>
      e = .returned (.tuple #[.slice none 0 0, .bool false]) ∧ Rf w' p F bs ((at_ + 7) / 8 * 8) ∧ Fr [p] w w' := by
  have hal := ralign_any p F bs at_ w hR
  obtain ⟨A, hA⟩ : ∃ A, (at_ + 7) / 8 = A := ⟨_, rfl⟩
  rw [hA] at hal hn
  have Hal := Lib.hid hal
  have HA := Lib.hid hA
  clear hal hA hR
  go_enter Try.func16, Try.ntmps16
  go_upto_region 1 with fail
  go_cut [] (fun w1 => Rf w1 p F bs (A * 8) ∧ Fr [p] w w1)
  case first =>
    go_wp2_with (go_at_call 18; refine Hal.out.mono ?_; rintro e w' ⟨rfl, hR1, fr1⟩)
    go_meet
    exact ⟨hR1, fr1⟩
  case rest =>
  obtain ⟨hR, fr1⟩ := hcut
  have hA8 : A * 8 ≤ 8 * bs.length ∧ bs.length ≤ 140737488351232 := by obtain ⟨_, _, _, _, _, _, h1, h2, _⟩ := hR; exact ⟨h2, h1⟩
  have hA8a := hA8.1
  have hA8b := hA8.2
  have HR := Lib.hid hR
  clear hR
  by_cases a1 : n < 0
  · have h1 : decide (n < 0) = true := by simp; omega
    go_wp2
    go_ret2
    rw [HA.out]
    exact ⟨rfl, HR.out, fr1⟩
  · have h1 : decide (n < 0) = false := by simp; omega
    have h2 : decide ((8 * (bs.length : Int) - (A * 8 : Nat)) / 8 < n) = true := by simp; omega
    go_wp2_with (go_at_call 26; refine (left_any p F bs _ _ HR.out).mono ?_; rintro e w' ⟨rfl, k, rfl⟩)
    all_goals go_ret2
    all_goals rw [HA.out]
    all_goals exact ⟨rfl, rd_fr HR.out (Fr.drewN [] _ _) (by simp), fr1.drewsN _⟩
end Go.Proofs.Ytcfhebhbgllphaa.bits
