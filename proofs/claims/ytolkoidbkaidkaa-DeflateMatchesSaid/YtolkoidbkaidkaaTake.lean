/-
  (*bits.Reader): what a reader is in memory, and Take.
-/
import Derived.Test.YtolkoidbkaidkaaLib
import Derived.Test.YtolkoidbkaidkaaBitsMath
import Derived.Test.YtolkoidbkaidkaaBitsOps
namespace Go.Proofs.Ytolkoidbkaidkaa.bits
open Go Go.RowKit Go.Proofs.Ytolkoidbkaidkaa.lib Go.Proofs.Ytolkoidbkaidkaa.bm

/-- A reader (a struct of type T) of the bytes bs of which at_ bits were taken; F: the blocks that it lies in. -/
def RdT (T : TypeId) (w : World) (p : Nat) (F : List Nat) (bs : List UInt8) (at_ : Nat) : Prop :=
  ∃ ao cap, w.heap[p]? = some (.cells #[.slice ao bs.length cap, .int .i64 at_] T (0, 0)) ∧ Cs w ao (bs.map bv) ∧ F = p :: blk ao ∧
    p ∉ blk ao ∧ bs.length ≤ 140737488351232 ∧ at_ ≤ 8 * bs.length ∧ bs.length ≤ cap ∧ cap ≤ maxLen ∧ (ao = none → cap = 0)

abbrev Rd (w : World) (p : Nat) (F : List Nat) (bs : List UInt8) (at_ : Nat) : Prop := RdT 88 w p F bs at_

set_option maxHeartbeats 1000000 in
theorem take_good (p : Nat) (F : List Nat) (bs : List UInt8) (at_ : Nat) (n : Int) (w : World) (hR : Rd w p F bs at_) (hn0 : 0 ≤ n) (hn2 : n ≤ 32) (hn3 : at_ + n ≤ 8 * bs.length) :
    Calls Try.prog 33 #[.pointer (some ⟨p, 0, none⟩), .int .i64 n] w fun e w' =>
      e = .returned (.tuple #[.int .u32 (num bs / 2 ^ at_ % 2 ^ n.toNat : Nat), .bool true]) ∧ Rd w' p F bs (at_ + n.toNat) ∧ Fr [p] w w' := by
  obtain ⟨ao, cap, hr, hcs, rfl, hpb, hlen, hat, hcap, hmax⟩ := hR
  obtain ⟨n, rfl⟩ := Int.eq_ofNat_of_zero_le hn0
  have h1 : decide ((n : Int) < 0) = false := by simp
  have h2 : decide (32 < (n : Int)) = false := by simp; omega
  have h3 : decide (8 * (bs.length : Int) - at_ < (n : Int)) = false := by simp; omega
  have c0 := cell_of hr 0
  have c1 := cell_of hr 1
  simp only [List.getElem?_toArray, List.getElem?_cons_zero, List.getElem?_cons_succ] at c0 c1
  have Hr := Lib.hid hr
  clear hr
  go_enter Try.func33, Try.ntmps33
  go_wp2
  go_quiet (fail)
  clear c0 c1
  go_wp2
  go_loopw [6, 7] (fun v i wr => ∃ k : Nat, k ≤ n ∧ i = .int .i64 k ∧ v = .int .u32 (num bs / 2 ^ at_ % 2 ^ k : Nat) ∧
      wr.heap[p]? = some (.cells #[.slice ao bs.length cap, .int .i64 (at_ + k : Nat)] 88 (0, 0)) ∧ Fr [p] w wr)
    (fun _ i _ => n - (intOf i).toNat)
  case atStart => exact ⟨0, by omega, rfl, by simp [Nat.mod_one], by simpa using Hr.out, Fr.drewN _ _ _⟩
  case round =>
    obtain ⟨k, hk, rfl, rfl, hr', hb⟩ := hrel
    by_cases hkn : k < n
    · obtain ⟨g, o, rfl, hc⟩ := hcs.at (by simp; omega)
      have hq : (at_ + k) / 8 < bs.length := by omega
      have cd : wr.cell? ⟨g, o + (at_ + k) / 8, none⟩ = some (bv (bs.getD ((at_ + k) / 8) 0)) := by
        refine hb.cell (hc _ _ ?_) (by simpa [blk, eq_comm] using hpb)
        simp [List.getD, hq]
      unfold bv at cd
      have c0 := cell_of hr' 0
      have c1 := cell_of hr' 1
      have f1 := frozen_of hr' 1
      simp only [List.getElem?_toArray, List.getElem?_cons_zero, List.getElem?_cons_succ] at c0 c1
      have Hr' := Lib.hid hr'
      clear hr' hc
      have hby : (bs.getD ((at_ + k) / 8) 0).toNat < 256 := UInt8.toNat_lt _
      generalize hbn : (bs.getD ((at_ + k) / 8) 0).toNat = bn at cd hby
      have Hbn := Lib.hid hbn
      clear hbn
      have hv : num bs / 2 ^ at_ % 2 ^ k < 4294967296 := by
        refine Nat.lt_of_lt_of_le (Nat.mod_lt _ (Nat.two_pow_pos _)) ?_
        exact Nat.pow_le_pow_right (by omega) (show k ≤ 32 by omega)
      generalize hvn : num bs / 2 ^ at_ % 2 ^ k = vn at hv ⊢
      have Hvn := Lib.hid hvn
      clear hvn
      go_wp2
      all_goals
        go_quiet (fail)
        go_wp2
        go_roundw
        case rel =>
          first
          | exact ⟨k + (n - k), by omega, int_eq (by omega), int_eq (take_step bs at_ k (n - k) vn bn hq (by omega) (by omega) Hvn.out Hbn.out),
              (setCell_of (w := wr.drewN nq) Hr'.out _).trans (by simp; omega), (hb.drewsN nq).setCell (by simp) _⟩
          | exact ⟨k + (8 - (at_ + k) % 8), by omega, int_eq (by omega), int_eq (take_step bs at_ k (8 - (at_ + k) % 8) vn bn hq (by omega) (by omega) Hvn.out Hbn.out),
              (setCell_of (w := wr.drewN nq) Hr'.out _).trans (by simp; omega), (hb.drewsN nq).setCell (by simp) _⟩
        case measure => simp [intOf]; omega
    · obtain rfl : k = n := by omega
      have hcs' : Cs wr ao (bs.map bv) := hcs.fr hb (by intro x hx; simp; rintro rfl; exact hpb hx)
      have Hr' := Lib.hid hr'
      clear hr' hcs
      go_wp2
      go_ret2
      exact ⟨by simp, ⟨ao, cap, by simpa using Hr'.out, hcs', rfl, hpb, hlen, by simp; omega, hcap, hmax⟩, hb⟩

set_option maxHeartbeats 1000000 in
theorem take_bad (p : Nat) (F : List Nat) (bs : List UInt8) (at_ : Nat) (n : Int) (w : World) (hR : Rd w p F bs at_) (hn : n < 0 ∨ 32 < n ∨ 8 * bs.length < at_ + n) :
    Calls Try.prog 33 #[.pointer (some ⟨p, 0, none⟩), .int .i64 n] w fun e w' =>
      e = .returned (.tuple #[.int .u32 0, .bool false]) ∧ Rd w' p F bs at_ ∧ Fr [] w w' := by
  obtain ⟨ao, cap, hr, hcs, rfl, hpb, hlen, hat, hcap, hmax⟩ := hR
  have c0 := cell_of hr 0
  have c1 := cell_of hr 1
  simp only [List.getElem?_toArray, List.getElem?_cons_zero, List.getElem?_cons_succ] at c0 c1
  have Hr := Lib.hid hr
  clear hr
  have done : ∀ m, Rd (w.drewN m) p (p :: blk ao) bs at_ := fun m => ⟨ao, cap, Hr.out, hcs, rfl, hpb, hlen, hat, hcap, hmax⟩
  have Hd := Lib.hid done
  clear done
  by_cases a1 : n < 0
  · have h1 : decide (n < 0) = true := by simp; omega
    go_enter Try.func33, Try.ntmps33
    go_wp2
    go_quiet (fail)
    go_wp2
    go_ret2
    exact ⟨rfl, Hd.out _, Fr.drewN _ _ _⟩
  · have h1 : decide (n < 0) = false := by simp; omega
    by_cases a2 : 32 < n
    · have h2 : decide (32 < n) = true := by simp; omega
      go_enter Try.func33, Try.ntmps33
      go_wp2
      go_quiet (fail)
      go_wp2
      go_ret2
      exact ⟨rfl, Hd.out _, Fr.drewN _ _ _⟩
    · have h2 : decide (32 < n) = false := by simp; omega
      have h3 : decide (8 * (bs.length : Int) - at_ < n) = true := by simp; omega
      go_enter Try.func33, Try.ntmps33
      go_wp2
      go_quiet (fail)
      go_wp2
      go_ret2
      exact ⟨rfl, Hd.out _, Fr.drewN _ _ _⟩
end Go.Proofs.Ytolkoidbkaidkaa.bits
