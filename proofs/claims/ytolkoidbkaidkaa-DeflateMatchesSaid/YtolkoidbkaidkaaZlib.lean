/-
  deflate.Zlib, over whatever Raw makes; Raw at level 0.
-/
import Derived.Test.YtolkoidbkaidkaaPlain
import Derived.Test.YtolkoidbkaidkaaSumB
namespace Go.Proofs.Ytolkoidbkaidkaa.defl
open Go Go.RowKit Go.Proofs.Ytolkoidbkaidkaa.lib Go.Proofs.Ytolkoidbkaidkaa.bm Go.Proofs.Ytolkoidbkaidkaa.bl Go.Proofs.Ytolkoidbkaidkaa.wb

set_option maxRecDepth 100000 in
theorem raw_zero (a : Option Addr) (cap : Nat) (b : List UInt8) (level : Int) (w : World) (h : lib.Rd w a cap b) (hlen : b.length ≤ 1000000) (hl : level ≤ 0) :
    Calls Try.prog 8 #[.slice a b.length cap, .int .i64 level] w (NewBytes w (plainBytes b)) := by
  have hp := plain_any a cap b w h hlen
  unfold NewBytes at hp
  have H := Lib.hid hp
  have d0 : decide (level ≤ 0) = true := by simpa using hl
  clear hp h
  go_enter Try.func8, Try.ntmps8
  go_wp2_with (go_at_call 14; refine H.out.mono ?_; rintro e w1 ⟨a1, rfl, r1, n1, f1⟩)
  go_ret
  unfold NewBytes
  exact ⟨a1, rfl, r1, n1, f1⟩
/-- Zlib's second byte. -/
def zsec (level : Int) : UInt8 := if level ≤ 0 then 1 else if level = 1 then 94 else 156
def zlibOf (level : Int) (r b : List UInt8) : List UInt8 := [120, zsec level] ++ r ++ sums.be4 (sums.adler b)
set_option maxRecDepth 100000 in
set_option maxHeartbeats 2000000 in
theorem zlib_of (a : Option Addr) (cap : Nat) (b r : List UInt8) (level : Int) (w : World) (h : lib.Rd w a cap b) (hrl : r.length ≤ 100000000)
    (hraw : ∀ w', Fr [] w w' → Calls Try.prog 8 #[.slice a b.length cap, .int .i64 level] w' (NewBytes w' r)) :
    Calls Try.prog 10 #[.slice a b.length cap, .int .i64 level] w (NewBytes w (zlibOf level r b)) := by
  obtain ⟨Q, hQ⟩ : ∃ Q, Q = w.heap.size := ⟨_, rfl⟩
  have f0 : Fr [] w (w.alloc (.cells #[.int .u8 120, .int .u8 156] 5)) := (Fr.refl [] w).alloc _
  have hb0 : (w.alloc (.cells #[.int .u8 120, .int .u8 156] 5)).heap[Q]? = some (.cells #[.int .u8 120, .int .u8 156] 5 (0, 0)) := by rw [hQ]; exact alloc_at w _
  have c1 := cell_of hb0 1
  have z1 := frozen_of hb0 1
  simp only [List.getElem?_toArray, List.getElem?_cons_zero, List.getElem?_cons_succ] at c1
  have H := Lib.hid (And.intro h (And.intro hraw (And.intro hQ (And.intro f0 hb0))))
  clear h hraw f0 hb0
  go_enter Try.func10, Try.ntmps10
  go_upto_block 0 with fail
  rw [← hQ]
  generalize (w.alloc (.cells #[.int .u8 120, .int .u8 156] 5)) = w0 at *
  clear hQ
  go_cut [] from 8 to 18 (fun wz => wz.heap[Q]? = some (.cells #[.int .u8 120, bv (zsec level)] 5 (0, 0)) ∧ Fr [] w wz)
  case first =>
    by_cases hl : level ≤ 0
    · have d0 : decide (level ≤ 0) = true := by simpa using hl
      have hz : zsec level = 1 := if_pos hl
      have HZ := Lib.hid hz
      clear hz
      go_wp2
      go_meet
      rw [HZ.out]
      exact ⟨setCell_of (o := 1) H.out.2.2.2.2 _, H.out.2.2.2.1.setCell (by right; show w.heap.size ≤ Q; rw [H.out.2.2.1]; exact Nat.le_refl _) _⟩
    · have d0 : decide (level ≤ 0) = false := by simp; omega
      by_cases h1 : level = 1
      · subst h1
        go_wp2
        go_meet
        exact ⟨setCell_of (o := 1) H.out.2.2.2.2 _, H.out.2.2.2.1.setCell (by right; show w.heap.size ≤ Q; rw [H.out.2.2.1]; exact Nat.le_refl _) _⟩
      · have d1 : (level == 1) = false := by simpa using h1
        have hz : zsec level = 156 := by unfold zsec; rw [if_neg hl, if_neg h1]
        have HZ := Lib.hid hz
        clear hz
        go_wp2
        go_meet
        rw [HZ.out]
        exact ⟨H.out.2.2.2.2, H.out.2.2.2.1⟩
  case rest =>
  obtain ⟨hbq, hfq⟩ := hcut
  obtain ⟨w1, rfl⟩ : ∃ w1 : World, w1 = wc := ⟨_, rfl⟩
  have hr := H.out.2.1 w1 hfq
  unfold NewBytes at hr
  have H1 := Lib.hid (And.intro hbq (And.intro hfq hr))
  obtain ⟨L, hL⟩ : ∃ L, L = r.length := ⟨_, rfl⟩
  rw [← hL] at hrl
  have HL := Lib.hid hL
  clear hbq hfq hr c1 z1 hL
  go_upto_region 7 with (first | (go_at_call 8; refine H1.out.2.2.mono ?_; rw [← HL.out]; rintro e w2 ⟨a2, rfl, r2, n2, f2⟩; have H2 := Lib.hid (And.intro r2 (And.intro n2 f2)); clear r2 n2 f2) | (refine wpList_append_mid bits.sliceU8 rfl _ _ rfl (some ⟨Q, 0, none⟩) 2 2 [.int .u8 120, bv (zsec level)] rfl (.inr ⟨Q, 0, _, rfl, H2.out.2.2.blk H1.out.1 (by simp), Nat.le_refl _, by decide, Nat.le_refl _, rfl⟩) rfl a2 L L (r.map bv) rfl (Nat.le_refl _) H2.out.1.nil H2.out.1.cs (by rw [List.length_map, HL.out]) (bits.bv_one _) (by omega) (by unfold maxLen; omega) ?_; intro a3 c3 w3 A3; have H3 := Lib.hid A3; clear A3))
  have f03 : Fr [] w w3 := (H1.out.2.1.trans H2.out.2.2).step H3.out.fr (fun y hy => .inr (by simp [blk] at hy; rw [hy, H.out.2.2.1]; exact Nat.le_refl _))
  have hQ2 : Q < w1.heap.size := lt_of_block H1.out.1
  have n3 : ∀ x ∈ blk a3, w.heap.size ≤ x := fun x hx => by
    have h1 := H2.out.2.2.size
    have h2 := H.out.2.2.1
    rcases H3.out.at_ x hx with k | k
    · simp [blk] at k; omega
    · omega
  have had := sums.adler_any a cap b w3 (H.out.1.fr f03)
  have hbe := sums.be4_map (sums.adler b) (sums.adler_lt b)
  have hxl := sums.adler_lt b
  obtain ⟨x, hx⟩ : ∃ x, x = sums.adler b := ⟨_, rfl⟩
  rw [← hx] at had hbe hxl
  have H4 := Lib.hid (And.intro f03 (And.intro n3 (And.intro had (And.intro hbe hx))))
  clear f03 n3 had hbe hQ2 hx
  go_upto_region 8 with (go_at_call 23; refine H4.out.2.2.1.mono ?_; rintro e w4 ⟨rfl, f4⟩)
  have f5 : Fr [] w4 (w4.alloc (.cells #[.int .u8 ((x : Int) / 16777216), .int .u8 ((x : Int) / 65536 % 256), .int .u8 ((x : Int) / 256 % 256), .int .u8 ((x : Int) % 256)] 5)) := (Fr.refl [] w4).alloc _
  have o5 := (H3.out.own.fr f4 (by simp)).fr f5 (by simp)
  have H5 := Lib.hid (And.intro f5 (And.intro o5 f4))
  clear f5 o5 f4
  have hc3 := H5.out.2.1.shape
  have hc4 : 2 + L ≤ c3 := by
    have := hc3.1
    simp only [List.length_append, List.length_cons, List.length_nil, List.length_map] at this
    rw [HL.out]
    omega
  obtain ⟨N, hN⟩ : ∃ N, N = 2 + L + 4 := ⟨_, rfl⟩
  clear hc3
  go_upto_region 9 with (refine wpList_append_mid bits.sliceU8 rfl _ _ rfl a3 (2 + L) c3 ([.int .u8 120, bv (zsec level)] ++ r.map bv) rfl H5.out.2.1 (by simp only [List.length_append, List.length_cons, List.length_nil, List.length_map]; rw [HL.out]) (some ⟨w4.heap.size, 0, none⟩) 4 4 ((sums.be4 x).map bv) rfl (by omega) (by simp) (by rw [H4.out.2.2.2.1]; exact cs_new w4 _ _ _) rfl (bits.bv_one _) (by omega) (by unfold maxLen; omega) ?_; intro a6 c6 w6 A6; have H6 := Lib.hid A6; clear A6)
  rw [← hN]
  have hzl : (zlibOf level r b).map bv = [.int .u8 120, bv (zsec level)] ++ r.map bv ++ (sums.be4 x).map bv := by
    unfold zlibOf
    rw [List.map_append, List.map_append, ← H4.out.2.2.2.2]
    rfl
  have hzn : (zlibOf level r b).length = N := by
    unfold zlibOf
    rw [List.length_append, List.length_append, ← HL.out, hN]
    rfl
  have ho := H6.out.own
  rw [← hzl] at ho
  obtain ⟨s1, s2, s3⟩ := ho.shape
  rw [List.length_map, hzn] at s1
  have hsl := fun w => run_slice_cut3 bits.sliceU8 N a6 c6 s1 w
  have HZ := Lib.hid (And.intro ho hzn)
  clear ho hzn hzl hN
  go_wp2
  go_ret
  unfold NewBytes
  rw [HZ.out.2]
  have hz4 : w4.heap.size ≤ w6.heap.size := Nat.le_trans H5.out.1.size H6.out.fr.size
  refine ⟨a6, rfl, ⟨HZ.out.1.cs, by rw [HZ.out.2]; exact Nat.le_refl _, Nat.le_trans s1 s2, fun h => by have := s3 h; omega⟩, fun y hy => ⟨?_, HZ.out.1.lt y hy⟩, (H4.out.1.trans H5.out.2.2).step (H5.out.1.mono (T := blk a3) (by simp) |>.trans (H6.out.fr)) (fun y hy => .inr (H4.out.2.1 y hy))⟩
  have k0 := H4.out.1.size
  have k1 := H5.out.2.2.size
  have k2 := H5.out.1.size
  rcases H6.out.at_ y hy with k | k
  · exact H4.out.2.1 y k
  · omega
end Go.Proofs.Ytolkoidbkaidkaa.defl
