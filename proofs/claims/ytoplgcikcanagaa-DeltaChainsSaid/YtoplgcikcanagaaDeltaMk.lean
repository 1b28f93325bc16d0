/-
  delta.maker: flush.
-/
import Derived.Test.YtoplgcikcanagaaDeltaMakeLaw
import Derived.Test.YtoplgcikcanagaaAppMid
import Derived.Test.YtoplgcikcanagaaMixR
namespace Go.Proofs.Ytoplgcikcanagaa.delta
open Go Go.RowKit Go.Proofs.Ytoplgcikcanagaa.lib Go.Proofs.Ytoplgcikcanagaa.bm

/-- A maker in memory. -/
structure Mk (S0 : List Nat) (w wr : World) (q : Nat) (oa : Option Addr) (oc : Nat) (out : List UInt8) (wa : Option Addr) (wc : Nat) (wait : List UInt8) : Prop where
  blk : wr.heap[q]? = some (.cells #[.slice oa out.length oc, .slice wa wait.length wc] 50 (0, 0))
  o : Own wr 5 oa oc (out.map bv)
  x : Own wr 5 wa wc (wait.map bv)
  qo : q ∉ lib.blk oa
  qx : q ∉ lib.blk wa
  apart : ∀ y ∈ lib.blk oa, y ∉ lib.blk wa
  fr : Fr S0 w wr
  new : q ∈ S0 ∨ w.heap.size ≤ q
  newO : ∀ y ∈ lib.blk oa, y ∈ S0 ∨ w.heap.size ≤ y
  newX : ∀ y ∈ lib.blk wa, y ∈ S0 ∨ w.heap.size ≤ y
theorem Mk.fr0 {S0 : List Nat} {w wr wz : World} {q : Nat} {oa wa : Option Addr} {oc wc : Nat} {out wait : List UInt8} (h : Mk S0 w wr q oa oc out wa wc wait) (f : Fr [] wr wz) : Mk S0 w wz q oa oc out wa wc wait :=
  ⟨f.blk h.blk (by simp), h.o.fr f (by simp), h.x.fr f (by simp), h.qo, h.qx, h.apart, h.fr.step f (by simp), h.new, h.newO, h.newX⟩
/-- New bytes behind the written ones. -/
theorem Mk.out1 {S0 : List Nat} {w wr w1 w2 : World} {q : Nat} {oa wa a2 : Option Addr} {oc wc c2 n : Nat} {out wait news : List UInt8} (h : Mk S0 w wr q oa oc out wa wc wait) (f : Fr [] wr w1)
    (A : OwnMore w1 w2 5 oa a2 c2 (out.map bv ++ news.map bv)) (hn : out.length + news.length = n) : Mk S0 w (w2.setCell ⟨q, 0, none⟩ (.slice a2 n c2)) q a2 c2 (out ++ news) wa wc wait := by
  have h1 := h.fr0 f
  have hq : q < w1.heap.size := lt_of_block h1.blk
  have hx := h1.x.lt
  have ha2 : ∀ y ∈ lib.blk a2, y ≠ q ∧ y ∉ lib.blk wa ∧ (y ∈ S0 ∨ w.heap.size ≤ y) := fun y hy => by
    rcases A.at_ y hy with k | k
    · exact ⟨fun e => h.qo (by rw [← e]; exact k), h.apart y k, h.newO y k⟩
    · have := h1.fr.size
      exact ⟨by omega, fun e => by have := hx y e; omega, by omega⟩
  have fs : Fr [q] w2 (w2.setCell ⟨q, 0, none⟩ (.slice a2 n c2)) := (Fr.refl [q] w2).setCell (by simp) _
  have hb := A.fr.blk h1.blk h.qo
  refine ⟨?_, ?_, ?_, fun e => (ha2 q e).1 rfl, h.qx, fun y hy => (ha2 y hy).2.1, ((h1.fr.step A.fr fun y hy => h.newO y hy).step fs fun y hy => by simp at hy; rw [hy]; exact h.new), h.new, fun y hy => (ha2 y hy).2.2, h.newX⟩
  · rw [setCell_of hb, List.length_append, hn]
    rfl
  · rw [List.map_append]
    exact A.own.fr fs fun y hy => by simpa using (ha2 y hy).1
  · exact (h1.x.fr A.fr fun y hy e => h.apart y e hy).fr fs fun y hy => by simp; intro e; exact h.qx (by rw [← e]; exact hy)
/-- The bytes that wait are cut, or others. -/
theorem Mk.wait1 {S0 : List Nat} {w wr : World} {q : Nat} {oa wa a2 : Option Addr} {oc wc c2 n : Nat} {out wait wait2 : List UInt8} (h : Mk S0 w wr q oa oc out wa wc wait) (ho : Own wr 5 a2 c2 (wait2.map bv)) (hn : wait2.length = n)
    (hb : ∀ y ∈ lib.blk a2, y ∈ lib.blk wa) : Mk S0 w (wr.setCell ⟨q, 1, none⟩ (.slice a2 n c2)) q oa oc out a2 c2 wait2 := by
  have fs : Fr [q] wr (wr.setCell ⟨q, 1, none⟩ (.slice a2 n c2)) := (Fr.refl [q] wr).setCell (by simp) _
  refine ⟨?_, h.o.fr fs fun y hy => by simp; intro e; exact h.qo (by rw [← e]; exact hy), ho.fr fs fun y hy => by simp; intro e; exact h.qx (by rw [← e]; exact hb y hy), h.qo, fun e => h.qx (hb q e), fun y hy e => h.apart y hy (hb y e), h.fr.step fs fun y hy => by simp at hy; rw [hy]; exact h.new, h.new, h.newO, fun y hy => h.newX y (hb y hy)⟩
  rw [setCell_of h.blk, hn]
  rfl
/-- Where flushing stands. -/
theorem lits_done {k : Nat} {out w R : List UInt8} (h : out ++ lits k w = R) (hw : w = []) : out = R := by
  subst hw
  rw [lits_nil, List.append_nil] at h
  exact h
set_option maxRecDepth 100000 in
set_option maxHeartbeats 4000000 in
theorem flush_all (S0 : List Nat) (w W : World) (q : Nat) (oa wa : Option Addr) (oc wc : Nat) (out wait : List UInt8) (h : Mk S0 w W q oa oc out wa wc wait) (hlim : out.length + 2 * wait.length ≤ 1099511627776) :
    Calls Try.prog 23 #[.pointer (some ⟨q, 0, none⟩)] W fun e W' => e = .returned (.tuple #[]) ∧ ∃ oa' oc' wa' wc', Mk S0 w W' q oa' oc' (out ++ lits wait.length wait) wa' wc' [] := by
  obtain ⟨R, hR⟩ : ∃ R, out ++ lits wait.length wait = R := ⟨_, rfl⟩
  rw [hR]
  have H0 := Lib.hid (And.intro h hR)
  clear h hR
  go_enter Try.func23, Try.ntmps23
  go_wp2
  go_loopg [2] wait.length (fun k s2 wr => ∃ oa oc out wa wc wait, Mk S0 w wr q oa oc out wa wc wait ∧ out ++ lits k wait = R ∧ wait.length ≤ k ∧ out.length + 2 * wait.length ≤ 1099511627776)
  case atStart => exact ⟨oa, oc, out, wa, wc, wait, H0.out.1, H0.out.2, Nat.le_refl _, hlim⟩
  case round =>
    obtain ⟨oa, oc, out, wa, wc, x, h, hr, hk, hb⟩ := hrel
    have c0 := cell_of h.blk 0
    have c1 := cell_of h.blk 1
    have z0 := frozen_of h.blk 0
    have z1 := frozen_of h.blk 1
    simp only [List.getElem?_toArray, List.getElem?_cons_zero, List.getElem?_cons_succ] at c0 c1
    obtain ⟨o1, o2, o3⟩ := h.o.shape
    obtain ⟨x1, x2, x3⟩ := h.x.shape
    rw [List.length_map] at o1 x1
    have H := Lib.hid h
    clear h H0
    by_cases hx : x = []
    · subst hx
      have hd := lits_done hr rfl
      have HD := Lib.hid hd
      clear hr hd
      go_wp2
      go_end0
      rw [← HD.out]
      exact ⟨rfl, oa, oc, wa, wc, H.out⟩
    · have hl : 0 < x.length := List.length_pos_iff.2 hx
      obtain ⟨k, rfl⟩ : ∃ k, gk = k + 1 := ⟨gk - 1, by omega⟩
      rw [lits_step hx] at hr
      obtain ⟨n, hn⟩ : ∃ n, n = min 127 x.length := ⟨_, rfl⟩
      have hn1 : (n : Int) = if ((x.length : Nat) : Int) < 127 then ((x.length : Nat) : Int) else 127 := by rw [hn]; split <;> omega
      have hn2 : n ≤ 127 ∧ n ≤ x.length ∧ 1 ≤ n := by omega
      have HN := Lib.hid (And.intro hn1 (And.intro hn hr))
      clear hn hn1 hr hx
      go_upto_region 2 with (refine wpList_min2 (n : Int) rfl _ _ _ rfl 127 ((x.length : Nat) : Int) rfl rfl HN.out.1 ?_)
      obtain ⟨S, hS⟩ : ∃ S, S = blk oa := ⟨_, rfl⟩
      have hqS : q ∉ S := by rw [hS]; exact H.out.qo
      have HS := Lib.hid hS
      have q0 : ∀ y, (sup S wr.drew y).cell? ⟨q, 0, none⟩ = some (.slice oa out.length oc) := fun y => (sup_fr S wr.drew y).cell ((Fr.drew1 [] wr).cell c0 (by simp)) hqS
      have q1 : ∀ y, (sup S wr.drew y).cell? ⟨q, 1, none⟩ = some (.slice wa x.length wc) := fun y => (sup_fr S wr.drew y).cell ((Fr.drew1 [] wr).cell c1 (by simp)) hqS
      have Hq0 := Lib.hid q0
      have HC := Lib.hid (And.intro c0 c1)
      have hsl := fun w => lib.run_slice_to sliceU8 n wa x.length wc (n : Int) rfl (by omega) w
      have HSL := Lib.hid hsl
      clear hS c0 c1 z0 z1
      refine region_mixR 18 [(false, 0), (false, 1), (false, 2), (false, 3), (false, 4), (false, 5), (false, 6), (false, 9), (false, 10), (false, 11), (false, 12), (false, 13), (false, 14), (true, 7), (true, 8), (true, 15), (false, 16), (false, 17)] S (by kernel_rfl) (by kernel_rfl) (fun _ _ d _ _ h => by cases d <;> exact h) ?_
      simp only [List.map_cons, List.map_nil, List.getD_cons_zero, List.getD_cons_succ, List.drop_succ_cons, List.drop_zero, List.drop_nil]
      refine mixR_seg 13 rfl ?_
      simp only [List.take_succ_cons, List.take_zero, List.drop_succ_cons, List.drop_zero, List.map_cons, List.map_nil]
      repeat (go_big_quiet_step (fail))
      refine wpQuiet_nil ?_
      clear q0 q1 hsl
      refine mixR_eff rfl ?_
      intro X hX
      go_wp2
      refine hX.out _ _ wr.drew (Fr.refl _ _) ((Fr.refl S wr.drew).alloc _) ?_
      clear hX X
      obtain ⟨w1, hw1⟩ : ∃ w1, w1 = (wr.alloc (.cells #[.int .u8 (n : Int)] 5)).drew := ⟨_, rfl⟩
      rw [← hw1]
      have f1 : Fr [] wr w1 := by rw [hw1]; exact ((Fr.refl [] wr).alloc _).drew
      have hb1 : w1.heap[wr.heap.size]? = some (.cells #[.int .u8 (n : Int)] 5 (0, 0)) := by rw [hw1]; exact (Fr.drew1 [] _).blk (alloc_at wr _) (by simp)
      have hcb : Cs w1 (some ⟨wr.heap.size, 0, none⟩) (([UInt8.ofNat n] : List UInt8).map bv) := cs_one _ _ _ _ (by rw [hb1]; unfold bv; rw [u8_nat (by omega)])
      have F1 := Lib.hid (And.intro f1 (And.intro hb1 hcb))
      have fb1 : Fr S wr.drew w1 := by rw [hw1]; exact (((Fr.refl S wr).alloc _).drew).from_drew
      clear hw1 f1 hb1 hcb
      refine mixR_eff rfl ?_
      intro X hX
      refine wp_append_mid sliceU8 _ _ rfl oa out.length oc (out.map bv) rfl (H.out.o.fr F1.out.1 (by simp)) (by rw [List.length_map]) (some ⟨wr.heap.size, 0, none⟩) 1 1 (([UInt8.ofNat n] : List UInt8).map bv) rfl (by decide) (by simp) F1.out.2.2 (by rfl) (bv_one _) (by omega) (by unfold maxLen; omega) ?_
      intro a2 c2 w2 A2
      have fb2 : Fr S wr.drew w2 := fb1.step A2.fr fun y hy => .inl (by rw [HS.out]; exact hy)
      refine hX.out _ _ wr.drew (Fr.refl _ _) fb2 ?_
      clear hX X fb1
      simp only [Act.put, List.setIfInBounds_toArray, List.set_cons_succ, List.set_cons_zero]
      have own2 : Own w2 5 a2 c2 ((out ++ [UInt8.ofNat n]).map bv) := by rw [List.map_append]; exact A2.own
      have cs2 : Rd w2 wa wc (x.take n) := (((H.out.x.fr F1.out.1 (by simp)).fr A2.fr fun y hy e => H.out.apart y e hy).rd).take n
      have hln : (x.take n).length = n := by rw [List.length_take]; omega
      refine mixR_eff rfl ?_
      intro X hX
      refine wp_append_mid sliceU8 _ _ rfl a2 (out.length + 1) c2 ((out ++ [UInt8.ofNat n]).map bv) rfl own2 (by simp) wa n wc ((x.take n).map bv) rfl (by omega) cs2.nil cs2.cs (by rw [List.length_map, hln]) (bv_one _) (by omega) (by unfold maxLen; omega) ?_
      intro a3 c3 w3 A3
      have fb3 : Fr S wr.drew w3 := fb2.step A3.fr fun y hy => (A2.at_ y hy).imp (fun h => by rw [HS.out]; exact h) (fun h => Nat.le_trans (by rw [← (rfl : wr.drew.heap.size = wr.heap.size)]; exact F1.out.1.size) h)
      refine hX.out _ _ wr.drew (Fr.refl _ _) fb3 ?_
      clear hX X
      simp only [Act.put, List.setIfInBounds_toArray, List.set_cons_succ, List.set_cons_zero]
      have HA := Lib.hid (A2.two A3)
      have hbq := fb3.blk ((Fr.drew1 [] wr).blk H.out.blk (by simp)) hqS
      have c0 := cell_of hbq 0
      have c1 := cell_of hbq 1
      have z0 := frozen_of hbq 0
      have z1 := frozen_of hbq 1
      simp only [List.getElem?_toArray, List.getElem?_cons_zero, List.getElem?_cons_succ] at c0 c1
      clear hbq
      clear A2 A3 own2 cs2 fb2
      have q0 := Hq0.out
      refine mixR_seg 2 rfl ?_
      simp only [List.take_succ_cons, List.take_zero, List.drop_succ_cons, List.drop_zero, List.map_cons, List.map_nil]
      repeat (go_big_quiet_step (fail))
      refine wpQuiet_nil ?_
      clear q0
      refine mixR_nil ?_
      go_wp2_with (refine wpList_slice_from sliceU8 n rfl _ _ rfl wa x.length wc _ rfl rfl rfl (by omega) (by omega) ?_)
      go_roundg k
      case measure => omega
      case rel =>
        have A := HA.out
        have hN := HN.out
        have e1 : x.take 127 = x.take n := by rw [hN.2.1, ← List.take_eq_take_min]
        have e2 : x.drop 127 = x.drop n := by
          by_cases h : 127 ≤ x.length
          · rw [hN.2.1, Nat.min_eq_left h]
          · rw [List.drop_eq_nil_of_le (by omega), List.drop_eq_nil_of_le (by omega)]
        have hR := hN.2.2
        rw [e1, e2, ← hN.2.1] at hR
        have m1 := H.out.out1 (news := UInt8.ofNat n :: x.take n) (n := out.length + 1 + n) F1.out.1 (by simpa using A) (by simp; omega)
        have m2 := m1.wait1 (wait2 := x.drop n) (n := x.length - n) (by rw [List.map_drop]; exact m1.x.drop n (by rw [List.length_map]; omega)) (by rw [List.length_drop]) (by rw [cutAtN_blk]; exact fun _ h => h)
        refine ⟨_, _, out ++ (UInt8.ofNat n :: x.take n), _, _, x.drop n, m2, by rw [List.append_assoc]; exact hR, by rw [List.length_drop]; omega, ?_⟩
        simp only [List.length_append, List.length_cons, List.length_take, List.length_drop]
        omega
end Go.Proofs.Ytoplgcikcanagaa.delta
