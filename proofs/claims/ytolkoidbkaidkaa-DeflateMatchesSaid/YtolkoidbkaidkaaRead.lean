/-
  (*bits.Reader): Read, Used, Align, Bytes.
-/
import Derived.Test.YtolkoidbkaidkaaAppend
import Derived.Test.YtolkoidbkaidkaaTake
import Derived.Test.YtolkoidbkaidkaaPut
import Derived.Deep.DeepCutAuto
import Derived.Test.YtolkoidbkaidkaaTail
namespace Go.Proofs.Ytolkoidbkaidkaa.bits
open Go Go.RowKit Go.Proofs.Ytolkoidbkaidkaa.lib Go.Proofs.Ytolkoidbkaidkaa.bm

theorem bv_one (bs : List UInt8) : ∀ u ∈ bs.map bv, u.oneCell' = true := by
  intro u hu
  obtain ⟨b, _, rfl⟩ := List.mem_map.1 hu
  rfl

set_option maxHeartbeats 400000 in
theorem used_any (p : Nat) (F : List Nat) (bs : List UInt8) (at_ : Nat) (w : World) (hR : Rd w p F bs at_) :
    Calls Try.prog 22 #[.pointer (some ⟨p, 0, none⟩)] w fun e w' => e = .returned (.int .i64 ((at_ + 7) / 8 : Nat)) ∧ w = w' := by
  obtain ⟨ao, cap, hr, hcs, rfl, hpb, hlen, hat, hcap, hmax⟩ := hR
  have c1 := cell_of hr 1
  simp only [List.getElem?_toArray, List.getElem?_cons_zero, List.getElem?_cons_succ] at c1
  clear hr
  go_enter Try.func22, Try.ntmps22
  go_wp2
  go_ret
  exact ⟨ret_eq (int_eq (by omega)), rfl⟩

theorem rd_at {T : TypeId} {w w' : World} {p : Nat} {F : List Nat} {bs : List UInt8} {a a' : Nat} (h : RdT T w p F bs a) (hf : Fr [p] w w')
    (hh : ∀ ao cap, w.heap[p]? = some (.cells #[.slice ao bs.length cap, .int .i64 a] T (0, 0)) → w'.heap[p]? = some (.cells #[.slice ao bs.length cap, .int .i64 a'] T (0, 0))) (ha : a' ≤ 8 * bs.length) : RdT T w' p F bs a' := by
  obtain ⟨ao, cap, hr, hcs, rfl, hpb, hlen, hat, hcap, hmax⟩ := h
  exact ⟨ao, cap, hh ao cap hr, hcs.fr hf (by intro x hx; simp; rintro rfl; exact hpb hx), rfl, hpb, hlen, ha, hcap, hmax⟩
theorem rd_fr {T : TypeId} {w w' : World} {p : Nat} {F S : List Nat} {bs : List UInt8} {a : Nat} (h : RdT T w p F bs a) (hf : Fr S w w') (hn : ∀ x ∈ F, x ∉ S) : RdT T w' p F bs a := by
  obtain ⟨ao, cap, hr, hcs, rfl, hpb, hlen, hat, hcap, hmax⟩ := h
  exact ⟨ao, cap, hf.blk hr (hn p (by simp)), hcs.fr hf (by intro x hx; exact hn x (by simp [hx])), rfl, hpb, hlen, hat, hcap, hmax⟩

set_option maxHeartbeats 400000 in
theorem align_any (p : Nat) (F : List Nat) (bs : List UInt8) (at_ : Nat) (w : World) (hR : Rd w p F bs at_) :
    Calls Try.prog 55 #[.pointer (some ⟨p, 0, none⟩)] w fun e w' => e = .returned (.tuple #[]) ∧ Rd w' p F bs ((at_ + 7) / 8 * 8) ∧ Fr [p] w w' := by
  have hR' := Lib.hid hR
  obtain ⟨ao, cap, hr, hcs, rfl, hpb, hlen, hat, hcap, hmax⟩ := hR
  have c1 := cell_of hr 1
  have f1 := frozen_of hr 1
  simp only [List.getElem?_toArray, List.getElem?_cons_zero, List.getElem?_cons_succ] at c1
  clear hr
  go_enter Try.func55, Try.ntmps55
  go_wp2
  go_end0
  refine ⟨rfl, rd_at hR'.out ((Fr.refl _ w).setCell (by simp) _) (fun ao cap h => (setCell_of h _).trans ?_) (by omega), (Fr.refl _ w).setCell (by simp) _⟩
  have e : ((at_ : Int) + 7) / 8 * 8 = ((at_ + 7) / 8 * 8 : Nat) := by omega
  rw [e]
  rfl

set_option maxHeartbeats 400000 in
theorem read_new (ao : Option Addr) (cap : Nat) (bs : List UInt8) (w : World) (hcs : Cs w ao (bs.map bv)) (hcap : bs.length ≤ cap) (hnone : ao = none → cap = 0) (hlen : bs.length ≤ 140737488351232) :
    Calls Try.prog 19 #[.slice ao bs.length cap] w fun e w' => ∃ p F, e = .returned (.pointer (some ⟨p, 0, none⟩)) ∧ Rd w' p F bs 0 ∧ Fr [] w w' ∧ ∀ x ∈ F, w.heap.size ≤ x ∧ x < w'.heap.size := by
  go_enter Try.func19, Try.ntmps19
  go_wp2_with (refine wpList_append sliceU8 rfl _ _ rfl (.slice none 0 0) 0 [] [] rfl rfl (World.ownsRow_nil _ _ _ _) _ _ _ (bs.map bv) rfl hcap hnone hcs (by simp) (bv_one bs) (by omega) (by unfold maxLen; omega) ?_; intro ao1 cap1 w1 A1; simp only [Nat.zero_add, List.nil_append] at A1)
  go_ret
  have hb : ∀ x ∈ blk ao1, x = w.heap.size ∧ x < w1.heap.size := fun x hx => ⟨by simpa using A1.at_ x hx, A1.lt x hx⟩
  have hcs1 : Cs (w1.alloc (.cells #[.slice ao1 bs.length cap1, .int .i64 0] 88)) ao1 (bs.map bv) := (cs_of_owns A1.own).belowAll (below_of_fr ((Fr.refl _ _).alloc _))
  refine ⟨w1.heap.size, _, rfl, ⟨ao1, cap1, alloc_at _ _, hcs1, rfl, fun h => ?_, hlen, by omega, A1.le, A1.max, A1.nil⟩, A1.fr.alloc _, fun x hx => ?_⟩
  · have := (hb _ h).2
    omega
  · rw [World.size_alloc]
    rcases List.mem_cons.1 hx with rfl | hx
    · exact ⟨A1.fr.size, by omega⟩
    · have := hb _ hx
      omega
theorem read_any (ao : Option Addr) (cap : Nat) (bs : List UInt8) (w : World) (hcs : Cs w ao (bs.map bv)) (hcap : bs.length ≤ cap) (hnone : ao = none → cap = 0) (hlen : bs.length ≤ 140737488351232) :
    Calls Try.prog 19 #[.slice ao bs.length cap] w fun e w' => ∃ p F, e = .returned (.pointer (some ⟨p, 0, none⟩)) ∧ Rd w' p F bs 0 ∧ Fr [] w w' ∧ ∀ x ∈ F, w.heap.size ≤ x :=
  (read_new ao cap bs w hcs hcap hnone hlen).mono fun _ _ ⟨p, F, h1, h2, h3, h4⟩ => ⟨p, F, h1, h2, h3, fun x hx => (h4 x hx).1⟩

def BytesGood (p : Nat) (F : List Nat) (bs : List UInt8) (at_ n : Nat) (w : World) (e : Ending) (w' : World) : Prop :=
  ∃ ao', e = .returned (.tuple #[.slice ao' n n, .bool true]) ∧ Fresh w' w.heap.size 5 ao' (((bs.drop ((at_ + 7) / 8)).take n).map bv) ∧ (ao' = none → n = 0) ∧
        (∀ x ∈ blk ao', w.heap.size ≤ x) ∧ Rd w' p F bs ((at_ + 7) / 8 * 8 + 8 * n) ∧ Fr [p] w w'
set_option maxHeartbeats 1000000 in
theorem bytes_good (p : Nat) (F : List Nat) (bs : List UInt8) (at_ : Nat) (n : Int) (w : World) (hR : Rd w p F bs at_) (hn0 : 0 ≤ n) (hn : n ≤ bs.length - ((at_ + 7) / 8 : Nat)) :
    Calls Try.prog 42 #[.pointer (some ⟨p, 0, none⟩), .int .i64 n] w (BytesGood p F bs at_ n.toNat w) := by
  obtain ⟨n, rfl⟩ := Int.eq_ofNat_of_zero_le hn0
  have h1 : decide ((n : Int) < 0) = false := by simp
  go_enter Try.func42, Try.ntmps42
  go_upto_region 1 with fail
  go_cut [] (fun w1 => Rd w1 p F bs ((at_ + 7) / 8 * 8) ∧ Fr [p] w w1)
  case first =>
    go_wp2_with (go_at_call 55; refine (align_any p F bs at_ _ hR).mono ?_; rintro e w' ⟨rfl, hR1, fr1⟩)
    go_meet
    exact ⟨hR1, fr1⟩
  case rest =>
  obtain ⟨hR1, fr1⟩ := hcut
  clear hR
  have HR1 := Lib.hid hR1
  obtain ⟨ao, cap, hr, hcs, rfl, hpb, hlen, hat, hcap, hmax⟩ := hR1
  have c0 := cell_of hr 0
  have c1 := cell_of hr 1
  have f1 := frozen_of hr 1
  simp only [List.getElem?_toArray, List.getElem?_cons_zero, List.getElem?_cons_succ] at c0 c1
  have Hr := Lib.hid hr
  clear hr
  have h2 : decide ((bs.length : Int) - (at_ + 7) / 8 < (n : Int)) = false := by simp; omega
  generalize hA : (at_ + 7) / 8 = A at *
  go_upto_region 2 with fail
  go_cut [25] (fun s25 w2 => s25 = .bool false ∧ Rd w2 p (p :: blk ao) bs (A * 8) ∧ Fr [p] w w2)
  case first =>
    go_quiet (fail)
    go_wp2
    go_meet
    exact ⟨by simpa using hn, ⟨ao, cap, Hr.out, hcs, rfl, hpb, hlen, hat, hcap, hmax⟩, fr1.drewsN _⟩
  case rest =>
  obtain ⟨rfl, hR2, fr2⟩ := hcut
  clear c0 c1 f1 Hr hcs fr1 HR1 hat
  obtain ⟨ao, cap, hr, hcs, hF, hpb, hlen, hat, hcap, hmax⟩ := hR2
  have c0 := cell_of hr 0
  have c1 := cell_of hr 1
  have f1 := frozen_of hr 1
  simp only [List.getElem?_toArray, List.getElem?_cons_zero, List.getElem?_cons_succ] at c0 c1
  have Hr := Lib.hid hr
  clear hr
  go_wp2
  refine region_tail 17 (by kernel_rfl) (by kernel_rfl) ?_
  simp only [List.take_succ_cons, List.take_zero, List.drop_succ_cons, List.drop_zero]
  repeat (go_big_quiet_step (fail))
  refine wpQuiet_nil ?_
  have hcut := hcs.cut cap A (A + n) (by omega) (by simp; omega) (by simpa using hcap)
  go_wp2_with (refine wpList_append sliceU8 rfl _ _ rfl (.slice none 0 0) 0 [] [] rfl rfl (World.ownsRow_nil _ _ _ _) (cutAt ao cap A) (A + n - A) (cap - A) _ rfl (by omega) (fun h => by have := hmax.2 (cutAt_none h); omega) hcut (by simp; omega) (by rw [← List.map_drop, ← List.map_take]; exact bv_one _) (by omega) (by unfold maxLen; omega) ?_; intro ao1 cap1 w1 A1; simp only [Nat.zero_add, List.nil_append] at A1; have hle1 : n ≤ cap1 := (by have := A1.le; omega); have hb1 := A1.fr.blk (w := wc.drew) Hr.out (by simp); have d1 := cell_of hb1 1; have g1 := frozen_of hb1 1; simp only [List.getElem?_toArray, List.getElem?_cons_zero, List.getElem?_cons_succ] at d1)
  all_goals
    go_ret2
    have e0 : A + n - A = n := by omega
    rw [e0, ← List.map_drop, ← List.map_take] at A1
    have hne : p ∉ blk ao1 := fun h => by
      have h1 := A1.at_ p h
      have h2 := lt_of_block Hr.out
      simp at h1
      omega
    have hsz := fr2.size
    have fr3 : Fr [] wc w1 := (Fr.drew1 [] wc).trans A1.fr
    have fr4 : Fr [p] w (w1.setCell ⟨p, 1, none⟩ (.int .i64 (A * 8 + 8 * n))) := (fr2.trans (fr3.mono (by simp))).setCell (by simp) _
    have hown := ownsRow_setCell_other (a := ⟨p, 1, none⟩) A1.own (fun h => hne (by rw [← own_blk ao1 n cap1, h]; simp)) (.int .i64 (A * 8 + 8 * n))
    unfold BytesGood
    rw [hA]
    have hblk : ∀ x ∈ blk ao1, w.heap.size ≤ x := fun x hx => by
      have := A1.at_ x hx
      simp at this
      omega
    refine ⟨ao1, rfl, fresh_of_cells hown hblk, fun h => ?_, hblk, ⟨ao, cap, (setCell_of hb1 _).trans ?_, (hcs.fr fr3 (by simp)).fr ((Fr.refl [p] w1).setCell (by simp) _) (by intro x hx; simp; rintro rfl; exact hpb hx), (by first | exact hF | rfl), hpb, hlen, by omega, hcap, hmax⟩, fr4⟩
    · have := A1.nil h
      omega
    · have e : ((A : Int) * 8 + 8 * (n : Int)) = ((A * 8 + 8 * n : Nat) : Int) := by omega
      rw [e]
      rfl

set_option maxHeartbeats 1000000 in
theorem bytes_bad (p : Nat) (F : List Nat) (bs : List UInt8) (at_ : Nat) (n : Int) (w : World) (hR : Rd w p F bs at_) (hn : n < 0 ∨ bs.length - ((at_ + 7) / 8 : Nat) < n) :
    Calls Try.prog 42 #[.pointer (some ⟨p, 0, none⟩), .int .i64 n] w fun e w' =>
      e = .returned (.tuple #[.slice none 0 0, .bool false]) ∧ Rd w' p F bs ((at_ + 7) / 8 * 8) ∧ Fr [p] w w' := by
  go_enter Try.func42, Try.ntmps42
  go_upto_region 1 with fail
  go_cut [] (fun w1 => Rd w1 p F bs ((at_ + 7) / 8 * 8) ∧ Fr [p] w w1)
  case first =>
    go_wp2_with (go_at_call 55; refine (align_any p F bs at_ _ hR).mono ?_; rintro e w' ⟨rfl, hR1, fr1⟩)
    go_meet
    exact ⟨hR1, fr1⟩
  case rest =>
  obtain ⟨hR1, fr1⟩ := hcut
  clear hR
  obtain ⟨ao, cap, hr, hcs, rfl, hpb, hlen, hat, hcap, hmax⟩ := hR1
  have c0 := cell_of hr 0
  have c1 := cell_of hr 1
  simp only [List.getElem?_toArray, List.getElem?_cons_zero, List.getElem?_cons_succ] at c0 c1
  have Hr := Lib.hid hr
  clear hr
  have done : ∀ m, Rd (wc.drewN m) p (p :: blk ao) bs ((at_ + 7) / 8 * 8) := fun m => ⟨ao, cap, Hr.out, hcs, rfl, hpb, hlen, hat, hcap, hmax⟩
  have Hd := Lib.hid done
  clear done
  by_cases a1 : n < 0
  · have h1 : decide (n < 0) = true := by simp; omega
    go_upto_region 2 with fail
    go_quiet (fail)
    go_wp2
    go_ret2
    exact ⟨rfl, Hd.out _, fr1.drewsN _⟩
  · have h1 : decide (n < 0) = false := by simp; omega
    have h2 : decide ((bs.length : Int) - (at_ + 7) / 8 < n) = true := by simp; omega
    go_upto_region 2 with fail
    go_quiet (fail)
    go_wp2
    go_ret2
    exact ⟨rfl, Hd.out _, fr1.drewsN _⟩
end Go.Proofs.Ytolkoidbkaidkaa.bits
