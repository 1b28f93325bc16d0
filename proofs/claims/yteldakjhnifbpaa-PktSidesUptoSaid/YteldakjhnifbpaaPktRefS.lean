/-
  stemmaref17.Side.
-/
import Derived.Test.YteldakjhnifbpaaPktRefD
import Derived.Test.YteldakjhnifbpaaPktSide
namespace Go.Proofs.Yteldakjhnifbpaa.pkt
open Go Go.RowKit Go.Proofs.Yteldakjhnifbpaa.lib Go.Proofs.Yteldakjhnifbpaa.bm

theorem slice_str_to (bs : List UInt8) (j : Nat) (ij : Int) (hj : ij = j) (h2 : j ≤ bs.length) (w : World) :
    (Instr.slice 9 (.string (str bs)) none (some (.int .i64 ij)) none).run Try.prog w = .ok (.string (str (bs.take j))) w := by
  subst hj
  rw [run_slice_string_h w 9 (str bs) Try.underlying9 .i64 j (by omega) (by rw [str_size]; omega)]
  have := str_extract bs 0 j
  simp only [List.drop_zero] at this
  simp [this]
theorem slice_str_from (bs : List UInt8) (i : Nat) (ii : Int) (hi : ii = i) (h2 : i ≤ bs.length) (w : World) :
    (Instr.slice 9 (.string (str bs)) (some (.int .i64 ii)) none none).run Try.prog w = .ok (.string (str (bs.drop i))) w := by
  subst hi
  rw [run_slice_string_l w 9 (str bs) Try.underlying9 .i64 i (by omega) (by rw [str_size]; omega)]
  have := str_extract bs i bs.length
  rw [List.take_of_length_le (Nat.le_refl _)] at this
  simp [str_size, this]
/-- Where the document's putting aside stands. -/
structure Ds (w wr : World) (b : UInt8) (c : Nat) (bs : List UInt8) (k : Nat) (a : Option Addr) (cap : Nat) (l : List Ln) (i : Nat) : Prop where
  row : DRow w wr a cap l
  le : i ≤ bs.length
  fuel : bs.length - i ≤ k
  few : l.length ≤ i
  all : l ++ side b c k (bs.drop i) = side b c bs.length bs
set_option maxRecDepth 100000 in
set_option maxHeartbeats 4000000 in
theorem dside_all (band chunk : Int) (bs : List UInt8) (w : World) (hlim : bs.length ≤ 2199023255552) :
    Calls Try.prog 17 #[.int .i64 band, .string (str bs), .int .i64 chunk] w fun e w' => ∃ a c, e = .returned (.slice a (side (bnd band) (chk chunk) bs.length bs).length c) ∧ DRow w w' a c (side (bnd band) (chk chunk) bs.length bs) := by
  have hcp := chk_pos chunk
  have hc1 : ((chk chunk : Nat) : Int) = if 65515 < (if 1 > chunk then 1 else chunk) then 65515 else (if 1 > chunk then 1 else chunk) := by unfold chk; split <;> split <;> omega
  obtain ⟨mx, hmx⟩ : ∃ mx : Int, mx = if 1 > chunk then 1 else chunk := ⟨_, rfl⟩
  rw [← hmx] at hc1
  have HC := Lib.hid hc1
  have HM := Lib.hid hmx
  have HB := Lib.hid (bnd_val band)
  clear hc1 hmx
  generalize chk chunk = c at *
  generalize bnd band = b at *
  go_enter Try.func17, Try.ntmps17
  go_upto_block 0 with (first | (refine wpList_max2 mx rfl _ _ _ rfl chunk 1 rfl rfl HM.out ?_) | (refine wpList_min2 (c : Int) rfl _ _ _ rfl mx 65515 rfl rfl HC.out ?_))
  go_wp2
  go_loopg [1, 7] bs.length (fun k s1 s7 wr => ∃ a ac l i, s1 = .string (str (bs.drop i)) ∧ s7 = .slice a l.length ac ∧ Ds w wr b c bs k a ac l i)
  case atStart => exact ⟨none, 0, [], 0, rfl, rfl, drow_nil w, Nat.zero_le _, by omega, Nat.zero_le _, rfl⟩
  case round =>
    obtain ⟨a, ac, l, i, rfl, rfl, h⟩ := hrel
    have H := Lib.hid h
    have h1 := h.le
    have h2 := h.fuel
    have h3 := h.few
    obtain ⟨h6, h7, _⟩ := h.row.shape
    clear h
    obtain ⟨r, hr⟩ : ∃ r, r = bs.drop i := ⟨_, rfl⟩
    have hrl : r.length = bs.length - i := by rw [hr, List.length_drop]
    obtain ⟨z, hz⟩ : ∃ z, z = str r := ⟨_, rfl⟩
    have hzs : z.size = bs.length - i := by rw [hz, str_size, hrl]
    rw [← hr, ← hz]
    by_cases hi : i < bs.length
    · obtain ⟨k, rfl⟩ : ∃ k, gk = k + 1 := ⟨gk - 1, by omega⟩
      obtain ⟨n, hn⟩ : ∃ n, n = min c (bs.length - i) := ⟨_, rfl⟩
      have hn1 : (n : Int) = if ((bs.length - i : Nat) : Int) < (c : Int) then ((bs.length - i : Nat) : Int) else (c : Int) := by rw [hn]; split <;> omega
      have HN := Lib.hid hn1
      have hn2 : n ≤ bs.length - i ∧ 1 ≤ n := by omega
      have HN2 := Lib.hid hn
      have hpos : 0 < bs.length - i := by omega
      clear hn hn1
      obtain ⟨p, hp⟩ : ∃ p, p = str (r.take n) := ⟨_, rfl⟩
      obtain ⟨q, hq⟩ : ∃ q, q = str (r.drop n) := ⟨_, rfl⟩
      have hto : ∀ w, (Instr.slice 9 (.string z) none (some (.int .i64 n)) none).run Try.prog w = .ok (.string p) w := fun w => by rw [hz, hp]; exact slice_str_to r n n rfl (by omega) w
      have hfrom : ∀ w, (Instr.slice 9 (.string z) (some (.int .i64 n)) none none).run Try.prog w = .ok (.string q) w := fun w => by rw [hz, hq]; exact slice_str_from r n n rfl (by omega) w
      have hps : p.size = n := by rw [hp, str_size, List.length_take]; omega
      have HR := Lib.hid (And.intro hr (And.intro hrl (And.intro hz (And.intro hp hq))))
      clear hr hrl hz hp hq
      obtain ⟨S, hS⟩ : ∃ S, S = blk a := ⟨_, rfl⟩
      have HS := Lib.hid hS
      clear hS
      go_upto_region 5 with (refine wpList_min2 (n : Int) rfl _ _ _ rfl (c : Int) ((bs.length - i : Nat) : Int) rfl rfl HN.out ?_)
      refine region_mix 12 [(false, 0), (false, 1), (false, 2), (false, 5), (false, 6), (false, 7), (true, 3), (false, 4), (false, 8), (true, 9), (true, 10), (true, 11)] S (by kernel_rfl) (by kernel_rfl) (fun _ _ d _ _ h => by cases d <;> exact h) ?_
      simp only [List.map_cons, List.map_nil, List.getD_cons_zero, List.getD_cons_succ, List.drop_succ_cons, List.drop_zero, List.drop_nil]
      refine mix_seg 6 rfl ?_
      simp only [List.take_succ_cons, List.take_zero, List.drop_succ_cons, List.drop_zero, List.map_cons, List.map_nil]
      repeat (go_big_quiet_step (fail))
      refine wpQuiet_nil ?_
      refine mix_eff rfl ?_
      intro X hX
      go_wp2
      refine hX.out _ _ ((Fr.refl S wr.drew).alloc _) ?_
      clear hX X
      obtain ⟨w1, hw1⟩ : ∃ w1, w1 = (wr.alloc (.cells #[.int .u8 (band % 256)] 5)).drew := ⟨_, rfl⟩
      rw [← hw1]
      have f1 : Fr [] wr w1 := by rw [hw1]; exact ((Fr.refl [] wr).alloc _).drew
      have hb1 : w1.heap[wr.heap.size]? = some (.cells #[.int .u8 (band % 256)] 5 (0, 0)) := by rw [hw1]; exact (Fr.drew1 [] _).blk (alloc_at wr _) (by simp)
      have hcb : Cs w1 (some ⟨wr.heap.size, 0, none⟩) (([b] : List UInt8).map bv) := cs_one _ _ _ _ (by rw [hb1, ← HB.out]; rfl)
      have hnS : wr.heap.size ∉ S := fun hx => by have := owns_lt H.out.row.own (blk_own (by rw [← HS.out]; exact hx)); omega
      obtain ⟨y1, hy1⟩ : ∃ y1, y1 = str [b] := ⟨_, rfl⟩
      obtain ⟨y2, hy2⟩ : ∃ y2, y2 = str (b :: r.take n) := ⟨_, rfl⟩
      have hy1s : y1.size = 1 := by rw [hy1, str_size]; rfl
      have hcat : y1 ++ p = y2 := by rw [hy1, HR.out.2.2.2.1, str_append, hy2]; rfl
      have cv : ∀ x cap, (convert 23 9 (.slice (some ⟨wr.heap.size, 0, none⟩) 1 cap)).run Try.prog (sup S w1 x) = .ok (.string y1) (sup S w1 x) := by
        rw [hy1]
        exact run_conv_sup S w1 Try.underlying23 Try.underlying5 Try.underlying9 (n := 1) (bs := [b]) rfl hcb (by simpa [blk] using hnS)
      have HF := Lib.hid (And.intro f1 hy2)
      clear hw1 hb1 hcb hnS hy1 hy2 f1
      refine mix_seg 2 rfl ?_
      simp only [List.take_succ_cons, List.take_zero, List.drop_succ_cons, List.drop_zero, List.map_cons, List.map_nil]
      repeat (go_big_quiet_step (fail))
      refine wpQuiet_nil ?_
      clear cv
      refine mix_eff rfl ?_
      intro X hX
      go_wp2
      refine hX.out _ _ (Fr.refl _ _) ?_
      clear hX X
      refine mix_eff rfl ?_
      intro X hX
      go_wp2
      refine hX.out _ _ ((Fr.refl S w1).alloc _) ?_
      clear hX X
      have f0 : Fr [] wr (w1.alloc (.cells #[.int .i64 1, .string y2] 60)) := HF.out.1.alloc _
      have ownA := ownsRow_fr H.out.row.own f0 (by simp)
      have cA : Cs (w1.alloc (.cells #[.int .i64 1, .string y2] 60)) (some ⟨w1.heap.size, 0, none⟩) (dcells [(1, b :: r.take n)]) :=
        .inr ⟨w1.heap.size, 0, rfl, fun j u hj => by rw [cell_of (alloc_at w1 _), HF.out.2]; simpa [dcells] using hj⟩
      refine mix_eff rfl ?_
      intro X hX
      refine wp_append sliceDLine _ _ rfl (.slice a l.length ac) l.length (dcells l) S rfl (by rw [own_blk, HS.out]) ownA (some ⟨w1.heap.size, 0, none⟩) 1 1 _ rfl (by decide) (by simp) cA (by rfl) (dcells_one _) (by omega) (by unfold maxLen; omega) ?_
      intro a2 c2 w2 A1
      refine hX.out _ _ A1.fr ?_
      clear hX X
      have HA := Lib.hid (And.intro A1 f0)
      clear A1 ownA cA f0
      refine mix_nil ?_
      go_wp2
      go_roundg k
      case measure => omega
      case rel =>
        have A1 := HA.out.1
        rw [HS.out] at A1
        have hR := HR.out
        have hg := (H.out.row.fr0 HA.out.2).more (m := [(1, b :: r.take n)]) A1.own A1.fr (fun y hy => (A1.at_ y hy).imp id fun h => Nat.le_of_eq h.symm)
        refine ⟨a2, c2, l ++ [(1, b :: r.take n)], i + n, by rw [hR.2.2.2.2, hR.1, List.drop_drop], by rw [List.length_append]; rfl, hg, by omega, by omega, by rw [List.length_append]; simp; omega, ?_⟩
        rw [← H.out.all, ← hR.1, side_cons _ _ _ _ (fun e => by have h5 := hR.2.1; rw [e, List.length_nil] at h5; omega), take_min r c n (by rw [HN2.out, hR.2.1]), drop_min r c n (by rw [HN2.out, hR.2.1])]
        simp [List.append_assoc, hR.1, List.drop_drop]
    · have hz0 : bs.length - i = 0 := by omega
      have hall := H.out.all
      rw [List.drop_eq_nil_of_le (by omega), side_nil, List.append_nil] at hall
      have HALL := Lib.hid hall
      rw [hz0] at hzs
      clear hall hr hz hrl
      go_wp2
      go_ret
      rw [← HALL.out]
      exact ⟨a, ac, rfl, H.out.row⟩
end Go.Proofs.Yteldakjhnifbpaa.pkt
