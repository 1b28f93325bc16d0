/-
  Texts of this proof, one behind the other: RfL, InfU, InfZ, RCrc, RAdler, InfM, Flat, Mid, RZlib, RHex, PkBack, TabC, CrcB, PkEntry.
-/
import Derived.Test.YtkmpfgpfbmeihaaGreatDoorG5
import Derived.Deep.DeepCutAuto
import Derived.Deep.CutBlock
import Derived.WalkMore
import Derived.Deep.MidRow
import Derived.Laws.ResultCell
import Derived.Laws.Rows
set_option maxRecDepth 100000
set_option linter.unusedVariables false
set_option linter.unusedSimpArgs false
namespace Go.Proofs.YtkmpfgpfbmeihaaGreatDoor.inf
open Go Go.RowKit lib bm bl huf
theorem infoGot6 : (Tryz.prog.info? 154).map (·.size) = some 3 := by kernel_rfl
theorem results_got6 {fn : Func} {p : Tmp} (h : fn.results = #[.cell p 154]) (tmps : Array Value) (w : World) (g : Nat) (cs : Array Value) (fr : Nat × Nat)
  (hp : tmps.getD p undef = .pointer (some ⟨g, 0, none⟩)) (hg : w.heap[g]? = some (.cells cs 154 fr)) (hs : cs.size = 3) : (results fn tmps).run Tryz.prog w = .ok (.agg cs) w :=
 results_cell_row h tmps w g 154 cs fr _ hp hg Tryz.underlying154 rfl (by rw [infoGot6, hs])
theorem Sw.under {w : World} {R p : Nat} {F : List Nat} {bs out : List UInt8} {at_ oc most E : Nat} {oa : Option Addr} (h : Sw w R p F bs at_ out oa oc most E) : ∀ x ∈ R :: p :: blk oa, x < w.heap.size := fun x hx => by
 simp only [List.mem_cons] at hx
 rcases hx with h1 | h1 | h1
 ·rw [h1]; exact lt_of_block h.box
 ·rw [h1]; exact h.low _ h.pF.1
 ·exact owns_lt h.own (blk_own h1)
theorem ld_made {w w' : World} {ao : Option Addr} {n cap : Nat} {xs X : List Nat} (h : Made w w' 3 1 ao n cap (ints xs)) (hn : n = xs.length) (hX : ∀ x ∈ X, x < w.heap.size) (h1 : ∀ x ∈ xs, x ≤ 15) (h2 : xs.length ≤ 400) (h3 : weight xs ≤ 32768) : Ld w' ao cap xs X :=
 ⟨⟨cs_of_owns h.own, by rw [← hn]; exact h.le, h.max, h.nil⟩, fun x hx => ⟨h.lt x hx, fun hm => by have := hX x hm; have := h.new x hx; omega⟩, h1, h2, h3⟩
theorem fixed_wt : weight (fixed 288) = 32768 := by decide +kernel
theorem five32_wt : weight (List.replicate 32 5) = 32768 := by decide +kernel
theorem fixed288_le : ∀ x ∈ fixed 288, x ≤ 15 := fun x hx => by
 unfold fixed at hx
 obtain ⟨i, _, rfl⟩ := List.mem_map.1 hx
 exact ifix_le i
theorem take3 {bs : List UInt8} {a : Nat} (h : a + 3 ≤ 8 * bs.length) : ∃ v, v < 8 ∧ itake bs a 3 = .ok (v, a + 3) ∧ itake bs a 1 = .ok (v % 2, a + 1) ∧ itake bs (a + 1) 2 = .ok (v / 2, a + 1 + 2) := by
 have hl : (bytesBits bs).length = 8 * bs.length := bytesBits_length bs
 obtain ⟨x, t1, h1⟩ : ∃ x t, (bytesBits bs).drop a = x :: t := by
  cases hd : (bytesBits bs).drop a with
  | nil => have := congrArg List.length hd; rw [List.length_drop, hl] at this; simp at this; omega
  | cons b t => exact ⟨b, t, rfl⟩
 obtain ⟨y, t2, h2⟩ : ∃ x t, (bytesBits bs).drop (a + 1) = x :: t := by
  cases hd : (bytesBits bs).drop (a + 1) with
  | nil => have := congrArg List.length hd; rw [List.length_drop, hl] at this; simp at this; omega
  | cons b t => exact ⟨b, t, rfl⟩
 obtain ⟨z, t3, h3⟩ : ∃ x t, (bytesBits bs).drop (a + 2) = x :: t := by
  cases hd : (bytesBits bs).drop (a + 2) with
  | nil => have := congrArg List.length hd; rw [List.length_drop, hl] at this; simp at this; omega
  | cons b t => exact ⟨b, t, rfl⟩
 have e1 : t1 = y :: t2 := by rw [← h2, ← List.drop_drop, h1]; rfl
 have e2 : t2 = z :: t3 := by rw [← h3, show a + 2 = a + 1 + 1 from rfl, ← List.drop_drop, h2]; rfl
 refine ⟨bval [x, y, z], by cases x <;> cases y <;> cases z <;> decide, ?_, ?_, ?_⟩
 ·unfold itake; rw [if_pos h, h1, e1, e2]; rfl
 ·unfold itake; rw [if_pos (by omega), h1]
  cases x <;> cases y <;> cases z <;> simp [bval, b2n]
 ·unfold itake; rw [if_pos (by omega), h2, e2]
  cases x <;> cases y <;> cases z <;> simp [bval, b2n]
theorem irawF_by {bs : List UInt8} {m f a : Nat} {out : List UInt8} : irawF bs m (f + 1) out a = match itake bs a 3 with
  | .error _ => .error 4
  | .ok (v, a3) => if v / 2 = 3 then .error 3 else match iblock bs m (v / 2) out a3 with
   | .error e => .error e
   | .ok (o, a4) => if v % 2 = 0 then irawF bs m f o a4 else .ok (o, a4) := by
 by_cases h : a + 3 ≤ 8 * bs.length
 ·obtain ⟨v, _, h1, h2, h3⟩ := take3 h
  rw [irawF, h1, h2]
  dsimp only
  rw [h3]
  rfl
 ·rw [irawF, take_torn (show 8 * bs.length < a + 3 by omega)]
  dsimp only
  by_cases h1 : a + 1 ≤ 8 * bs.length
  ·have : itake bs a 1 = .ok (bval (((bytesBits bs).drop a).take 1), a + 1) := by unfold itake; rw [if_pos h1]
   rw [this]
   dsimp only
   rw [take_torn (show 8 * bs.length < a + 1 + 2 by omega)]
  ·rw [take_torn (show 8 * bs.length < a + 1 by omega)]
def RRawGood (w : World) (m : Except Nat (List UInt8 × Nat)) (e : Ending) (w' : World) : Prop :=
 Fr [] w w' ∧ ((∃ c, m = .error c ∧ 0 < c ∧ c < 100 ∧ e = .returned (.agg #[.slice none 0 0, .int .i64 0, .int .i64 (c : Nat)])) ∨
  (∃ out used ao oc, m = .ok (out, used) ∧ e = .returned (.agg #[.slice ao out.length oc, .int .i64 (used : Nat), .int .i64 0]) ∧ lib.Rd w' ao oc out ∧ ∀ x ∈ blk ao, w.heap.size ≤ x ∧ x < w'.heap.size))
set_option maxHeartbeats 8000000 in
theorem rraw_any (a : Option Addr) (cap : Nat) (bs : List UInt8) (m : Nat) (w : World) (h : lib.Rd w a cap bs) (hlen : bs.length ≤ 100000000) (hm8 : m ≤ 100000000) (hlow : ∀ x ∈ blk a, x < w.heap.size) :
  Calls Tryz.prog 113 #[.slice a bs.length cap, .int .i64 (m : Nat)] w (RRawGood w (iraw bs m)) := by
 obtain ⟨L, hL⟩ : ∃ L, L = bs.length := ⟨_, rfl⟩
 obtain ⟨M, hM⟩ : ∃ M, M = iraw bs m := ⟨_, rfl⟩
 obtain ⟨M0, hM0⟩ : ∃ M0, M0 = irawF bs m (fuel bs) [] 0 := ⟨_, rfl⟩
 have hMM : M = iend M0 := by rw [hM, hM0, iraw_end]
 rw [← hM, ← hL]
 have H := Lib.hid (And.intro h (And.intro hlen (And.intro hlow (And.intro hMM (And.intro hM0 hL)))))
 clear h hlen hlow hMM hM0 hM hL
 go_enter Tryz.func113, Tryz.ntmps113
 go_upto_region 2 with fail
 obtain ⟨G, hG⟩ : ∃ G, G = w.heap.size := ⟨_, rfl⟩
 rw [← hG]
 obtain ⟨w2, hw2⟩ : ∃ w2, w2 = ((w.alloc (.cells #[.slice none 0 0, .int .i64 0, .int .i64 0] 154)).alloc (.cells #[.slice a L cap, .int .i64 0] 223)).alloc (.cells #[.pointer (some ⟨G + 1, 0, none⟩), .slice none 0 0, .int .i64 (m : Nat), .int .i64 0] 225) := ⟨_, rfl⟩
 rw [← hw2]
 have f2 : Fr [] w w2 := by rw [hw2]; exact (((Fr.refl [] w).alloc _).alloc _).alloc _
 have hs2 : w2.heap.size = G + 3 := by rw [hw2, World.size_alloc, World.size_alloc, World.size_alloc, hG]
 have bG : w2.heap[G]? = some (.cells #[.slice none 0 0, .int .i64 0, .int .i64 0] 154 (0, 0)) := by
  rw [hw2, hG]; exact alloc_old _ (alloc_old _ (alloc_at w _))
 have bp : w2.heap[G + 1]? = some (.cells #[.slice a L cap, .int .i64 0] 223 (0, 0)) := by
  rw [hw2, hG]
  refine alloc_old _ ?_
  have := alloc_at (w.alloc (.cells #[.slice none 0 0, .int .i64 0, .int .i64 0] 154)) (.cells #[.slice a L cap, .int .i64 0] 223)
  rwa [World.size_alloc] at this
 have bR : w2.heap[G + 1 + 1]? = some (.cells #[.pointer (some ⟨G + 1, 0, none⟩), .slice none 0 0, .int .i64 (m : Nat), .int .i64 0] 225 (0, 0)) := by
  have := alloc_at ((w.alloc (.cells #[.slice none 0 0, .int .i64 0, .int .i64 0] 154)).alloc (.cells #[.slice a L cap, .int .i64 0] 223)) (.cells #[.pointer (some ⟨G + 1, 0, none⟩), .slice none 0 0, .int .i64 (m : Nat), .int .i64 0] 225)
  rw [World.size_alloc, World.size_alloc, ← hG] at this
  rw [hw2]
  exact this
 have hla : ∀ x ∈ blk a, x < G := fun x hx => by rw [hG]; exact H.out.2.2.1 x hx
 have S2 : Sw w2 (G + 1 + 1) (G + 1) ((G + 1) :: blk a) bs 0 [] none 0 m 0 := by
  refine ⟨bR, ⟨a, cap, by rw [← H.out.2.2.2.2.2]; exact bp, H.out.1.cs.fr f2 (by simp), rfl, fun hx => by have := hla _ hx; omega, by have := H.out.2.1; omega, Nat.zero_le _, H.out.1.le, H.out.1.max, H.out.1.nil⟩, World.ownsRow_nil _ _ _ _, ?_, by simp [blk], by simp [blk], ?_, hm8, H.out.2.1, Nat.zero_le _⟩
  ·intro hx
   rcases List.mem_cons.1 hx with k | k
   ·omega
   ·have := hla _ k; omega
  ·intro x hx
   rcases List.mem_cons.1 hx with k | k
   ·omega
   ·have := hla _ k; omega
 obtain ⟨R, hR⟩ : ∃ R, R = G + 1 + 1 := ⟨_, rfl⟩
 obtain ⟨p, hp⟩ : ∃ p, p = G + 1 := ⟨_, rfl⟩
 obtain ⟨F, hF⟩ : ∃ F, F = (G + 1) :: blk a := ⟨_, rfl⟩
 rw [← hF, ← hR, ← hp] at S2
 rw [← hR, ← hp]
 have HK := Lib.hid (And.intro S2 (And.intro f2 (And.intro bG (And.intro hs2 (And.intro hR (And.intro hp hG))))))
 clear S2 f2 bG hs2 hR hp hF bp bR hla hw2 hG
 go_upto_block 0 with fail
 go_cut [6] from 6 to 76 (fun s6 wc => ∃ (a1 : Nat) (out1 : List UInt8) (oa1 : Option Addr) (oc1 E : Nat), Sw wc R p F bs a1 out1 oa1 oc1 m E ∧ Way w2 R p none wc oa1 ∧ ((E = 0 ∧ M0 = .ok (out1, a1)) ∨ (E ≠ 0 ∧ E < 100 ∧ M0 = .error E)))
 case first =>
  go_wp2
  go_loopg [6] (fuel bs) (fun k s6 wr => ∃ (last a1 : Nat) (out1 : List UInt8) (oa1 : Option Addr) (oc1 E : Nat), s6 = .int .i64 (last : Nat) ∧ Sw wr R p F bs a1 out1 oa1 oc1 m E ∧ Way w2 R p none wr oa1 ∧
   ((E = 0 ∧ last = 0 ∧ irawF bs m k out1 a1 = M0 ∧ 8 * bs.length + 1 ≤ a1 + k) ∨ (E = 0 ∧ last ≠ 0 ∧ M0 = .ok (out1, a1)) ∨ (E ≠ 0 ∧ E < 100 ∧ M0 = .error E)))
  case atStart => exact ⟨0, 0, [], none, 0, 0, rfl, HK.out.1, .refl _ _ _ _, .inl ⟨rfl, rfl, H.out.2.2.2.2.1.symm, by unfold fuel; omega⟩⟩
  case round =>
   obtain ⟨last, a1, out1, oa1, oc1, E, rfl, hst, hway, hcs⟩ := hrel
   have c3 := cell_of hst.box 3
   simp only [List.getElem?_toArray, List.getElem?_cons_zero, List.getElem?_cons_succ] at c3
   by_cases h0 : E = 0
   ·by_cases hl : last = 0
    ·subst h0
     subst hl
     obtain ⟨hir, hfu⟩ : irawF bs m gk out1 a1 = M0 ∧ 8 * bs.length + 1 ≤ a1 + gk := by
      rcases hcs with ⟨_, _, k⟩ | ⟨_, k, _⟩ | ⟨k, _⟩
      ·exact k
      ·exact absurd rfl k
      ·exact absurd rfl k
     have ha8 := hst.pF.2
     obtain ⟨k, rfl⟩ : ∃ k, gk = k + 1 := ⟨gk - 1, by omega⟩
     rw [irawF_by] at hir
     have htk := rtake_any R p F bs out1 a1 oc1 m 3 oa1 wr hst (by decide)
     have HJ := Lib.hid (And.intro hway (And.intro hir (And.intro hfu htk)))
     clear hst hway hir hfu htk hcs
     go_upto_region 5 with (go_at_call 139; refine HJ.out.2.2.2.mono ?_; rintro e w3 (⟨a3, hm, rfl, s3, f3⟩ | ⟨v, a3, hm, rfl, s3, f3⟩))
     ·clear c3
      have c3 := cell_of s3.box 3
      simp only [List.getElem?_toArray, List.getElem?_cons_zero, List.getElem?_cons_succ] at c3
      have K3 := Lib.hid (And.intro hm (And.intro s3 f3))
      clear hm s3 f3
      go_wp2
      go_roundg k
      case measure => omega
      case rel => exact ⟨0, a3, out1, oa1, oc1, 4, rfl, K3.out.2.1, HJ.out.1.trans (Way.ofRp _ _ _ _ _ K3.out.2.2), .inr (.inr ⟨by decide, by decide, by rw [← HJ.out.2.1, K3.out.1]⟩)⟩
     ·clear c3
      have hv8 : v < 8 := itake_lt hm
      have ha3 := itake_at hm
      have c3 := cell_of s3.box 3
      simp only [List.getElem?_toArray, List.getElem?_cons_zero, List.getElem?_cons_succ] at c3
      obtain ⟨l, hl⟩ : ∃ l, l = v % 2 := ⟨_, rfl⟩
      obtain ⟨h, hh⟩ : ∃ h, h = v / 2 := ⟨_, rfl⟩
      have hand : bits .and .i64 (v : Int) 1 = (l : Int) := by
       have := i64_and_nat v 1 (by omega) (by decide)
       rw [Nat.and_one_is_mod, ← hl] at this
       exact this
      have hshr : (v : Int) / 2 = (h : Int) := by omega
      have hM3 : M0 = if h = 3 then .error 3 else match iblock bs m h out1 a3 with
       | .error e => .error e
       | .ok (o, a4) => if l = 0 then irawF bs m k o a4 else .ok (o, a4) := by rw [← HJ.out.2.1, hm, hl, hh]
      have hw3 := HJ.out.1.trans (Way.ofRp _ _ _ _ _ f3)
      have hh3 : h ≤ 3 := by omega
      have hfu := HJ.out.2.2.1
      have K3 := Lib.hid (And.intro s3 (And.intro hw3 (And.intro hM3 (And.intro (by omega : 8 * bs.length + 1 ≤ a3 + k) f3))))
      have HH := Lib.hid hh3
      clear hm s3 f3 hl hh hM3 hw3 hfu ha3 hh3
      have hfin : ∀ w', RetW w3 R p F bs oa1 m (iblock bs m h out1 a3) w' → h ≠ 3 → ∃ (a1 : Nat) (out1 : List UInt8) (oa1 : Option Addr) (oc1 E : Nat), Sw w' R p F bs a1 out1 oa1 oc1 m E ∧ Way w2 R p none w' oa1 ∧
        ((E = 0 ∧ l = 0 ∧ irawF bs m k out1 a1 = M0 ∧ 8 * bs.length + 1 ≤ a1 + k) ∨ (E = 0 ∧ l ≠ 0 ∧ M0 = .ok (out1, a1)) ∨ (E ≠ 0 ∧ E < 100 ∧ M0 = .error E)) := fun w' hr h3 => by
       obtain ⟨a5, o5, oa5, oc5, E5, s5, y5, h5⟩ := hr
       have hM := K3.out.2.2.1
       rw [if_neg h3] at hM
       refine ⟨a5, o5, oa5, oc5, E5, s5, K3.out.2.1.trans y5, ?_⟩
       rcases h5 with ⟨k1, k2, k3⟩ | ⟨k1, k2⟩
       ·rw [k1] at hM
        exact .inr (.inr ⟨by omega, k3, hM⟩)
       ·have hge := iblock_at k1
        rw [k1] at hM
        dsimp only at hM
        by_cases hl0 : l = 0
        ·rw [if_pos hl0] at hM
         exact .inl ⟨k2, hl0, hM.symm, by have := K3.out.2.2.2.1; omega⟩
        ·rw [if_neg hl0] at hM
         exact .inr (.inl ⟨k2, hl0, hM⟩)
      have HFin := Lib.hid hfin
      clear hfin
      rcases (show h = 0 ∨ h = 1 ∨ h = 2 ∨ h = 3 by have := HH.out; omega) with rfl | rfl | rfl | rfl
      ·have hb0 := rstored_any R p F bs out1 a3 oc1 m oa1 w3 K3.out.1
       have HB := Lib.hid hb0
       clear hb0
       go_wp2_with (go_at_call 140; refine HB.out.mono ?_; rintro e w4 ⟨rfl, h4⟩; have K4 := Lib.hid h4; clear h4)
       go_roundg k
       case measure => omega
       case rel =>
        obtain ⟨a5, o5, oa5, oc5, E5, s5, y5, h5⟩ := HFin.out _ (by unfold iblock; rw [if_pos rfl]; exact K4.out) (by decide)
        exact ⟨l, a5, o5, oa5, oc5, E5, rfl, s5, y5, h5⟩
      ·have hun := K3.out.1.under
       have hb0 := rfixed_any w3
       unfold RFixedGood at hb0
       have HB := Lib.hid hb0
       have HU := Lib.hid hun
       clear hb0 hun
       go_upto_region 12 with (go_at_call 141; refine HB.out.mono ?_; rintro e w4 ⟨b1, c1, b2, c2, rfl, m1, m2⟩; have K4 := Lib.hid (And.intro m1 m2); clear m1 m2)
       have d1 := ld_made K4.out.1 (by rfl) HU.out fixed288_le (by decide) (by rw [fixed_wt]; exact Nat.le_refl _)
       have d2 := ld_made K4.out.2 (by rfl) HU.out (fun x hx => by rw [List.eq_of_mem_replicate hx]; decide) (by decide) (by rw [five32_wt]; exact Nat.le_refl _)
       have hcd := rcoded_any R p F bs out1 b1 b2 c1 c2 288 32 (fixed 288) (List.replicate 32 5) a3 oc1 m oa1 w4 (K3.out.1.fr0 K4.out.1.fr) d1 d2 rfl rfl
       have HC := Lib.hid hcd
       clear d1 d2 hcd
       clear c3
       go_wp2_with (go_at_call 142; refine HC.out.mono ?_; rintro e w5 ⟨rfl, h5⟩; have K5 := Lib.hid h5; clear h5)
       go_roundg k
       case measure => omega
       case rel =>
        obtain ⟨a6, o6, oa6, oc6, E6, s6, y6, h6⟩ := K5.out
        obtain ⟨a5, o5, oa5, oc5, E5, s5, y5, h5⟩ := HFin.out w5 (by unfold iblock; rw [if_neg (by decide), if_pos rfl]; unfold ifixed; exact ⟨a6, o6, oa6, oc6, E6, s6, (Way.of0 _ _ _ _ _ K4.out.1.fr).trans y6, h6⟩) (by decide)
        exact ⟨l, a5, o5, oa5, oc5, E5, rfl, s5, y5, h5⟩
      ·have hln := rlengths_any R p F bs out1 a3 oc1 m oa1 w3 K3.out.1
       have hid : iblock bs m 2 out1 a3 = match ihead bs a3 with | .error e => .error e | .ok (ll, dl, a5) => isyms bs m ll dl (fuel bs) out1 a5 := by
        unfold iblock
        rw [if_neg (by decide), if_neg (by decide), idyn_by]
        all_goals (cases ihead bs a3 <;> rfl)
       have HB := Lib.hid (And.intro hln hid)
       clear hln hid
       go_upto_region 15 with (go_at_call 143; refine HB.out.1.mono ?_; rintro e w4 ⟨b1, n1, c1, b2, n2, c2, a4, E4, rfl, s4, f4, h4⟩)
       clear c3
       have c3 := cell_of s4.box 3
       simp only [List.getElem?_toArray, List.getElem?_cons_zero, List.getElem?_cons_succ] at c3
       rcases h4 with ⟨k1, k2, k3⟩ | ⟨ll, dl, k1, rfl, k3, k4, k5, k6⟩
       ·have d0 : ((E4 : Int) == 0) = false := by simp; omega
        have K4 := Lib.hid (And.intro s4 (And.intro f4 (And.intro k1 (And.intro k2 k3))))
        clear s4 f4 k1 k2 k3
        go_wp2
        go_roundg k
        case measure => omega
        case rel =>
         obtain ⟨a5, o5, oa5, oc5, E5, s5, y5, h5⟩ := HFin.out w4 ⟨a4, out1, oa1, oc1, E4, K4.out.1, Way.ofRp _ _ _ _ _ K4.out.2.1, .inl ⟨by rw [HB.out.2, K4.out.2.2.1], K4.out.2.2.2.1, K4.out.2.2.2.2⟩⟩ (by decide)
         exact ⟨l, a5, o5, oa5, oc5, E5, rfl, s5, y5, h5⟩
       ·have hcd := rcoded_any R p F bs out1 b1 b2 c1 c2 n1 n2 ll dl a4 oc1 m oa1 w4 s4 k5 k6 k3 k4
        have K4 := Lib.hid (And.intro hcd (And.intro f4 k1))
        clear hcd f4 k1 s4 k5 k6 k3 k4
        go_wp2_with (go_at_call 142; refine K4.out.1.mono ?_; rintro e w5 ⟨rfl, h5⟩; have K5 := Lib.hid h5; clear h5)
        go_roundg k
        case measure => omega
        case rel =>
         obtain ⟨a6, o6, oa6, oc6, E6, s6, y6, h6⟩ := K5.out
         obtain ⟨a5, o5, oa5, oc5, E5, s5, y5, h5⟩ := HFin.out w5 ⟨a6, o6, oa6, oc6, E6, s6, (Way.ofRp _ _ _ _ _ K4.out.2.1).trans y6, by rw [HB.out.2, K4.out.2.2]; exact h6⟩ (by decide)
         exact ⟨l, a5, o5, oa5, oc5, E5, rfl, s5, y5, h5⟩
      ·have hb0 := fail_any R p F bs out1 a3 oc1 m 0 3 oa1 w3 K3.out.1
       have HB := Lib.hid hb0
       clear hb0
       go_wp2_with (go_at_call 144; refine HB.out.mono ?_; rintro e w4 ⟨rfl, S4, f4⟩; have K4 := Lib.hid (And.intro S4 f4); clear S4 f4)
       go_roundg k
       case measure => omega
       case rel => exact ⟨l, a3, out1, oa1, oc1, 3, rfl, K4.out.1, K3.out.2.1.trans (Way.ofR _ _ _ _ _ K4.out.2), .inr (.inr ⟨by decide, by decide, by rw [K3.out.2.2.1]; first | rfl | (rw [if_pos rfl])⟩)⟩
    ·have d0 : ((last : Int) == 0) = false := by simp; omega
     have hM : M0 = .ok (out1, a1) := by
      rcases hcs with ⟨_, k, _⟩ | ⟨_, _, k⟩ | ⟨k, _⟩
      ·exact absurd k hl
      ·exact k
      ·exact absurd h0 k
     have HJ := Lib.hid (And.intro hst (And.intro hway (And.intro h0 hM)))
     clear hst hway hcs hM h0 hl
     go_wp2
     go_meet
     case rel => exact ⟨a1, out1, oa1, oc1, E, HJ.out.1, HJ.out.2.1, .inl HJ.out.2.2⟩
   ·have d0 : ((E : Int) == 0) = false := by simp; omega
    have hM : E < 100 ∧ M0 = .error E := by
     rcases hcs with ⟨k, _⟩ | ⟨k, _⟩ | ⟨_, k2, k3⟩
     ·exact absurd k h0
     ·exact absurd k h0
     ·exact ⟨k2, k3⟩
    have HJ := Lib.hid (And.intro hst (And.intro hway (And.intro h0 hM)))
    clear hst hway hcs hM h0
    by_cases hl : last = 0
    ·subst hl
     go_wp2
     go_meet
     case rel => exact ⟨a1, out1, oa1, oc1, E, HJ.out.1, HJ.out.2.1, .inr HJ.out.2.2⟩
    ·have d1 : ((last : Int) == 0) = false := by simp; omega
     clear hl
     go_wp2
     go_meet
     case rel => exact ⟨a1, out1, oa1, oc1, E, HJ.out.1, HJ.out.2.1, .inr HJ.out.2.2⟩
 case rest =>
  obtain ⟨a1, out1, oa1, oc1, E, s3, y3, h3⟩ := hcut
  obtain ⟨k1, k2, k3, k4, k5, k6, k7⟩ := HK.out
  have hGn : G ∉ R :: p :: blk none := by simp [blk]; omega
  have bG : wc.heap[G]? = some (.cells #[.slice none 0 0, .int .i64 0, .int .i64 0] 154 (0, 0)) := y3.fr.blk k3 hGn
  have fW : Fr [] w wc := k2.step y3.fr (fun x hx => .inr (by simp [blk] at hx; omega))
  have c3 := cell_of s3.box 3
  simp only [List.getElem?_toArray, List.getElem?_cons_zero, List.getElem?_cons_succ] at c3
  have g0 := cell_of bG 0
  have g1 := cell_of bG 1
  have g2 := cell_of bG 2
  have z0 := frozen_of bG 0
  have z1 := frozen_of bG 1
  have z2 := frozen_of bG 2
  simp only [List.getElem?_toArray, List.getElem?_cons_zero, List.getElem?_cons_succ] at g0 g1 g2
  have hput : ∀ (wz : World), Fr [] wc wz → ∀ v0 v1 v2, (((wz.setCell ⟨G, 0, none⟩ v0).setCell ⟨G, 1, none⟩ v1).setCell ⟨G, 2, none⟩ v2).heap[G]? = some (.cells #[v0, v1, v2] 154 (0, 0)) ∧ Fr [G] wz (((wz.setCell ⟨G, 0, none⟩ v0).setCell ⟨G, 1, none⟩ v1).setCell ⟨G, 2, none⟩ v2) := fun wz f v0 v1 v2 =>
   ⟨(setCell_of (setCell_of (setCell_of (f.blk bG (by simp)) _) _) _).trans rfl, (((Fr.refl [G] wz).setCell (by simp) _).setCell (by simp) _).setCell (by simp) _⟩
  have HP := Lib.hid hput
  clear hput
  by_cases h0 : E = 0
  ·subst h0
   have hM : M0 = .ok (out1, a1) := by
    rcases h3 with ⟨_, k⟩ | ⟨k, _⟩
    ·exact k
    ·exact absurd rfl k
   have c0 := cell_of s3.box 0
   have c1 := cell_of s3.box 1
   simp only [List.getElem?_toArray, List.getElem?_cons_zero, List.getElem?_cons_succ] at c0 c1
   obtain ⟨N, hN⟩ : ∃ N, N = out1.length := ⟨_, rfl⟩
   rw [← hN] at c1
   obtain ⟨u, hu⟩ : ∃ u, u = (a1 + 7) / 8 := ⟨_, rfl⟩
   have hus : ∀ w', Fr [] wc w' → Calls Tryz.prog 145 #[.pointer (some ⟨p, 0, none⟩)] w' fun e w'' => e = .returned (.int .i64 (u : Nat)) ∧ w'' = w' := fun w' f' => by
    rw [hu]
    exact (bits.rused_any p F bs a1 w' (bits.rd_fr s3.rd f' (by simp))).mono fun e w'' h => ⟨h.1, h.2.symm⟩
   have hMM : M = .ok (out1, u) := by rw [H.out.2.2.2.1, hM, hu]; rfl
   have HJ := Lib.hid (And.intro hus (And.intro fW (And.intro hMM (And.intro hN (And.intro s3 (And.intro y3 bG))))))
   clear s3 y3 h3 bG fW hM k1 k2 k3 k4 k5 k6 k7 hGn hN hu hus hMM
   go_upto_region 19 with fail
   refine region_tail 10 (by kernel_rfl) (by kernel_rfl) ?_
   simp only [List.take_succ_cons, List.take_zero, List.drop_succ_cons, List.drop_zero]
   repeat (go_big_quiet_step (first | (exact HJ.out.1 _ (Fr.drew1 [] _) _) | (go_loud (exact HJ.out.1 wc.drew (Fr.drew1 [] _) _))))
   refine wpQuiet_nil ?_
   go_wp2
   have hp := HP.out wc.drew (Fr.drew1 [] _) (.slice oa1 N oc1) (.int .i64 (u : Nat)) (.int .i64 0)
   refine bodyPost_ret (results_got6 rfl _ _ G #[.slice oa1 N oc1, .int .i64 (u : Nat), .int .i64 0] (0, 0) rfl hp.1 rfl) rfl ?_
   obtain ⟨j1, j2, j3, j4, j5, j6, j7⟩ := HJ.out
   obtain ⟨q1, q2, q3, q4, q5, q6, q7⟩ := HK.out
   have hnew : ∀ x ∈ blk oa1, w2.heap.size ≤ x := fun x hx => by
    rcases j6.new x hx with k | k
    ·simp [blk] at k
    ·exact k
   obtain ⟨r1, r2⟩ := rd_of_owns j5.own
   have fE := (Fr.drew1 [G] wc).trans hp.2
   refine ⟨j2.step fE (fun x hx => .inr (by simp at hx; omega)), .inr ⟨out1, u, oa1, oc1, j3, by rw [j4], ?_, fun x hx => ⟨by have := hnew x hx; omega, Nat.lt_of_lt_of_le (owns_lt j5.own (blk_own hx)) fE.size⟩⟩⟩
   exact ⟨r1.cs.fr fE (fun x hx => by have := hnew x hx; simp; omega), r1.le, r1.max, r1.nil⟩
  ·have d0 : ((E : Int) != 0) = true := by simp; omega
   have hM : E < 100 ∧ M0 = .error E := by
    rcases h3 with ⟨k, _⟩ | ⟨_, k2, k3⟩
    ·exact absurd k h0
    ·exact ⟨k2, k3⟩
   have HJ := Lib.hid (And.intro bG (And.intro fW (And.intro h0 hM)))
   clear s3 y3 h3 bG fW h0 hM k1 k2 k3 k4 k5 k6 k7 hGn
   go_wp2
   have hp := HP.out wc (Fr.refl _ _) (.slice none 0 0) (.int .i64 0) (.int .i64 (E : Nat))
   refine bodyPost_ret (results_got6 rfl _ _ G #[.slice none 0 0, .int .i64 0, .int .i64 (E : Nat)] (0, 0) rfl hp.1 rfl) rfl ?_
   refine ⟨HJ.out.2.1.step hp.2 (fun x hx => .inr (by have := HK.out.2.2.2.2.2.2; simp at hx; omega)), .inl ⟨E, ?_, by have := HJ.out.2.2.1; omega, HJ.out.2.2.2.1, rfl⟩⟩
   rw [H.out.2.2.2.1, HJ.out.2.2.2.2]
   rfl
end Go.Proofs.YtkmpfgpfbmeihaaGreatDoor.inf
namespace Go.Proofs.YtkmpfgpfbmeihaaGreatDoor.inf
open Go bm bl huf
theorem itake_u {bs : List UInt8} {a n v a1 : Nat} (h : itake bs a n = .ok (v, a1)) : a1 ≤ 8 * bs.length := by
 unfold itake at h
 split at h
 ·simp only [Except.ok.injEq, Prod.mk.injEq] at h; omega
 ·cases h
theorem hread_u (ls : List Nat) : ∀ (f n v : Nat) (bits : List Bool), (hread ls f n v bits).2.1 ≤ n + bits.length
 | 0, n, v, bits => by
  cases h : hsym ls n v with
  | some s => rw [hread_hit h]; simp
  | none => rw [hread_end h]; simp
 | f + 1, n, v, bits => by
  cases h : hsym ls n v with
  | some s => rw [hread_hit h]; simp
  | none =>
   by_cases hm : hmore ls n v = true
   ·cases bits with
    | nil => rw [hread_torn h hm]; simp
    | cons b t =>
     rw [hread_step h hm]
     have := hread_u ls f (n + 1) (2 * v + b2n b) t
     simp only [List.length_cons]
     omega
   ·rw [hread_form h (by simpa using hm)]; simp
theorem isym_u {bs : List UInt8} {ls : List Nat} {a s a1 : Nat} (ha : a ≤ 8 * bs.length) (h : isym bs ls a = .ok (s, a1)) : a1 ≤ 8 * bs.length := by
 unfold isym at h
 split at h
 ·have := hread_u ls 15 0 0 ((bytesBits bs).drop a)
  rw [List.length_drop, bytesBits_length] at this
  simp only [Except.ok.injEq, Prod.mk.injEq] at h
  omega
 ·cases h
theorem ibytes_u {bs : List UInt8} {most : Nat} : ∀ {n : Nat} {out o : List UInt8} {q a : Nat}, q ≤ bs.length → ibytes bs most n out q = .ok (o, a) → a ≤ 8 * bs.length
 | 0, out, o, q, a, hq, h => by simp only [ibytes, Except.ok.injEq, Prod.mk.injEq] at h; omega
 | n + 1, out, o, q, a, hq, h => by
  rw [ibytes] at h
  split at h
  ·split at h
   ·cases h
   ·exact ibytes_u (by omega) h
  ·cases h
theorem istored_u {bs : List UInt8} {most a a1 : Nat} {out o : List UInt8} (h : istored bs most out a = .ok (o, a1)) : a1 ≤ 8 * bs.length := by
 unfold istored at h
 split at h
 ·split at h
  ·exact ibytes_u (by omega) h
  ·cases h
 ·cases h
theorem ilength_u {bs : List UInt8} {s a n a1 : Nat} (ha : a ≤ 8 * bs.length) (h : ilength bs s a = .ok (n, a1)) : a1 ≤ 8 * bs.length := by
 unfold ilength at h
 split at h
 ·simp only [Except.ok.injEq, Prod.mk.injEq] at h; omega
 ·split at h
  ·simp only [Except.ok.injEq, Prod.mk.injEq] at h; omega
  ·split at h
   ·cases h
   ·rename_i hh; have := itake_u hh; simp only [Except.ok.injEq, Prod.mk.injEq] at h; omega
theorem idist_u {bs : List UInt8} {s a n a1 : Nat} (ha : a ≤ 8 * bs.length) (h : idist bs s a = .ok (n, a1)) : a1 ≤ 8 * bs.length := by
 unfold idist at h
 split at h
 ·simp only [Except.ok.injEq, Prod.mk.injEq] at h; omega
 ·split at h
  ·cases h
  ·rename_i hh; have := itake_u hh; simp only [Except.ok.injEq, Prod.mk.injEq] at h; omega
theorem imatch_u {bs : List UInt8} {most : Nat} {dl : List Nat} {s a a1 : Nat} {out o : List UInt8} (ha : a ≤ 8 * bs.length) (h : imatch bs most dl s out a = .ok (o, a1)) : a1 ≤ 8 * bs.length := by
 unfold imatch at h
 split at h
 ·cases h
 ·rename_i n a2 h1
  have e1 := ilength_u ha h1
  split at h
  ·cases h
  ·rename_i d a3 h2
   have e2 := isym_u e1 h2
   split at h
   ·cases h
   ·split at h
    ·cases h
    ·rename_i b a4 h3
     have e3 := idist_u e2 h3
     split at h
     ·cases h
     ·split at h
      ·cases h
      ·simp only [Except.ok.injEq, Prod.mk.injEq] at h; omega
theorem isyms_u {bs : List UInt8} {most : Nat} {ll dl : List Nat} : ∀ {f : Nat} {out o : List UInt8} {a a1 : Nat}, a ≤ 8 * bs.length → isyms bs most ll dl f out a = .ok (o, a1) → a1 ≤ 8 * bs.length
 | 0, out, o, a, a1, _, h => by simp only [isyms] at h; cases h
 | f + 1, out, o, a, a1, ha, h => by
  rw [isyms] at h
  split at h
  ·cases h
  ·rename_i s a2 hs
   have h1 := isym_u ha hs
   split at h
   ·split at h
    ·cases h
    ·exact isyms_u h1 h
   ·split at h
    ·simp only [Except.ok.injEq, Prod.mk.injEq] at h; omega
    ·split at h
     ·cases h
     ·split at h
      ·cases h
      ·rename_i o2 a3 hm
       exact isyms_u (imatch_u h1 hm) h
theorem ifirst_u {bs : List UInt8} : ∀ {ps fs gs : List Nat} {a a1 : Nat}, a ≤ 8 * bs.length → ifirst bs ps fs a = .ok (gs, a1) → a1 ≤ 8 * bs.length
 | [], fs, gs, a, a1, ha, h => by simp only [ifirst, Except.ok.injEq, Prod.mk.injEq] at h; omega
 | i :: t, fs, gs, a, a1, ha, h => by
  rw [ifirst] at h
  split at h
  ·cases h
  ·rename_i v a2 hm
   exact ifirst_u (itake_u hm) h
theorem ilens_u {bs : List UInt8} {ls : List Nat} {n : Nat} : ∀ {f : Nat} {L K : List Nat} {a a1 : Nat}, a ≤ 8 * bs.length → ilens bs ls n f L a = .ok (K, a1) → a1 ≤ 8 * bs.length
 | 0, L, K, a, a1, _, h => by simp only [ilens] at h; cases h
 | f + 1, L, K, a, a1, ha, h => by
  rw [ilens] at h
  split at h
  ·simp only [Except.ok.injEq, Prod.mk.injEq] at h; omega
  ·split at h
   ·cases h
   ·rename_i s a2 hs
    have h1 := isym_u ha hs
    split at h
    ·exact ilens_u h1 h
    ·split at h
     ·cases h
     ·rename_i v a3 hm
      split at h
      ·cases h
      ·exact ilens_u (itake_u hm) h
theorem idyn_u {bs : List UInt8} {most a a1 : Nat} {out o : List UInt8} (h : idyn bs most out a = .ok (o, a1)) : a1 ≤ 8 * bs.length := by
 unfold idyn at h
 split at h
 ·cases h
 ·split at h
  ·cases h
  ·split at h
   ·cases h
   ·split at h
    ·cases h
    ·split at h
     ·cases h
     ·rename_i v3 b3 h3
      have e3 := itake_u h3
      unfold idyn2 at h
      split at h
      ·cases h
      ·rename_i fs b4 h4
       have e4 := ifirst_u e3 h4
       split at h
       ·cases h
       ·unfold idyn3 at h
        split at h
        ·cases h
        ·rename_i ls b5 h5
         have e5 := ilens_u e4 h5
         split at h
         ·cases h
         ·split at h
          ·cases h
          ·split at h
           ·cases h
           ·exact isyms_u e5 h
theorem iblock_u {bs : List UInt8} {most k a a1 : Nat} {out o : List UInt8} (ha : a ≤ 8 * bs.length) (h : iblock bs most k out a = .ok (o, a1)) : a1 ≤ 8 * bs.length := by
 unfold iblock at h
 split at h
 ·exact istored_u h
 ·split at h
  ·exact isyms_u ha h
  ·exact idyn_u h
theorem irawF_u {bs : List UInt8} {most : Nat} : ∀ {f a a1 : Nat} {out o : List UInt8}, irawF bs most f out a = .ok (o, a1) → a1 ≤ 8 * bs.length
 | 0, a, a1, out, o, h => by simp only [irawF] at h; cases h
 | f + 1, a, a1, out, o, h => by
  rw [irawF] at h
  split at h
  ·cases h
  ·split at h
   ·cases h
   ·rename_i k a2 h2
    split at h
    ·cases h
    ·split at h
     ·cases h
     ·rename_i o2 a3 h3
      split at h
      ·exact irawF_u h
      ·simp only [Except.ok.injEq, Prod.mk.injEq] at h
       have := iblock_u (itake_u h2) h3
       omega
theorem iraw_u {bs out : List UInt8} {m n : Nat} (h : iraw bs m = .ok (out, n)) : n ≤ bs.length := by
 unfold iraw at h
 split at h
 ·cases h
 ·rename_i o a hr
  have := irawF_u hr
  simp only [Except.ok.injEq, Prod.mk.injEq] at h
  omega
end Go.Proofs.YtkmpfgpfbmeihaaGreatDoor.inf
namespace Go.Proofs.YtkmpfgpfbmeihaaGreatDoor.inf
open Go Go.RowKit lib bm bl huf
theorem rd_byte {w : World} {a : Option Addr} {cap : Nat} {bs : List UInt8} (h : lib.Rd w a cap bs) {i : Nat} (hi : i < bs.length) : ∃ g o, a = some ⟨g, o, none⟩ ∧ w.cell? ⟨g, o + i, none⟩ = some (.int .u8 (byteAt bs i : Nat)) := by
 obtain ⟨g, o, ha, hc⟩ := h.at hi
 refine ⟨g, o, ha, ?_⟩
 rw [hc]
 unfold byteAt
 rw [List.getElem?_eq_getElem hi]
 rfl
set_option maxHeartbeats 8000000 in
theorem zlib_any (a : Option Addr) (cap : Nat) (bs : List UInt8) (m : Nat) (w : World) (h : lib.Rd w a cap bs) (hlen : bs.length ≤ 100000000) (hm8 : m ≤ 100000000) :
  Calls Tryz.prog 75 #[.slice a bs.length cap, .int .i64 (m : Nat)] w (RawGood w (izlib bs m)) := by
 obtain ⟨L, hL⟩ : ∃ L, L = bs.length := ⟨_, rfl⟩
 obtain ⟨M, hM⟩ : ∃ M, M = izlib bs m := ⟨_, rfl⟩
 rw [← hM]
 by_cases h2 : bs.length < 2
 ·have hM4 : M = .error 4 := by rw [hM]; unfold izlib; rw [if_pos h2]
  rw [← hL] at h2 ⊢
  have d0 : decide ((L : Int) < 2) = true := by simp; omega
  have HM := Lib.hid hM4
  clear h hL hM hM4 hlen h2
  go_enter Tryz.func75, Tryz.ntmps75
  go_wp2
  go_ret3
  exact .inl ⟨4, HM.out, by decide, by decide, rfl, Fr.refl _ _⟩
 ·obtain ⟨g, o, rfl, c0⟩ := rd_byte h (i := 0) (by omega)
  obtain ⟨g', o', ha', c1⟩ := rd_byte h (i := 1) (by omega)
  simp only [Option.some.injEq, Addr.mk.injEq, and_true] at ha'
  obtain ⟨rfl, rfl⟩ := ha'
  rw [Nat.add_zero] at c0
  obtain ⟨x0, hx0⟩ : ∃ x, x = byteAt bs 0 := ⟨_, rfl⟩
  obtain ⟨x1, hx1⟩ : ∃ x, x = byteAt bs 1 := ⟨_, rfl⟩
  have b0 : x0 < 256 := by rw [hx0]; exact byteAt_lt _ _
  have b1 : x1 < 256 := by rw [hx1]; exact byteAt_lt _ _
  rw [← hx0] at c0
  rw [← hx1] at c1
  have hM1 : M = if zhead x0 x1 = false then .error 3 else match iraw (bs.drop 2) m with
    | .error e => .error e
    | .ok (out, n) => if bs.length - (n + 2) < 4 then .error 4 else if be32 bs (n + 2) = sums.adler out then .ok (out, n + 6) else .error 6 := by
   rw [hM]; unfold izlib; rw [if_neg h2, ← hx0, ← hx1]
   all_goals rfl
  have hle := h.le
  have hmx := h.max
  have hr2 : lib.Rd w (cutAtN (some ⟨g, o, none⟩) cap 2 1) (cap - 2) (bs.drop 2) := h.drop 2 (by omega)
  have hraw : ∀ w', Fr [] w w' → Calls Tryz.prog 110 #[.slice (cutAtN (some ⟨g, o, none⟩) cap 2 1) (L - 2 : Nat) (cap - 2), .int .i64 (m : Nat)] w' (RawGood w' (iraw (bs.drop 2) m)) := fun w' f => by
   have := raw_any _ (cap - 2) (bs.drop 2) m w' (hr2.fr f) (by rw [List.length_drop]; omega) hm8
   rwa [List.length_drop, ← hL] at this
  have hsl := lib.run_slice_from bits.sliceU8 2 (some ⟨g, o, none⟩) L cap 2 rfl (by omega) (by omega)
  rw [← hL] at h2 hle ⊢
  have d0 : decide ((L : Int) < 2) = false := by simp; omega
  obtain ⟨y0, hy0⟩ : ∃ y, y = x0 % 16 := ⟨_, rfl⟩
  obtain ⟨y1, hy1⟩ : ∃ y, y = x0 / 16 := ⟨_, rfl⟩
  obtain ⟨z, hz⟩ : ∃ z, z = x0 * 256 + x1 := ⟨_, rfl⟩
  obtain ⟨y2, hy2⟩ : ∃ y, y = z % 31 := ⟨_, rfl⟩
  obtain ⟨y3, hy3⟩ : ∃ y, y = x1 / 32 % 2 * 32 := ⟨_, rfl⟩
  have e0 := u8_and15 x0 b0
  have e3 := u8_and32 x1 b1
  rw [← hy0] at e0
  rw [← hy3] at e3
  have e1 : (x0 : Int) / 16 = (y1 : Int) := by omega
  have eor : bits .or .i64 ((x0 : Int) * 256) (x1 : Int) = (z : Int) := by
   have := i64_put x0 x1 8 (by decide) (by simpa using b1) (by omega)
   rw [hz]
   simpa using this
  have erem : Int.tmod (z : Int) 31 = (y2 : Int) := by rw [Int.tmod_eq_emod_of_nonneg (by omega)]; omega
  have eemod : (z : Int) % 31 = (y2 : Int) := by omega
  have hzh : zhead x0 x1 = ((y0 == 8) && (decide (y1 ≤ 7) && ((y2 == 0) && (y3 == 0)))) := by
   unfold zhead
   rw [← hy0, ← hy1, ← hz, ← hy2]
   congr 3
   rw [Bool.eq_iff_iff, beq_iff_eq, beq_iff_eq]
   omega
  have i0 : (0 : Int) < (L : Int) := by omega
  have i1 : (1 : Int) < (L : Int) := by omega
  have hyb : y0 < 256 ∧ y1 < 256 ∧ y3 < 256 ∧ z < 65536 ∧ y2 < 31 := by omega
  have H := Lib.hid (And.intro h (And.intro hlen (And.intro hL (And.intro hM1 (And.intro hraw hzh)))))
  clear h hlen hL hM1 hraw hzh hM hx0 hx1 hy0 hy1 hy2 hy3 hz hr2 h2
  go_enter Tryz.func75, Tryz.ntmps75
  go_upto_region 3 with fail
  clear d0
  go_cut [43] from 11 to 43 (fun s43 wc => s43 = .bool (!((y0 == 8) && (decide (y1 ≤ 7) && ((y2 == 0) && (y3 == 0))))) ∧ Fr [] w wc)
  case first =>
   by_cases k0 : y0 = 8
   ·have t0 : ((y0 : Int) != 8) = false := by simp; omega
    by_cases k1 : y1 ≤ 7
    ·have t1 : decide ((7 : Int) < y1) = false := by simp; omega
     by_cases k2 : y2 = 0
     ·have t2 : ((y2 : Int) != 0) = false := by simp; omega
      by_cases k3 : y3 = 0
      ·have t3 : ((y3 : Int) != 0) = false := by simp; omega
       have K := Lib.hid (And.intro k0 (And.intro k1 (And.intro k2 k3)))
       clear k0 k1 k2 k3
       go_quiet (fail)
       go_wp2
       go_meet
       case rel => exact ⟨by obtain ⟨k0, k1, k2, k3⟩ := K.out; simp [k0, k1, k2, k3], Fr.drewN _ _ _⟩
      ·have t3 : ((y3 : Int) != 0) = true := by simp; omega
       have K := Lib.hid k3
       clear k0 k1 k2 k3
       go_quiet (fail)
       go_wp2
       go_meet
       case rel => exact ⟨by have := K.out; simp [this], Fr.drewN _ _ _⟩
     ·have t2 : ((y2 : Int) != 0) = true := by simp; omega
      have K := Lib.hid k2
      clear k0 k1 k2
      go_quiet (fail)
      go_wp2
      go_meet
      case rel => exact ⟨by have := K.out; simp [this], Fr.drewN _ _ _⟩
    ·have t1 : decide ((7 : Int) < y1) = true := by simp; omega
     have K := Lib.hid k1
     clear k0 k1
     go_quiet (fail)
     go_wp2
     go_meet
     case rel => exact ⟨by have := K.out; simp [this], Fr.drewN _ _ _⟩
   ·have t0 : ((y0 : Int) != 8) = true := by simp; omega
    have K := Lib.hid k0
    clear k0
    go_quiet (fail)
    go_wp2
    go_meet
    case rel => exact ⟨by have := K.out; simp [this], Fr.drewN _ _ _⟩
  case rest =>
   obtain ⟨rfl, f1⟩ := hcut
   rw [← H.out.2.2.2.2.2]
   obtain ⟨bz, hbz⟩ : ∃ b, b = zhead x0 x1 := ⟨_, rfl⟩
   rw [← hbz]
   obtain ⟨h1, h2, h3, h4, h5, h6⟩ := H.out
   rw [← hbz] at h4
   have HF := Lib.hid (And.intro f1 (And.intro h4 (h5 wc f1)))
   clear f1 h4 h5 h6 h1 h2 h3 hbz e0 e1 e3 eor erem eemod hyb c0 c1
   cases bz
   ·go_wp2
    go_ret3
    exact .inl ⟨3, by rw [HF.out.2.1]; first | rfl | (rw [if_pos rfl]), by decide, by decide, rfl, HF.out.1⟩
   ·obtain ⟨qa, hqa⟩ : ∃ q, q = cutAtN (some ⟨g, o, none⟩) cap 2 1 := ⟨_, rfl⟩
    obtain ⟨qc, hqc⟩ : ∃ q, q = cap - 2 := ⟨_, rfl⟩
    obtain ⟨qn, hqn⟩ : ∃ q, q = L - 2 := ⟨_, rfl⟩
    rw [← hqa, ← hqc, ← hqn] at hsl
    have hraw := HF.out.2.2
    rw [← hqa, ← hqc, ← hqn] at hraw
    have hM2 : M = match iraw (bs.drop 2) m with
      | .error e => .error e
      | .ok (out, n) => if bs.length - (n + 2) < 4 then .error 4 else if be32 bs (n + 2) = sums.adler out then .ok (out, n + 6) else .error 6 := by
     rw [HF.out.2.1]; first | rfl | (rw [if_neg (by decide)])
    have HR := Lib.hid (And.intro hraw hM2)
    clear hqa hqc hqn hraw hM2
    go_upto_region 6 with (go_at_call 110; refine HR.out.1.mono ?_; rintro e w2 (⟨c, hm, k0, k1, rfl, f2⟩ | ⟨out, n, ao, hm, rfl, rd2, nb2, f2⟩))
    ·have K2 := Lib.hid (And.intro hm f2)
     have d2 : ((c : Int) != 0) = true := by simp; omega
     clear hm f2 hsl
     go_wp2
     go_ret3
     exact .inl ⟨c, by rw [HR.out.2, K2.out.1], k0, k1, rfl, HF.out.1.trans K2.out.2⟩
    ·have hnu := iraw_u hm
     rw [List.length_drop, ← H.out.2.2.1] at hnu
     obtain ⟨n2, hn2⟩ : ∃ n2, n2 = n + 2 := ⟨_, rfl⟩
     have en2 : (n : Int) + 2 = (n2 : Int) := by omega
     have hLb : L ≤ 100000000 := by rw [H.out.2.2.1]; exact H.out.2.1
     have hnL : n2 ≤ L := by omega
     have hM3 : M = if L - n2 < 4 then .error 4 else if be32 bs n2 = sums.adler out then .ok (out, n2 + 4) else .error 6 := by
      rw [HR.out.2, hm, hn2, H.out.2.2.1]
     have K2 := Lib.hid (And.intro hM3 (And.intro rd2 (And.intro nb2 (And.intro (HF.out.1.trans f2) hn2))))
     clear hm rd2 nb2 f2 hn2 hM3 hsl
     by_cases h4 : L - n2 < 4
     ·have d4 : decide ((L : Int) - (n2 : Int) < 4) = true := by simp; omega
      have H4 := Lib.hid h4
      clear h4
      go_wp2
      go_ret3
      exact .inl ⟨4, by rw [K2.out.1, if_pos H4.out], by decide, by decide, rfl, K2.out.2.2.2.1⟩
     ·have d4 : decide ((L : Int) - (n2 : Int) < 4) = false := by simp; omega
      go_upto_region 11 with fail
      clear d4 en2
      have rdw := H.out.1.fr K2.out.2.2.2.1
      have hbl : bs.length = L := H.out.2.2.1.symm
      obtain ⟨g0, o0, q0, c0⟩ := rd_byte rdw (i := n2) (by omega)
      obtain ⟨g1, o1, q1, c1⟩ := rd_byte rdw (i := n2 + 1) (by omega)
      obtain ⟨g2, o2, q2, c2⟩ := rd_byte rdw (i := n2 + 2) (by omega)
      obtain ⟨g3, o3, q3, c3⟩ := rd_byte rdw (i := n2 + 3) (by omega)
      simp only [Option.some.injEq, Addr.mk.injEq, and_true] at q0 q1 q2 q3
      obtain ⟨rfl, rfl⟩ := q0
      obtain ⟨rfl, rfl⟩ := q1
      obtain ⟨rfl, rfl⟩ := q2
      obtain ⟨rfl, rfl⟩ := q3
      have l0 := byteAt_lt bs n2
      have l1 := byteAt_lt bs (n2 + 1)
      have l2 := byteAt_lt bs (n2 + 2)
      have l3 := byteAt_lt bs (n2 + 3)
      have hbe : be32 bs n2 = byteAt bs n2 * 16777216 + byteAt bs (n2 + 1) * 65536 + byteAt bs (n2 + 2) * 256 + byteAt bs (n2 + 3) := rfl
      generalize byteAt bs n2 = y0 at *
      generalize byteAt bs (n2 + 1) = y1 at *
      generalize byteAt bs (n2 + 2) = y2 at *
      generalize byteAt bs (n2 + 3) = y3 at *
      obtain ⟨z1, hz1⟩ : ∃ z, z = y0 * 16777216 + y1 * 65536 := ⟨_, rfl⟩
      obtain ⟨z2, hz2⟩ : ∃ z, z = z1 + y2 * 256 := ⟨_, rfl⟩
      obtain ⟨z3, hz3⟩ : ∃ z, z = z2 + y3 := ⟨_, rfl⟩
      have r1 : bits .or .u32 ((y0 : Int) * 16777216) ((y1 : Int) * 65536) = (z1 : Int) := by
       have := sums.or_hi (y0 * 16777216) (y1 * 65536) 24 (by omega) (by decide) (by omega) (by omega)
       rw [← hz1] at this
       simpa using this
      have r2 : bits .or .u32 (z1 : Int) ((y2 : Int) * 256) = (z2 : Int) := by
       have := sums.or_hi z1 (y2 * 256) 16 (by omega) (by decide) (by omega) (by omega)
       rw [← hz2] at this
       simpa using this
      have r3 : bits .or .u32 (z2 : Int) (y3 : Int) = (z3 : Int) := by
       have := sums.or_hi z2 y3 8 (by omega) (by decide) (by omega) (by omega)
       rw [← hz3] at this
       exact this
      have hz : be32 bs n2 = z3 := by rw [hbe]; omega
      have hzb : z3 < 4294967296 := by omega
      have i0 : (n2 : Int) < (L : Int) := by omega
      have i1 : (n2 : Int) + 1 < (L : Int) := by omega
      have i2 : (n2 : Int) + 2 < (L : Int) := by omega
      have i3 : (n2 : Int) + 3 < (L : Int) := by omega
      have had := sums.adler_any ao out.length out w2.drew (K2.out.2.1.fr (Fr.drew1 [] w2))
      obtain ⟨N, hN⟩ : ∃ N, N = out.length := ⟨_, rfl⟩
      obtain ⟨A, hA⟩ : ∃ A, A = sums.adler out := ⟨_, rfl⟩
      have hAl : A < 4294967296 := by rw [hA]; exact sums.adler_lt out
      have hM4 : M = if z3 = A then .ok (out, n2 + 4) else .error 6 := by rw [K2.out.1, if_neg h4, hz, hA]
      rw [← hN, ← hA] at had
      rw [← hN]
      obtain ⟨S, hS⟩ : ∃ S : List Nat, S = [] := ⟨_, rfl⟩
      have hgS : g ∉ S := by rw [hS]; simp
      have x0 : ∀ x, (sup S w2.drew x).cell? ⟨g, o + n2, none⟩ = some (.int .u8 (y0 : Nat)) := fun x => (sup_fr S w2.drew x).cell ((Fr.drew1 [] w2).cell c0 (by simp)) hgS
      have x1 : ∀ x, (sup S w2.drew x).cell? ⟨g, o + (n2 + 1), none⟩ = some (.int .u8 (y1 : Nat)) := fun x => (sup_fr S w2.drew x).cell ((Fr.drew1 [] w2).cell c1 (by simp)) hgS
      have x2 : ∀ x, (sup S w2.drew x).cell? ⟨g, o + (n2 + 2), none⟩ = some (.int .u8 (y2 : Nat)) := fun x => (sup_fr S w2.drew x).cell ((Fr.drew1 [] w2).cell c2 (by simp)) hgS
      have x3 : ∀ x, (sup S w2.drew x).cell? ⟨g, o + (n2 + 3), none⟩ = some (.int .u8 (y3 : Nat)) := fun x => (sup_fr S w2.drew x).cell ((Fr.drew1 [] w2).cell c3 (by simp)) hgS
      have HZ := Lib.hid (And.intro had (And.intro hM4 (And.intro hN hS)))
      clear had hM4 hN hS hA hz hz1 hz2 hz3 hbe hbl rdw c0 c1 c2 c3 h4 hgS
      refine region_mix 32 [(false, 0), (false, 1), (false, 2), (false, 3), (false, 4), (false, 5), (false, 6), (false, 7), (false, 8), (false, 9), (false, 10), (false, 11), (false, 12), (false, 13), (false, 14), (false, 15), (false, 16), (false, 17), (false, 18), (false, 19), (false, 20), (false, 21), (false, 22), (false, 23), (false, 24), (false, 25), (false, 26), (false, 27), (false, 28), (false, 29), (true, 30), (false, 31)] S (by kernel_rfl) (by kernel_rfl) (fun _ _ d _ _ h => by cases d <;> exact h) ?_
      simp only [List.map_cons, List.map_nil, List.getD_cons_zero, List.getD_cons_succ, List.drop_succ_cons, List.drop_zero, List.drop_nil]
      refine mix_seg 30 rfl ?_
      simp only [List.take_succ_cons, List.take_zero, List.drop_succ_cons, List.drop_zero, List.map_cons, List.map_nil]
      repeat (go_big_quiet_step (fail))
      refine wpQuiet_nil ?_
      clear x0 x1 x2 x3
      refine mix_eff rfl ?_
      intro X hX
      go_wp2_with (go_at_call 104; refine HZ.out.1.mono ?_; rintro e w3 ⟨rfl, f3⟩)
      refine hX.out _ _ (by rw [HZ.out.2.2.2]; exact f3) ?_
      clear hX X
      refine mix_seg 1 rfl ?_
      simp only [List.take_succ_cons, List.take_zero, List.drop_succ_cons, List.drop_zero, List.map_cons, List.map_nil]
      repeat (go_big_quiet_step (fail))
      refine wpQuiet_nil ?_
      refine mix_nil ?_
      have HF3 := Lib.hid (K2.out.2.2.2.1.trans ((Fr.drew1 [] w2).trans f3))
      have hf3 := Lib.hid f3
      clear f3 r1 r2 r3 i0 i1 i2 i3
      by_cases hza : z3 = A
      ·have d5 : ((z3 : Int) != (A : Int)) = false := by simp; omega
       have HA := Lib.hid hza
       clear hza
       go_wp2
       go_ret3
       have f23 := (Fr.drew1 [] w2).trans hf3.out
       refine .inr ⟨out, n2 + 4, ao, by rw [HZ.out.2.1, if_pos HA.out], by rw [HZ.out.2.2.1]; first | rfl | go_num, K2.out.2.1.fr f23, fun x hx => ⟨?_, Nat.lt_of_lt_of_le (K2.out.2.2.1 x hx).2 f23.size⟩, HF3.out⟩
       exact Nat.le_trans HF.out.1.size (K2.out.2.2.1 x hx).1
      ·have d5 : ((z3 : Int) != (A : Int)) = true := by simp; omega
       have HA := Lib.hid hza
       clear hza
       go_wp2
       go_ret3
       exact .inl ⟨6, by rw [HZ.out.2.1, if_neg HA.out], by decide, by decide, rfl, HF3.out⟩
end Go.Proofs.YtkmpfgpfbmeihaaGreatDoor.inf
namespace Go.Proofs.YtkmpfgpfbmeihaaGreatDoor.crc
open Go Go.RowKit lib bm
theorem ofInt_u32 (a : Nat) (ha : a < 4294967296) : (BitVec.ofInt 32 (a : Int)).toNat = a := by
 rw [BitVec.ofInt_natCast, BitVec.toNat_ofNat]
 exact Nat.mod_eq_of_lt (by omega)
theorem u32_xor (a b : Nat) (ha : a < 4294967296) (hb : b < 4294967296) : bits .xor .u32 (a : Int) (b : Int) = ((a ^^^ b : Nat) : Int) := by
 have hx := xor_lt ha hb
 show IntKind.u32.wrap ((BitVec.ofInt 32 (a : Int) ^^^ BitVec.ofInt 32 (b : Int)).toNat : Int) = _
 rw [BitVec.toNat_xor, ofInt_u32 a ha, ofInt_u32 b hb]
 unfold IntKind.wrap
 simp only [IntKind.signed, IntKind.bits, Bool.false_and, Bool.false_eq_true, if_false, show (2 : Int) ^ 32 = 4294967296 from rfl]
 omega
theorem u32_low (a : Nat) (ha : a < 4294967296) : bits .and .u32 (a : Int) 1 = ((a % 2 : Nat) : Int) := by
 show IntKind.u32.wrap ((BitVec.ofInt 32 (a : Int) &&& BitVec.ofInt 32 ((1 : Nat) : Int)).toNat : Int) = _
 rw [BitVec.toNat_and, ofInt_u32 a ha, ofInt_u32 1 (by decide), Nat.and_one_is_mod]
 unfold IntKind.wrap
 simp only [IntKind.signed, IntKind.bits, Bool.false_and, Bool.false_eq_true, if_false, show (2 : Int) ^ 32 = 4294967296 from rfl]
 omega
theorem index_str (bs : List UInt8) {i : Nat} (hi : i < bs.length) (w : World) : (Instr.index 9 (.string (str bs)) (.int .i64 (i : Nat))).run Tryz.prog w = .ok (.int .u8 ((bs[i].toNat : Nat) : Int)) w := by
 have hs : (str bs).size = bs.length := by simp [str, ByteArray.size]
 have e := run_index_string (P := Tryz.prog) w 9 (str bs) .i64 i Tryz.underlying9
 rw [dif_pos ⟨by omega, by rw [hs]; omega⟩] at e
 simp only [Int.toNat_natCast] at e
 have h2 : (str bs)[i]'(by rw [hs]; exact hi) = bs[i] := by
  show bs.toArray[i]'(by simpa using hi) = bs[i]
  simp
 rw [h2] at e
 exact e
theorem u32_not (c : Nat) (hc : c < 4294967296) : bits .xor .u32 IntKind.u32.max (c : Int) = ((4294967295 - c : Nat) : Int) := by
 show IntKind.u32.wrap ((BitVec.ofInt 32 4294967295 ^^^ BitVec.ofInt 32 (c : Int)).toNat : Int) = _
 rw [show BitVec.ofInt 32 4294967295 = BitVec.allOnes 32 by decide, BitVec.allOnes_xor, BitVec.toNat_not, ofInt_u32 c hc]
 unfold IntKind.wrap
 simp only [IntKind.signed, IntKind.bits, Bool.false_and, Bool.false_eq_true, if_false, show (2 : Int) ^ 32 = 4294967296 from rfl]
 omega
theorem st_cases (c : Nat) : st c = if c % 2 = 1 then (c / 2) ^^^ poly else c / 2 := rfl
set_option maxHeartbeats 2000000 in
theorem rcrc_any (bs : List UInt8) (w : World) (hlen : bs.length ≤ 281474976710656) : Calls Tryz.prog 89 #[.string (str bs)] w fun e w' => e = .returned (.int .u32 (crc bs : Nat)) ∧ Fr [] w w' := by
 have hsz : (str bs).size = bs.length := by simp [str, ByteArray.size]
 obtain ⟨L, hL⟩ : ∃ L, L = bs.length := ⟨_, rfl⟩
 obtain ⟨s, hs⟩ : ∃ s, s = str bs := ⟨_, rfl⟩
 have hidx : ∀ i, i < L → ∀ w : World, (Instr.index 9 (.string (str bs)) (.int .i64 (i : Nat))).run Tryz.prog w = .ok (.int .u8 (((bs[i]?.getD 0).toNat : Nat) : Int)) w := fun i hi w => by
  have h := index_str bs (i := i) (by omega) w
  rwa [show bs[i] = bs[i]?.getD 0 by rw [List.getElem?_eq_getElem (by omega)]; rfl] at h
 rw [← hs, ← hL] at hsz
 rw [← hs] at hidx ⊢
 rw [← hL] at hlen
 have HI := Lib.hid (And.intro hL hidx)
 clear hL hs hidx
 go_enter Tryz.func89, Tryz.ntmps89
 go_wp2
 go_loopg [3, 4] L (fun k s3 s4 wr => ∃ i c : Nat, s4 = .int .i64 (i : Nat) ∧ s3 = .int .u32 (c : Nat) ∧ i + k = L ∧ c < 4294967296 ∧ c = (bs.take i).foldl inb 4294967295 ∧ Fr [] w wr)
 case atStart => exact ⟨0, 4294967295, rfl, rfl, by omega, by decide, rfl, Fr.refl _ _⟩
 case round =>
  obtain ⟨i, c, rfl, rfl, hik, hc, he, hf⟩ := hrel
  have H := Lib.hid (And.intro he hf)
  clear he hf
  by_cases hi : i < L
  ·obtain ⟨k, rfl⟩ : ∃ k, gk = k + 1 := ⟨gk - 1, by omega⟩
   have hix := HI.out.2 i hi
   have hil : i < bs.length := by rw [← HI.out.1]; exact hi
   have hT : (bs.take (i + 1)).foldl inb 4294967295 = stN 8 (c ^^^ (bs[i]?.getD 0).toNat) := by
    rw [List.take_succ_eq_append_getElem hil, List.foldl_append, List.getElem?_eq_getElem hil, H.out.1]; rfl
   have hb := UInt8.toNat_lt (bs[i]?.getD 0)
   have hx := u32_xor c ((bs[i]?.getD 0).toNat) hc (by omega)
   have hxl := xor_lt hc (show (bs[i]?.getD 0).toNat < 4294967296 by omega)
   generalize (bs[i]?.getD 0).toNat = b at *
   generalize c ^^^ b = x at *
   have HT := Lib.hid hT
   clear hT hil
   go_upto_block 2 with fail
   clear hx hix
   obtain ⟨wo, hwo⟩ : ∃ wo, wo = wr := ⟨_, rfl⟩
   rw [← hwo] at H ⊢
   clear hwo
   go_wp2
   go_loopg [3, 5] 8 (fun k2 s3 s5 wq => ∃ j y : Nat, s5 = .int .i64 (j : Nat) ∧ s3 = .int .u32 (y : Nat) ∧ j + k2 = 8 ∧ y < 4294967296 ∧ stN 8 x = stN (8 - j) y ∧ wq = wo)
   case atStart => exact ⟨0, x, rfl, rfl, rfl, hxl, rfl, rfl⟩
   case round =>
    obtain ⟨j, y, rfl, rfl, hj, hy, he, rfl⟩ := hrel
    have HE := Lib.hid he
    clear he
    by_cases h8 : j < 8
    ·obtain ⟨k2, rfl⟩ : ∃ k, gk = k + 1 := ⟨gk - 1, by omega⟩
     have hlow := u32_low y hy
     have hst : stN (8 - j) y = stN (8 - (j + 1)) (st y) := by rw [show 8 - j = 8 - (j + 1) + 1 by omega]; rfl
     have HST := Lib.hid hst
     clear hst
     by_cases hodd : y % 2 = 1
     ·have hh := u32_xor (y / 2) poly (by omega) (by decide)
      have hl2 := st_lt hy
      have hsy : st y = (y / 2) ^^^ poly := by rw [st_cases, if_pos hodd]
      rw [← hsy] at hh
      have HS := Lib.hid hsy
      clear hsy
      unfold poly at hh
      rw [show ((y / 2 : Nat) : Int) = (y : Int) / 2 by omega] at hh
      rw [hodd] at hlow
      generalize st y = z at *
      go_wp2
      go_roundg k2
      case measure => omega
      case rel => exact ⟨j + 1, z, by go_num, by go_num, by omega, hl2, by rw [HE.out, HST.out], rfl⟩
     ·have hsy : st y = y / 2 := by rw [st_cases, if_neg hodd]
      rw [show y % 2 = 0 by omega] at hlow
      have HS := Lib.hid hsy
      clear hsy
      go_wp2
      go_roundg k2
      case measure => omega
      case rel => exact ⟨j + 1, y / 2, by go_num, by go_num, by omega, by omega, by rw [HE.out, HST.out, HS.out], rfl⟩
    ·obtain rfl : j = 8 := by omega
     go_wp2
     go_roundg k
     case measure => omega
     case rel => exact ⟨i + 1, y, by go_num, by go_num, by omega, hy, by rw [HT.out, HE.out]; rfl, H.out.2⟩
  ·obtain rfl : i = L := by omega
   have hcr : crc bs = 4294967295 - c := by unfold crc crcs; rw [H.out.1, HI.out.1, List.take_length]
   have HC := Lib.hid hcr
   clear hcr
   have hn := u32_not c hc
   go_wp2
   go_ret
   exact ⟨by rw [HC.out, ← hn]; rfl, H.out.2⟩
end Go.Proofs.YtkmpfgpfbmeihaaGreatDoor.crc
namespace Go.Proofs.YtkmpfgpfbmeihaaGreatDoor.crc
open Go Go.RowKit lib bm
set_option maxHeartbeats 2000000 in
theorem radler_any (bs : List UInt8) (w : World) (hlen : bs.length ≤ 281474976710656) : Calls Tryz.prog 114 #[.string (str bs)] w fun e w' => e = .returned (.int .u32 (sums.adler bs : Nat)) ∧ Fr [] w w' := by
 have hsz : (str bs).size = bs.length := by simp [str, ByteArray.size]
 obtain ⟨L, hL⟩ : ∃ L, L = bs.length := ⟨_, rfl⟩
 obtain ⟨s, hs⟩ : ∃ s, s = str bs := ⟨_, rfl⟩
 have hidx : ∀ i, i < L → ∀ w : World, (Instr.index 9 (.string (str bs)) (.int .i64 (i : Nat))).run Tryz.prog w = .ok (.int .u8 (((bs[i]?.getD 0).toNat : Nat) : Int)) w := fun i hi w => by
  have h := index_str bs (i := i) (by omega) w
  rwa [show bs[i] = bs[i]?.getD 0 by rw [List.getElem?_eq_getElem (by omega)]; rfl] at h
 rw [← hs, ← hL] at hsz
 rw [← hs] at hidx ⊢
 rw [← hL] at hlen
 have HI := Lib.hid (And.intro hL hidx)
 clear hL hs hidx
 go_enter Tryz.func114, Tryz.ntmps114
 go_wp2
 go_loopg [3, 4, 5] L (fun k s3 s4 s5 wr => ∃ i x y : Nat, s5 = .int .i64 (i : Nat) ∧ s3 = .int .u32 (x : Nat) ∧ s4 = .int .u32 (y : Nat) ∧ i + k = L ∧ x < 65521 ∧ y < 65521 ∧ sums.ad x y (bs.drop i) = sums.ad 1 0 bs ∧ Fr [] w wr)
 case atStart => exact ⟨0, 1, 0, rfl, rfl, rfl, by omega, by decide, by decide, rfl, Fr.refl _ _⟩
 case round =>
  obtain ⟨i, x, y, rfl, rfl, rfl, hik, hx, hy, he, hf⟩ := hrel
  have H := Lib.hid (And.intro he hf)
  clear he hf
  by_cases hi : i < L
  ·obtain ⟨k, rfl⟩ : ∃ k, gk = k + 1 := ⟨gk - 1, by omega⟩
   have hix := HI.out.2 i hi
   have hil : i < bs.length := by rw [← HI.out.1]; exact hi
   have hT : sums.ad ((x + (bs[i]?.getD 0).toNat) % 65521) ((y + (x + (bs[i]?.getD 0).toNat) % 65521) % 65521) (bs.drop (i + 1)) = sums.ad 1 0 bs := by
    rw [← H.out.1, List.drop_eq_getElem_cons hil, List.getElem?_eq_getElem hil]; rfl
   have hb := UInt8.toNat_lt (bs[i]?.getD 0)
   generalize (bs[i]?.getD 0).toNat = b at *
   have HT := Lib.hid hT
   clear hT hil
   go_wp2
   go_roundg k
   case measure => omega
   case rel => exact ⟨i + 1, (x + b) % 65521, (y + (x + b) % 65521) % 65521, by go_num, by go_num, by go_num, by omega, Nat.mod_lt _ (by decide), Nat.mod_lt _ (by decide), HT.out, H.out.2⟩
  ·obtain rfl : i = L := by omega
   have ha : sums.adler bs = y * 65536 + x := by
    have h1 := H.out.1
    rw [HI.out.1, List.drop_length] at h1
    unfold sums.adler
    rw [← h1]; rfl
   have HA := Lib.hid ha
   clear ha
   obtain ⟨z, hz⟩ : ∃ z, z = y * 65536 + x := ⟨_, rfl⟩
   have r1 : bits .or .u32 ((y : Int) * 65536) (x : Int) = (z : Int) := by
    have := sums.or_hi (y * 65536) x 16 (by omega) (by decide) (by omega) (by omega)
    rw [← hz] at this
    simpa using this
   have HZ := Lib.hid hz
   clear hz
   go_wp2
   go_ret
   exact ⟨by rw [HA.out, ← HZ.out]; rfl, H.out.2⟩
end Go.Proofs.YtkmpfgpfbmeihaaGreatDoor.crc
namespace Go.Proofs.YtkmpfgpfbmeihaaGreatDoor.inf
open Go bm bl huf
theorem iput_m {most : Nat} {out o : List UInt8} {c : UInt8} (h : iput most out c = .ok o) : o.length ≤ most := by
 unfold iput at h
 split at h
 ·cases h
 ·simp only [Except.ok.injEq] at h
  subst h
  rw [List.length_append, List.length_singleton]
  omega
theorem ibytes_m {bs : List UInt8} {most : Nat} : ∀ {n : Nat} {out o : List UInt8} {q a : Nat}, out.length ≤ most → ibytes bs most n out q = .ok (o, a) → o.length ≤ most
 | 0, out, o, q, a, hq, h => by
  simp only [ibytes, Except.ok.injEq, Prod.mk.injEq] at h
  rw [← h.1]; exact hq
 | n + 1, out, o, q, a, hq, h => by
  rw [ibytes] at h
  split at h
  ·split at h
   ·cases h
   ·rename_i o1 h1
    exact ibytes_m (iput_m h1) h
  ·cases h
theorem istored_m {bs : List UInt8} {most a a1 : Nat} {out o : List UInt8} (hq : out.length ≤ most) (h : istored bs most out a = .ok (o, a1)) : o.length ≤ most := by
 unfold istored at h
 split at h
 ·split at h
  ·exact ibytes_m hq h
  ·cases h
 ·cases h
theorem icopy_m {most back : Nat} : ∀ {n : Nat} {out o : List UInt8}, out.length ≤ most → icopy most back n out = .ok o → o.length ≤ most
 | 0, out, o, hq, h => by
  simp only [icopy, Except.ok.injEq] at h
  rw [← h]; exact hq
 | n + 1, out, o, hq, h => by
  rw [icopy] at h
  split at h
  ·cases h
  ·rename_i o1 h1
   exact icopy_m (iput_m h1) h
theorem imatch_m {bs : List UInt8} {most s a a1 : Nat} {dl : List Nat} {out o : List UInt8} (hq : out.length ≤ most) (h : imatch bs most dl s out a = .ok (o, a1)) : o.length ≤ most := by
 unfold imatch at h
 split at h
 ·cases h
 ·split at h
  ·cases h
  ·split at h
   ·cases h
   ·split at h
    ·cases h
    ·split at h
     ·cases h
     ·split at h
      ·cases h
      ·rename_i o1 h1
       simp only [Except.ok.injEq, Prod.mk.injEq] at h
       rw [← h.1]
       exact icopy_m hq h1
theorem isyms_m {bs : List UInt8} {most : Nat} {ll dl : List Nat} : ∀ {f : Nat} {out o : List UInt8} {a a1 : Nat}, out.length ≤ most → isyms bs most ll dl f out a = .ok (o, a1) → o.length ≤ most
 | 0, out, o, a, a1, hq, h => by cases h
 | f + 1, out, o, a, a1, hq, h => by
  rw [isyms] at h
  split at h
  ·cases h
  ·split at h
   ·split at h
    ·cases h
    ·rename_i o1 h1
     exact isyms_m (iput_m h1) h
   ·split at h
    ·simp only [Except.ok.injEq, Prod.mk.injEq] at h
     rw [← h.1]; exact hq
    ·split at h
     ·cases h
     ·split at h
      ·cases h
      ·rename_i o1 a2 h1
       exact isyms_m (imatch_m hq h1) h
theorem iblock_m {bs : List UInt8} {most hh a a1 : Nat} {out o : List UInt8} (hq : out.length ≤ most) (h : iblock bs most hh out a = .ok (o, a1)) : o.length ≤ most := by
 unfold iblock at h
 split at h
 ·exact istored_m hq h
 ·split at h
  ·exact isyms_m hq h
  ·unfold idyn at h
   split at h
   ·cases h
   ·split at h
    ·cases h
    ·split at h
     ·cases h
     ·split at h
      ·cases h
      ·split at h
       ·cases h
       ·unfold idyn2 at h
        split at h
        ·cases h
        ·split at h
         ·cases h
         ·unfold idyn3 at h
          split at h
          ·cases h
          ·split at h
           ·cases h
           ·split at h
            ·cases h
            ·split at h
             ·cases h
             ·exact isyms_m hq h
theorem irawF_m {bs : List UInt8} {most : Nat} : ∀ {f : Nat} {out o : List UInt8} {a a1 : Nat}, out.length ≤ most → irawF bs most f out a = .ok (o, a1) → o.length ≤ most
 | 0, out, o, a, a1, hq, h => by cases h
 | f + 1, out, o, a, a1, hq, h => by
  rw [irawF] at h
  split at h
  ·cases h
  ·split at h
   ·cases h
   ·split at h
    ·cases h
    ·split at h
     ·cases h
     ·rename_i o1 a3 h1
      split at h
      ·exact irawF_m (iblock_m hq h1) h
      ·simp only [Except.ok.injEq, Prod.mk.injEq] at h
       rw [← h.1]
       exact iblock_m hq h1
theorem iraw_m {bs out : List UInt8} {m n : Nat} (h : iraw bs m = .ok (out, n)) : out.length ≤ m := by
 unfold iraw at h
 split at h
 ·cases h
 ·rename_i o a hr
  simp only [Except.ok.injEq, Prod.mk.injEq] at h
  rw [← h.1]
  exact irawF_m (Nat.zero_le _) hr
end Go.Proofs.YtkmpfgpfbmeihaaGreatDoor.inf
namespace Go.Proofs.YtkmpfgpfbmeihaaGreatDoor.lib
open Go Go.RowKit
theorem flat_len {α : Type} (f : α → List Value) (c : Nat) (hf : ∀ x, (f x).length = c) : ∀ l : List α, (l.flatMap f).length = l.length * c
 | [] => by simp
 | x :: l => by rw [List.flatMap_cons, List.length_append, flat_len f c hf l, hf, List.length_cons, Nat.succ_mul]; omega
theorem flat_get {α : Type} (f : α → List Value) (c : Nat) (hf : ∀ x, (f x).length = c) : ∀ (l : List α) (i : Nat) (x : α) (j : Nat), l[i]? = some x → j < c → (l.flatMap f)[i * c + j]? = (f x)[j]?
 | [], i, x, j, h, _ => by simp at h
 | y :: l, 0, x, j, h, hj => by
  simp only [List.getElem?_cons_zero, Option.some.injEq] at h
  subst h
  rw [List.flatMap_cons, Nat.zero_mul, Nat.zero_add, List.getElem?_append_left (by rw [hf]; exact hj)]
 | y :: l, i + 1, x, j, h, hj => by
  rw [List.flatMap_cons, List.getElem?_append_right (by rw [hf, Nat.succ_mul]; omega), hf, Nat.succ_mul, show i * c + c + j - c = i * c + j by omega]
  exact flat_get f c hf l i x j (by simpa using h) hj
end Go.Proofs.YtkmpfgpfbmeihaaGreatDoor.lib
namespace Go.Proofs.YtkmpfgpfbmeihaaGreatDoor.lib
open Go Go.RowKit
theorem Fr.setCells {S : List Nat} {a : World} {b : Nat} (hb : b ∈ S ∨ a.heap.size ≤ b) : ∀ (vs : List Value) (o : Nat) {w : World}, Fr S a w → Fr S a (w.setCells b o vs)
 | [], _, _, h => h
 | v :: r, o, w, h => by
  rw [World.setCells]
  exact Fr.setCells hb r (o + 1) (h.setCell (p := ⟨b, o, none⟩) hb v)
theorem Fr.setRow {S : List Nat} {a w : World} (h : Fr S a w) {g : Nat} (hg : g ∈ S ∨ a.heap.size ≤ g) (cs : Array Value) : Fr S a (w.setRow g cs) :=
 h.step (T := [g]) ⟨rfl, rfl, rfl, by rw [setRow_size]; exact Nat.le_refl _, fun k _ hn => setRow_other w g k cs (by simpa using hn)⟩ (by simpa using hg)
theorem setCells_blk {b : Nat} {t : TypeId} {f : Nat × Nat} : ∀ (vs : List Value) (o : Nat) (w : World) (C : Array Value), w.heap[b]? = some (.cells C t f) →
  ∃ C', (w.setCells b o vs).heap[b]? = some (.cells C' t f) ∧ C'.size = C.size ∧ (∀ i, i < o ∨ o + vs.length ≤ i → C'[i]? = C[i]?) ∧ (∀ j v, vs[j]? = some v → o + j < C.size → C'[o + j]? = some v)
 | [], o, w, C, h => ⟨C, h, rfl, fun _ _ => rfl, fun j v hv _ => by simp at hv⟩
 | v :: r, o, w, C, h => by
  rw [World.setCells]
  obtain ⟨C', h1, h2, h3, h4⟩ := setCells_blk r (o + 1) _ _ (setCell_of (o := o) h v)
  rw [Array.size_setIfInBounds] at h2
  refine ⟨C', h1, h2, fun i hi => ?_, fun j u hu hj => ?_⟩
  ·simp only [List.length_cons] at hi
   rw [h3 i (by omega), Array.getElem?_setIfInBounds_ne (by omega)]
  ·cases j with
   | zero =>
    simp only [List.getElem?_cons_zero, Option.some.injEq] at hu
    subst hu
    rw [Nat.add_zero, h3 o (by omega), Array.getElem?_setIfInBounds_self_of_lt (by omega)]
   | succ j =>
    have := h4 j u (by simpa using hu) (by rw [Array.size_setIfInBounds]; omega)
    rw [show o + (j + 1) = o + 1 + j by omega]
    exact this
theorem there_of {w : World} {b : Nat} {C : Array Value} {t : TypeId} (h : w.heap[b]? = some (.cells C t (0, 0))) (o n : Nat) (hn : o + n ≤ C.size) : w.there b o n := fun j hj => by
 refine ⟨?_, frozen_of h _⟩
 rw [cell_of h, Array.getElem?_eq_getElem (by omega)]
 rfl
end Go.Proofs.YtkmpfgpfbmeihaaGreatDoor.lib
namespace Go.Proofs.YtkmpfgpfbmeihaaGreatDoor.inf
open Go Go.RowKit lib bm bl huf
theorem be32_getb (bs : List UInt8) (q : Nat) (h : q + 4 ≤ bs.length) : crc.getb ((bs.drop q).take 4) = be32 bs q := by
 have e : (bs.drop q).take 4 = [bs[q], bs[q + 1], bs[q + 2], bs[q + 3]] := by
  rw [List.drop_eq_getElem_cons (by omega), List.drop_eq_getElem_cons (by omega), List.drop_eq_getElem_cons (by omega), List.drop_eq_getElem_cons (by omega)]
  rfl
 rw [e]
 unfold crc.getb be32 byteAt
 rw [List.getElem?_eq_getElem (show q < bs.length by omega), List.getElem?_eq_getElem (show q + 1 < bs.length by omega), List.getElem?_eq_getElem (show q + 2 < bs.length by omega), List.getElem?_eq_getElem (show q + 3 < bs.length by omega)]
 simp only [List.foldl_cons, List.foldl_nil, Option.getD_some]
 omega
set_option maxHeartbeats 8000000 in
theorem rzlib_any (a : Option Addr) (cap : Nat) (bs : List UInt8) (m : Nat) (w : World) (h : lib.Rd w a cap bs) (hlen : bs.length ≤ 100000000) (hm8 : m ≤ 100000000) (hlow : ∀ x ∈ blk a, x < w.heap.size) :
  Calls Tryz.prog 88 #[.slice a bs.length cap, .int .i64 (m : Nat)] w (RRawGood w (izlib bs m)) := by
 obtain ⟨L, hL⟩ : ∃ L, L = bs.length := ⟨_, rfl⟩
 obtain ⟨M, hM⟩ : ∃ M, M = izlib bs m := ⟨_, rfl⟩
 rw [← hM]
 by_cases h2 : bs.length < 2
 ·have hM4 : M = .error 4 := by rw [hM]; unfold izlib; rw [if_pos h2]
  rw [← hL] at h2 ⊢
  have d0 : decide ((L : Int) < 2) = true := by simp; omega
  have HM := Lib.hid hM4
  clear h hL hM hM4 hlen h2
  go_enter Tryz.func88, Tryz.ntmps88
  go_wp2
  refine bodyPost_ret (results_got6 rfl _ _ w.heap.size _ (0, 0) rfl (alloc_at w _) rfl) rfl ?_
  exact ⟨(Fr.refl [] w).alloc _, .inl ⟨4, HM.out, by decide, by decide, rfl⟩⟩
 ·obtain ⟨g, o, rfl, c0⟩ := rd_byte h (i := 0) (by omega)
  obtain ⟨g', o', ha', c1⟩ := rd_byte h (i := 1) (by omega)
  simp only [Option.some.injEq, Addr.mk.injEq, and_true] at ha'
  obtain ⟨rfl, rfl⟩ := ha'
  rw [Nat.add_zero] at c0
  obtain ⟨x0, hx0⟩ : ∃ x, x = byteAt bs 0 := ⟨_, rfl⟩
  obtain ⟨x1, hx1⟩ : ∃ x, x = byteAt bs 1 := ⟨_, rfl⟩
  have b0 : x0 < 256 := by rw [hx0]; exact byteAt_lt _ _
  have b1 : x1 < 256 := by rw [hx1]; exact byteAt_lt _ _
  rw [← hx0] at c0
  rw [← hx1] at c1
  have hM1 : M = if zhead x0 x1 = false then .error 3 else match iraw (bs.drop 2) m with
    | .error e => .error e
    | .ok (out, n) => if bs.length - (n + 2) < 4 then .error 4 else if be32 bs (n + 2) = sums.adler out then .ok (out, n + 6) else .error 6 := by
   rw [hM]; unfold izlib; rw [if_neg h2, ← hx0, ← hx1]
   all_goals rfl
  have hle := h.le
  have hmx := h.max
  have hr2 : lib.Rd w (cutAtN (some ⟨g, o, none⟩) cap 2 1) (cap - 2) (bs.drop 2) := h.drop 2 (by omega)
  have hraw : ∀ w', Fr [] w w' → Calls Tryz.prog 113 #[.slice (cutAtN (some ⟨g, o, none⟩) cap 2 1) (L - 2 : Nat) (cap - 2), .int .i64 (m : Nat)] w' (RRawGood w' (iraw (bs.drop 2) m)) := fun w' f => by
   have := rraw_any _ (cap - 2) (bs.drop 2) m w' (hr2.fr f) (by rw [List.length_drop]; omega) hm8 (fun x hx => by rw [cutAtN_blk] at hx; exact Nat.lt_of_lt_of_le (hlow x hx) f.size)
   rwa [List.length_drop, ← hL] at this
  have hsl := lib.run_slice_from bits.sliceU8 2 (some ⟨g, o, none⟩) L cap 2 rfl (by omega) (by omega)
  rw [← hL] at h2 hle ⊢
  have d0 : decide ((L : Int) < 2) = false := by simp; omega
  obtain ⟨y0, hy0⟩ : ∃ y, y = x0 % 16 := ⟨_, rfl⟩
  obtain ⟨y1, hy1⟩ : ∃ y, y = x0 / 16 := ⟨_, rfl⟩
  obtain ⟨z, hz⟩ : ∃ z, z = x0 * 256 + x1 := ⟨_, rfl⟩
  obtain ⟨y2, hy2⟩ : ∃ y, y = z % 31 := ⟨_, rfl⟩
  obtain ⟨y3, hy3⟩ : ∃ y, y = x1 / 32 % 2 * 32 := ⟨_, rfl⟩
  have e0 := u8_and15 x0 b0
  have e3 := u8_and32 x1 b1
  rw [← hy0] at e0
  rw [← hy3] at e3
  have e1 : (x0 : Int) / 16 = (y1 : Int) := by omega
  have eor : (x0 : Int) * 256 + (x1 : Int) = (z : Int) := by omega
  have erem : Int.tmod (z : Int) 31 = (y2 : Int) := by rw [Int.tmod_eq_emod_of_nonneg (by omega)]; omega
  have eemod : (z : Int) % 31 = (y2 : Int) := by omega
  have eem2 : ((x0 : Int) * 256 + (x1 : Int)) % 31 = (y2 : Int) := by omega
  have hzh : zhead x0 x1 = ((y0 == 8) && (decide (y1 ≤ 7) && ((y2 == 0) && (y3 == 0)))) := by
   unfold zhead
   rw [← hy0, ← hy1, ← hz, ← hy2]
   congr 3
   rw [Bool.eq_iff_iff, beq_iff_eq, beq_iff_eq]
   omega
  have i0 : (0 : Int) < (L : Int) := by omega
  have i1 : (1 : Int) < (L : Int) := by omega
  have hyb : y0 < 256 ∧ y1 < 256 ∧ y3 < 256 ∧ z < 65536 ∧ y2 < 31 := by omega
  have H := Lib.hid (And.intro h (And.intro hlen (And.intro hL (And.intro hM1 (And.intro hraw hzh)))))
  have hgl := hlow g (by simp [blk])
  clear h hlen hL hM1 hraw hzh hM hx0 hx1 hy0 hy1 hy2 hy3 hz hr2 h2 hlow
  go_enter Tryz.func88, Tryz.ntmps88
  go_upto_region 3 with fail
  clear d0
  obtain ⟨G, w1, hG, hw1, f1, bG⟩ : ∃ G w1, G = w.heap.size ∧ w1 = w.alloc (.cells #[.slice none 0 0, .int .i64 0, .int .i64 0] 154) ∧ Fr [] w w1 ∧ w1.heap[G]? = some (.cells #[.slice none 0 0, .int .i64 0, .int .i64 0] 154 (0, 0)) := ⟨_, _, rfl, rfl, (Fr.refl [] w).alloc _, alloc_at w _⟩
  rw [← hw1, ← hG]
  have c0 := f1.cell c0 (by simp)
  have c1 := f1.cell c1 (by simp)
  have HG := Lib.hid (And.intro f1 (And.intro bG hG))
  clear f1 bG hG hw1
  go_cut [43] from 11 to 43 (fun s43 wc => s43 = .bool (!((y0 == 8) && (decide (y1 ≤ 7) && ((y2 == 0) && (y3 == 0))))) ∧ Fr [] w1 wc)
  case first =>
   by_cases k0 : y0 = 8
   ·have t0 : ((y0 : Int) != 8) = false := by simp; omega
    by_cases k1 : y1 ≤ 7
    ·have t1 : decide ((7 : Int) < y1) = false := by simp; omega
     by_cases k2 : y2 = 0
     ·have t2 : ((y2 : Int) != 0) = false := by simp; omega
      by_cases k3 : y3 = 0
      ·have t3 : ((y3 : Int) != 0) = false := by simp; omega
       have K := Lib.hid (And.intro k0 (And.intro k1 (And.intro k2 k3)))
       clear k0 k1 k2 k3
       go_quiet (fail)
       go_wp2
       go_meet
       case rel => exact ⟨by obtain ⟨k0, k1, k2, k3⟩ := K.out; simp [k0, k1, k2, k3], Fr.drewN _ _ _⟩
      ·have t3 : ((y3 : Int) != 0) = true := by simp; omega
       have K := Lib.hid k3
       clear k0 k1 k2 k3
       go_quiet (fail)
       go_wp2
       go_meet
       case rel => exact ⟨by have := K.out; simp [this], Fr.drewN _ _ _⟩
     ·have t2 : ((y2 : Int) != 0) = true := by simp; omega
      have K := Lib.hid k2
      clear k0 k1 k2
      go_quiet (fail)
      go_wp2
      go_meet
      case rel => exact ⟨by have := K.out; simp [this], Fr.drewN _ _ _⟩
    ·have t1 : decide ((7 : Int) < y1) = true := by simp; omega
     have K := Lib.hid k1
     clear k0 k1
     go_quiet (fail)
     go_wp2
     go_meet
     case rel => exact ⟨by have := K.out; simp [this], Fr.drewN _ _ _⟩
   ·have t0 : ((y0 : Int) != 8) = true := by simp; omega
    have K := Lib.hid k0
    clear k0
    go_quiet (fail)
    go_wp2
    go_meet
    case rel => exact ⟨by have := K.out; simp [this], Fr.drewN _ _ _⟩
  case rest =>
   obtain ⟨rfl, f1⟩ := hcut
   rw [← H.out.2.2.2.2.2]
   obtain ⟨bz, hbz⟩ : ∃ b, b = zhead x0 x1 := ⟨_, rfl⟩
   rw [← hbz]
   obtain ⟨h1, h2, h3, h4, h5, h6⟩ := H.out
   rw [← hbz] at h4
   have bGc := f1.blk HG.out.2.1 (by simp)
   have HF := Lib.hid (And.intro (HG.out.1.trans f1) (And.intro h4 (And.intro (h5 wc (HG.out.1.trans f1)) bGc)))
   clear f1 h4 h5 h6 h1 h2 h3 hbz e0 e1 e3 eor erem eemod eem2 hyb c0 c1 bGc
   cases bz
   ·go_wp2_with (refine wpList_store_row rfl 154 (.tmp 4) (.tmp 44) rfl G #[.slice none 0 0, .int .i64 0, .int .i64 3] rfl rfl 154 #[.slice none 0 0, .int .i64 0, .int .i64 0] HF.out.2.2.2 infoGot6 rfl (by kernel_rfl) ?_)
    refine bodyPost_ret (results_got6 rfl _ _ G #[.slice none 0 0, .int .i64 0, .int .i64 3] (0, 0) rfl (setRow_heap _ _ _ _ _ _ HF.out.2.2.2) rfl) rfl ?_
    exact ⟨HF.out.1.setRow (.inr (by rw [HG.out.2.2]; exact Nat.le_refl _)) _, .inl ⟨3, by rw [HF.out.2.1]; first | rfl | (rw [if_pos rfl]), by decide, by decide, rfl⟩⟩
   ·obtain ⟨qa, hqa⟩ : ∃ q, q = cutAtN (some ⟨g, o, none⟩) cap 2 1 := ⟨_, rfl⟩
    obtain ⟨qc, hqc⟩ : ∃ q, q = cap - 2 := ⟨_, rfl⟩
    obtain ⟨qn, hqn⟩ : ∃ q, q = L - 2 := ⟨_, rfl⟩
    rw [← hqa, ← hqc, ← hqn] at hsl
    have hraw := HF.out.2.2.1
    rw [← hqa, ← hqc, ← hqn] at hraw
    have hM2 : M = match iraw (bs.drop 2) m with
      | .error e => .error e
      | .ok (out, n) => if bs.length - (n + 2) < 4 then .error 4 else if be32 bs (n + 2) = sums.adler out then .ok (out, n + 6) else .error 6 := by
     rw [HF.out.2.1]; first | rfl | (rw [if_neg (by decide)])
     all_goals rfl
    have HR := Lib.hid (And.intro hraw hM2)
    clear hqa hqc hqn hraw hM2
    go_upto_region 6 with (go_at_call 113; refine HR.out.1.mono ?_; rintro e w2 ⟨f2, (⟨c, hm, k0, k1, rfl⟩ | ⟨out, n, ao, oc, hm, rfl, rd2, nb2⟩)⟩)
    ·have bG2 := alloc_old (.cells #[.slice none 0 0, .int .i64 0, .int .i64 (c : Nat)] 154) (f2.blk HF.out.2.2.2 (by simp))
     have K2 := Lib.hid (And.intro hm (And.intro (HF.out.1.trans f2) bG2))
     have d2 : ((c : Int) != 0) = true := by simp; omega
     clear hm f2 hsl bG2
     go_wp2_with (refine wpList_store_row rfl 154 (.tmp 4) (.tmp 52) rfl G #[.slice none 0 0, .int .i64 0, .int .i64 (c : Nat)] rfl rfl 154 #[.slice none 0 0, .int .i64 0, .int .i64 0] K2.out.2.2 infoGot6 rfl (by kernel_rfl) ?_)
     refine bodyPost_ret (results_got6 rfl _ _ G #[.slice none 0 0, .int .i64 0, .int .i64 (c : Nat)] (0, 0) rfl (setRow_heap _ _ _ _ _ _ K2.out.2.2) rfl) rfl ?_
     exact ⟨(K2.out.2.1.alloc _).setRow (.inr (by rw [HG.out.2.2]; exact Nat.le_refl _)) _, .inl ⟨c, by rw [HR.out.2, K2.out.1], k0, k1, rfl⟩⟩
    ·have hnu := iraw_u hm
     have hom : out.length ≤ 281474976710656 := by have := iraw_m hm; omega
     have HOM := Lib.hid hom
     clear hom
     rw [List.length_drop, ← H.out.2.2.1] at hnu
     obtain ⟨N, hN⟩ : ∃ N, N = out.length := ⟨_, rfl⟩
     rw [← hN]
     obtain ⟨n2, hn2⟩ : ∃ n2, n2 = n + 2 := ⟨_, rfl⟩
     have hLb : L ≤ 100000000 := by rw [H.out.2.2.1]; exact H.out.2.1
     have hnL : n2 ≤ L := by omega
     have hM3 : M = if L - n2 < 4 then .error 4 else if be32 bs n2 = sums.adler out then .ok (out, n2 + 4) else .error 6 := by
      rw [HR.out.2, hm, hn2, H.out.2.2.1]
     obtain ⟨P5, w3, hP5, hw3, f3, b5⟩ : ∃ P5 w3, P5 = w2.heap.size ∧ w3 = w2.alloc (.cells #[.slice ao N oc, .int .i64 (n : Nat), .int .i64 0] 154) ∧ Fr [] w2 w3 ∧ w3.heap[P5]? = some (.cells #[.slice ao N oc, .int .i64 (n : Nat), .int .i64 0] 154 (0, 0)) := ⟨_, _, rfl, rfl, (Fr.refl [] w2).alloc _, alloc_at w2 _⟩
     rw [← hw3, ← hP5]
     have k0 := cell_of b5 0
     have k1 := cell_of b5 1
     have k2 := cell_of b5 2
     simp only [List.getElem?_toArray, List.getElem?_cons_zero, List.getElem?_cons_succ] at k0 k1 k2
     have hf3 := (HF.out.1.trans f2).trans f3
     have bG3 := (f2.trans f3).blk HF.out.2.2.2 (by simp)
     have hol := rd2.max
     unfold maxLen at hol
     have hNo := rd2.le
     rw [← hN] at hNo
     have hen : (L : Int) - 2 - (n : Int) = ((L - n2 : Nat) : Int) := by omega
     have K2 := Lib.hid (And.intro hM3 (And.intro (rd2.fr f3) (And.intro nb2 (And.intro hf3 (And.intro hn2 (And.intro bG3 (And.intro f3 hN)))))))
     have hP5G : P5 ≠ G := by have := lt_of_block HF.out.2.2.2; have := f2.size; omega
     have KN := Lib.hid (And.intro hP5 (And.intro hP5G f2))
     clear hm rd2 nb2 f2 f3 hn2 hM3 hsl hw3 hP5 b5 hf3 bG3 hN hP5G
     by_cases h4 : L - n2 < 4
     ·have d4 : decide ((L : Int) - 2 - (n : Int) < 4) = true := by simp; omega
      have H4 := Lib.hid h4
      clear h4 hen
      go_wp2_with (refine wpList_store_row rfl 154 (.tmp 4) (.tmp 60) rfl G #[.slice none 0 0, .int .i64 0, .int .i64 4] rfl rfl 154 #[.slice none 0 0, .int .i64 0, .int .i64 0] K2.out.2.2.2.2.2.1 infoGot6 rfl (by kernel_rfl) ?_)
      refine bodyPost_ret (results_got6 rfl _ _ G #[.slice none 0 0, .int .i64 0, .int .i64 4] (0, 0) rfl (setRow_heap _ _ _ _ _ _ K2.out.2.2.2.2.2.1) rfl) rfl ?_
      exact ⟨K2.out.2.2.2.1.setRow (.inr (by rw [HG.out.2.2]; exact Nat.le_refl _)) _, .inl ⟨4, by rw [K2.out.1, if_pos H4.out], by decide, by decide, rfl⟩⟩
     ·have d4 : decide ((L : Int) - 2 - (n : Int) < 4) = false := by simp; omega
      have en2 : (2 : Int) + (n : Int) = (n2 : Int) := by have := K2.out.2.2.2.2.1; omega
      clear hen
      go_upto_region 11 with fail
      clear d4 en2
      have rdw := H.out.1.fr K2.out.2.2.2.1
      have hbl : bs.length = L := H.out.2.2.1.symm
      have hmid := fun w' (f : Fr [] w3 w') => (rdw.fr f).mid n2 4 (by omega)
      have hbe := be32_getb bs n2 (by omega)
      have hml : ((bs.drop n2).take 4).length = 4 := by rw [List.length_take, List.length_drop]; omega
      obtain ⟨b4, hb4⟩ : ∃ b4, b4 = (bs.drop n2).take 4 := ⟨_, rfl⟩
      rw [← hb4] at hmid hbe hml
      obtain ⟨q4, hq4⟩ : ∃ q, q = cutAt (some ⟨g, o, none⟩) cap n2 := ⟨_, rfl⟩
      rw [← hq4] at hmid
      have hge := fun w' f => crc.rget_any q4 (cap - n2) b4 w' (hmid w' f) (by omega)
      rw [hml] at hge
      have hgl := crc.getb_le b4
      rw [hml] at hgl
      obtain ⟨X, hX⟩ : ∃ X, X = crc.getb b4 := ⟨_, rfl⟩
      rw [← hX] at hge hbe hgl
      have hXl : X < 4294967296 := by simpa using hgl
      have had := fun w' => crc.radler_any out w' HOM.out
      obtain ⟨A, hA⟩ : ∃ A, A = sums.adler out := ⟨_, rfl⟩
      rw [← hA] at had
      have hAl : A < 4294967296 := by rw [hA]; exact sums.adler_lt out
      have hM4 : M = if X = A then .ok (out, n2 + 4) else .error 6 := by rw [K2.out.1, if_neg h4, ← hbe, hA]
      have hsl2 := fun w' => lib.run_slice_lh bits.sliceU8 n2 4 (some ⟨g, o, none⟩) L cap (n2 : Nat) ((n2 : Int) + 4) rfl rfl (by omega) w'
      rw [← hq4] at hsl2
      have q0 : ∀ x, (sup [] w3.drew x).cell? ⟨P5, 0, none⟩ = some (.slice ao N oc) := fun x => (sup_fr [] w3.drew x).cell (show w3.drew.cell? _ = _ from k0) (by simp)
      have hcv := run_conv_sup (P := Tryz.prog) [] w3.drew Tryz.underlying23 Tryz.underlying5 Tryz.underlying9 (ao := ao) (n := N) (bs := out) K2.out.2.2.2.2.2.2.2.symm (K2.out.2.1.cs.fr (Fr.drew1 [] w3) (by simp)) (by simp)
      have HZ := Lib.hid (And.intro hge (And.intro had hM4))
      clear hge had hM4 hmid hbe hgl hX hA rdw hbl hml hb4 hq4 h4
      refine region_mix 12 [(false, 0), (false, 1), (false, 2), (false, 3), (false, 4), (false, 6), (false, 7), (false, 8), (true, 5), (true, 9), (false, 10), (false, 11)] [] (by kernel_rfl) (by kernel_rfl) (fun _ _ d _ _ h => by cases d <;> exact h) ?_
      simp only [List.map_cons, List.map_nil, List.getD_cons_zero, List.getD_cons_succ, List.drop_succ_cons, List.drop_zero, List.drop_nil]
      refine mix_seg 8 rfl ?_
      simp only [List.take_succ_cons, List.take_zero, List.drop_succ_cons, List.drop_zero, List.map_cons, List.map_nil]
      repeat (go_big_quiet_step (fail))
      refine wpQuiet_nil ?_
      clear q0 hcv hsl2
      refine mix_eff rfl ?_
      intro X1 hX1
      go_wp2_with (go_at_call 53; refine (HZ.out.1 _ (Fr.drew1 [] w3)).mono ?_; rintro e w4 ⟨rfl, f4⟩)
      refine hX1.out _ _ f4 ?_
      clear hX1 X1
      have HF4 := Lib.hid ((Fr.drew1 [] w3).trans f4)
      clear f4
      refine mix_eff rfl ?_
      intro X1 hX1
      go_wp2_with (go_at_call 114; refine (HZ.out.2.1 _).mono ?_; rintro e w5 ⟨rfl, f5⟩)
      refine hX1.out _ _ f5 ?_
      clear hX1 X1
      have HF5 := Lib.hid (HF4.out.trans f5)
      clear f5
      refine mix_seg 2 rfl ?_
      simp only [List.take_succ_cons, List.take_zero, List.drop_succ_cons, List.drop_zero, List.map_cons, List.map_nil]
      repeat (go_big_quiet_step (fail))
      refine wpQuiet_nil ?_
      refine mix_nil ?_
      have bG5 := HF5.out.blk K2.out.2.2.2.2.2.1 (by simp)
      have k0 := HF5.out.cell k0 (by simp)
      have HB5 := Lib.hid (And.intro bG5 (K2.out.2.2.2.1.trans HF5.out))
      clear bG5 k1 k2
      by_cases hza : X = A
      ·have d5 : ((X : Int) != (A : Int)) = false := by simp; omega
       have HA := Lib.hid hza
       clear hza
       go_wp2_with (refine wpList_store_row rfl 154 (.tmp 4) (.tmp 81) rfl G #[.slice ao N oc, .int .i64 ((n2 : Int) + 4), .int .i64 0] rfl rfl 154 #[.slice none 0 0, .int .i64 0, .int .i64 0] HB5.out.1 infoGot6 rfl (by kernel_rfl) ?_)
       refine bodyPost_ret (results_got6 rfl _ _ G #[.slice ao N oc, .int .i64 ((n2 : Int) + 4), .int .i64 0] (0, 0) rfl (setRow_heap _ _ _ _ _ _ HB5.out.1) rfl) rfl ?_
       refine ⟨HB5.out.2.setRow (.inr (by rw [HG.out.2.2]; exact Nat.le_refl _)) _, .inr ⟨out, n2 + 4, ao, oc, by rw [HZ.out.2.2, if_pos HA.out], by rw [← K2.out.2.2.2.2.2.2.2]; first | rfl | go_num, ?_, fun x hx => ⟨Nat.le_trans HF.out.1.size (K2.out.2.2.1 x hx).1, ?_⟩⟩⟩
       ·exact (K2.out.2.1.fr HF5.out).frS ((Fr.refl [G] _).setRow (by simp) _) (fun x hx hm => by have := (K2.out.2.2.1 x hx).1; have := lt_of_block HF.out.2.2.2; simp at hm; omega)
       ·have h1 := (K2.out.2.2.1 x hx).2
        have h2 := K2.out.2.2.2.2.2.2.1.size
        have h3 := HF5.out.size
        rw [setRow_size]
        omega
      ·have d5 : ((X : Int) != (A : Int)) = true := by simp; omega
       have HA := Lib.hid hza
       clear hza
       go_wp2_with (refine wpList_store_row rfl 154 (.tmp 4) (.tmp 76) rfl G #[.slice none 0 0, .int .i64 0, .int .i64 6] rfl rfl 154 #[.slice none 0 0, .int .i64 0, .int .i64 0] HB5.out.1 infoGot6 rfl (by kernel_rfl) ?_)
       refine bodyPost_ret (results_got6 rfl _ _ G #[.slice none 0 0, .int .i64 0, .int .i64 6] (0, 0) rfl (setRow_heap _ _ _ _ _ _ HB5.out.1) rfl) rfl ?_
       exact ⟨HB5.out.2.setRow (.inr (by rw [HG.out.2.2]; exact Nat.le_refl _)) _, .inl ⟨6, by rw [HZ.out.2.2, if_neg HA.out], by decide, by decide, rfl⟩⟩
end Go.Proofs.YtkmpfgpfbmeihaaGreatDoor.inf
namespace Go.Proofs.YtkmpfgpfbmeihaaGreatDoor.pk
open Go Go.RowKit lib bm
set_option maxHeartbeats 2000000 in
theorem rhex_any (ao : Option Addr) (cap : Nat) (bs : List UInt8) (w : World) (h : lib.Rd w ao cap bs) (hlen : bs.length ≤ 10000000) :
  Calls Tryz.prog 50 #[.slice ao bs.length cap] w fun e w' => e = .returned (.string (str (hexb bs))) ∧ Fr [] w w' := by
 obtain ⟨L, hL⟩ : ∃ L, L = bs.length := ⟨_, rfl⟩
 have hLb : L ≤ 10000000 := by omega
 have HI := Lib.hid (And.intro h hL)
 rw [← hL]
 clear h hL hlen
 go_enter Tryz.func50, Tryz.ntmps50
 go_wp2
 go_loopg [3, 4] L (fun k s3 s4 wr => ∃ i a c out, s4 = .int .i64 (i : Nat) ∧ s3 = .slice a out.length c ∧ i + k = L ∧ Wr w wr a c out ∧ out = hexb (bs.take i))
 case atStart => exact ⟨0, none, 0, [], rfl, rfl, by omega, wr_start w w (Fr.refl _ _), rfl⟩
 case round =>
  obtain ⟨i, a, c, out, rfl, rfl, hik, h, hout⟩ := hrel
  have hol : out.length = 2 * i := by rw [hout, hexb_length, List.length_take, ← HI.out.2]; omega
  have H := Lib.hid (And.intro h (And.intro hout hol))
  have hob : out.length ≤ 20000000 := by omega
  clear h hout hol
  by_cases hi : i < L
  ·obtain ⟨k, rfl⟩ : ∃ k, gk = k + 1 := ⟨gk - 1, by omega⟩
   have hil : i < bs.length := by rw [← HI.out.2]; exact hi
   have hcs := HI.out.1.cs
   have hlow := fun x hx => hcs.lt (show bs.map bv ≠ [] by intro e; have := congrArg List.length e; rw [List.length_map] at this; simp at this; rw [this] at hil; simp at hil) x hx
   obtain ⟨g, o, rfl, hc⟩ := (hcs.fr H.out.1.fr (by simp)).at (by rw [List.length_map]; omega)
   have hgw : g < w.heap.size := hlow ⟨g, o, none⟩ rfl
   have hci := hc i (bv bs[i]) (by rw [List.getElem?_map, List.getElem?_eq_getElem hil]; rfl)
   unfold bv at hci
   have hx0 := index_hexu (bs[i].toNat / 16) (by have := UInt8.toNat_lt bs[i]; omega)
   have hx1 := index_hexu (bs[i].toNat % 16) (by omega)
   have e1 := and15u bs[i]
   have hb256 := UInt8.toNat_lt bs[i]
   have hcl := hex2_cells bs[i]
   have HT := Lib.hid (show bs.take (i + 1) = bs.take i ++ [bs[i]] from List.take_succ_eq_append_getElem hil)
   obtain ⟨b, hb⟩ : ∃ b, b = bs[i] := ⟨_, rfl⟩
   rw [← hb] at hci hx0 hx1 e1 hb256 hcl HT
   have HCL := Lib.hid hcl
   clear hc hil hb hcl hcs hlow
   obtain ⟨S, hS⟩ : ∃ S, S = blk a := ⟨_, rfl⟩
   have q0 : ∀ x, (sup S wr.drew x).cell? ⟨g, o + i, none⟩ = some (.int .u8 ((b.toNat : Nat) : Int)) := fun x => (sup_fr S wr.drew x).cell ((Fr.drew1 [] wr).cell hci (by simp)) (fun hm => by rw [hS] at hm; have := H.out.1.new g hm; omega)
   have HS := Lib.hid hS
   clear hS hgw
   have e0 : ((b.toNat : Nat) : Int) / 16 = ((b.toNat / 16 : Nat) : Int) := by omega
   go_upto_region 5 with fail
   generalize (hexd (b.toNat / 16)).toNat = h0 at *
   generalize (hexd (b.toNat % 16)).toNat = h1 at *
   generalize b.toNat % 16 = b1 at *
   generalize b.toNat / 16 = b0 at *
   clear hci
   refine region_mix 15 [(false, 0), (false, 1), (false, 2), (false, 3), (false, 4), (false, 5), (false, 6), (false, 7), (false, 8), (false, 9), (false, 10), (false, 11), (false, 12), (true, 13), (true, 14)] S (by kernel_rfl) (by kernel_rfl) (fun _ _ d _ _ h => by cases d <;> exact h) ?_
   simp only [List.map_cons, List.map_nil, List.getD_cons_zero, List.getD_cons_succ, List.drop_succ_cons, List.drop_zero, List.drop_nil]
   refine mix_seg 13 rfl ?_
   simp only [List.take_succ_cons, List.take_zero, List.drop_succ_cons, List.drop_zero, List.map_cons, List.map_nil]
   repeat (go_big_quiet_step (fail))
   refine wpQuiet_nil ?_
   clear e0 e1 hx0 hx1 q0
   refine mix_eff rfl ?_
   intro X hX
   go_wp2
   refine hX.out _ _ ((Fr.refl _ wr.drew).alloc _) ?_
   clear hX X
   have fr0 : Fr [] wr (wr.drew.alloc (.cells #[.int .u8 (h0 : Nat), .int .u8 (h1 : Nat)] 5)) := (Fr.drew1 [] wr).alloc _
   have ownA := ownsRow_fr H.out.1.own fr0 (by simp)
   have cA : Cs (wr.drew.alloc (.cells #[.int .u8 (h0 : Nat), .int .u8 (h1 : Nat)] 5)) (some ⟨wr.drew.heap.size, 0, none⟩) ((hex2 b).map bv) := by
    rw [HCL.out]
    exact .inr ⟨wr.drew.heap.size, 0, rfl, fun j u hj => by rw [cell_of (alloc_at wr.drew _)]; simpa using hj⟩
   refine mix_eff rfl ?_
   intro X hX
   refine wp_append sliceU8 _ _ rfl (.slice a out.length c) out.length (out.map bv) S rfl (by rw [own_blk, HS.out]) ownA (some ⟨wr.drew.heap.size, 0, none⟩) 2 2 ((hex2 b).map bv) rfl (by decide) (by simp) cA (by rfl) (bv_one _) (by omega) (by unfold maxLen; omega) ?_
   intro a2 c2 w2 A1
   refine hX.out _ _ A1.fr ?_
   clear hX X
   refine mix_nil ?_
   have HA := Lib.hid (And.intro fr0 A1)
   clear fr0 A1 ownA cA
   go_wp2
   go_roundg k
   case measure => omega
   case rel =>
    have A1 := HA.out.2
    rw [HS.out] at A1
    exact ⟨i + 1, a2, c2, out ++ hex2 b, by go_num, by rw [List.length_append]; rfl, by omega, H.out.1.step2 HA.out.1 A1, by rw [HT.out, hexb_snoc, ← H.out.2.1]⟩
  ·obtain rfl : i = L := by omega
   obtain ⟨r1, _⟩ := rd_of_owns H.out.1.own
   have cv := run_conv wr Tryz.underlying23 Tryz.underlying5 Tryz.underlying9 (rfl : out.length = out.length) r1.cs
   have HO := Lib.hid (show out = hexb bs by rw [H.out.2.1, HI.out.2, List.take_length])
   clear r1
   go_wp2
   go_ret
   exact ⟨by rw [← HO.out]; rfl, H.out.1.fr⟩
end Go.Proofs.YtkmpfgpfbmeihaaGreatDoor.pk
namespace Go.Proofs.YtkmpfgpfbmeihaaGreatDoor.pk
open Go Go.RowKit lib bm
def PBack (w : World) (r : Nat) (a : Option Addr) (cap : Nat) (bs : List UInt8) (at_ : Nat) (P : Except Nat (Nat × Nat)) (e : Ending) (w' : World) : Prop :=
 Fr [r] w w' ∧ ((∃ x, P = .error x ∧ 0 < x ∧ x < 100 ∧ e = .returned (.tuple #[.int .i64 0, .int .i64 (x : Nat)])) ∨
  ∃ v n, P = .ok (v, n) ∧ v < 68719476736 ∧ e = .returned (.tuple #[.int .i64 (v : Nat), .int .i64 0]) ∧ Rdr w' r a cap bs (at_ + n))
set_option maxHeartbeats 8000000 in
theorem back_read (r : Nat) (a : Option Addr) (cap : Nat) (bs : List UInt8) (at_ : Nat) (w : World) (h : Rdr w r a cap bs at_) (hlen : bs.length ≤ 100000000) :
  Calls Tryz.prog 74 #[.pointer (some ⟨r, 0, none⟩)] w (PBack w r a cap bs at_ (pback (bs.drop at_))) := by
 obtain ⟨P, hP⟩ : ∃ P, P = pback (bs.drop at_) := ⟨_, rfl⟩
 rw [← hP]
 have hP0 : pbF (bs.drop at_) 5 0 0 = P := hP.symm
 have H := Lib.hid (And.intro h (And.intro hlen hP0))
 clear h hlen hP hP0
 go_enter Tryz.func74, Tryz.ntmps74
 go_upto_block 0 with fail
 go_wp2
 go_loopg [4, 8] 5 (fun k s4 s8 wr => ∃ i v : Nat, s4 = .int .i64 (v : Nat) ∧ s8 = .int .i64 (i : Nat) ∧ i + k = 5 ∧ ((i = 0 → v = 0) ∧ (i = 1 → v ≤ 127) ∧ (i = 2 → v ≤ 16511) ∧ (i = 3 → v ≤ 2113663) ∧ (i = 4 → v ≤ 270549119) ∧ v ≤ 34630287487) ∧ pbF (bs.drop at_) k i v = P ∧ Rdr wr r a cap bs (at_ + i) ∧ Fr [r] w wr)
 case atStart => exact ⟨0, 0, rfl, rfl, rfl, by decide, H.out.2.2, H.out.1, Fr.refl _ _⟩
 case round =>
  obtain ⟨i, v, rfl, rfl, hik, hv, hph, hr, hf⟩ := hrel
  by_cases hi : i < 5
  ·obtain ⟨k, rfl⟩ : ∃ k, gk = k + 1 := ⟨gk - 1, by omega⟩
   by_cases hin : at_ + i < bs.length
   ·have ht := take_good r a cap bs (at_ + i) 1 wr hr H.out.2.1 (by omega)
    obtain ⟨g, o, rfl, hc⟩ := hr.rd.at hin
    have hcap := hr.rd.le
    have hgr := hr.off (fun e => by rw [e] at hin; simp at hin) g (by simp [blk])
    have ec : cutAt (some ⟨g, o, none⟩) cap (at_ + i) = some ⟨g, o + (at_ + i), none⟩ := by unfold cutAt; rw [if_neg (by omega)]; simp [addr_add]
    rw [ec] at ht
    obtain ⟨p, hp⟩ : ∃ p, p = o + (at_ + i) := ⟨_, rfl⟩
    rw [← hp] at ht hc
    have hbi : (bs.drop at_)[i]? = some bs[at_ + i] := by rw [drop_at, List.getElem?_eq_getElem hin]
    have hb := UInt8.toNat_lt bs[at_ + i]
    obtain ⟨b, hbv⟩ : ∃ b, b = bs[at_ + i] := ⟨_, rfl⟩
    rw [← hbv] at hc hbi hb
    obtain ⟨c, hcv⟩ : ∃ c, c = b.toNat := ⟨_, rfl⟩
    rw [← hcv] at hc hb
    rw [pbF, hbi] at hph
    simp only [← hcv] at hph
    have HT := Lib.hid (And.intro ht (And.intro hc (And.intro hf hgr)))
    clear ht hc hf hgr hbi hbv hcv hr ec hcap hp
    go_upto_region 6 with (go_at_call 43; refine HT.out.1.mono ?_; rintro e w3 ⟨rfl, rd3, f3⟩)
    have hc3 := f3.cell HT.out.2.1 (by simp; exact HT.out.2.2.2)
    have H3 := Lib.hid (And.intro rd3 (HT.out.2.2.1.trans f3))
    clear rd3 f3
    have h127 := u8_and127 c hb
    obtain ⟨y, hy⟩ : ∃ y, y = c % 128 := ⟨_, rfl⟩
    have hyb : y < 128 := by omega
    rw [← hy] at h127 hph
    obtain ⟨u, hu⟩ : ∃ u, u = (if 0 < i then (v + 1) * 128 else 0) := ⟨_, rfl⟩
    rw [← hu] at hph
    obtain ⟨z, hz⟩ : ∃ z, z = u + y := ⟨_, rfl⟩
    rw [← hz] at hph
    have hor : bits .or .i64 (u : Int) (y : Int) = (z : Int) := by
     by_cases h0 : 0 < i
     ·rw [if_pos h0] at hu
      have := i64_put (v + 1) y 7 (by decide) (by simpa using hyb) (by omega)
      rw [hz, hu]
      simpa using this
     ·rw [if_neg h0] at hu
      rw [hz, hu, i64_or_nat 0 y (by decide) (by omega)]
      simp
    have hzv : (i + 1 = 1 → z ≤ 127) ∧ (i + 1 = 2 → z ≤ 16511) ∧ (i + 1 = 3 → z ≤ 2113663) ∧ (i + 1 = 4 → z ≤ 270549119) ∧ z ≤ 34630287487 := by
     by_cases h0 : 0 < i
     ·rw [if_pos h0] at hu; omega
     ·rw [if_neg h0] at hu; omega
    have HZ := Lib.hid (And.intro hzv hph)
    have hzb : z ≤ 34630287487 := by omega
    by_cases h0 : i = 0
    ·subst h0
     obtain rfl : v = 0 := by omega
     rw [if_neg (by decide)] at hu
     subst hu
     have hor2 : bits .or .i64 0 (y : Int) = (z : Int) := hor
     have hz127 : z ≤ 127 := by omega
     have HZ2 := Lib.hid HZ.out.2
     clear hor hph hzv hz hy hv HZ
     by_cases h128 : c < 128
     ·have HP2 := Lib.hid ((if_pos h128).symm.trans HZ2.out)
      go_wp2
      go_ret2
      exact ⟨H3.out.2, .inr ⟨z, 1, HP2.out.symm, by omega, rfl, H3.out.1⟩⟩
     ·have HP2 := Lib.hid ((if_neg h128).symm.trans HZ2.out)
      have dL : decide ((c : Int) < 128) = false := by simp; omega
      go_wp2
      go_roundg k
      case measure => omega
      case rel => exact ⟨1, z, by go_num, by go_num, by omega, ⟨by omega, fun _ => hz127, by omega, by omega, by omega, hzb⟩, HP2.out, H3.out.1, H3.out.2⟩
    ·have d0 : decide ((0 : Int) < (i : Int)) = true := by simp; omega
     have hu2 : ((v : Int) + 1) * 128 = (u : Int) := by rw [if_pos (by omega)] at hu; omega
     have hor2 : bits .or .i64 (((v : Int) + 1) * 128) (y : Int) = (z : Int) := by rw [hu2]; exact hor
     have hvb : v ≤ 270549119 := by omega
     clear hor hph hzv hz hy hv hu hu2
     by_cases h128 : c < 128
     ·have HP2 := Lib.hid ((if_pos h128).symm.trans HZ.out.2)
      go_wp2
      go_ret2
      exact ⟨H3.out.2, .inr ⟨z, i + 1, HP2.out.symm, by omega, rfl, H3.out.1⟩⟩
     ·have HP2 := Lib.hid ((if_neg h128).symm.trans HZ.out.2)
      have dL : decide ((c : Int) < 128) = false := by simp; omega
      go_wp2
      go_roundg k
      case measure => omega
      case rel => exact ⟨i + 1, z, by go_num, by go_num, by omega, ⟨by omega, HZ.out.1⟩, HP2.out, H3.out.1, H3.out.2⟩
   ·have ht := take_bad r a cap bs (at_ + i) 1 wr hr H.out.2.1 (by omega)
    have hbi : (bs.drop at_)[i]? = none := by rw [drop_at]; exact List.getElem?_eq_none (by omega)
    rw [pbF, hbi] at hph
    have HT := Lib.hid (And.intro ht (And.intro hph hf))
    clear ht hbi hph hf hr
    go_wp2_with (go_at_call 43; refine HT.out.1.mono ?_; rintro e w3 ⟨rfl, f3⟩)
    go_ret2
    exact ⟨HT.out.2.2.step f3 (by simp), .inl ⟨4, HT.out.2.1.symm, by decide, by decide, rfl⟩⟩
  ·obtain rfl : i = 5 := by omega
   obtain rfl : gk = 0 := by omega
   rw [pbF] at hph
   have HT := Lib.hid (And.intro hph hf)
   clear hph hf hr
   go_wp2
   go_ret2
   exact ⟨HT.out.2, .inl ⟨3, HT.out.1.symm, by decide, by decide, rfl⟩⟩
end Go.Proofs.YtkmpfgpfbmeihaaGreatDoor.pk
namespace Go.Proofs.YtkmpfgpfbmeihaaGreatDoor.crc
open Go Go.RowKit lib bm
theorem info256 : (Tryz.prog.info? 186).map (·.size) = some 256 := by kernel_rfl
theorem results_256 {fn : Func} {p : Tmp} (h : fn.results = #[.cell p 186]) (tmps : Array Value) (w : World) (g : Nat) (cs : Array Value) (fr : Nat × Nat)
  (hp : tmps.getD p undef = .pointer (some ⟨g, 0, none⟩)) (hg : w.heap[g]? = some (.cells cs 186 fr)) (hs : cs.size = 256) : (results fn tmps).run Tryz.prog w = .ok (.agg cs) w :=
 results_cell_row h tmps w g 186 cs fr _ hp hg Tryz.underlying186 rfl (by rw [info256, hs])
def TabTo (C : Array Value) (n : Nat) : Prop := C.size = 256 ∧ ∀ i, i < n → C[i]? = some (.int .u32 (tb i : Nat))
set_option maxHeartbeats 4000000 in
theorem table_any (w : World) : Calls Tryz.prog 131 #[] w fun e w' => ∃ C, e = .returned (.agg C) ∧ TabTo C 256 ∧ Fr [] w w' := by
 go_enter Tryz.func131, Tryz.ntmps131
 go_upto_block 0 with fail
 obtain ⟨B, w1, hB, hw1, hm⟩ : ∃ B w1, B = w.heap.size ∧ w1 = w.alloc (.cells Tryz.zeroCells186 186) ∧ (Fr [] w w1 ∧ ∃ C, w1.heap[B]? = some (.cells C 186 (0, 0)) ∧ TabTo C 0) := ⟨_, _, rfl, rfl, (Fr.refl [] w).alloc _, _, alloc_at w _, by kernel_rfl, fun i hi => by omega⟩
 rw [← hw1, ← hB]
 have HM := Lib.hid (And.intro hm hB)
 clear hm hw1 hB
 go_wp2
 go_loopg [3] 256 (fun k s3 wr => ∃ i : Nat, s3 = .int .i64 (i : Nat) ∧ i + k = 256 ∧ Fr [] w wr ∧ ∃ C, wr.heap[B]? = some (.cells C 186 (0, 0)) ∧ TabTo C i)
 case atStart => exact ⟨0, rfl, rfl, HM.out.1⟩
 case round =>
  obtain ⟨i, rfl, hik, hf, C, hC, hT⟩ := hrel
  by_cases hi : i < 256
  ·obtain ⟨k, rfl⟩ : ∃ k, gk = k + 1 := ⟨gk - 1, by omega⟩
   have H := Lib.hid (And.intro hf (And.intro hC hT))
   clear hf hC hT
   go_upto_block 2 with fail
   obtain ⟨wo, hwo⟩ : ∃ wo, wo = wr := ⟨_, rfl⟩
   rw [← hwo] at H ⊢
   clear hwo
   go_wp2
   go_loopg [2, 8] 8 (fun k2 s2 s8 wq => ∃ j y : Nat, s8 = .int .i64 (j : Nat) ∧ s2 = .int .u32 (y : Nat) ∧ j + k2 = 8 ∧ y < 4294967296 ∧ tb i = stN (8 - j) y ∧ wq = wo)
   case atStart => exact ⟨0, i, rfl, by go_num, rfl, by omega, rfl, rfl⟩
   case round =>
    obtain ⟨j, y, rfl, rfl, hj, hy, he, rfl⟩ := hrel
    have HE := Lib.hid he
    clear he
    by_cases h8 : j < 8
    ·obtain ⟨k2, rfl⟩ : ∃ k, gk = k + 1 := ⟨gk - 1, by omega⟩
     have hlow := u32_low y hy
     have hst : stN (8 - j) y = stN (8 - (j + 1)) (st y) := by rw [show 8 - j = 8 - (j + 1) + 1 by omega]; rfl
     have HST := Lib.hid hst
     have hl2 := st_lt hy
     clear hst
     by_cases hodd : y % 2 = 1
     ·have hh := u32_xor (y / 2) poly (by omega) (by decide)
      have hsy : st y = (y / 2) ^^^ poly := by rw [st_cases, if_pos hodd]
      rw [← hsy] at hh
      unfold poly at hh
      rw [show ((y / 2 : Nat) : Int) = (y : Int) / 2 by omega] at hh
      rw [hodd] at hlow
      have hand : bits .and .u32 3988292384 4294967295 = 3988292384 := by decide
      generalize st y = z at *
      clear hsy
      go_wp2
      go_roundg k2
      case measure => omega
      case rel => exact ⟨j + 1, z, by go_num, by go_num, by omega, hl2, by rw [HE.out, HST.out], rfl⟩
     ·have hsy : st y = y / 2 := by rw [st_cases, if_neg hodd]
      rw [show y % 2 = 0 by omega] at hlow
      have hand : bits .and .u32 3988292384 0 = 0 := by decide
      have hh := u32_xor (y / 2) 0 (by omega) (by decide)
      rw [Nat.xor_zero, show ((y / 2 : Nat) : Int) = (y : Int) / 2 by omega] at hh
      have HS := Lib.hid hsy
      clear hsy hl2
      go_wp2
      go_roundg k2
      case measure => omega
      case rel => exact ⟨j + 1, y / 2, by go_num, by go_num, by omega, by omega, by rw [HE.out, HST.out, HS.out], rfl⟩
    ·obtain rfl : j = 8 := by omega
     have hC := H.out.2.1
     have zC := frozen_of hC i
     obtain ⟨x0, hx0⟩ : ∃ x, wr.cell? ⟨B, i, none⟩ = some x := ⟨C[i]'(by rw [H.out.2.2.1]; exact hi), by rw [cell_of hC]; exact Array.getElem?_eq_getElem (by rw [H.out.2.2.1]; exact hi)⟩
     clear hC
     go_wp2
     go_roundg k
     case measure => omega
     case rel =>
      refine ⟨i + 1, by go_num, by omega, H.out.1.setCell (.inr (by rw [HM.out.2]; exact Nat.le_refl _)) _, _, setCell_of H.out.2.1 _, by rw [Array.size_setIfInBounds]; exact H.out.2.2.1, fun t ht => ?_⟩
      by_cases e : t = i
      ·subst e
       rw [Array.getElem?_setIfInBounds_self_of_lt (by rw [H.out.2.2.1]; exact hi), HE.out]; rfl
      ·rw [Array.getElem?_setIfInBounds_ne (by omega)]
       exact H.out.2.2.2 t (by omega)
  ·obtain rfl : i = 256 := by omega
   obtain rfl : gk = 0 := by omega
   have H := Lib.hid (And.intro hf (And.intro hC hT))
   clear hf hT
   have h1 : C.all (·.oneCell') = true := Array.all_eq_true_iff_forall_mem.2 fun v hv => by
    obtain ⟨i, hi, rfl⟩ := Array.mem_iff_getElem.1 hv
    have := H.out.2.2.2 i (by rw [← H.out.2.2.1]; exact hi)
    rw [Array.getElem?_eq_getElem hi] at this
    rw [Option.some.inj this]
    rfl
   have hsz := H.out.2.2.1
   have hi256 : (Tryz.prog.info? 186).map (·.size) = some C.size := by rw [info256, hsz]
   have HC := Lib.hid (And.intro hC (And.intro h1 hi256))
   clear hC h1 hi256
   go_wp2_with (first | (refine wpList_load_row rfl 186 (.tmp 0) rfl B rfl _ C (0, 0) _ HC.out.1 Tryz.underlying186 rfl HC.out.2.2 ?_) | (refine wpList_store_row rfl 186 (.tmp 0) (.tmp 22) rfl B C rfl rfl _ C HC.out.1 HC.out.2.2 rfl HC.out.2.1 ?_))
   exact bodyPost_ret (results_256 rfl _ _ B C (0, 0) rfl (setRow_heap _ _ _ _ _ _ HC.out.1) hsz) rfl ⟨C, rfl, H.out.2.2, H.out.1.setRow (.inr (by rw [HM.out.2]; exact Nat.le_refl _)) _⟩
end Go.Proofs.YtkmpfgpfbmeihaaGreatDoor.crc
namespace Go.Proofs.YtkmpfgpfbmeihaaGreatDoor.crc
open Go Go.RowKit lib bm
def Cr (w : World) (g c : Nat) : Prop :=
 ∃ C, w.heap[g]? = some (.cells C 188 (0, 0)) ∧ C.size = 267 ∧ C[0]? = some (.int .i64 2) ∧ (∀ i, i < 256 → C[8 + i]? = some (.int .u32 (tb i : Nat))) ∧ C[264]? = some (.int .u32 (c : Nat)) ∧ c < 4294967296
theorem ofInt_u8 (a : Nat) (ha : a < 256) : (BitVec.ofInt 8 (a : Int)).toNat = a := by
 rw [BitVec.ofInt_natCast, BitVec.toNat_ofNat]
 exact Nat.mod_eq_of_lt (by omega)
theorem u8_xor (a b : Nat) (ha : a < 256) (hb : b < 256) : bits .xor .u8 (a : Int) (b : Int) = ((a ^^^ b : Nat) : Int) := by
 have hx : a ^^^ b < 256 := Nat.xor_lt_two_pow (n := 8) ha hb
 show IntKind.u8.wrap ((BitVec.ofInt 8 (a : Int) ^^^ BitVec.ofInt 8 (b : Int)).toNat : Int) = _
 rw [BitVec.toNat_xor, ofInt_u8 a ha, ofInt_u8 b hb]
 unfold IntKind.wrap
 simp only [IntKind.signed, IntKind.bits, Bool.false_and, Bool.false_eq_true, if_false, show (2 : Int) ^ 8 = 256 from rfl]
 omega
theorem tab_one {C : Array Value} (h : TabTo C 256) : C.all (·.oneCell') = true := Array.all_eq_true_iff_forall_mem.2 fun v hv => by
 obtain ⟨i, hi, rfl⟩ := Array.mem_iff_getElem.1 hv
 have := h.2 i (by rw [← h.1]; exact hi)
 rw [Array.getElem?_eq_getElem hi] at this
 rw [Option.some.inj this]
 rfl
set_option maxHeartbeats 4000000 in
theorem begun_two (w : World) : Calls Tryz.prog 106 #[.int .i64 2] w fun e w' => e = .returned (.pointer (some ⟨w.heap.size, 0, none⟩)) ∧ Cr w' w.heap.size 4294967295 ∧ Fr [] w w' := by
 go_enter Tryz.func106, Tryz.ntmps106
 go_wp2_with (first
  | (go_at_call 131; refine (table_any _).mono ?_; rintro e w2 ⟨T, rfl, hT, f2⟩; have hC := (show ∃ C0 : Array Value, w2.heap[w.heap.size]? = some (.cells C0 188 (0, 0)) ∧ C0.size = 267 ∧ C0[0]? = some (.int .i64 2) ∧ C0[264]? = some (.int .u32 (4294967295 : Nat)) from ⟨_, f2.blk (alloc_at w _) (by simp), rfl, rfl, rfl⟩); have fw := ((Fr.refl [] w).alloc _).trans f2; have hi := (show (Tryz.prog.info? 186).map (·.size) = some T.size by rw [info256, hT.1]); have HT := Lib.hid (And.intro hC (And.intro fw (And.intro hT hi))); clear hC fw hT hi f2)
  | (obtain ⟨C0, hC0, s1, s2, s3⟩ := HT.out.1; have HC := Lib.hid (And.intro hC0 (And.intro s1 (And.intro s2 s3))); clear hC0 s1 s2 s3; refine wpList_store_mid rfl 186 (.tmp 13) (.tmp 11) rfl w.heap.size 8 T rfl rfl (there_of HC.out.1 8 _ (by rw [HT.out.2.2.1.1, HC.out.2.1]; decide)) HT.out.2.2.2 (tab_one HT.out.2.2.1) ?_))
 go_ret
 obtain ⟨C', h1, h2, h3, h4⟩ := setCells_blk T.toList 8 w2 C0 HC.out.1
 refine ⟨rfl, ⟨C', h1, by rw [h2]; exact HC.out.2.1, by rw [h3 0 (by omega)]; exact HC.out.2.2.1, fun i hi => h4 i _ (by rw [Array.getElem?_toList]; exact HT.out.2.2.1.2 i hi) (by rw [HC.out.2.1]; omega), by rw [h3 264 (by rw [Array.length_toList, HT.out.2.2.1.1]; omega)]; exact HC.out.2.2.2, by decide⟩, Fr.setCells (.inr (Nat.le_refl _)) _ _ HT.out.2.1⟩
set_option maxHeartbeats 2000000 in
theorem write_crc (g c0 cap : Nat) (ao : Option Addr) (bs : List UInt8) (w : World) (h : Cr w g c0) (hr : Rd w ao cap bs) (hng : bs ≠ [] → ∀ x ∈ blk ao, x ≠ g) :
  Calls Tryz.prog 94 #[.pointer (some ⟨g, 0, none⟩), .slice ao bs.length cap] w fun e w' => e = .returned (.tuple #[]) ∧ Fr [g] w w' ∧ Cr w' g (bs.foldl inb c0) := by
 obtain ⟨C, hC, hsz, hc0, hrest⟩ := h
 have z0 := cell_of hC 0
 rw [hc0] at z0
 obtain ⟨L, hL⟩ : ∃ L, L = bs.length := ⟨_, rfl⟩
 have hle := hr.le
 have hmax := hr.max
 unfold maxLen at hmax
 rw [← hL] at hle ⊢
 have H := Lib.hid (And.intro (show Cr w g c0 from ⟨C, hC, hsz, hc0, hrest⟩) (And.intro hr (And.intro hng hL)))
 clear hr hng hL hC hsz hc0 hrest
 go_enter Tryz.func94, Tryz.ntmps94
 go_upto_block 3 with fail
 clear z0
 go_wp2
 go_loopg [5, 63] L (fun k s5 s63 wr => ∃ i c : Nat, s63 = .int .i64 (i : Nat) ∧ i + k = L ∧ Cr wr g c ∧ Fr [g] w wr ∧ (bs.drop i).foldl inb c = bs.foldl inb c0)
 case atStart => exact ⟨0, c0, rfl, by omega, H.out.1, Fr.refl _ _, rfl⟩
 case round =>
  obtain ⟨i, c, rfl, hik, hA, hf, had⟩ := hrel
  by_cases hi : i < L
  ·obtain ⟨k, rfl⟩ : ∃ k, gk = k + 1 := ⟨gk - 1, by omega⟩
   have hib : i < bs.length := by rw [← H.out.2.2.2]; exact hi
   have hrr := rd_frE H.out.2.1 hf (fun hb x hx hm => H.out.2.2.1 hb x hx (by simpa using hm))
   obtain ⟨g1, o1, rfl, cc⟩ := hrr.at hib
   have hdr : bs.drop i = bs[i] :: bs.drop (i + 1) := List.drop_eq_getElem_cons hib
   rw [hdr, List.foldl_cons] at had
   have hb256 := UInt8.toNat_lt bs[i]
   have htab := inb_tab c bs[i]
   obtain ⟨C, hC, hsz, hk0, htb, hcc, hcl⟩ := hA
   have hzl := inb_lt hcl bs[i]
   obtain ⟨z, hz⟩ : ∃ z, z = inb c bs[i] := ⟨_, rfl⟩
   rw [← hz] at had htab hzl
   generalize bs[i].toNat = b at *
   obtain ⟨j, hj⟩ : ∃ j, j = c % 256 ^^^ b := ⟨_, rfl⟩
   have hjl : j < 256 := by rw [hj]; exact Nat.xor_lt_two_pow (n := 8) (by omega) hb256
   have ex := u8_xor (c % 256) b (by omega) hb256
   rw [← hj, show ((c % 256 : Nat) : Int) = (c : Int) % 256 by omega] at ex
   rw [← hj] at htab
   have htl := tb_lt hjl
   have ez := u32_xor (c / 256) (tb j) (by omega) htl
   rw [← htab, show ((c / 256 : Nat) : Int) = (c : Int) / 256 by omega] at ez
   have ct := cell_of hC (8 + j)
   rw [htb j hjl] at ct
   generalize tb j = tj at *
   have ca := cell_of hC 264
   rw [hcc] at ca
   have za := frozen_of hC 264
   have HC := Lib.hid (And.intro hC (And.intro hsz (And.intro hk0 (And.intro htb (And.intro hf had)))))
   clear hC hsz hk0 htb hf had htab hdr hrr hib hcc hz hj
   go_upto_region 11 with fail
   clear cc
   refine region_tail 21 (by kernel_rfl) (by kernel_rfl) ?_
   simp only [List.take_succ_cons, List.take_zero, List.drop_succ_cons, List.drop_zero]
   repeat (go_big_quiet_step (fail))
   refine wpQuiet_nil ?_
   go_wp2
   go_roundg k
   case measure => omega
   case rel =>
    have hC5 := setCell_of (w := wr.drew) (o := 264) (show wr.drew.heap[g]? = _ from HC.out.1) (.int .u32 (z : Nat))
    refine ⟨i + 1, z, by go_num, by omega, ⟨_, hC5, by simp [HC.out.2.1], by rw [Array.getElem?_setIfInBounds_ne (by decide)]; exact HC.out.2.2.1, fun t ht => by rw [Array.getElem?_setIfInBounds_ne (by omega)]; exact HC.out.2.2.2.1 t ht, Array.getElem?_setIfInBounds_self_of_lt (by rw [HC.out.2.1]; decide), hzl⟩, (HC.out.2.2.2.2.1.trans (Fr.drew1 [g] wr)).setCell (by simp) _, HC.out.2.2.2.2.2⟩
  ·obtain rfl : gk = 0 := by omega
   obtain rfl : i = L := by omega
   have hd : bs.drop i = [] := List.drop_eq_nil_of_le (by rw [← H.out.2.2.2]; exact Nat.le_refl _)
   rw [hd] at had
   have HA := Lib.hid (And.intro hA (And.intro hf had))
   clear hA hf had hd
   go_wp2
   go_end0
   exact ⟨rfl, HA.out.2.1, by rw [← HA.out.2.2]; exact HA.out.1⟩
set_option maxHeartbeats 1000000 in
theorem sum_crc (g c : Nat) (w : World) (h : Cr w g c) : Calls Tryz.prog 96 #[.pointer (some ⟨g, 0, none⟩)] w fun e w' => (∃ ao q, e = .returned (.slice ao 4 q) ∧ Rd w' ao q (sums.be4 (4294967295 - c))) ∧ Fr [] w w' := by
 obtain ⟨C, hC, hsz, hc0, _, hcc, hcl⟩ := h
 have c0 := cell_of hC 0
 have c1 := cell_of hC 264
 rw [hc0] at c0
 rw [hcc] at c1
 obtain ⟨z, hz⟩ : ∃ z, z = 4294967295 - c := ⟨_, rfl⟩
 have r1 := u32_not c hcl
 rw [← hz] at r1
 have hzl : z < 4294967296 := by omega
 rw [← hz]
 have HC := Lib.hid hC
 clear hz hC hsz hc0 hcc
 go_enter Tryz.func96, Tryz.ntmps96
 go_upto_region 3 with fail
 have hgl := lt_of_block HC.out
 obtain ⟨B, hB⟩ : ∃ B, B = w.heap.size := ⟨_, rfl⟩
 have hgB : g ∉ [B] := by simp; omega
 have s1 : ∀ x, (sup [B] w.drew x).cell? ⟨g, 264, none⟩ = some (.int .u32 (c : Nat)) := fun x => (sup_fr [B] w.drew x).cell (show w.drew.cell? _ = _ from c1) hgB
 have hmk : ∀ w : World, (Instr.makeSlice 23 (.int .i64 0) (.int .i64 4)).run Tryz.prog w = .ok (.slice (some ⟨w.heap.size, 0, none⟩) 0 4) (w.alloc (.cells #[.int .u8 0, .int .u8 0, .int .u8 0, .int .u8 0] 5)) := fun _ => by kernel_rfl
 have hfo : ∀ w, Own w 5 (some ⟨B, 0, none⟩) 4 (([] : List UInt8).map bv) → Calls Tryz.prog 119 #[.slice (some ⟨B, 0, none⟩) 0 4, .int .u32 z] w (sums.Foured w (some ⟨B, 0, none⟩) [] z) := fun w h => sums.four_any (some ⟨B, 0, none⟩) 4 [] z w hzl h (by simp)
 unfold sums.Foured at hfo
 simp only [List.length_nil, Nat.zero_add, List.nil_append] at hfo
 have HB := Lib.hid (And.intro hB hfo)
 clear hB hfo c0 c1
 refine region_mix 8 [(false, 1), (false, 2), (false, 3), (false, 4), (false, 5), (true, 0), (true, 6), (false, 7)] [B] (by kernel_rfl) (by kernel_rfl) (fun _ _ d _ _ h => by cases d <;> exact h) ?_
 simp only [List.map_cons, List.map_nil, List.getD_cons_zero, List.getD_cons_succ, List.drop_succ_cons, List.drop_zero, List.drop_nil]
 refine mix_seg 5 rfl ?_
 simp only [List.take_succ_cons, List.take_zero, List.drop_succ_cons, List.drop_zero, List.map_cons, List.map_nil]
 repeat (go_big_quiet_step (fail))
 refine wpQuiet_nil ?_
 refine mix_eff rfl ?_
 intro X hX
 have hBd : w.drew.heap.size = B := HB.out.1.symm
 go_wp2
 have f1 : Fr [B] w.drew ((w.alloc (.cells #[.int .u8 0, .int .u8 0, .int .u8 0, .int .u8 0] 5)).drew) := (Fr.refl [B] w.drew).alloc (.cells #[.int .u8 0, .int .u8 0, .int .u8 0, .int .u8 0] 5)
 have hown : Own ((w.alloc (.cells #[.int .u8 0, .int .u8 0, .int .u8 0, .int .u8 0] 5)).drew) 5 (some ⟨B, 0, none⟩) 4 (([] : List UInt8).map bv) := .inr ⟨B, 0, _, rfl, by rw [HB.out.1]; exact alloc_at w _, Nat.zero_le _, by decide, Nat.le_refl _, rfl⟩
 refine hX.out _ _ f1 ?_
 clear hX X s1 hmk
 generalize (w.alloc (.cells #[.int .u8 0, .int .u8 0, .int .u8 0, .int .u8 0] 5)).drew = w1 at *
 have H1 := Lib.hid (And.intro (HB.out.2 w1 hown) f1)
 clear hown f1 hBd
 refine mix_eff rfl ?_
 intro X hX
 go_wp2_with (go_at_call 119; refine H1.out.1.mono ?_; rintro e w2 ⟨a2, c2, rfl, A2⟩)
 refine hX.out _ _ A2.fr ?_
 clear hX X
 have H2 := Lib.hid A2
 clear A2
 refine mix_seg 1 rfl ?_
 simp only [List.take_succ_cons, List.take_zero, List.drop_succ_cons, List.drop_zero, List.map_cons, List.map_nil]
 repeat (go_big_quiet_step (fail))
 refine wpQuiet_nil ?_
 refine mix_nil ?_
 go_wp2
 go_ret
 have hr : Rd w2 a2 c2 (sums.be4 z) := H2.out.own.rd
 refine ⟨⟨a2, c2, rfl, hr.fr (by first | exact Fr.refl _ _ | exact Fr.drewN _ _ _)⟩, ?_⟩
 have f2 : Fr [] w w.drew := Fr.drew1 [] w
 exact ((f2.step H1.out.2 (fun y hy => .inr (by simp at hy; rw [hy, HB.out.1]; exact Nat.le_refl _))).step H2.out.fr (fun y hy => .inr (by simp [blk] at hy; rw [hy, HB.out.1]; exact Nat.le_refl _)))
set_option maxHeartbeats 1000000 in
theorem whole_crc (a : Option Addr) (cap : Nat) (bs : List UInt8) (w : World) (h : Rd w a cap bs) : Calls Tryz.prog 69 #[.int .i64 2, .slice a bs.length cap] w fun e w' => (∃ ao c, e = .returned (.slice ao 4 c) ∧ Rd w' ao c (sums.be4 (crc bs))) ∧ Fr [] w w' := by
 have H := Lib.hid h
 clear h
 go_enter Tryz.func69, Tryz.ntmps69
 go_upto_region 2 with (go_at_call 106; refine (begun_two _).mono ?_; rintro e w1 ⟨rfl, A1, f1⟩)
 have hw := write_crc w.heap.size 4294967295 cap a bs w1 A1 (H.out.fr f1) (fun hb x hx => by have := rd_lt H.out hb x hx; omega)
 have H1 := Lib.hid (And.intro hw f1)
 clear hw f1 A1
 go_upto_region 3 with (go_at_call 94; refine H1.out.1.mono ?_; rintro e w2 ⟨rfl, f2, A2⟩)
 have hs := sum_crc _ _ w2 A2
 have H2 := Lib.hid (And.intro hs f2)
 clear hs f2 A2
 go_wp2_with (go_at_call 96; refine H2.out.1.mono ?_; rintro e w3 ⟨⟨a3, c3, rfl, r3⟩, f3⟩)
 go_ret
 exact ⟨⟨a3, c3, rfl, r3⟩, (H1.out.2.step H2.out.2 (fun y hy => .inr (by simp at hy; rw [hy]; exact Nat.le_refl _))).trans f3⟩
theorem crc_lt (bs : List UInt8) : crc bs < 4294967296 := by unfold crc; omega
theorem crc_any (a : Option Addr) (cap : Nat) (bs : List UInt8) (w : World) (h : Rd w a cap bs) : Calls Tryz.prog 76 #[.slice a bs.length cap] w fun e w' => e = .returned (.int .u32 (crc bs : Nat)) ∧ Fr [] w w' := by
 have hw := whole_crc a cap bs w h
 have hn := fun a cap w h => sums.number_any a cap (crc bs) w (crc_lt bs) h
 have H := Lib.hid (And.intro hw hn)
 clear hw hn h
 go_enter Tryz.func76, Tryz.ntmps76
 go_wp2_with (first | (go_at_call 69; refine H.out.1.mono ?_; rintro e w1 ⟨⟨a1, c1, rfl, r1⟩, f1⟩; have H1 := Lib.hid (And.intro r1 f1); clear r1 f1) | (go_at_call 111; refine (H.out.2 a1 c1 _ H1.out.1).mono ?_; rintro e w2 ⟨rfl, f2⟩))
 go_ret
 exact ⟨rfl, H1.out.2.trans f2⟩
end Go.Proofs.YtkmpfgpfbmeihaaGreatDoor.crc
namespace Go.Proofs.YtkmpfgpfbmeihaaGreatDoor.pk
open Go Go.RowKit lib bm
theorem infoRaw : (Tryz.prog.info? 65).map (·.size) = some 7 := by kernel_rfl
theorem results_raw {fn : Func} {p u : Tmp} (h : fn.results = #[.cell p 65, .tmp u]) (tmps : Array Value) (w : World) (g : Nat) (cs : Array Value) (fr : Nat × Nat)
  (hp : tmps.getD p undef = .pointer (some ⟨g, 0, none⟩)) (hg : w.heap[g]? = some (.cells cs 65 fr)) (hs : cs.size = 7) :
  (results fn tmps).run Tryz.prog w = .ok (.tuple #[.agg cs, tmps.getD u undef]) w := by
 rw [results_cell_tmp h]
 have h1 := run_loadVar_row (P := Tryz.prog) w g 65 65 cs fr _ hg Tryz.underlying65 rfl (by rw [infoRaw, hs])
 simp only [hp, asAddr, Sem.run_pure, Result.andThen_ok, h1]
theorem Rdr.frE {S : List Nat} {w w' : World} {r : Nat} {a : Option Addr} {cap at_ : Nat} {bs : List UInt8} (h : Rdr w r a cap bs at_) (f : Fr S w w') (hr : r ∉ S) (hn : bs ≠ [] → ∀ x ∈ blk a, x ∉ S) : Rdr w' r a cap bs at_ :=
 ⟨f.blk h.box hr, rd_frE h.rd f hn, h.le, h.off⟩
theorem izlib_le {bs out : List UInt8} {m k : Nat} (h : inf.izlib bs m = .ok (out, k)) : k ≤ bs.length := by
 unfold inf.izlib at h
 split at h
 ·cases h
 ·split at h
  ·cases h
  ·split at h
   ·cases h
   ·split at h
    ·cases h
    ·split at h
     ·simp only [Except.ok.injEq, Prod.mk.injEq] at h
      omega
     ·cases h
def entV (x : Ent) (da : Option Addr) (dc : Nat) : Array Value := #[.int .i64 (x.kind : Nat), .int .i64 (x.at_ : Nat), .int .i64 (x.size : Nat), .int .u32 (x.crc : Nat), .slice da x.data.length dc, .string (str x.base), .int .i64 (x.off : Nat)]
def PEntry (w : World) (r : Nat) (a : Option Addr) (cap : Nat) (bs : List UInt8) (P : Except Nat (Ent × Nat)) (e : Ending) (w' : World) : Prop :=
 Fr [r] w w' ∧ ((∃ x V, P = .error x ∧ 0 < x ∧ x < 100 ∧ e = .returned (.tuple #[.agg V, .int .i64 (x : Nat)]) ∧ V.size = 7 ∧ V.all (·.oneCell') = true) ∨
  ∃ x q da, P = .ok (x, q) ∧ e = .returned (.tuple #[.agg (entV x da x.data.length), .int .i64 0]) ∧ Rdr w' r a cap bs q ∧ lib.Rd w' da x.data.length x.data ∧ (∀ y ∈ blk da, w.heap.size ≤ y ∧ y < w'.heap.size))
set_option maxHeartbeats 16000000 in
theorem entry_read (r : Nat) (a : Option Addr) (cap : Nat) (bs : List UInt8) (at_ : Nat) (w : World) (h : Rdr w r a cap bs at_) (hlen : bs.length ≤ 100000000) :
  Calls Tryz.prog 44 #[.pointer (some ⟨r, 0, none⟩)] w (PEntry w r a cap bs (pentry bs at_)) := by
 obtain ⟨P, hP⟩ : ∃ P, P = pentry bs at_ := ⟨_, rfl⟩
 rw [← hP]
 unfold pentry at hP
 have hrw := lt_of_block h.box
 have c1 : w.cell? ⟨r, 1, none⟩ = some (.int .i64 (at_ : Nat)) := by rw [cell_of h.box]; rfl
 have halt : bs ≠ [] → ∀ x ∈ blk a, x < w.heap.size := fun hb => rd_lt h.rd hb
 have H := Lib.hid (And.intro h (And.intro hlen (And.intro hP halt)))
 have hle := h.le
 clear h hlen hP halt
 go_enter Tryz.func44, Tryz.ntmps44
 go_upto_region 2 with fail
 obtain ⟨B, w1, hB, hw1, hb1, f1⟩ : ∃ B w1, B = w.heap.size ∧ w1 = w.alloc (.cells #[.int .i64 0, .int .i64 (at_ : Nat), .int .i64 0, .int .u32 0, .slice none 0 0, .string ⟨#[]⟩, .int .i64 0] 65) ∧ w1.heap[B]? = some (.cells #[.int .i64 0, .int .i64 (at_ : Nat), .int .i64 0, .int .u32 0, .slice none 0 0, .string ⟨#[]⟩, .int .i64 0] 65 (0, 0)) ∧ Fr [] w w1 :=
  ⟨_, _, rfl, rfl, alloc_at w _, (Fr.refl [] w).alloc _⟩
 rw [← hw1, ← hB]
 have hBr : r ≠ B := by omega
 have rd1 := H.out.1.fr f1
 have hd := head_read r a cap bs at_ w1 rd1 H.out.2.1
 have hBa : bs ≠ [] → ∀ x ∈ blk a, x ≠ B := fun hb x hx => by have := H.out.2.2.2 hb x hx; omega
 have H1 := Lib.hid (And.intro hb1 (And.intro f1 (And.intro hd (And.intro hB hBa))))
 clear hb1 f1 hd hB hw1 rd1 c1 hBa
 go_upto_region 3 with (go_at_call 73; refine H1.out.2.2.1.mono ?_; rintro e w2 ⟨f2, h2⟩; have hb2 := f2.blk H1.out.1 (by simp; omega); have c0 := cell_of hb2 0; have c2 := cell_of hb2 2; have z0 := frozen_of hb2 0; have z2 := frozen_of hb2 2; simp only [List.getElem?_toArray, List.getElem?_cons_zero, List.getElem?_cons_succ] at c0 c2; have H2 := Lib.hid (And.intro hb2 f2); clear hb2 f2; rcases h2 with ⟨x, hx, k0, k1, rfl⟩ | ⟨k, s, n, hk, hk8, hs, rfl, rd2⟩)
 ·obtain ⟨w3, hw3, hb3, f3⟩ : ∃ w3, w3 = (w2.setCell ⟨B, 0, none⟩ (.int .i64 0)).setCell ⟨B, 2, none⟩ (.int .i64 0) ∧ w3.heap[B]? = some (.cells #[.int .i64 0, .int .i64 (at_ : Nat), .int .i64 0, .int .u32 0, .slice none 0 0, .string ⟨#[]⟩, .int .i64 0] 65 (0, 0)) ∧ Fr [r] w w3 :=
   ⟨_, rfl, (setCell_of (setCell_of H2.out.1 _) _).trans rfl, ((((H1.out.2.1.mono (T := [r]) (by simp)).trans H2.out.2).setCell (.inr (by rw [H1.out.2.2.2.1]; exact Nat.le_refl _)) _).setCell (.inr (by rw [H1.out.2.2.2.1]; exact Nat.le_refl _)) _)⟩
  rw [← hw3]
  have HX := Lib.hid (And.intro hb3 (And.intro f3 hx))
  have d0 : ((x : Int) != 0) = true := by simp; omega
  clear hb3 f3 hx hw3 c0 c2 z0 z2
  go_wp2_with (first | (refine wpList_load_row rfl 65 (.tmp 2) rfl B rfl 65 #[.int .i64 0, .int .i64 (at_ : Nat), .int .i64 0, .int .u32 0, .slice none 0 0, .string ⟨#[]⟩, .int .i64 0] (0, 0) _ HX.out.1 Tryz.underlying65 rfl infoRaw ?_) | (refine wpList_store_row rfl 65 (.tmp 2) (.tmp 25) rfl B #[.int .i64 0, .int .i64 (at_ : Nat), .int .i64 0, .int .u32 0, .slice none 0 0, .string ⟨#[]⟩, .int .i64 0] rfl rfl 65 #[.int .i64 0, .int .i64 (at_ : Nat), .int .i64 0, .int .u32 0, .slice none 0 0, .string ⟨#[]⟩, .int .i64 0] HX.out.1 infoRaw rfl (by kernel_rfl) ?_))
  refine bodyPost_ret (results_raw rfl _ _ B #[.int .i64 0, .int .i64 (at_ : Nat), .int .i64 0, .int .u32 0, .slice none 0 0, .string ⟨#[]⟩, .int .i64 0] (0, 0) rfl (setRow_heap _ _ _ _ _ _ HX.out.1) rfl) rfl ?_
  exact ⟨HX.out.2.1.setRow (.inr (by rw [H1.out.2.2.2.1]; exact Nat.le_refl _)) _, .inl ⟨x, _, by rw [H.out.2.2.1, HX.out.2.2], k0, k1, rfl, rfl, by kernel_rfl⟩⟩
 ·obtain ⟨w3, hw3, hb3, f3, f23⟩ : ∃ w3, w3 = (w2.setCell ⟨B, 0, none⟩ (.int .i64 (k : Nat))).setCell ⟨B, 2, none⟩ (.int .i64 (s : Nat)) ∧ w3.heap[B]? = some (.cells #[.int .i64 (k : Nat), .int .i64 (at_ : Nat), .int .i64 (s : Nat), .int .u32 0, .slice none 0 0, .string ⟨#[]⟩, .int .i64 0] 65 (0, 0)) ∧ Fr [r] w w3 ∧ Fr [B] w2 w3 :=
   ⟨_, rfl, (setCell_of (setCell_of H2.out.1 _) _).trans rfl, ((((H1.out.2.1.mono (T := [r]) (by simp)).trans H2.out.2).setCell (.inr (by rw [H1.out.2.2.2.1]; exact Nat.le_refl _)) _).setCell (.inr (by rw [H1.out.2.2.2.1]; exact Nat.le_refl _)) _), (((Fr.refl [B] w2).setCell (by simp) _).setCell (by simp) _)⟩
  rw [← hw3]
  have rd3 := rd2.frE f23 (by simp; omega) (fun hb x hx hm => H1.out.2.2.2.2 hb x hx (by simpa using hm))
  have hn1 : n ≤ (bs.drop at_).length := (phF_le _ _ _ _ _ hk).2.2.1
  rw [List.length_drop] at hn1
  have hn0 := (phF_le _ _ _ _ _ hk).1
  obtain ⟨p, hp⟩ : ∃ p, p = at_ + n := ⟨_, rfl⟩
  have hP := H.out.2.2.1
  rw [hk] at hP
  simp only at hP
  rw [← hp] at hP rd3
  have hpl : p ≤ bs.length := by omega
  have hb4 := hb3
  have c0 := cell_of hb3 0
  have c1 := cell_of hb3 1
  have z5 := frozen_of hb3 5
  have z6 := frozen_of hb3 6
  have c5 := cell_of hb3 5
  have c6 := cell_of hb3 6
  simp only [List.getElem?_toArray, List.getElem?_cons_zero, List.getElem?_cons_succ] at c0 c1 c5 c6
  have hbne : bs ≠ [] := fun e => by rw [e] at hn1; simp at hn1; omega
  have H3 := Lib.hid (And.intro hb3 (And.intro f3 (And.intro rd3 (And.intro hP hp))))
  have HN := Lib.hid hbne
  clear hb3 hb4 f3 f23 rd3 hP hp hk hw3 hn1 rd2 hbne z0 z2 c2
  go_upto_block 0 with fail
  go_cut [29] from 4 to 67 (fun s29 wc => ∃ base off q, pbase bs at_ k p = .ok (base, off, q) ∧ wc.heap[B]? = some (.cells #[.int .i64 (k : Nat), .int .i64 (at_ : Nat), .int .i64 (s : Nat), .int .u32 0, .slice none 0 0, .string (str base), .int .i64 (off : Nat)] 65 (0, 0)) ∧ Rdr wc r a cap bs q ∧ Fr [r] w wc)
  case first =>
   by_cases k6 : k = 6
   ·subst k6
    have hb := back_read r a cap bs p w3 H3.out.2.2.1 H.out.2.1
    have hbb : ∀ x, x = pback (bs.drop p) → pbase bs at_ 6 p = match x with
      | .error e => .error e
      | .ok (v, k) => if v < 1 ∨ at_ < v then .error 3 else .ok ([], at_ - v, p + k) := by rintro x rfl; rfl
    obtain ⟨Q, hQ⟩ : ∃ Q, Q = pback (bs.drop p) := ⟨_, rfl⟩
    have hbb := hbb Q hQ
    rw [← hQ] at hb
    have HQ := Lib.hid (And.intro hb (And.intro hbb hQ))
    clear hb hbb hQ c0 c1 c5 c6 z5 z6
    go_upto_region 8 with (go_at_call 74; refine HQ.out.1.mono ?_; rintro e w4 ⟨f4, (⟨x, hx, k0, k1, rfl⟩ | ⟨v, m, hv, hvb, rfl, rd4⟩)⟩)
    ·have hb4 := f4.blk H3.out.1 (by simp; omega)
     have HX := Lib.hid (And.intro hb4 (And.intro (H3.out.2.1.trans f4) hx))
     have d0 : ((x : Int) != 0) = true := by simp; omega
     clear hb4 f4 hx
     go_wp2_with (first | (refine wpList_load_row rfl 65 (.tmp 2) rfl B rfl 65 #[.int .i64 ((6 : Nat) : Int), .int .i64 (at_ : Nat), .int .i64 (s : Nat), .int .u32 0, .slice none 0 0, .string ⟨#[]⟩, .int .i64 0] (0, 0) _ HX.out.1 Tryz.underlying65 rfl infoRaw ?_) | (refine wpList_store_row rfl 65 (.tmp 2) (.tmp 38) rfl B #[.int .i64 ((6 : Nat) : Int), .int .i64 (at_ : Nat), .int .i64 (s : Nat), .int .u32 0, .slice none 0 0, .string ⟨#[]⟩, .int .i64 0] rfl rfl 65 #[.int .i64 ((6 : Nat) : Int), .int .i64 (at_ : Nat), .int .i64 (s : Nat), .int .u32 0, .slice none 0 0, .string ⟨#[]⟩, .int .i64 0] HX.out.1 infoRaw rfl (by kernel_rfl) ?_))
     refine bodyPost_ret (results_raw rfl _ _ B #[.int .i64 ((6 : Nat) : Int), .int .i64 (at_ : Nat), .int .i64 (s : Nat), .int .u32 0, .slice none 0 0, .string ⟨#[]⟩, .int .i64 0] (0, 0) rfl (setRow_heap _ _ _ _ _ _ HX.out.1) rfl) rfl ?_
     exact ⟨HX.out.2.1.setRow (.inr (by rw [H1.out.2.2.2.1]; exact Nat.le_refl _)) _, .inl ⟨x, _, by rw [H3.out.2.2.2.1, HQ.out.2.1, HX.out.2.2], k0, k1, rfl, rfl, by kernel_rfl⟩⟩
    ·have hb4 := f4.blk H3.out.1 (by simp; omega)
     have c1 := cell_of hb4 1
     have c6 := cell_of hb4 6
     have z6 := frozen_of hb4 6
     simp only [List.getElem?_toArray, List.getElem?_cons_zero, List.getElem?_cons_succ] at c1 c6
     have hbq : pbase bs at_ 6 p = if v < 1 ∨ at_ < v then .error 3 else .ok ([], at_ - v, p + m) := by rw [HQ.out.2.1, hv]
     have HX := Lib.hid (And.intro hb4 (And.intro (H3.out.2.1.trans f4) (And.intro hbq rd4)))
     clear hb4 f4 hv hbq rd4
     by_cases hv0 : v = 0
     ·subst hv0
      have HV := Lib.hid (show pbase bs at_ 6 p = .error 3 by rw [HX.out.2.2.1, if_pos (by omega)])
      clear c1 c6 z6
      go_wp2_with (first | (refine wpList_load_row rfl 65 (.tmp 2) rfl B rfl 65 #[.int .i64 ((6 : Nat) : Int), .int .i64 (at_ : Nat), .int .i64 (s : Nat), .int .u32 0, .slice none 0 0, .string ⟨#[]⟩, .int .i64 0] (0, 0) _ HX.out.1 Tryz.underlying65 rfl infoRaw ?_) | (refine wpList_store_row rfl 65 (.tmp 2) (.tmp 48) rfl B #[.int .i64 ((6 : Nat) : Int), .int .i64 (at_ : Nat), .int .i64 (s : Nat), .int .u32 0, .slice none 0 0, .string ⟨#[]⟩, .int .i64 0] rfl rfl 65 #[.int .i64 ((6 : Nat) : Int), .int .i64 (at_ : Nat), .int .i64 (s : Nat), .int .u32 0, .slice none 0 0, .string ⟨#[]⟩, .int .i64 0] HX.out.1 infoRaw rfl (by kernel_rfl) ?_))
      refine bodyPost_ret (results_raw rfl _ _ B #[.int .i64 ((6 : Nat) : Int), .int .i64 (at_ : Nat), .int .i64 (s : Nat), .int .u32 0, .slice none 0 0, .string ⟨#[]⟩, .int .i64 0] (0, 0) rfl (setRow_heap _ _ _ _ _ _ HX.out.1) rfl) rfl ?_
      exact ⟨HX.out.2.1.setRow (.inr (by rw [H1.out.2.2.2.1]; exact Nat.le_refl _)) _, .inl ⟨3, _, by rw [H3.out.2.2.2.1, HV.out], by decide, by decide, rfl, rfl, by kernel_rfl⟩⟩
     ·have d0 : ((v : Int) == 0) = false := by simp; omega
      by_cases hva : at_ < v
      ·have HV := Lib.hid (show pbase bs at_ 6 p = .error 3 by rw [HX.out.2.2.1, if_pos (by omega)])
       clear c6 z6 hv0
       go_wp2_with (first | (refine wpList_load_row rfl 65 (.tmp 2) rfl B rfl 65 #[.int .i64 ((6 : Nat) : Int), .int .i64 (at_ : Nat), .int .i64 (s : Nat), .int .u32 0, .slice none 0 0, .string ⟨#[]⟩, .int .i64 0] (0, 0) _ HX.out.1 Tryz.underlying65 rfl infoRaw ?_) | (refine wpList_store_row rfl 65 (.tmp 2) (.tmp 48) rfl B #[.int .i64 ((6 : Nat) : Int), .int .i64 (at_ : Nat), .int .i64 (s : Nat), .int .u32 0, .slice none 0 0, .string ⟨#[]⟩, .int .i64 0] rfl rfl 65 #[.int .i64 ((6 : Nat) : Int), .int .i64 (at_ : Nat), .int .i64 (s : Nat), .int .u32 0, .slice none 0 0, .string ⟨#[]⟩, .int .i64 0] HX.out.1 infoRaw rfl (by kernel_rfl) ?_))
       refine bodyPost_ret (results_raw rfl _ _ B #[.int .i64 ((6 : Nat) : Int), .int .i64 (at_ : Nat), .int .i64 (s : Nat), .int .u32 0, .slice none 0 0, .string ⟨#[]⟩, .int .i64 0] (0, 0) rfl (setRow_heap _ _ _ _ _ _ HX.out.1) rfl) rfl ?_
       exact ⟨HX.out.2.1.setRow (.inr (by rw [H1.out.2.2.2.1]; exact Nat.le_refl _)) _, .inl ⟨3, _, by rw [H3.out.2.2.2.1, HV.out], by decide, by decide, rfl, rfl, by kernel_rfl⟩⟩
      ·have HV := Lib.hid (show pbase bs at_ 6 p = .ok ([], at_ - v, p + m) by rw [HX.out.2.2.1, if_neg (by omega)])
       have d1 : decide (at_ < v) = false := by simp; omega
       obtain ⟨off, hoff⟩ : ∃ off, off = at_ - v := ⟨_, rfl⟩
       have eoff : (at_ : Int) - v = (off : Int) := by omega
       have HO := Lib.hid hoff
       have hob : off ≤ 100000000 := by have := H.out.2.1; omega
       have hva2 : v ≤ at_ := by omega
       clear hva hv0 hoff
       go_wp2
       go_meet
       case rel => exact ⟨[], off, p + m, by rw [HV.out, HO.out], (setCell_of HX.out.1 _).trans rfl, HX.out.2.2.2.frE ((Fr.refl [B] w4).setCell (by simp) _) (by simp; omega) (fun hb x hx hm => H1.out.2.2.2.2 hb x hx (by simpa using hm)), HX.out.2.1.setCell (.inr (by rw [H1.out.2.2.2.1]; exact Nat.le_refl _)) _⟩
   ·have d6 : ((k : Int) == 6) = false := by simp; omega
    by_cases k7 : k = 7
    ·subst k7
     by_cases h20 : bs.length - p < 20
     ·have ht := take_bad r a cap bs p 20 w3 H3.out.2.2.1 H.out.2.1 (by omega)
      have hbb : pbase bs at_ 7 p = .error 4 := by unfold pbase; rw [if_neg (by decide), if_pos rfl, if_pos h20]
      have HQ := Lib.hid (And.intro ht hbb)
      clear ht hbb c0 c1 c5 c6 z5 z6 h20
      go_upto_region 15 with (go_at_call 43; refine HQ.out.1.mono ?_; rintro e w4 ⟨rfl, f4⟩)
      have hb4 := f4.blk H3.out.1 (by simp)
      have HX := Lib.hid (And.intro hb4 (H3.out.2.1.step f4 (by simp)))
      clear hb4 f4
      go_wp2_with (first | (refine wpList_load_row rfl 65 (.tmp 2) rfl B rfl 65 #[.int .i64 ((7 : Nat) : Int), .int .i64 (at_ : Nat), .int .i64 (s : Nat), .int .u32 0, .slice none 0 0, .string ⟨#[]⟩, .int .i64 0] (0, 0) _ HX.out.1 Tryz.underlying65 rfl infoRaw ?_) | (refine wpList_store_row rfl 65 (.tmp 2) (.tmp 63) rfl B #[.int .i64 ((7 : Nat) : Int), .int .i64 (at_ : Nat), .int .i64 (s : Nat), .int .u32 0, .slice none 0 0, .string ⟨#[]⟩, .int .i64 0] rfl rfl 65 #[.int .i64 ((7 : Nat) : Int), .int .i64 (at_ : Nat), .int .i64 (s : Nat), .int .u32 0, .slice none 0 0, .string ⟨#[]⟩, .int .i64 0] HX.out.1 infoRaw rfl (by kernel_rfl) ?_))
      refine bodyPost_ret (results_raw rfl _ _ B #[.int .i64 ((7 : Nat) : Int), .int .i64 (at_ : Nat), .int .i64 (s : Nat), .int .u32 0, .slice none 0 0, .string ⟨#[]⟩, .int .i64 0] (0, 0) rfl (setRow_heap _ _ _ _ _ _ HX.out.1) rfl) rfl ?_
      exact ⟨HX.out.2.setRow (.inr (by rw [H1.out.2.2.2.1]; exact Nat.le_refl _)) _, .inl ⟨4, _, by rw [H3.out.2.2.2.1, HQ.out.2], by decide, by decide, rfl, rfl, by kernel_rfl⟩⟩
     ·have ht := take_good r a cap bs p 20 w3 H3.out.2.2.1 H.out.2.1 (by omega)
      have hbb : pbase bs at_ 7 p = .ok (hexb ((bs.drop p).take 20), 0, p + 20) := by unfold pbase; rw [if_neg (by decide), if_pos rfl, if_neg h20]
      obtain ⟨ap, hap⟩ : ∃ ap, ap = cutAt a cap p := ⟨_, rfl⟩
      rw [← hap] at ht
      have hxl : ((bs.drop p).take 20).length = 20 := by rw [List.length_take, List.length_drop]; omega
      have hm20 := fun w' (f : Fr [r] w3 w') => (rd_frE H3.out.2.2.1.rd f (fun hb x hx hm => H3.out.2.2.1.off hb x hx (by simpa using hm))).mid p 20 (by omega)
      rw [← hap] at hm20
      obtain ⟨bp, hbp⟩ : ∃ bp, bp = (bs.drop p).take 20 := ⟨_, rfl⟩
      rw [← hbp] at hbb hxl hm20
      have hhx := fun w' (f : Fr [r] w3 w') => hex_any ap (cap - p) bp w' (hm20 w' f) (by omega)
      rw [hxl] at hhx
      have HQ := Lib.hid (And.intro ht (And.intro hbb hhx))
      clear ht hbb c0 c1 c5 c6 z5 z6 h20 hap hxl hm20 hbp hhx
      go_upto_region 17 with (go_at_call 43; refine HQ.out.1.mono ?_; rintro e w4 ⟨rfl, rd4, f4⟩)
      have hb4 := f4.blk H3.out.1 (by simp; omega)
      have HX := Lib.hid (And.intro hb4 (And.intro f4 rd4))
      clear hb4 f4 rd4
      go_wp2_with (go_at_call 46; refine (HQ.out.2.2 _ HX.out.2.1).mono ?_; rintro e w5 ⟨rfl, f5⟩; have hb5 := f5.blk HX.out.1 (by simp); have c5 := cell_of hb5 5; have z5 := frozen_of hb5 5; simp only [List.getElem?_toArray, List.getElem?_cons_zero, List.getElem?_cons_succ] at c5; have H5 := Lib.hid (And.intro hb5 f5); clear hb5 f5)
      go_meet
      case rel => exact ⟨hexb bp, 0, p + 20, HQ.out.2.1, (setCell_of H5.out.1 _).trans rfl, (HX.out.2.2.fr H5.out.2).frE ((Fr.refl [B] w5).setCell (by simp) _) (by simp; omega) (fun hb x hx hm => H1.out.2.2.2.2 hb x hx (by simpa using hm)), ((H3.out.2.1.trans HX.out.2.1).step H5.out.2 (by simp)).setCell (.inr (by rw [H1.out.2.2.2.1]; exact Nat.le_refl _)) _⟩
    ·have d7 : ((k : Int) == 7) = false := by simp; omega
     have hbb : pbase bs at_ k p = .ok ([], 0, p) := by unfold pbase; rw [if_neg k6, if_neg k7]
     have HQ := Lib.hid hbb
     clear hbb k6 k7
     go_wp2
     go_meet
     case rel => exact ⟨[], 0, p, HQ.out, H3.out.1, H3.out.2.2.1, H3.out.2.1⟩
  case rest =>
   obtain ⟨base, off, q, hpb, hb4, rd4, f4⟩ := hcut
   obtain ⟨hpq, hql, hbl, hofl⟩ := pbase_le hpl hpb
   obtain ⟨L, hL⟩ : ∃ L, L = bs.length := ⟨_, rfl⟩
   have hLb : L ≤ 100000000 := by rw [hL]; exact H.out.2.1
   have hcap := rd4.rd.le
   have hmax := rd4.rd.max
   unfold maxLen at hmax
   obtain ⟨Z, hZ⟩ : ∃ Z, Z = inf.izlib (bs.drop q) 65536 := ⟨_, rfl⟩
   have hP := H3.out.2.2.2.1
   rw [hpb] at hP
   simp only at hP
   rw [← hZ] at hP
   have hz : ∀ w', Fr [] wc w' → Calls Tryz.prog 75 #[.slice (cutAtN a cap q 1) (L - q : Nat) (cap - q), .int .i64 65536] w' (inf.RawGood w' Z) := fun w' f => by
    have := inf.zlib_any (cutAtN a cap q 1) (cap - q) (bs.drop q) 65536 w' ((rd4.rd.fr f).drop q hql) (by rw [List.length_drop]; omega) (by decide)
    rw [List.length_drop, ← hL, ← hZ] at this
    exact this
   have c0 : wc.drew.cell? ⟨r, 0, none⟩ = some (.slice a L cap) := (show wc.cell? _ = _ by rw [cell_of rd4.box, hL]; rfl)
   have c1 : wc.drew.cell? ⟨r, 1, none⟩ = some (.int .i64 (q : Nat)) := (show wc.cell? _ = _ by rw [cell_of rd4.box]; rfl)
   rw [← hL] at hql hcap hpl hle
   have HB := Lib.hid (And.intro hb4 (And.intro rd4 (And.intro f4 (And.intro hP (And.intro hz (And.intro hL hZ))))))
   clear hb4 rd4 f4 hP hz hpb hZ hL
   go_upto_region 18 with fail
   have s0 : ∀ x, (sup [] wc.drew x).cell? ⟨r, 0, none⟩ = some (.slice a L cap) := fun x => (sup_fr [] wc.drew x).cell c0 (by simp)
   have s1 : ∀ x, (sup [] wc.drew x).cell? ⟨r, 1, none⟩ = some (.int .i64 (q : Nat)) := fun x => (sup_fr [] wc.drew x).cell c1 (by simp)
   have hsl := fun w' => lib.run_slice_from sliceU8 q a L cap (q : Nat) rfl hql hcap w'
   refine region_mix 17 [(false, 0), (false, 1), (false, 2), (false, 3), (false, 4), (false, 5), (false, 6), (false, 7), (false, 8), (true, 9), (false, 10), (false, 11), (false, 12), (false, 13), (false, 14), (false, 15), (false, 16)] [] (by kernel_rfl) (by kernel_rfl) (fun _ _ d _ _ h => by cases d <;> exact h) ?_
   simp only [List.map_cons, List.map_nil, List.getD_cons_zero, List.getD_cons_succ, List.drop_succ_cons, List.drop_zero, List.drop_nil]
   refine mix_seg 9 rfl ?_
   simp only [List.take_succ_cons, List.take_zero, List.drop_succ_cons, List.drop_zero, List.map_cons, List.map_nil]
   repeat (go_big_quiet_step (fail))
   refine wpQuiet_nil ?_
   clear s0 s1 hsl c0 c1
   refine mix_eff rfl ?_
   intro X hX
   go_wp2_with (go_at_call 75; refine (HB.out.2.2.2.2.1 _ (Fr.drew1 [] wc)).mono ?_; rintro e w5 (⟨x, hx, k0, k1, rfl, f5⟩ | ⟨out, used, ao, hok, rfl, rdo, nbo, f5⟩))
   ·refine hX.out _ _ f5 ?_
    clear hX X
    refine mix_seg 7 rfl ?_
    simp only [List.take_succ_cons, List.take_zero, List.drop_succ_cons, List.drop_zero, List.map_cons, List.map_nil]
    repeat (go_big_quiet_step (fail))
    refine wpQuiet_nil ?_
    refine mix_nil ?_
    have f5w := (Fr.drew1 [] wc).trans f5
    have hb5 := f5w.blk HB.out.1 (by simp)
    have HX := Lib.hid (And.intro hb5 (And.intro (HB.out.2.2.1.step f5w (by simp)) hx))
    have d0 : ((x : Int) != 0) = true := by simp; omega
    clear hb5 f5w f5 hx
    go_wp2_with (first | (refine wpList_load_row rfl 65 (.tmp 2) rfl B rfl 65 #[.int .i64 (k : Nat), .int .i64 (at_ : Nat), .int .i64 (s : Nat), .int .u32 0, .slice none 0 0, .string (str base), .int .i64 (off : Nat)] (0, 0) _ HX.out.1 Tryz.underlying65 rfl infoRaw ?_) | (refine wpList_store_row rfl 65 (.tmp 2) (.tmp 84) rfl B #[.int .i64 (k : Nat), .int .i64 (at_ : Nat), .int .i64 (s : Nat), .int .u32 0, .slice none 0 0, .string (str base), .int .i64 (off : Nat)] rfl rfl 65 #[.int .i64 (k : Nat), .int .i64 (at_ : Nat), .int .i64 (s : Nat), .int .u32 0, .slice none 0 0, .string (str base), .int .i64 (off : Nat)] HX.out.1 infoRaw rfl (by kernel_rfl) ?_))
    refine bodyPost_ret (results_raw rfl _ _ B #[.int .i64 (k : Nat), .int .i64 (at_ : Nat), .int .i64 (s : Nat), .int .u32 0, .slice none 0 0, .string (str base), .int .i64 (off : Nat)] (0, 0) rfl (setRow_heap _ _ _ _ _ _ HX.out.1) rfl) rfl ?_
    exact ⟨HX.out.2.1.setRow (.inr (by rw [H1.out.2.2.2.1]; exact Nat.le_refl _)) _, .inl ⟨x, _, by rw [HB.out.2.2.2.1, HX.out.2.2], k0, k1, rfl, rfl, by kernel_rfl⟩⟩
   ·refine hX.out _ _ f5 ?_
    clear hX X
    refine mix_seg 7 rfl ?_
    simp only [List.take_succ_cons, List.take_zero, List.drop_succ_cons, List.drop_zero, List.map_cons, List.map_nil]
    repeat (go_big_quiet_step (fail))
    refine wpQuiet_nil ?_
    refine mix_nil ?_
    have f5w := (Fr.drew1 [] wc).trans f5
    have hb5 := f5w.blk HB.out.1 (by simp)
    have c2 := cell_of hb5 2
    simp only [List.getElem?_toArray, List.getElem?_cons_zero, List.getElem?_cons_succ] at c2
    have hP2 : P = if out.length = s then .ok (⟨k, at_, s, crc.crc ((bs.drop at_).take (q + used - at_)), out, base, off⟩, q + used) else .error 3 := by rw [HB.out.2.2.2.1, hok]
    have hus : q + used ≤ L := by
     have := izlib_le (by rw [← HB.out.2.2.2.2.2.2]; exact hok : inf.izlib (bs.drop q) 65536 = .ok (out, used))
     rw [List.length_drop, ← HB.out.2.2.2.2.2.1] at this
     omega
    have holen := rdo.max
    unfold maxLen at holen
    obtain ⟨N, hN⟩ : ∃ N, N = out.length := ⟨_, rfl⟩
    rw [← hN] at hP2 rdo holen ⊢
    have HX := Lib.hid (And.intro hb5 (And.intro f5w (And.intro hP2 (And.intro rdo (And.intro nbo hN)))))
    clear hb5 f5w f5 hok hP2 rdo nbo hN
    by_cases hs2 : N = s
    ·have hP3 := HX.out.2.2.1
     rw [if_pos hs2] at hP3
     have hd : ((N : Int) != s) = false := by simp; omega
     have rd5 := HB.out.2.1.fr HX.out.2.1
     have c0 : w5.cell? ⟨r, 0, none⟩ = some (.slice a L cap) := by rw [cell_of rd5.box, HB.out.2.2.2.2.2.1]; rfl
     have c1 : w5.cell? ⟨r, 1, none⟩ = some (.int .i64 (q : Nat)) := by rw [cell_of rd5.box]; rfl
     have z1 := frozen_of rd5.box 1
     have HP3 := Lib.hid (And.intro hP3 rd5)
     clear hP3 rd5 hs2
     go_upto_region 24 with fail
     obtain ⟨u, hu⟩ : ∃ u, u = q + used := ⟨_, rfl⟩
     have eu : (q : Int) + (used : Int) = (u : Int) := by omega
     obtain ⟨w6, hw6⟩ : ∃ w6, w6 = w5.setCell ⟨r, 1, none⟩ (.int .i64 ((q : Int) + (used : Int))) := ⟨_, rfl⟩
     rw [← hw6]
     have f6 : Fr [r] w5 w6 := by rw [hw6]; exact (Fr.refl [r] w5).setCell (by simp) _
     have hbr := setCell_of (o := 1) HP3.out.2.box (.int .i64 ((q : Int) + (used : Int)))
     rw [← hw6, eu] at hbr
     have rd6 : Rdr w6 r a cap bs u := ⟨hbr.trans rfl, rd_frE HP3.out.2.rd f6 (fun hb x hx hm => HP3.out.2.off hb x hx (by simpa using hm)), by rw [← HB.out.2.2.2.2.2.1, hu]; exact hus, HP3.out.2.off⟩
     have hb6 := f6.blk HX.out.1 (by simp; omega)
     have k0 : w6.drew.cell? ⟨r, 0, none⟩ = some (.slice a L cap) := (show w6.cell? _ = _ by rw [cell_of rd6.box, HB.out.2.2.2.2.2.1]; rfl)
     have k1 : w6.drew.cell? ⟨r, 1, none⟩ = some (.int .i64 (u : Nat)) := (show w6.cell? _ = _ by rw [cell_of rd6.box]; rfl)
     have k2 : w6.drew.cell? ⟨B, 1, none⟩ = some (.int .i64 (at_ : Nat)) := (show w6.cell? _ = _ by rw [cell_of hb6]; rfl)
     have s0 : ∀ x, (sup [] w6.drew x).cell? ⟨r, 0, none⟩ = some (.slice a L cap) := fun x => (sup_fr [] w6.drew x).cell k0 (by simp)
     have s1 : ∀ x, (sup [] w6.drew x).cell? ⟨r, 1, none⟩ = some (.int .i64 (u : Nat)) := fun x => (sup_fr [] w6.drew x).cell k1 (by simp)
     have s2 : ∀ x, (sup [] w6.drew x).cell? ⟨B, 1, none⟩ = some (.int .i64 (at_ : Nat)) := fun x => (sup_fr [] w6.drew x).cell k2 (by simp)
     obtain ⟨m, hm⟩ : ∃ m, m = u - at_ := ⟨_, rfl⟩
     have hmu : at_ + m = u := by have := H3.out.2.2.2.2; omega
     have hsl := fun w' => lib.run_slice_lh sliceU8 at_ m a L cap (at_ : Nat) (u : Nat) rfl (by omega) (by omega) w'
     obtain ⟨cr, hcr⟩ : ∃ cr, cr = crc.crc ((bs.drop at_).take m) := ⟨_, rfl⟩
     have hcc : ∀ w', Fr [] w6 w' → Calls Tryz.prog 76 #[.slice (cutAt a cap at_) m (cap - at_)] w' fun e w'' => e = .returned (.int .u32 (cr : Nat)) ∧ Fr [] w' w'' := fun w' f => by
      have hmid := (rd6.rd.fr f).mid at_ m (by have := HB.out.2.2.2.2.2.1; omega)
      have := crc.crc_any _ _ _ w' hmid
      rwa [show ((bs.drop at_).take m).length = m by rw [List.length_take, List.length_drop]; have := HB.out.2.2.2.2.2.1; omega, ← hcr] at this
     have HD := Lib.hid (And.intro hb6 (And.intro rd6 (And.intro f6 (And.intro hcc (And.intro hcr (And.intro hm hu))))))
     clear hb6 rd6 f6 hcc hcr hbr hw6 eu hu hm hus c0 c1 c2 z1 k0 k1 k2
     refine region_mix 14 [(false, 0), (false, 1), (false, 2), (false, 3), (false, 4), (false, 5), (false, 6), (false, 7), (false, 8), (false, 9), (false, 10), (false, 11), (false, 13), (true, 12)] [] (by kernel_rfl) (by kernel_rfl) (fun _ _ d _ _ h => by cases d <;> exact h) ?_
     simp only [List.map_cons, List.map_nil, List.getD_cons_zero, List.getD_cons_succ, List.drop_succ_cons, List.drop_zero, List.drop_nil]
     refine mix_seg 13 rfl ?_
     simp only [List.take_succ_cons, List.take_zero, List.drop_succ_cons, List.drop_zero, List.map_cons, List.map_nil]
     repeat (go_big_quiet_step (fail))
     refine wpQuiet_nil ?_
     clear s0 s1 s2 hsl
     refine mix_eff rfl ?_
     intro X hX
     go_wp2_with (go_at_call 76; refine (HD.out.2.2.2.1 _ (Fr.drew1 [] w6)).mono ?_; rintro e w7 ⟨rfl, f7⟩)
     refine hX.out _ _ f7 ?_
     clear hX X
     refine mix_nil ?_
     have f7w := (Fr.drew1 [] w6).trans f7
     have hb7 := f7w.blk HD.out.1 (by simp)
     have c3 := cell_of hb7 3
     have c4 := cell_of hb7 4
     have z3 := frozen_of hb7 3
     have z4 := frozen_of hb7 4
     simp only [List.getElem?_toArray, List.getElem?_cons_zero, List.getElem?_cons_succ] at c3 c4
     have H7 := Lib.hid (And.intro hb7 f7w)
     clear hb7 f7w f7
     go_upto_region 25 with fail
     obtain ⟨w8, hw8⟩ : ∃ w8, w8 = (w7.setCell ⟨B, 4, none⟩ (.slice ao N N)).setCell ⟨B, 3, none⟩ (.int .u32 (cr : Nat)) := ⟨_, rfl⟩
     rw [← hw8]
     have hb8 : w8.heap[B]? = some (.cells #[.int .i64 (k : Nat), .int .i64 (at_ : Nat), .int .i64 (s : Nat), .int .u32 (cr : Nat), .slice ao N N, .string (str base), .int .i64 (off : Nat)] 65 (0, 0)) := by rw [hw8]; exact (setCell_of (setCell_of H7.out.1 _) _).trans rfl
     have f8 : Fr [B] w7 w8 := by rw [hw8]; exact ((Fr.refl [B] w7).setCell (by simp) _).setCell (by simp) _
     have H8 := Lib.hid (And.intro hb8 f8)
     clear hb8 f8 hw8 c3 c4 z3 z4
     go_wp2_with (first | (refine wpList_load_row rfl 65 (.tmp 2) rfl B rfl 65 #[.int .i64 (k : Nat), .int .i64 (at_ : Nat), .int .i64 (s : Nat), .int .u32 (cr : Nat), .slice ao N N, .string (str base), .int .i64 (off : Nat)] (0, 0) _ H8.out.1 Tryz.underlying65 rfl infoRaw ?_) | (refine wpList_store_row rfl 65 (.tmp 2) (.tmp 115) rfl B #[.int .i64 (k : Nat), .int .i64 (at_ : Nat), .int .i64 (s : Nat), .int .u32 (cr : Nat), .slice ao N N, .string (str base), .int .i64 (off : Nat)] rfl rfl 65 #[.int .i64 (k : Nat), .int .i64 (at_ : Nat), .int .i64 (s : Nat), .int .u32 (cr : Nat), .slice ao N N, .string (str base), .int .i64 (off : Nat)] H8.out.1 infoRaw rfl (by kernel_rfl) ?_))
     refine bodyPost_ret (results_raw rfl _ _ B #[.int .i64 (k : Nat), .int .i64 (at_ : Nat), .int .i64 (s : Nat), .int .u32 (cr : Nat), .slice ao N N, .string (str base), .int .i64 (off : Nat)] (0, 0) rfl (setRow_heap _ _ _ _ _ _ H8.out.1) rfl) rfl ?_
     have fB : Fr [B] w6 (w8.setRow B #[.int .i64 (k : Nat), .int .i64 (at_ : Nat), .int .i64 (s : Nat), .int .u32 (cr : Nat), .slice ao N N, .string (str base), .int .i64 (off : Nat)]) := ((H7.out.2.mono (T := [B]) (by simp)).trans H8.out.2).setRow (by simp) _
     have f56 : Fr [r] w5 w6 := HD.out.2.2.1
     have hfin : Fr [r] w (w8.setRow B #[.int .i64 (k : Nat), .int .i64 (at_ : Nat), .int .i64 (s : Nat), .int .u32 (cr : Nat), .slice ao N N, .string (str base), .int .i64 (off : Nat)]) := ((HB.out.2.2.1.step HX.out.2.1 (by simp)).trans f56).step fB (fun y hy => .inr (by simp at hy; rw [hy, H1.out.2.2.2.1]; exact Nat.le_refl _))
     have hw5 := HB.out.2.2.1.size
     have hbl2 : ∀ y ∈ blk ao, w.heap.size < y ∧ y < w5.heap.size := fun y hy => by
      have h1 := HX.out.2.2.2.2.1 y hy
      have h2 := lt_of_block HB.out.1
      have h3 := H1.out.2.2.2.1
      have h4 : wc.drew.heap.size = wc.heap.size := rfl
      omega
     refine ⟨hfin, .inr ⟨⟨k, at_, s, cr, out, base, off⟩, u, ao, ?_, ?_, HD.out.2.1.frE fB (by simp; omega) (fun hb x hx hm => H1.out.2.2.2.2 hb x hx (by simpa using hm)), ?_, fun y hy => ⟨Nat.le_of_lt (hbl2 y hy).1, Nat.lt_of_lt_of_le (hbl2 y hy).2 (Nat.le_trans f56.size fB.size)⟩⟩⟩
     ·rw [HP3.out.1, HD.out.2.2.2.2.1, HD.out.2.2.2.2.2.1, HD.out.2.2.2.2.2.2]
     ·show _ = Ending.returned (.tuple #[.agg (entV ⟨k, at_, s, cr, out, base, off⟩ ao out.length), .int .i64 0])
      unfold entV
      rw [← HX.out.2.2.2.2.2]
      rfl
     ·show lib.Rd _ ao out.length out
      rw [← HX.out.2.2.2.2.2]
      exact (HX.out.2.2.2.1.frS f56 (fun x hx hm => by have := (hbl2 x hx).1; simp at hm; omega)).frS fB (fun x hx hm => by have := (hbl2 x hx).1; have h3 := H1.out.2.2.2.1; simp at hm; omega)
    ·have hP3 := HX.out.2.2.1
     rw [if_neg hs2] at hP3
     have hd : ((N : Int) != s) = true := by simp; omega
     have HP3 := Lib.hid hP3
     clear hP3
     go_wp2_with (first | (refine wpList_load_row rfl 65 (.tmp 2) rfl B rfl 65 #[.int .i64 (k : Nat), .int .i64 (at_ : Nat), .int .i64 (s : Nat), .int .u32 0, .slice none 0 0, .string (str base), .int .i64 (off : Nat)] (0, 0) _ HX.out.1 Tryz.underlying65 rfl infoRaw ?_) | (refine wpList_store_row rfl 65 (.tmp 2) (.tmp 91) rfl B #[.int .i64 (k : Nat), .int .i64 (at_ : Nat), .int .i64 (s : Nat), .int .u32 0, .slice none 0 0, .string (str base), .int .i64 (off : Nat)] rfl rfl 65 #[.int .i64 (k : Nat), .int .i64 (at_ : Nat), .int .i64 (s : Nat), .int .u32 0, .slice none 0 0, .string (str base), .int .i64 (off : Nat)] HX.out.1 infoRaw rfl (by kernel_rfl) ?_))
     refine bodyPost_ret (results_raw rfl _ _ B #[.int .i64 (k : Nat), .int .i64 (at_ : Nat), .int .i64 (s : Nat), .int .u32 0, .slice none 0 0, .string (str base), .int .i64 (off : Nat)] (0, 0) rfl (setRow_heap _ _ _ _ _ _ HX.out.1) rfl) rfl ?_
     exact ⟨(HB.out.2.2.1.step HX.out.2.1 (by simp)).setRow (.inr (by rw [H1.out.2.2.2.1]; exact Nat.le_refl _)) _, .inl ⟨3, _, HP3.out, by decide, by decide, rfl, rfl, by kernel_rfl⟩⟩
end Go.Proofs.YtkmpfgpfbmeihaaGreatDoor.pk
