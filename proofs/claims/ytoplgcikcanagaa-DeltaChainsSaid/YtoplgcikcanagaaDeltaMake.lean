/-
  delta.Make.
-/
import Derived.Test.YtoplgcikcanagaaDeltaState
namespace Go.Proofs.Ytoplgcikcanagaa.delta
open Go Go.RowKit Go.Proofs.Ytoplgcikcanagaa.lib Go.Proofs.Ytoplgcikcanagaa.bm

def MadeNew (base text : List UInt8) (w : World) (e : Ending) (w' : World) : Prop := ∃ d, Made base text d ∧ NewBytes w d e w'
set_option maxRecDepth 100000 in
set_option maxHeartbeats 8000000 in
theorem make_all (a b : Option Addr) (cap capb : Nat) (base text : List UInt8) (m : Int) (w : World) (hb : Rd w a cap base) (ht : Rd w b capb text) (hlb : base.length ≤ 1000000) (hlt : text.length ≤ 1000000) (hm : w.cell? ⟨0, 0, none⟩ = some (.int .i64 m)) :
    Calls Try.prog 14 #[.slice a base.length cap, .slice b text.length capb] w (MadeNew base text w) := by
  have hmm := @run_makeMap Try.prog
  obtain ⟨BL, hBL⟩ : ∃ BL, BL = base.length := ⟨_, rfl⟩
  obtain ⟨TL, hTL⟩ : ∃ TL, TL = text.length := ⟨_, rfl⟩
  obtain ⟨b1, hb1⟩ : ∃ b, b = numb BL := ⟨_, rfl⟩
  obtain ⟨b2, hb2⟩ : ∃ b, b = numb TL := ⟨_, rfl⟩
  have hN : ∀ n : Nat, n ≤ 1000000 → ∀ w, Calls Try.prog 8 #[.int .i64 (n : Nat)] w (NewBytes w (numb n)) := fun n hn w => by
    have := number_all (n : Int) w (by omega)
    rwa [Int.toNat_natCast] at this
  have hN1 := hN BL (by omega)
  have hN2 := hN TL (by omega)
  rw [← hb1] at hN1
  rw [← hb2] at hN2
  unfold NewBytes at hN1 hN2
  obtain ⟨L1, hL1⟩ : ∃ L, L = b1.length := ⟨_, rfl⟩
  obtain ⟨L2, hL2⟩ : ∃ L, L = b2.length := ⟨_, rfl⟩
  have hl1 := numb_le 8 BL (by rw [hBL]; exact Nat.lt_of_le_of_lt hlb (by decide))
  have hl2 := numb_le 8 TL (by rw [hTL]; exact Nat.lt_of_le_of_lt hlt (by decide))
  have hl3 := numb_pos TL
  rw [← hb1, ← hL1] at hl1
  rw [← hb2, ← hL2] at hl2 hl3
  rw [← hBL, ← hTL]
  rw [← hBL] at hlb
  rw [← hTL] at hlt
  have HB := Lib.hid (And.intro hb (And.intro ht (And.intro hm (And.intro hBL hTL))))
  have HC := Lib.hid (And.intro hN1 (And.intro hN2 (And.intro (And.intro hb1 hb2) (And.intro hL1 hL2))))
  have hcap : BL ≤ cap ∧ cap ≤ maxLen ∧ TL ≤ capb ∧ capb ≤ maxLen := by rw [hBL, hTL]; exact ⟨hb.le, hb.max, ht.le, ht.max⟩
  unfold maxLen at hcap
  clear hN hN1 hN2 hb1 hb2 hL1 hL2 hb ht hm hBL hTL
  have tok1 : True := trivial
  go_enter Try.func14, Try.ntmps14
  go_upto_region 2 with (first | (go_at_call 8; have _t := tok1; refine (HC.out.1 _).mono ?_; rintro e w1 ⟨a1, rfl, r1, _, f1⟩; rw [← HC.out.2.2.2.1] at r1 ⊢; have H1 := Lib.hid (And.intro r1 f1); clear r1 f1; clear tok1 _t) | (go_at_call 8; refine (HC.out.2.1 _).mono ?_; rintro e w2 ⟨a2, rfl, r2, _, f2⟩; rw [← HC.out.2.2.2.2] at r2 ⊢; have H2 := Lib.hid (And.intro r2 f2); clear r2 f2) | (refine wpList_append_full sliceU8 rfl _ _ rfl a1 L1 L1 (b1.map bv) rfl (H1.out.1.fr H2.out.2).cs (by rw [List.length_map, ← HC.out.2.2.2.1, Nat.mul_one]) (Nat.le_refl _) H1.out.1.nil a2 L2 L2 (b2.map bv) rfl H2.out.1.cs (by rw [List.length_map, ← HC.out.2.2.2.2, Nat.mul_one]) (by omega) (by omega) (by unfold maxLen; omega) ?_; intro c3 w3 A3; have H3 := Lib.hid A3; clear A3))
  obtain ⟨q, hq⟩ : ∃ q, q = w3.heap.size := ⟨_, rfl⟩
  obtain ⟨g2, hg2⟩ : ∃ g, g = w2.heap.size := ⟨_, rfl⟩
  obtain ⟨W, hW⟩ : ∃ W, W = w3.alloc (Obj.cells #[Value.slice (some { block := w2.heap.size, off := 0 }) (L1 + L2) c3, Value.slice none 0 0] 50) := ⟨_, rfl⟩
  have hM : Mk [] w W q (some ⟨g2, 0, none⟩) c3 (b1 ++ b2) none 0 [] ∧ Fr [] w W ∧ (b1 ++ b2).length = L1 + L2 := by
    have hle : (b1 ++ b2).length = L1 + L2 := by rw [List.length_append, ← HC.out.2.2.2.1, ← HC.out.2.2.2.2]
    have fw : Fr [] w w3 := (H1.out.2.trans H2.out.2).trans H3.out.fr
    have fW : Fr [] w W := by rw [hW]; exact fw.alloc _
    have o3 := (own_of_row H3.out.own).1
    rw [← List.map_append, ← hg2] at o3
    have hlt3 := o3.lt g2 (by simp [blk])
    have hs2 := (H1.out.2.trans H2.out.2).size
    have hs3 := fw.size
    refine ⟨⟨?_, ?_, Own.nil _ _, ?_, by simp [blk], by simp [blk], fW, .inr (by omega), ?_, by simp [blk]⟩, fW, hle⟩
    · rw [hW, hq, hle, hg2]; exact alloc_at w3 _
    · rw [hW]; exact o3.fr ((Fr.refl [] w3).alloc _) (by simp)
    · simp [blk]; omega
    · simp [blk]; omega
  rw [← hW, ← hq, ← hg2]
  have HI := Lib.hid (show Calls Try.prog 19 #[.slice a BL cap, .slice b TL capb] W fun e w' => IdxPost base text e ∧ Fr [] W w' from by
    have h := HB.out
    have := index_all a b cap capb base text m W (h.1.fr hM.2.1) (h.2.1.fr hM.2.1) (by rw [← h.2.2.2.1]; omega) (hM.2.1.cell h.2.2.1 (by simp))
    rwa [← h.2.2.2.1, ← h.2.2.2.2] at this)
  have HM := Lib.hid hM
  clear hM hW hq hg2 H1 H2 H3
  go_upto_region 3 with (go_at_call 19; refine HI.out.mono ?_; rintro e W1 ⟨hp, fI⟩; have HF := Lib.hid fI; unfold IdxPost at hp; clear fI; rcases hp with ⟨p, rfl, ho⟩ | ⟨rfl, hno⟩)
  · obtain ⟨hd, hhd⟩ : ∃ hd, hd = b1 ++ b2 := ⟨_, rfl⟩
    have hp := ho.1
    have hC : Calls Try.prog 20 #[.pointer (some ⟨q, 0, none⟩), .int .i64 (p : Nat), .int .i64 (TL : Nat)] W1 fun e W' => e = .returned (.tuple #[]) ∧ ∃ oa' oc' wa' wc', Mk [] w W' q oa' oc' (hd ++ lits ([] : List UInt8).length [] ++ cops TL p TL) wa' wc' [] := by
      have h := HB.out
      rw [hhd]
      exact copy_all [] w W1 q p TL _ _ _ _ _ _ (HM.out.1.fr0 HF.out) (by rw [HM.out.2.2]; simp; omega) (by rw [← h.2.2.2.1, ← h.2.2.2.2] at hp; omega)
    have HCP := Lib.hid (And.intro hC (And.intro ho hhd))
    clear hC ho hp hhd
    go_upto_region 5 with (go_at_call 20; refine HCP.out.1.mono ?_; rintro e W2 ⟨rfl, oa, oc, wa, wq, mk⟩)
    obtain ⟨out, hout⟩ : ∃ out, out = hd ++ lits ([] : List UInt8).length [] ++ cops TL p TL := ⟨_, rfl⟩
    rw [← hout] at mk
    obtain ⟨n, hn⟩ : ∃ n, n = out.length := ⟨_, rfl⟩
    have c0 := cell_of mk.blk 0
    simp only [List.getElem?_toArray, List.getElem?_cons_zero] at c0
    obtain ⟨o1, o2, o3⟩ := mk.o.shape
    rw [List.length_map, ← hn] at o1
    rw [← hn] at c0
    have hsl := fun w => run_slice_cut sliceU8 n oa oc o1 w
    have HK := Lib.hid (And.intro mk (And.intro hout hn))
    clear mk hout hn
    go_quiet (fail)
    go_wp2
    go_ret
    have h := HB.out
    refine ⟨out, ?_, (HK.out.1.fr0 (Fr.drewN [] W2 nq)).made (Fr.refl [] w) (by simp) n HK.out.2.2⟩
    rw [HK.out.2.1, HCP.out.2.2, HC.out.2.2.1.1, HC.out.2.2.1.2, h.2.2.2.1, h.2.2.2.2]
    exact made_whole (by rw [← h.2.2.2.1]; omega) HCP.out.2.1
  · obtain ⟨bm, hbm⟩ : ∃ bm, bm = W1.heap.size := ⟨_, rfl⟩
    obtain ⟨i0, hi, hz0, hz1, hz2⟩ := info_parts info_int
    have HI0 := Lib.hid (And.intro hi (And.intro hz0 (And.intro hz1 (And.intro hz2 (And.intro hno hbm)))))
    clear hi hz0 hz1 hz2 hno hbm HI
    go_upto_block 0 with fail
    rw [← HI0.out.2.2.2.2.2]
    go_cut [8, 9] from 49 to 73 (fun s8 s9 wz => ∃ n D, Gm BL wz bm n D ∧ n ≤ BL + 16 ∧ Fr [] W1 wz)
    case first =>
      go_wp2
      go_loopg [8, 9] (BL + 16) (fun k s8 s9 wr => ∃ i n D, s8 = .int .i64 (i : Nat) ∧ i + k = BL + 16 ∧ n ≤ i ∧ Gm BL wr bm n D ∧ Fr [] W1 wr ∧ bm < wr.heap.size)
      case atStart =>
        refine ⟨0, 0, .map [], rfl, by omega, Nat.le_refl _, ?_, (Fr.refl [] W1).alloc _, ?_⟩
        · have := gm_made BL W1; rwa [← HI0.out.2.2.2.2.2] at this
        · rw [HI0.out.2.2.2.2.2]; simp
      case round =>
        obtain ⟨i, n, D, rfl, hik, hni, hgm, hfr, hsz⟩ := hrel
        obtain ⟨wo, rfl⟩ : ∃ wo : World, wo = wr := ⟨_, rfl⟩
        have HG := Lib.hid (And.intro hgm hfr)
        clear hgm hfr
        by_cases hi16 : i + 16 ≤ BL
        · have hW : Calls Try.prog 21 #[.slice (cutAtN a cap i 1) (BL - i) (cap - i)] wo fun e w' => wo = w' ∧ ∃ v, e = .returned v ∧ U64 v := by
            have h := HB.out
            have hr := (h.1.fr ((HM.out.2.1.trans HF.out).trans HG.out.2)).drop i (by rw [← h.2.2.2.1]; omega)
            have := word_all _ _ _ wo hr (by rw [List.length_drop, ← h.2.2.2.1]; omega)
            rwa [List.length_drop, ← h.2.2.2.1] at this
          have HW := Lib.hid hW
          clear hW
          go_upto_region 11 with (first | (refine wpList_slice_from sliceU8 i rfl _ _ rfl a BL cap _ rfl rfl rfl (by omega) (by omega) ?_) | (go_at_call 21; refine HW.out.mono ?_; rintro e w4 ⟨rfl, v, rfl, x, rfl, hx⟩))
          have HX := Lib.hid (And.intro hx (key_u64 hx))
          clear hx
          have hi0 := HI0.out.1
          have hz0 := HI0.out.2.1
          have hz1 := HI0.out.2.2.1
          have hz2 := HI0.out.2.2.2.1
          go_wp2_with (first
            | (at_lookup; refine wpList_lookup_groups (H := Unit) _ rfl _ _ 53 rfl 54 56 3 .i64 keyed_u64 und_map (zero_ints _) (bm + 1) bm n D rfl HG.out.1.own (by unfold maxLen; omega) (.int .u64 x) (.int .u64 x) rfl HX.out.2 ?_; intro v zs hat hoi hzl hback; obtain ⟨va, vc, rfl, v1, v2, v3⟩ := owns_form hoi.1; have HV := Lib.hid (And.intro hat (And.intro hoi hback)); clear hat hoi hback)
            | (at_builtin; refine wpList_append_own_at _ rfl _ _ 56 rfl (bm + 1) 3 i0 (.int .i64 0) 1 8 und_ints hi0 hz0 hz1 hz2 rfl (by decide) _ _ _ rfl (HV.out.2.1.1.alloc _) ⟨wo.heap.size, 0, none⟩ 1 1 [.int .i64 (i : Nat)] rfl rfl (cell_one_new _ _ _) (ints_oneCell .i64 [(i : Int)]) (by unfold maxLen; omega) (by omega) (by simp; omega) ?_; intro v' w5 hown' hgrow hnil hloc; have HA := Lib.hid (And.intro hown' (And.intro hgrow hloc)); clear hown' hgrow hnil hloc)
            | (at_mapUpdate; refine wpList_mapUpdate_back _ rfl _ _ _ 53 rfl HV.out.2.2 rfl rfl rfl ((World.grownBy_alloc _ _ _).trans HA.out.2.1) (HV.out.2.1.appended HA.out.1 (WalkArith.wf_i64 (by omega))) (by simp; omega) (HA.out.2.2.imp id (fun h => ⟨_, h, by simp⟩)) ?_; intro w6 hown2 hgrow2; have HU := Lib.hid (And.intro hown2 hgrow2); clear hown2 hgrow2)
            | go_in)
          · go_roundg (gk - 16)
            case measure => omega
            case rel =>
              have hall := (World.grownBy_alloc wo _ _).trans HA.out.2.1
              have f5 : Fr [] W1 w5 := HG.out.2.grown hall fun j hj => by have := (HV.out.2.1.1.lt j hj).1; have := HI0.out.2.2.2.2.2; right; omega
              have f6 : Fr [] W1 w6 := f5.grown HU.out.2 fun j hj => by cases hj; right; exact Nat.le_of_eq HI0.out.2.2.2.2.2.symm
              have hs5 := hall.size
              have hs6 := HU.out.2.size
              exact ⟨i + 16, n + 1, _, by go_num, by omega, by omega, ⟨HU.out.1, HG.out.1.good.put HV.out.1 HV.out.2.1.datum (by omega)⟩, f6, by omega⟩
          · go_roundg (gk - 16)
            case measure => omega
            case rel => exact ⟨i + 16, n, D, by go_num, by omega, by omega, HG.out.1, HG.out.2, hsz⟩
        · go_wp2
          go_meet
          exact ⟨n, D, HG.out.1, by omega, HG.out.2⟩
    case rest =>
    obtain ⟨n0, D, hgm, hn0, hfr⟩ := hcut
    obtain ⟨W2, rfl⟩ : ∃ W2 : World, W2 = wc := ⟨_, rfl⟩
    obtain ⟨hd, hhd⟩ : ∃ hd, hd = b1 ++ b2 := ⟨_, rfl⟩
    obtain ⟨S0, hS0⟩ : ∃ S0, S0 = [q, g2] := ⟨_, rfl⟩
    have hmk : Mk S0 W2 W2 q (some ⟨g2, 0, none⟩) c3 hd none 0 [] := by
      rw [hS0, hhd]
      exact ((HM.out.1.fr0 HF.out).fr0 hfr).rebase
    have hSb : ∀ y ∈ S0, w.heap.size ≤ y ∧ y < bm := by
      intro y hy
      have h := HM.out.1.fr0 HF.out
      have h1 := lt_of_block h.blk
      have h2 := h.o.lt g2 (by simp [blk])
      have h3 := h.new
      have h4 := h.newO g2 (by simp [blk])
      simp at h3 h4
      rw [HI0.out.2.2.2.2.2]
      rw [hS0] at hy
      simp at hy
      rcases hy with rfl | rfl <;> omega
    have hbs : bm < W2.heap.size := by
      obtain ⟨es, clock, hb, _⟩ := hgm.own
      exact lt_of_block hb
    have hlen : hd.length = L1 + L2 := by rw [hhd]; exact HM.out.2.2
    have hmade : hd = numb base.length ++ numb text.length := by rw [hhd, HC.out.2.2.1.1, HC.out.2.2.1.2, HB.out.2.2.2.1, HB.out.2.2.2.2]
    have HG := Lib.hid (And.intro hgm (And.intro hmk (And.intro hSb (And.intro (((HM.out.2.1.trans HF.out).trans hfr)) hmade))))
    have HNO := Lib.hid HI0.out.2.2.2.2.1
    clear hgm hmk hSb hfr hhd hS0 hmade HC HM HF HI0 hmm
    go_upto_block 2 with fail
    go_cut [10, 11, 12, 13] from 73 to 144 (fun s10 s11 s12 s13 wz => ∃ oa oc out wa wq wait, Mk S0 W2 wz q oa oc out wa wq wait ∧ St base text hd out wait text.length)
    case first =>
      go_wp2
      go_loopg [10, 11, 12, 13] TL (fun k s10 s11 s12 s13 wr => ∃ i oa oc out wa wq wait, s10 = .int .i64 (i : Nat) ∧ Mk S0 W2 wr q oa oc out wa wq wait ∧ St base text hd out wait i ∧ i + k = TL)
      case atStart => exact ⟨0, _, _, hd, _, _, [], rfl, HG.out.2.1, st_start base text hd, by omega⟩
      case round =>
        obtain ⟨i, oa, oc, out, wa, wq, wait, rfl, mk, st, hik⟩ := hrel
        obtain ⟨wo, rfl⟩ : ∃ wo : World, wo = wr := ⟨_, rfl⟩
        obtain ⟨t1, t2, t3⟩ := st.len
        rw [← HB.out.2.2.2.2] at t1 t3
        obtain ⟨WL, hWL⟩ : ∃ WL, WL = wait.length := ⟨_, rfl⟩
        have HK := Lib.hid (And.intro mk (And.intro st hWL))
        rw [← hWL] at t2
        clear mk st hWL
        by_cases hiT : i < TL
        · go_upto_if 81 with fail
          have F0 : Fr [] w wo := HG.out.2.2.2.1.step HK.out.1.fr fun y hy => .inr (HG.out.2.2.1 y hy).1
          have hgm : Gm BL wo bm n0 D := HG.out.1.kept ((Kept.refl bm W2).fr HK.out.1.fr fun y hy => .inl (HG.out.2.2.1 y hy).2) (Nat.le_refl _)
          have HO := Lib.hid (And.intro F0 hgm)
          clear F0 hgm
          go_cut [11, 12, 13] from 81 to 101 (fun s11 s12 s13 wz => ∃ p k n : Nat, s11 = .int .i64 (p : Nat) ∧ s12 = .int .i64 (k : Nat) ∧ s13 = .int .i64 (n : Nat) ∧ Found base text i WL p k n ∧ Fr [] wo wz)
          case first =>
            by_cases h16 : i + 16 ≤ TL
            · have c1 := cell_of HK.out.1.blk 1
              simp only [List.getElem?_toArray, List.getElem?_cons_zero, List.getElem?_cons_succ] at c1
              rw [← HK.out.2.2] at c1
              have q1 : ∀ y, (sup [] wo.drew y).cell? ⟨q, 1, none⟩ = some (.slice wa WL wq) := fun y => (sup_fr [] wo.drew y).cell ((Fr.drew1 [] wo).cell c1 (by simp)) (by simp)
              have hsl := fun w => lib.run_slice_from sliceU8 i b TL capb (i : Int) rfl (by omega) (by omega) w
              have hW : ∀ w, Fr [] wo w → Calls Try.prog 21 #[.slice (cutAtN b capb i 1) (TL - i) (capb - i)] w fun e w' => w = w' ∧ ∃ v, e = .returned v ∧ U64 v := fun w5 f => by
                have h := HB.out
                have hr := (h.2.1.fr (HO.out.1.trans f)).drop i (by rw [← h.2.2.2.2]; omega)
                have := word_all _ _ _ w5 hr (by rw [List.length_drop, ← h.2.2.2.2]; omega)
                rwa [List.length_drop, ← h.2.2.2.2] at this
              have hF : ∀ w (pa : Option Addr) (pc : Nat) (ps : List Nat), Fr [] wo w → Cs w pa (ps.map fun p => .int .i64 (p : Nat)) → ps.length ≤ pc → (∀ p ∈ ps, p ≤ BL) → ps.length ≤ n0 →
                  Calls Try.prog 22 #[.slice a BL cap, .slice b TL capb, .slice pa ps.length pc, .int .i64 (i : Nat), .int .i64 (WL : Nat)] w fun e w' => ∃ p k n : Nat, e = .returned (.tuple #[.int .i64 (p : Nat), .int .i64 (k : Nat), .int .i64 (n : Nat)]) ∧ Found base text i WL p k n ∧ Fr [] w w' := fun w5 pa pc ps f hcs hle hp hn => by
                have h := HB.out
                have := find_all a b pa cap capb pc base text ps i WL w5 (h.1.fr (HO.out.1.trans f)) (h.2.1.fr (HO.out.1.trans f)) hcs hle (by rw [← h.2.2.2.1]; exact hp) (by rw [← h.2.2.2.2]; exact t3) t2 (by rw [← h.2.2.2.1]; omega) (by rw [← h.2.2.2.2]; omega) (by omega)
                rwa [← h.2.2.2.1, ← h.2.2.2.2] at this
              have HWF := Lib.hid (And.intro hW hF)
              clear hW hF c1
              go_upto_region 17 with fail
              refine region_mix 22 [(false, 0), (false, 1), (false, 2), (false, 3), (false, 4), (false, 5), (false, 8), (false, 9), (false, 10), (false, 11), (false, 12), (false, 13), (true, 6), (true, 7), (true, 14), (false, 15), (false, 16), (false, 17), (false, 18), (false, 19), (false, 20), (false, 21)] [] (by kernel_rfl) (by kernel_rfl) (fun _ _ d _ _ h => by cases d <;> exact h) ?_
              simp only [List.map_cons, List.map_nil, List.getD_cons_zero, List.getD_cons_succ, List.drop_succ_cons, List.drop_zero, List.drop_nil]
              refine mix_seg 12 rfl ?_
              simp only [List.take_succ_cons, List.take_zero, List.drop_succ_cons, List.drop_zero, List.map_cons, List.map_nil]
              repeat (go_big_quiet_step (fail))
              refine wpQuiet_nil ?_
              clear q1 hsl
              refine mix_eff rfl ?_
              intro X hX
              go_wp2_with (go_at_call 21; refine (HWF.out.1 _ (Fr.drew1 [] _)).mono ?_; rintro e w4 ⟨rfl, v, rfl, x, rfl, hx⟩)
              refine hX.out _ _ (Fr.refl _ _) ?_
              clear hX X
              have HX := Lib.hid hx
              clear hx
              refine mix_eff rfl ?_
              intro X hX
              refine wp_gm_look (HO.out.2.kept ((Kept.refl bm wo).fr (Fr.drew1 [] wo) (by simp)) (Nat.le_refl _)) (by unfold maxLen; omega) _ _ rfl rfl x rfl HX.out ?_
              intro pa ps pc hcs hle hp hn
              have hFD := HWF.out.2 _ pa pc ps (Fr.drew1 [] wo) hcs hle hp hn
              have HFD := Lib.hid hFD
              refine hX.out _ _ (Fr.refl _ _) ?_
              clear hX X hcs hp hFD
              simp only [Act.put, List.setIfInBounds_toArray, List.set_cons_succ, List.set_cons_zero]
              refine mix_eff rfl ?_
              intro X hX
              go_wp2_with (go_at_call 22; refine HFD.out.mono ?_; rintro e w5 ⟨p, k, n, rfl, hfd, f5⟩)
              refine hX.out _ _ f5 ?_
              clear hX X
              have HR := Lib.hid (And.intro hfd f5)
              clear hfd f5
              refine mix_seg 7 rfl ?_
              simp only [List.take_succ_cons, List.take_zero, List.drop_succ_cons, List.drop_zero, List.map_cons, List.map_nil]
              repeat (go_big_quiet_step (fail))
              refine wpQuiet_nil ?_
              refine mix_nil ?_
              go_wp2
              go_meet
              exact ⟨p, k, n, rfl, rfl, rfl, HR.out.1, (Fr.drew1 [] wo).trans HR.out.2⟩
            · go_wp2
              go_meet
              exact ⟨0, 0, 0, rfl, rfl, rfl, .inl ⟨rfl, rfl, rfl⟩, Fr.refl _ _⟩
          case rest =>
          obtain ⟨p, k, n, rfl, rfl, rfl, hfd, fz⟩ := hcut
          obtain ⟨wp, rfl⟩ : ∃ wp : World, wp = wc := ⟨_, rfl⟩
          rcases hfd with ⟨rfl, rfl, rfl⟩ | ⟨hn16, hmt, hkw, hbk⟩
          · obtain ⟨g, o, hbe, cb⟩ := HB.out.2.1.at (i := i) (by rw [← HB.out.2.2.2.2]; exact hiT)
            have hgw : g < w.heap.size := World.block_lt_of_cell? w _ cb
            obtain ⟨u, hu⟩ : ∃ u, u = text[i]'(by rw [← HB.out.2.2.2.2]; exact hiT) := ⟨_, rfl⟩
            rw [← hu] at cb
            have hst := HK.out.2.1.wait (by rw [← HB.out.2.2.2.2]; exact hiT)
            rw [← hu] at hst
            subst hbe
            have mkp := HK.out.1.fr0 fz
            have f0p : Fr [] w wp := HO.out.1.trans fz
            obtain ⟨S, hS⟩ : ∃ S, S = blk wa := ⟨_, rfl⟩
            have hqS : q ∉ S := by rw [hS]; exact mkp.qx
            have hgS : g ∉ S := by
              rw [hS]
              intro hg
              have h2 := HG.out.2.2.2.1.size
              rcases mkp.newX g hg with k | k
              · have := (HG.out.2.2.1 g k).1; omega
              · omega
            have c1 := cell_of mkp.blk 1
            simp only [List.getElem?_toArray, List.getElem?_cons_zero, List.getElem?_cons_succ] at c1
            rw [← HK.out.2.2] at c1
            have q1 : ∀ y, (sup S wp.drew y).cell? ⟨q, 1, none⟩ = some (.slice wa WL wq) := fun y => (sup_fr S wp.drew y).cell ((Fr.drew1 [] wp).cell c1 (by simp)) hqS
            have qb : ∀ y, (sup S wp.drew y).cell? ⟨g, o + i, none⟩ = some (.int .u8 (u.toNat : Nat)) := fun y => (sup_fr S wp.drew y).cell ((Fr.drew1 [] wp).cell (f0p.cell cb (by simp)) (by simp)) hgS
            have HP := Lib.hid (And.intro mkp (And.intro f0p (And.intro hst hS)))
            clear mkp f0p hst hS c1 cb hu
            go_upto_region 19 with fail
            refine region_mixR 13 [(false, 0), (false, 1), (false, 2), (false, 3), (false, 4), (false, 5), (false, 6), (false, 7), (false, 8), (true, 9), (true, 10), (false, 11), (false, 12)] S (by kernel_rfl) (by kernel_rfl) (fun _ _ d _ _ h => by cases d <;> exact h) ?_
            simp only [List.map_cons, List.map_nil, List.getD_cons_zero, List.getD_cons_succ, List.drop_succ_cons, List.drop_zero, List.drop_nil]
            refine mixR_seg 9 rfl ?_
            simp only [List.take_succ_cons, List.take_zero, List.drop_succ_cons, List.drop_zero, List.map_cons, List.map_nil]
            repeat (go_big_quiet_step (fail))
            refine wpQuiet_nil ?_
            clear q1 qb
            refine mixR_eff rfl ?_
            intro X hX
            go_wp2
            refine hX.out _ _ wp.drew (Fr.refl _ _) ((Fr.refl S wp.drew).alloc _) ?_
            clear hX X
            obtain ⟨w4, hw4⟩ : ∃ w4, w4 = (wp.alloc (.cells #[.int .u8 (u.toNat : Nat)] 5)).drew := ⟨_, rfl⟩
            have f4 : Fr [] wp w4 := by rw [hw4]; exact ((Fr.refl [] wp).alloc _).drew
            have hb4 : w4.heap[wp.heap.size]? = some (.cells #[.int .u8 (u.toNat : Nat)] 5 (0, 0)) := by rw [hw4]; exact (Fr.drew1 [] _).blk (alloc_at wp _) (by simp)
            have hcb : Cs w4 (some ⟨wp.heap.size, 0, none⟩) (([u] : List UInt8).map bv) := cs_one _ _ _ _ (by rw [hb4]; rfl)
            have fb4 : Fr S wp.drew w4 := by rw [hw4]; exact (((Fr.refl S wp).alloc _).drew).from_drew
            have F4 := Lib.hid (And.intro f4 hcb)
            obtain ⟨x1, x2, x3⟩ := HP.out.1.x.shape
            rw [List.length_map, ← HK.out.2.2] at x1
            rw [← hw4]
            clear hw4 f4 hb4 hcb
            refine mixR_eff rfl ?_
            intro X hX
            refine wp_append_mid sliceU8 _ _ rfl wa WL wq (wait.map bv) rfl (HP.out.1.x.fr F4.out.1 (by simp)) (by rw [List.length_map]; exact HK.out.2.2.symm) (some ⟨wp.heap.size, 0, none⟩) 1 1 (([u] : List UInt8).map bv) rfl (by decide) (by simp) F4.out.2 (by rfl) (bv_one _) (by omega) (by unfold maxLen; omega) ?_
            intro a5 c5 w5 A5
            have fb5 : Fr S wp.drew w5 := fb4.step A5.fr fun y hy => .inl (by rw [HP.out.2.2.2]; exact hy)
            refine hX.out _ _ wp.drew (Fr.refl _ _) fb5 ?_
            clear hX X
            simp only [Act.put, List.setIfInBounds_toArray, List.set_cons_succ, List.set_cons_zero]
            have HA := Lib.hid A5
            have hbq := fb5.blk ((Fr.drew1 [] wp).blk HP.out.1.blk (by simp)) hqS
            have c1 := cell_of hbq 1
            have z1 := frozen_of hbq 1
            simp only [List.getElem?_toArray, List.getElem?_cons_zero, List.getElem?_cons_succ] at c1
            clear hbq A5 fb4
            refine mixR_seg 2 rfl ?_
            simp only [List.take_succ_cons, List.take_zero, List.drop_succ_cons, List.drop_zero, List.map_cons, List.map_nil]
            repeat (go_big_quiet_step (fail))
            refine wpQuiet_nil ?_
            refine mixR_nil ?_
            go_wp2
            go_roundg (gk - 1)
            case measure => omega
            case rel =>
              have A := HA.out
              rw [← List.map_append] at A
              exact ⟨i + 1, oa, oc, out, a5, c5, wait ++ [u], by go_num, HP.out.1.waitMore F4.out.1 (by simpa using A) (by rw [HK.out.2.2]; rfl), HP.out.2.2.1, by omega⟩
          · have hst := HK.out.2.1.copy (by rw [← HB.out.2.2.2.1]; omega) hn16 hmt (by rw [← HK.out.2.2]; exact hkw) hbk
            rw [← HK.out.2.2] at hst
            have hmt1 := hmt.1
            have hmt2 := hmt.2.1
            have hbk1 := hbk.1
            rw [← HB.out.2.2.2.1] at hmt1
            rw [← HB.out.2.2.2.2] at hmt2
            have mkp := HK.out.1.fr0 fz
            have c1 := cell_of mkp.blk 1
            have z1 := frozen_of ((Fr.drew1 [] wp).blk mkp.blk (by simp)) 1
            have d1 := (Fr.drew1 [] wp).cell c1 (by simp)
            simp only [List.getElem?_toArray, List.getElem?_cons_zero, List.getElem?_cons_succ] at c1 d1
            rw [← HK.out.2.2] at c1 d1
            have q1 : ∀ y, (sup [] wp.drew y).cell? ⟨q, 1, none⟩ = some (.slice wa WL wq) := fun y => (sup_fr [] wp.drew y).cell ((Fr.drew1 [] wp).cell c1 (by simp)) (by simp)
            obtain ⟨x1, x2, x3⟩ := mkp.x.shape
            rw [List.length_map, ← HK.out.2.2] at x1
            have hsl := fun w => lib.run_slice_to sliceU8 (WL - k) wa WL wq ((WL : Int) - (k : Int)) (by omega) (by omega) w
            have hC : Calls Try.prog 20 #[.pointer (some ⟨q, 0, none⟩), .int .i64 ((p : Int) - (k : Int)), .int .i64 ((k : Int) + (n : Int))] (wp.drew.setCell ⟨q, 1, none⟩ (.slice wa (WL - k) wq)) fun e W' => e = .returned (.tuple #[]) ∧ ∃ oa' oc' wa' wc', Mk S0 W2 W' q oa' oc' (out ++ lits (wait.take (WL - k)).length (wait.take (WL - k)) ++ cops (k + n) (p - k) (k + n)) wa' wc' [] := by
              have hwl : (wait.take (WL - k)).length = WL - k := by rw [List.length_take, ← HK.out.2.2]; omega
              have m2 := (mkp.fr0 (Fr.drew1 [] wp)).wait1 (wait2 := wait.take (WL - k)) (n := WL - k) (by rw [List.map_take]; exact (mkp.fr0 (Fr.drew1 [] wp)).x.take (WL - k)) hwl (fun y hy => hy)
              have := copy_all S0 W2 _ q (p - k) (k + n) _ _ _ _ _ _ m2 (by rw [hwl]; omega) (by omega)
              rwa [show (((p - k : Nat) : Int)) = (p : Int) - (k : Int) from by omega, show (((k + n : Nat) : Int)) = (k : Int) + (n : Int) from by omega] at this
            have HC := Lib.hid (And.intro hC hst)
            have b1 : decide ((n : Int) < 16) = false := by simp; omega
            clear hC hst mkp hmt hbk c1
            go_upto_region 21 with fail
            refine region_mix 15 [(false, 0), (false, 1), (false, 2), (false, 3), (false, 4), (false, 5), (false, 6), (false, 7), (false, 8), (false, 9), (false, 10), (false, 11), (false, 12), (false, 13), (false, 14)] [] (by kernel_rfl) (by kernel_rfl) (fun _ _ d _ _ h => by cases d <;> exact h) ?_
            simp only [List.map_cons, List.map_nil, List.getD_cons_zero, List.getD_cons_succ, List.drop_succ_cons, List.drop_zero, List.drop_nil]
            refine mix_seg 15 rfl ?_
            simp only [List.take_succ_cons, List.take_zero, List.drop_succ_cons, List.drop_zero, List.map_cons, List.map_nil]
            repeat (go_big_quiet_step (fail))
            refine wpQuiet_nil ?_
            clear q1 hsl
            refine mix_nil ?_
            go_wp2_with (go_at_call 20; refine HC.out.1.mono ?_; rintro e w6 ⟨rfl, oa2, oc2, wa2, wq2, m6⟩)
            go_roundg (gk - n)
            case measure => omega
            case rel => exact ⟨i + n, oa2, oc2, _, wa2, wq2, [], by go_num, m6, HC.out.2, by omega⟩
        · go_wp2
          go_meet
          obtain rfl : i = TL := by omega
          have h := HK.out.2.1
          rw [HB.out.2.2.2.2] at h
          exact ⟨oa, oc, out, wa, wq, wait, HK.out.1, h⟩
    case rest =>
    obtain ⟨oa, oc, out, wa, wq, wait, mk, st⟩ := hcut
    obtain ⟨W3, rfl⟩ : ∃ W3 : World, W3 = wc := ⟨_, rfl⟩
    have t := st.len
    rw [← HB.out.2.2.2.2] at t
    have hfl := flush_all S0 W2 W3 q oa wa oc wq out wait mk (by omega)
    have hmd : Made base text (out ++ lits wait.length wait) := by
      have h := HG.out.2.2.2.2
      rw [h] at st
      exact made_done HNO.out st
    obtain ⟨R, hR⟩ : ∃ R, R = out ++ lits wait.length wait := ⟨_, rfl⟩
    rw [← hR] at hfl hmd
    have HFL := Lib.hid (And.intro hfl hmd)
    clear hfl hmd hR mk st t
    go_upto_region 25 with (go_at_call 23; refine HFL.out.1.mono ?_; rintro e W4 ⟨rfl, oa, oc, wa, wq, mk⟩)
    obtain ⟨n, hn⟩ : ∃ n, n = R.length := ⟨_, rfl⟩
    have c0 := cell_of mk.blk 0
    simp only [List.getElem?_toArray, List.getElem?_cons_zero] at c0
    obtain ⟨o1, o2, o3⟩ := mk.o.shape
    rw [List.length_map, ← hn] at o1
    rw [← hn] at c0
    have hsl := fun w => run_slice_cut sliceU8 n oa oc o1 w
    have HK := Lib.hid (And.intro mk hn)
    clear mk hn
    go_quiet (fail)
    go_wp2
    go_ret
    exact ⟨R, HFL.out.2, (HK.out.1.fr0 (Fr.drewN [] W4 nq)).made HG.out.2.2.2.1 (fun y hy => (HG.out.2.2.1 y hy).1) n HK.out.2⟩
end Go.Proofs.Ytoplgcikcanagaa.delta
