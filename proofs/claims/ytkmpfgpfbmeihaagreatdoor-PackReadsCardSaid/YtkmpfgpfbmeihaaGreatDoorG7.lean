/-
  Texts of this proof, one behind the other: RfEntry, RShaLaw, RWords, OwnB, RSha, PkMem, PackNil, MixE, RevB, PackBack, PackWr0, PackRd0.
-/
import Derived.Test.YtkmpfgpfbmeihaaGreatDoorG6
import Derived.Laws.CopyRow
import Derived.Laws.MakeOwn
import Derived.Lib.SliceRun
import Derived.Laws.EntriesVeiled
import Derived.Carry
import Derived.Deep.DeepCutAuto
import Derived.Deep.CutBlock
import Derived.WalkMore
import Derived.Lib.SlBytesConst
set_option maxRecDepth 100000
set_option linter.unusedVariables false
set_option linter.unusedSimpArgs false
namespace Go.Proofs.YtkmpfgpfbmeihaaGreatDoor.pk
open Go Go.RowKit lib bm
theorem infoRRaw : (Tryz.prog.info? 107).map (·.size) = some 7 := by kernel_rfl
theorem results_rraw {fn : Func} {p u v : Tmp} (h : fn.results = #[.cell p 107, .tmp u, .tmp v]) (tmps : Array Value) (w : World) (g : Nat) (cs : Array Value) (fr : Nat × Nat)
  (hp : tmps.getD p undef = .pointer (some ⟨g, 0, none⟩)) (hg : w.heap[g]? = some (.cells cs 107 fr)) (hs : cs.size = 7) :
  (results fn tmps).run Tryz.prog w = .ok (.tuple #[.agg cs, tmps.getD u undef, tmps.getD v undef]) w := by
 have h1 := run_loadVar_row (P := Tryz.prog) w g 107 107 cs fr _ hg Tryz.underlying107 rfl (by rw [infoRRaw, hs])
 have hp' : tmps[p]?.getD undef = .pointer (some ⟨g, 0, none⟩) := by simpa using hp
 simp [results, h, hp', asAddr, h1]
def rentV (x : Ent) : Array Value := #[.int .i64 (x.kind : Nat), .int .i64 (x.at_ : Nat), .int .i64 (x.size : Nat), .int .u32 (x.crc : Nat), .string (str x.data), .string (str x.base), .int .i64 (x.off : Nat)]
def REntry (w : World) (P : Except Nat (Ent × Nat)) (e : Ending) (w' : World) : Prop :=
 Fr [] w w' ∧ ((∃ x V, P = .error x ∧ 0 < x ∧ x < 100 ∧ e = .returned (.tuple #[.agg V, .int .i64 0, .int .i64 (x : Nat)]) ∧ V.size = 7 ∧ V.all (·.oneCell') = true) ∨
  ∃ x q, P = .ok (x, q) ∧ e = .returned (.tuple #[.agg (rentV x), .int .i64 (q : Nat), .int .i64 0]) ∧ q ≤ 100000000)
set_option maxHeartbeats 16000000 in
theorem rentry_read (a : Option Addr) (cap : Nat) (bs : List UInt8) (at_ : Nat) (w : World) (h : lib.Rd w a cap bs) (hlen : bs.length ≤ 100000000) (hlow : ∀ x ∈ blk a, x < w.heap.size) (hle : at_ ≤ bs.length) :
  Calls Tryz.prog 54 #[.slice a bs.length cap, .int .i64 (at_ : Nat)] w (REntry w (pentry bs at_)) := by
 obtain ⟨P, hP⟩ : ∃ P, P = pentry bs at_ := ⟨_, rfl⟩
 rw [← hP]
 unfold pentry at hP
 obtain ⟨L, hL⟩ : ∃ L, L = bs.length := ⟨_, rfl⟩
 have hcap := h.le
 have hmax := h.max
 unfold maxLen at hmax
 have hd : ∀ w', Fr [] w w' → Calls Tryz.prog 86 #[.slice (cutAtN a cap at_ 1) (L - at_ : Nat) (cap - at_)] w' (RHeadP w' (phead (bs.drop at_))) := fun w' f => by
  have := rhead_read (cutAtN a cap at_ 1) (cap - at_) (bs.drop at_) w' ((h.fr f).drop at_ hle) (by rw [List.length_drop]; omega)
  rwa [List.length_drop, ← hL] at this
 rw [← hL] at hcap hle hlen
 have hLL := hL
 have H := Lib.hid (And.intro h (And.intro hL (And.intro hP (And.intro hd hlow))))
 rw [← hLL]
 have hsl := fun w' => lib.run_slice_from sliceU8 at_ a L cap (at_ : Nat) rfl hle hcap w'
 clear h hL hP hd hlow hLL
 go_enter Tryz.func54, Tryz.ntmps54
 go_upto_region 1 with fail
 obtain ⟨G, w1, hG, hw1, f1, bG⟩ : ∃ G w1, G = w.heap.size ∧ w1 = w.alloc (.cells #[.int .i64 0, .int .i64 0, .int .i64 0, .int .u32 0, .string ⟨#[]⟩, .string ⟨#[]⟩, .int .i64 0] 107) ∧ Fr [] w w1 ∧ w1.heap[G]? = some (.cells #[.int .i64 0, .int .i64 0, .int .i64 0, .int .u32 0, .string ⟨#[]⟩, .string ⟨#[]⟩, .int .i64 0] 107 (0, 0)) := ⟨_, _, rfl, rfl, (Fr.refl [] w).alloc _, alloc_at w _⟩
 rw [← hw1, ← hG]
 have HG := Lib.hid (And.intro f1 (And.intro bG hG))
 clear f1 bG hG hw1
 go_upto_region 2 with (go_at_call 86; refine (H.out.2.2.2.1 _ HG.out.1).mono ?_; rintro e w2 ⟨f2, (⟨x, hx, k0, k1, rfl⟩ | ⟨k, s, n, hk, hk8, hs, rfl⟩)⟩)
 ·have bG2 := f2.blk HG.out.2.1 (by simp)
  have HX := Lib.hid (And.intro bG2 (And.intro (HG.out.1.trans f2) hx))
  have d0 : ((x : Int) != 0) = true := by simp; omega
  clear bG2 f2 hx hsl
  go_wp2_with (refine wpList_store_row rfl 107 (.tmp 4) (.tmp 28) rfl G #[.int .i64 0, .int .i64 0, .int .i64 0, .int .u32 0, .string ⟨#[]⟩, .string ⟨#[]⟩, .int .i64 0] rfl rfl 107 #[.int .i64 0, .int .i64 0, .int .i64 0, .int .u32 0, .string ⟨#[]⟩, .string ⟨#[]⟩, .int .i64 0] HX.out.1 infoRRaw rfl (by kernel_rfl) ?_)
  refine bodyPost_ret (results_rraw rfl _ _ G #[.int .i64 0, .int .i64 0, .int .i64 0, .int .u32 0, .string ⟨#[]⟩, .string ⟨#[]⟩, .int .i64 0] (0, 0) rfl (setRow_heap _ _ _ _ _ _ HX.out.1) rfl) rfl ?_
  exact ⟨HX.out.2.1.setRow (.inr (by rw [HG.out.2.2]; exact Nat.le_refl _)) _, .inl ⟨x, _, by rw [H.out.2.2.1, HX.out.2.2], k0, k1, rfl, rfl, by kernel_rfl⟩⟩
 ·have hn1 : n ≤ (bs.drop at_).length := (phF_le _ _ _ _ _ hk).2.2.1
  have hn0 := (phF_le _ _ _ _ _ hk).1
  rw [List.length_drop, ← H.out.2.1] at hn1
  obtain ⟨p, hp⟩ : ∃ p, p = at_ + n := ⟨_, rfl⟩
  have ep : (at_ : Int) + (n : Int) = (p : Int) := by omega
  have hP := H.out.2.2.1
  rw [hk] at hP
  simp only at hP
  rw [← hp] at hP
  have hpl : p ≤ L := by omega
  have bG2 := f2.blk HG.out.2.1 (by simp)
  have H2 := Lib.hid (And.intro bG2 (And.intro (HG.out.1.trans f2) (And.intro hP hp)))
  clear bG2 f2 hP hk hn1 hsl hp
  go_upto_block 0 with fail
  obtain ⟨X, w3, hX, hw3, f3, bX⟩ : ∃ X w3, X = w2.heap.size ∧ w3 = w2.alloc (.cells #[.int .i64 (k : Nat), .int .i64 (at_ : Nat), .int .i64 (s : Nat), .int .u32 0, .string ⟨#[]⟩, .string ⟨#[]⟩, .int .i64 0] 107) ∧ Fr [] w2 w3 ∧ w3.heap[X]? = some (.cells #[.int .i64 (k : Nat), .int .i64 (at_ : Nat), .int .i64 (s : Nat), .int .u32 0, .string ⟨#[]⟩, .string ⟨#[]⟩, .int .i64 0] 107 (0, 0)) := ⟨_, _, rfl, rfl, (Fr.refl [] w2).alloc _, alloc_at w2 _⟩
  rw [← hw3, ← hX]
  have hGX : G ≠ X := by have := lt_of_block H2.out.1; omega
  have hXw : w.heap.size ≤ X := by have := H2.out.2.1.size; omega
  have c5 := cell_of bX 5
  have c6 := cell_of bX 6
  have z5 := frozen_of bX 5
  have z6 := frozen_of bX 6
  simp only [List.getElem?_toArray, List.getElem?_cons_zero, List.getElem?_cons_succ] at c5 c6
  have H3 := Lib.hid (And.intro bX (And.intro (f3.blk H2.out.1 (by simp)) (And.intro (H2.out.2.1.trans f3) hXw)))
  have HGX := Lib.hid hGX
  clear hX hw3 f3 bX hXw hGX
  have epc := Lib.hid ep
  clear ep
  go_cut [12] from 12 to 83 (fun s12 wc => ∃ base off q, pbase bs at_ k p = .ok (base, off, q) ∧ s12 = .int .i64 (q : Nat) ∧ wc.heap[X]? = some (.cells #[.int .i64 (k : Nat), .int .i64 (at_ : Nat), .int .i64 (s : Nat), .int .u32 0, .string ⟨#[]⟩, .string (str base), .int .i64 (off : Nat)] 107 (0, 0)) ∧ wc.heap[G]? = some (.cells #[.int .i64 0, .int .i64 0, .int .i64 0, .int .u32 0, .string ⟨#[]⟩, .string ⟨#[]⟩, .int .i64 0] 107 (0, 0)) ∧ Fr [] w wc)
  case first =>
   by_cases k6 : k = 6
   ·subst k6
    have hb : ∀ w', Fr [] w w' → Calls Tryz.prog 87 #[.slice (cutAtN a cap p 1) (L - p : Nat) (cap - p)] w' (RBackP w' (pback (bs.drop p))) := fun w' f => by
     have := rback_read (cutAtN a cap p 1) (cap - p) (bs.drop p) w' ((H.out.1.fr f).drop p (by rw [← H.out.2.1]; exact hpl)) (by rw [List.length_drop]; have := H.out.2.1; omega)
     rwa [List.length_drop, ← H.out.2.1] at this
    have hbb : ∀ x, x = pback (bs.drop p) → pbase bs at_ 6 p = match x with
      | .error e => .error e
      | .ok (v, k) => if v < 1 ∨ at_ < v then .error 3 else .ok ([], at_ - v, p + k) := by rintro x rfl; rfl
    obtain ⟨Q, hQ⟩ : ∃ Q, Q = pback (bs.drop p) := ⟨_, rfl⟩
    have hbb := hbb Q hQ
    rw [← hQ] at hb
    have hsl := fun w' => lib.run_slice_from sliceU8 p a L cap (p : Nat) rfl hpl hcap w'
    have HQ := Lib.hid (And.intro hb (And.intro hbb hQ))
    clear hb hbb hQ c5 c6 z5 z6
    go_upto_region 9 with (go_at_call 87; refine (HQ.out.1 _ H3.out.2.2.1).mono ?_; rintro e w4 ⟨f4, (⟨x, hx, k0, k1, rfl⟩ | ⟨v, m, hv, hvb, rfl⟩)⟩)
    ·have HX := Lib.hid (And.intro (f4.blk H3.out.2.1 (by simp)) (And.intro (H3.out.2.2.1.trans f4) hx))
     have d0 : ((x : Int) != 0) = true := by simp; omega
     clear f4 hx hsl
     go_wp2_with (refine wpList_store_row rfl 107 (.tmp 4) (.tmp 50) rfl G #[.int .i64 0, .int .i64 0, .int .i64 0, .int .u32 0, .string ⟨#[]⟩, .string ⟨#[]⟩, .int .i64 0] rfl rfl 107 #[.int .i64 0, .int .i64 0, .int .i64 0, .int .u32 0, .string ⟨#[]⟩, .string ⟨#[]⟩, .int .i64 0] HX.out.1 infoRRaw rfl (by kernel_rfl) ?_)
     refine bodyPost_ret (results_rraw rfl _ _ G #[.int .i64 0, .int .i64 0, .int .i64 0, .int .u32 0, .string ⟨#[]⟩, .string ⟨#[]⟩, .int .i64 0] (0, 0) rfl (setRow_heap _ _ _ _ _ _ HX.out.1) rfl) rfl ?_
     exact ⟨HX.out.2.1.setRow (.inr (by rw [HG.out.2.2]; exact Nat.le_refl _)) _, .inl ⟨x, _, by rw [H2.out.2.2.1, HQ.out.2.1, HX.out.2.2], k0, k1, rfl, rfl, by kernel_rfl⟩⟩
    ·have hX4 := f4.blk H3.out.1 (by simp)
     have c6 := cell_of hX4 6
     have z6 := frozen_of hX4 6
     simp only [List.getElem?_toArray, List.getElem?_cons_zero, List.getElem?_cons_succ] at c6
     have hm := (pbF_le _ _ _ _ (by rw [← HQ.out.2.2.symm] at hv; exact hv : pback (bs.drop p) = .ok (v, m))).2
     rw [List.length_drop, ← H.out.2.1] at hm
     have hbq : pbase bs at_ 6 p = if v < 1 ∨ at_ < v then .error 3 else .ok ([], at_ - v, p + m) := by rw [HQ.out.2.1, hv]
     have HX := Lib.hid (And.intro hX4 (And.intro (f4.blk H3.out.2.1 (by simp)) (And.intro (H3.out.2.2.1.trans f4) hbq)))
     clear hX4 f4 hv hbq hsl
     by_cases hv0 : v < 1
     ·have HV := Lib.hid (show pbase bs at_ 6 p = .error 3 by rw [HX.out.2.2.2, if_pos (by omega)])
      have d1 : decide ((v : Int) < 1) = true := by simp; omega
      clear c6 z6
      go_wp2_with (refine wpList_store_row rfl 107 (.tmp 4) (.tmp 59) rfl G #[.int .i64 0, .int .i64 0, .int .i64 0, .int .u32 0, .string ⟨#[]⟩, .string ⟨#[]⟩, .int .i64 0] rfl rfl 107 #[.int .i64 0, .int .i64 0, .int .i64 0, .int .u32 0, .string ⟨#[]⟩, .string ⟨#[]⟩, .int .i64 0] HX.out.2.1 infoRRaw rfl (by kernel_rfl) ?_)
      refine bodyPost_ret (results_rraw rfl _ _ G #[.int .i64 0, .int .i64 0, .int .i64 0, .int .u32 0, .string ⟨#[]⟩, .string ⟨#[]⟩, .int .i64 0] (0, 0) rfl (setRow_heap _ _ _ _ _ _ HX.out.2.1) rfl) rfl ?_
      exact ⟨HX.out.2.2.1.setRow (.inr (by rw [HG.out.2.2]; exact Nat.le_refl _)) _, .inl ⟨3, _, by rw [H2.out.2.2.1, HV.out], by decide, by decide, rfl, rfl, by kernel_rfl⟩⟩
     ·have d0 : decide ((v : Int) < 1) = false := by simp; omega
      by_cases hva : at_ < v
      ·have HV := Lib.hid (show pbase bs at_ 6 p = .error 3 by rw [HX.out.2.2.2, if_pos (by omega)])
       clear c6 z6 hv0
       go_wp2_with (refine wpList_store_row rfl 107 (.tmp 4) (.tmp 59) rfl G #[.int .i64 0, .int .i64 0, .int .i64 0, .int .u32 0, .string ⟨#[]⟩, .string ⟨#[]⟩, .int .i64 0] rfl rfl 107 #[.int .i64 0, .int .i64 0, .int .i64 0, .int .u32 0, .string ⟨#[]⟩, .string ⟨#[]⟩, .int .i64 0] HX.out.2.1 infoRRaw rfl (by kernel_rfl) ?_)
       refine bodyPost_ret (results_rraw rfl _ _ G #[.int .i64 0, .int .i64 0, .int .i64 0, .int .u32 0, .string ⟨#[]⟩, .string ⟨#[]⟩, .int .i64 0] (0, 0) rfl (setRow_heap _ _ _ _ _ _ HX.out.2.1) rfl) rfl ?_
       exact ⟨HX.out.2.2.1.setRow (.inr (by rw [HG.out.2.2]; exact Nat.le_refl _)) _, .inl ⟨3, _, by rw [H2.out.2.2.1, HV.out], by decide, by decide, rfl, rfl, by kernel_rfl⟩⟩
      ·have HV := Lib.hid (show pbase bs at_ 6 p = .ok ([], at_ - v, p + m) by rw [HX.out.2.2.2, if_neg (by omega)])
       have d1 : decide (at_ < v) = false := by simp; omega
       obtain ⟨off, hoff⟩ : ∃ off, off = at_ - v := ⟨_, rfl⟩
       have eoff : (at_ : Int) - v = (off : Int) := by omega
       have HO := Lib.hid hoff
       have hob : off ≤ 100000000 := by omega
       have hva2 : v ≤ at_ := by omega
       clear hva hv0 hoff
       go_wp2
       go_meet
       case rel => exact ⟨[], off, p + m, by rw [HV.out, HO.out], by go_num, (setCell_of HX.out.1 _).trans rfl, ((Fr.refl [X] w4).setCell (by simp) _).blk HX.out.2.1 (by simp; exact HGX.out), HX.out.2.2.1.setCell (.inr H3.out.2.2.2) _⟩
   ·have d6 : ((k : Int) == 6) = false := by simp; omega
    by_cases k7 : k = 7
    ·subst k7
     by_cases h20 : L - p < 20
     ·have hbb : pbase bs at_ 7 p = .error 4 := by unfold pbase; rw [if_neg (by decide), if_pos rfl, if_pos (by rw [← H.out.2.1]; exact h20)]
      have HQ := Lib.hid hbb
      have d1 : decide ((L : Int) - (p : Int) < 20) = true := by simp; omega
      clear hbb c5 c6 z5 z6 h20
      go_wp2_with (refine wpList_store_row rfl 107 (.tmp 4) (.tmp 74) rfl G #[.int .i64 0, .int .i64 0, .int .i64 0, .int .u32 0, .string ⟨#[]⟩, .string ⟨#[]⟩, .int .i64 0] rfl rfl 107 #[.int .i64 0, .int .i64 0, .int .i64 0, .int .u32 0, .string ⟨#[]⟩, .string ⟨#[]⟩, .int .i64 0] H3.out.2.1 infoRRaw rfl (by kernel_rfl) ?_)
      refine bodyPost_ret (results_rraw rfl _ _ G #[.int .i64 0, .int .i64 0, .int .i64 0, .int .u32 0, .string ⟨#[]⟩, .string ⟨#[]⟩, .int .i64 0] (0, 0) rfl (setRow_heap _ _ _ _ _ _ H3.out.2.1) rfl) rfl ?_
      exact ⟨H3.out.2.2.1.setRow (.inr (by rw [HG.out.2.2]; exact Nat.le_refl _)) _, .inl ⟨4, _, by rw [H2.out.2.2.1, HQ.out], by decide, by decide, rfl, rfl, by kernel_rfl⟩⟩
     ·have hbb : pbase bs at_ 7 p = .ok (hexb ((bs.drop p).take 20), 0, p + 20) := by unfold pbase; rw [if_neg (by decide), if_pos rfl, if_neg (by rw [← H.out.2.1]; exact h20)]
      have d1 : decide ((L : Int) - (p : Int) < 20) = false := by simp; omega
      have hxl : ((bs.drop p).take 20).length = 20 := by rw [List.length_take, List.length_drop, ← H.out.2.1]; omega
      have hsl := fun w' => lib.run_slice_lh sliceU8 p 20 a L cap (p : Nat) ((p : Int) + 20) rfl rfl (by omega) w'
      obtain ⟨ap, hap⟩ : ∃ ap, ap = cutAt a cap p := ⟨_, rfl⟩
      have hm20 := fun w' (f : Fr [] w w') => (H.out.1.fr f).mid p 20 (by rw [← H.out.2.1]; omega)
      rw [← hap] at hm20 hsl
      obtain ⟨bp, hbp⟩ : ∃ bp, bp = (bs.drop p).take 20 := ⟨_, rfl⟩
      rw [← hbp] at hbb hxl hm20
      have hhx := fun w' (f : Fr [] w w') => rhex_any ap (cap - p) bp w' (hm20 w' f) (by omega)
      rw [hxl] at hhx
      have HQ := Lib.hid (And.intro hbb hhx)
      clear hbb hap hxl hm20 hbp hhx h20 c6 z6
      go_wp2_with (go_at_call 50; refine (HQ.out.2 _ H3.out.2.2.1).mono ?_; rintro e w5 ⟨rfl, f5⟩; have hX5 := f5.blk H3.out.1 (by simp); have c5 := cell_of hX5 5; have z5 := frozen_of hX5 5; simp only [List.getElem?_toArray, List.getElem?_cons_zero, List.getElem?_cons_succ] at c5; have H5 := Lib.hid (And.intro hX5 f5); clear hX5 f5)
      go_meet
      case rel => exact ⟨hexb bp, 0, p + 20, HQ.out.1, by go_num, (setCell_of H5.out.1 _).trans rfl, ((Fr.refl [X] w5).setCell (by simp) _).blk (H5.out.2.blk H3.out.2.1 (by simp)) (by simp; exact HGX.out), (H3.out.2.2.1.trans H5.out.2).setCell (.inr H3.out.2.2.2) _⟩
    ·have d7 : ((k : Int) == 7) = false := by simp; omega
     have hbb : pbase bs at_ k p = .ok ([], 0, p) := by unfold pbase; rw [if_neg k6, if_neg k7]
     have HQ := Lib.hid hbb
     clear hbb k6 k7
     go_wp2
     go_meet
     case rel => exact ⟨[], 0, p, HQ.out, rfl, H3.out.1, H3.out.2.1, H3.out.2.2.1⟩
  case rest =>
   obtain ⟨base, off, q, hpb, rfl, bX, bG, f4⟩ := hcut
   obtain ⟨hpq, hql, hbl, hofl⟩ := pbase_le (by rw [← H.out.2.1]; exact hpl) hpb
   rw [← H.out.2.1] at hql
   obtain ⟨Z, hZ⟩ : ∃ Z, Z = inf.izlib (bs.drop q) 65536 := ⟨_, rfl⟩
   have hP := H2.out.2.2.1
   rw [hpb] at hP
   simp only at hP
   rw [← hZ] at hP
   have hz : ∀ w', Fr [] w w' → Calls Tryz.prog 88 #[.slice (cutAtN a cap q 1) (L - q : Nat) (cap - q), .int .i64 65536] w' (inf.RRawGood w' Z) := fun w' f => by
    have := inf.rzlib_any (cutAtN a cap q 1) (cap - q) (bs.drop q) 65536 w' ((H.out.1.fr f).drop q (by rw [← H.out.2.1]; exact hql)) (by rw [List.length_drop, ← H.out.2.1]; omega) (by decide) (fun x hx => by rw [cutAtN_blk] at hx; exact Nat.lt_of_lt_of_le (H.out.2.2.2.2 x hx) f.size)
    rw [List.length_drop, ← H.out.2.1, ← hZ] at this
    exact this
   have hsl := fun w' => lib.run_slice_from sliceU8 q a L cap (q : Nat) rfl hql hcap w'
   have HB := Lib.hid (And.intro bX (And.intro bG (And.intro f4 (And.intro hP (And.intro hz (And.intro hZ hofl))))))
   clear bX bG f4 hP hz hpb hZ c5 c6 z5 z6 hofl hbl
   go_upto_region 21 with (go_at_call 88; refine (HB.out.2.2.2.2.1 _ HB.out.2.2.1).mono ?_; rintro e w5 ⟨f5, (⟨x, hx, k0, k1, rfl⟩ | ⟨out, used, ao, oc, hok, rfl, rdo, nbo⟩)⟩)
   ·obtain ⟨Y, w6, hY, hw6, f6, bY⟩ : ∃ Y w6, Y = w5.heap.size ∧ w6 = w5.alloc (.cells #[.slice none 0 0, .int .i64 0, .int .i64 (x : Nat)] 154) ∧ Fr [] w5 w6 ∧ w6.heap[Y]? = some (.cells #[.slice none 0 0, .int .i64 0, .int .i64 (x : Nat)] 154 (0, 0)) := ⟨_, _, rfl, rfl, (Fr.refl [] w5).alloc _, alloc_at w5 _⟩
    rw [← hw6, ← hY]
    have y2 := cell_of bY 2
    simp only [List.getElem?_toArray, List.getElem?_cons_zero, List.getElem?_cons_succ] at y2
    have bG6 := (f5.trans f6).blk HB.out.2.1 (by simp)
    have hYG : Y ≠ G := by have := lt_of_block HB.out.2.1; have := f5.size; omega
    have HX := Lib.hid (And.intro bG6 (And.intro ((HB.out.2.2.1.trans f5).trans f6) (And.intro hx hYG)))
    have d0 : ((x : Int) != 0) = true := by simp; omega
    clear bG6 f5 f6 hx hsl hw6 hY bY hYG
    go_upto_region 22 with fail
    clear d0
    have q2 : ∀ x', (sup [G] w6.drew x').cell? ⟨Y, 2, none⟩ = some (.int .i64 (x : Nat)) := fun x' => (sup_fr [G] w6.drew x').cell (show w6.drew.cell? _ = _ from y2) (by simp; exact HX.out.2.2.2)
    have HD := Lib.hid (show w6.drew.heap[G]? = _ from HX.out.1)
    refine region_mix 6 [(false, 1), (false, 2), (true, 0), (true, 3), (false, 4), (false, 5)] [G] (by kernel_rfl) (by kernel_rfl) (fun _ _ d _ _ h => by cases d <;> exact h) ?_
    simp only [List.map_cons, List.map_nil, List.getD_cons_zero, List.getD_cons_succ, List.drop_succ_cons, List.drop_zero, List.drop_nil]
    refine mix_seg 2 rfl ?_
    simp only [List.take_succ_cons, List.take_zero, List.drop_succ_cons, List.drop_zero, List.map_cons, List.map_nil]
    repeat (go_big_quiet_step (fail))
    refine wpQuiet_nil ?_
    clear q2 y2
    refine mix_eff rfl ?_
    intro X1 hX1
    go_wp2
    refine hX1.out _ _ (Fr.refl _ _) ?_
    clear hX1 X1
    refine mix_eff rfl ?_
    intro X1 hX1
    refine wp_store_row 107 (.tmp 4) (.tmp 91) rfl G #[.int .i64 0, .int .i64 0, .int .i64 0, .int .u32 0, .string ⟨#[]⟩, .string ⟨#[]⟩, .int .i64 0] rfl rfl 107 #[.int .i64 0, .int .i64 0, .int .i64 0, .int .u32 0, .string ⟨#[]⟩, .string ⟨#[]⟩, .int .i64 0] HD.out infoRRaw rfl (by kernel_rfl) ?_
    simp only [Act.put, List.setIfInBounds_toArray, List.set_cons_succ, List.set_cons_zero]
    refine hX1.out _ _ ((Fr.refl [G] _).setRow (by simp) _) ?_
    clear hX1 X1
    refine mix_seg 2 rfl ?_
    simp only [List.take_succ_cons, List.take_zero, List.drop_succ_cons, List.drop_zero, List.map_cons, List.map_nil]
    repeat (go_big_quiet_step (fail))
    refine wpQuiet_nil ?_
    refine mix_nil ?_
    go_wp2
    refine bodyPost_ret (results_rraw rfl _ _ G #[.int .i64 0, .int .i64 0, .int .i64 0, .int .u32 0, .string ⟨#[]⟩, .string ⟨#[]⟩, .int .i64 0] (0, 0) rfl (setRow_heap _ _ _ _ _ _ HD.out) rfl) rfl ?_
    exact ⟨(HX.out.2.1.trans (Fr.drew1 [] w6)).setRow (.inr (by rw [HG.out.2.2]; exact Nat.le_refl _)) _, .inl ⟨x, _, by rw [HB.out.2.2.2.1, HX.out.2.2.1], k0, k1, rfl, rfl, by kernel_rfl⟩⟩
   ·obtain ⟨N, hN⟩ : ∃ N, N = out.length := ⟨_, rfl⟩
    rw [← hN]
    have hus : q + used ≤ L := by
     have := izlib_le (by rw [← HB.out.2.2.2.2.2.1]; exact hok : inf.izlib (bs.drop q) 65536 = .ok (out, used))
     rw [List.length_drop, ← H.out.2.1] at this
     omega
    have hP2 : P = if out.length = s then .ok (⟨k, at_, s, crc.crc ((bs.drop at_).take (q + used - at_)), out, base, off⟩, q + used) else .error 3 := by rw [HB.out.2.2.2.1, hok]
    have hol := rdo.max
    unfold maxLen at hol
    have hNo := rdo.le
    rw [← hN] at hP2 hNo
    obtain ⟨Y, w6, hY, hw6, f6, bY⟩ : ∃ Y w6, Y = w5.heap.size ∧ w6 = w5.alloc (.cells #[.slice ao N oc, .int .i64 (used : Nat), .int .i64 0] 154) ∧ Fr [] w5 w6 ∧ w6.heap[Y]? = some (.cells #[.slice ao N oc, .int .i64 (used : Nat), .int .i64 0] 154 (0, 0)) := ⟨_, _, rfl, rfl, (Fr.refl [] w5).alloc _, alloc_at w5 _⟩
    rw [← hw6, ← hY]
    have y0 := cell_of bY 0
    have y1 := cell_of bY 1
    have y2 := cell_of bY 2
    simp only [List.getElem?_toArray, List.getElem?_cons_zero, List.getElem?_cons_succ] at y0 y1 y2
    have f56 := f5.trans f6
    have bG6 := f56.blk HB.out.2.1 (by simp)
    have bX6 := f56.blk HB.out.1 (by simp)
    have hXY : X ≠ Y := by have := lt_of_block HB.out.1; have := f5.size; omega
    have HX := Lib.hid (And.intro bG6 (And.intro bX6 (And.intro (HB.out.2.2.1.trans f56) (And.intro hP2 (And.intro (rdo.fr f6) (And.intro hN hXY))))))
    clear bG6 bX6 f5 f6 f56 hok hP2 rdo nbo hN hw6 hY bY hXY hsl
    by_cases hs2 : N = s
    ·have hP3 := HX.out.2.2.2.1
     rw [if_pos hs2] at hP3
     have hd : ((N : Int) != s) = false := by simp; omega
     obtain ⟨u, hu⟩ : ∃ u, u = q + used := ⟨_, rfl⟩
     have eu : (q : Int) + (used : Int) = (u : Int) := by omega
     rw [← hu] at hP3
     have HP3 := Lib.hid (And.intro hP3 hu)
     have huL : u ≤ L := by omega
     have hau : at_ ≤ u := by have := H2.out.2.2.2; omega
     clear hP3 hs2 hu
     go_upto_region 26 with fail
     clear eu hd y1 y2
     have cv := run_conv w6 Tryz.underlying23 Tryz.underlying5 Tryz.underlying9 HX.out.2.2.2.2.2.1.symm HX.out.2.2.2.2.1.cs
     obtain ⟨so, hso⟩ : ∃ s, s = str out := ⟨_, rfl⟩
     rw [← hso] at cv
     have x4 := cell_of HX.out.2.1 4
     have v4 := frozen_of HX.out.2.1 4
     simp only [List.getElem?_toArray, List.getElem?_cons_zero, List.getElem?_cons_succ] at x4
     have HSO := Lib.hid hso
     clear hso
     go_upto_region 27 with fail
     obtain ⟨w7, hw7⟩ : ∃ w7, w7 = w6.setCell ⟨X, 4, none⟩ (.string so) := ⟨_, rfl⟩
     rw [← hw7]
     have f7 : Fr [X] w6 w7 := by rw [hw7]; exact (Fr.refl [X] w6).setCell (by simp) _
     have bX7 := setCell_of (o := 4) HX.out.2.1 (.string so)
     rw [← hw7] at bX7
     have bX7' : w7.heap[X]? = some (.cells #[.int .i64 (k : Nat), .int .i64 (at_ : Nat), .int .i64 (s : Nat), .int .u32 0, .string so, .string (str base), .int .i64 (off : Nat)] 107 (0, 0)) := bX7.trans rfl
     have fw7 : Fr [] w w7 := HX.out.2.2.1.step f7 (fun y hy => .inr (by simp at hy; rw [hy]; exact H3.out.2.2.2))
     obtain ⟨m, hm⟩ : ∃ m, m = u - at_ := ⟨_, rfl⟩
     have hmu : at_ + m = u := by omega
     have hsl := fun w' => lib.run_slice_lh sliceU8 at_ m a L cap (at_ : Nat) (u : Nat) rfl (by omega) (by omega) w'
     have hmid := (H.out.1.fr fw7).mid at_ m (by rw [← H.out.2.1]; omega)
     obtain ⟨bm, hbm⟩ : ∃ bm, bm = (bs.drop at_).take m := ⟨_, rfl⟩
     rw [← hbm] at hmid
     have hml : bm.length = m := by rw [hbm, List.length_take, List.length_drop, ← H.out.2.1]; omega
     have cv2 := run_conv w7 Tryz.underlying23 Tryz.underlying5 Tryz.underlying9 hml hmid.cs
     obtain ⟨sm, hsm⟩ : ∃ s, s = str bm := ⟨_, rfl⟩
     rw [← hsm] at cv2
     have hcr := crc.rcrc_any bm w7 (by omega)
     rw [← hsm] at hcr
     obtain ⟨cr, hcrv⟩ : ∃ cr, cr = crc.crc bm := ⟨_, rfl⟩
     rw [← hcrv] at hcr
     have HD := Lib.hid (And.intro bX7' (And.intro fw7 (And.intro hcr (And.intro hcrv (And.intro hbm (And.intro hm (f7.blk HX.out.1 (by simp; exact HGX.out))))))))
     clear bX7 bX7' f7 fw7 hcr hcrv hbm hm hmu hmid hml hsm hw7 x4 v4 cv
     go_upto_region 28 with (go_at_call 89; refine HD.out.2.2.1.mono ?_; rintro e w8 ⟨rfl, f8⟩; have bX8 := f8.blk HD.out.1 (by simp); have x3 := cell_of bX8 3; have v3 := frozen_of bX8 3; simp only [List.getElem?_toArray, List.getElem?_cons_zero, List.getElem?_cons_succ] at x3; have H8 := Lib.hid (And.intro bX8 f8); clear bX8 f8)
     obtain ⟨w9, hw9⟩ : ∃ w9, w9 = w8.setCell ⟨X, 3, none⟩ (.int .u32 (cr : Nat)) := ⟨_, rfl⟩
     rw [← hw9]
     have f9 : Fr [X] w8 w9 := by rw [hw9]; exact (Fr.refl [X] w8).setCell (by simp) _
     have bX9 : w9.heap[X]? = some (.cells #[.int .i64 (k : Nat), .int .i64 (at_ : Nat), .int .i64 (s : Nat), .int .u32 (cr : Nat), .string so, .string (str base), .int .i64 (off : Nat)] 107 (0, 0)) := by rw [hw9]; exact (setCell_of H8.out.1 _).trans rfl
     have bG9 := f9.blk (H8.out.2.blk HD.out.2.2.2.2.2.2 (by simp)) (by simp; exact HGX.out)
     have fw9 : Fr [] w w9 := (HD.out.2.1.trans H8.out.2).step f9 (fun y hy => .inr (by simp at hy; rw [hy]; exact H3.out.2.2.2))
     have H9 := Lib.hid (And.intro bX9 (And.intro bG9 fw9))
     clear bX9 bG9 fw9 f9 hw9 x3 v3 cv2 hsl y0
     go_wp2_with (first | (refine wpList_load_row rfl 107 (.tmp 11) rfl X rfl 107 #[.int .i64 (k : Nat), .int .i64 (at_ : Nat), .int .i64 (s : Nat), .int .u32 (cr : Nat), .string so, .string (str base), .int .i64 (off : Nat)] (0, 0) _ H9.out.1 Tryz.underlying107 rfl infoRRaw ?_) | (refine wpList_store_row rfl 107 (.tmp 4) (.tmp 115) rfl G #[.int .i64 (k : Nat), .int .i64 (at_ : Nat), .int .i64 (s : Nat), .int .u32 (cr : Nat), .string so, .string (str base), .int .i64 (off : Nat)] rfl rfl 107 #[.int .i64 0, .int .i64 0, .int .i64 0, .int .u32 0, .string ⟨#[]⟩, .string ⟨#[]⟩, .int .i64 0] H9.out.2.1 infoRRaw rfl (by kernel_rfl) ?_))
     refine bodyPost_ret (results_rraw rfl _ _ G #[.int .i64 (k : Nat), .int .i64 (at_ : Nat), .int .i64 (s : Nat), .int .u32 (cr : Nat), .string so, .string (str base), .int .i64 (off : Nat)] (0, 0) rfl (setRow_heap _ _ _ _ _ _ H9.out.2.1) rfl) rfl ?_
     refine ⟨H9.out.2.2.setRow (.inr (by rw [HG.out.2.2]; exact Nat.le_refl _)) _, .inr ⟨⟨k, at_, s, cr, out, base, off⟩, u, ?_, ?_, by omega⟩⟩
     ·rw [HP3.out.1, HD.out.2.2.2.1, HD.out.2.2.2.2.1, HD.out.2.2.2.2.2.1]
     ·rw [HSO.out]; rfl
    ·have hP3 := HX.out.2.2.2.1
     rw [if_neg hs2] at hP3
     have hd : ((N : Int) != s) = true := by simp; omega
     have HP3 := Lib.hid hP3
     clear hP3
     go_wp2_with (refine wpList_store_row rfl 107 (.tmp 4) (.tmp 99) rfl G #[.int .i64 0, .int .i64 0, .int .i64 0, .int .u32 0, .string ⟨#[]⟩, .string ⟨#[]⟩, .int .i64 0] rfl rfl 107 #[.int .i64 0, .int .i64 0, .int .i64 0, .int .u32 0, .string ⟨#[]⟩, .string ⟨#[]⟩, .int .i64 0] HX.out.1 infoRRaw rfl (by kernel_rfl) ?_)
     refine bodyPost_ret (results_rraw rfl _ _ G #[.int .i64 0, .int .i64 0, .int .i64 0, .int .u32 0, .string ⟨#[]⟩, .string ⟨#[]⟩, .int .i64 0] (0, 0) rfl (setRow_heap _ _ _ _ _ _ HX.out.1) rfl) rfl ?_
     exact ⟨HX.out.2.2.1.setRow (.inr (by rw [HG.out.2.2]; exact Nat.le_refl _)) _, .inl ⟨3, _, HP3.out, by decide, by decide, rfl, rfl, by kernel_rfl⟩⟩
end Go.Proofs.YtkmpfgpfbmeihaaGreatDoor.pk
namespace Go.Proofs.YtkmpfgpfbmeihaaGreatDoor.sha
open Go Go.RowKit lib bm
theorem word_app (p q : List UInt8) (i : Nat) (h : i + 3 < p.length) : word (p ++ q) i = word p i := by
 unfold word
 rw [List.getElem?_append_left (by omega), List.getElem?_append_left (by omega), List.getElem?_append_left (by omega), List.getElem?_append_left (by omega)]
theorem sched_app (p q : List UInt8) (h : 64 ≤ p.length) : ∀ t, sched (p ++ q) t = sched p t
 | 0 => rfl
 | t + 1 => by
  have e : ∀ x, sched x (t + 1) = sched x t ++ [if t < 16 then word x (4 * t) else rol (bits .xor .u32 (bits .xor .u32 (bits .xor .u32 ((sched x t)[t - 3]?.getD 0) ((sched x t)[t - 8]?.getD 0)) ((sched x t)[t - 14]?.getD 0)) ((sched x t)[t - 16]?.getD 0)) 1] := fun _ => rfl
  refine (e _).trans (Eq.trans ?_ (e _).symm)
  have ih := sched_app p q h t
  generalize sched (p ++ q) t = a at *
  subst ih
  refine congrArg (fun z => sched p t ++ [z]) ?_
  by_cases ht : t < 16
  ·rw [if_pos ht, if_pos ht]; exact word_app p q _ (by omega)
  ·rw [if_neg ht, if_neg ht]
theorem round_app (p q : List UInt8) (h : 64 ≤ p.length) (t : Nat) (s : H5) : round (p ++ q) t s = round p t s := by unfold round; rw [sched_app p q h]
theorem rounds_app (p q : List UInt8) (h : 64 ≤ p.length) (s : H5) : ∀ t, rounds (p ++ q) t s = rounds p t s
 | 0 => rfl
 | t + 1 => by rw [rounds, rounds, rounds_app p q h s t, round_app p q h]
theorem mixH_app (p q : List UInt8) (h : 64 ≤ p.length) (s : H5) : mixH s (p ++ q) = mixH s p := by unfold mixH; rw [rounds_app p q h]
theorem blocks_fuel : ∀ (f g : Nat) (h : H5) (p : List UInt8), p.length ≤ f → p.length ≤ g → blocks f h p = blocks g h p
 | 0, 0, h, p, _, _ => rfl
 | 0, g + 1, h, p, h1, _ => by rw [blocks, blocks, if_neg (by omega)]
 | f + 1, 0, h, p, _, h2 => by rw [blocks, blocks, if_neg (by omega)]
 | f + 1, g + 1, h, p, h1, h2 => by
  rw [blocks, blocks]
  split
  ·exact blocks_fuel f g _ _ (by rw [List.length_drop]; omega) (by rw [List.length_drop]; omega)
  ·rfl
theorem blocks_split : ∀ (f F : Nat) (h : H5) (p q : List UInt8), p.length ≤ f → (p ++ q).length ≤ F → blocks F h (p ++ q) = blocks (leftOf f p ++ q).length (blocks f h p) (leftOf f p ++ q)
 | 0, F, h, p, q, h1, h2 => by
  rw [leftOf, blocks]
  exact blocks_fuel _ _ _ _ h2 (Nat.le_refl _)
 | f + 1, F, h, p, q, h1, h2 => by
  by_cases h64 : 64 ≤ p.length
  ·rw [leftOf, if_pos h64, show blocks (f + 1) h p = blocks f (mixH h p) (p.drop 64) by rw [blocks, if_pos h64]]
   obtain ⟨F', rfl⟩ : ∃ F', F = F' + 1 := ⟨F - 1, by rw [List.length_append] at h2; omega⟩
   rw [blocks, if_pos (by rw [List.length_append]; omega), mixH_app p q h64, List.drop_append_of_le_length h64]
   exact blocks_split f F' _ _ q (by rw [List.length_drop]; omega) (by rw [List.length_append, List.length_drop]; rw [List.length_append] at h2; omega)
  ·rw [leftOf, if_neg h64, show blocks (f + 1) h p = h by rw [blocks, if_neg h64]]
   exact blocks_fuel _ _ _ _ h2 (Nat.le_refl _)
theorem leftOf_mod : ∀ (f : Nat) (p : List UInt8), (leftOf f p).length % 64 = p.length % 64
 | 0, p => by rw [leftOf]
 | f + 1, p => by
  rw [leftOf]
  split
  ·rw [leftOf_mod f, List.length_drop]; omega
  ·rfl
theorem sha1_at_once (s : List UInt8) : sha1 s = dig5 (blocks (padded s s.length).length h0 (padded s s.length)) := by
 have hz : zer ((leftOf s.length s).length + 1) = zer (s.length + 1) := by
  have := leftOf_mod s.length s
  unfold zer
  omega
 have e : ∀ r : List UInt8, zer (r.length + 1) = zer (s.length + 1) → padded r s.length = r ++ ([128] ++ (List.replicate (zer (s.length + 1)) 0 ++ (sums.be4 (s.length / 536870912) ++ sums.be4 (s.length * 8 % 4294967296)))) := fun r hr => by
  unfold padded padTo
  rw [hr]
  simp only [List.append_assoc]
 unfold sha1
 rw [e _ hz, e s rfl, ← blocks_split s.length _ h0 s _ (Nat.le_refl _) (Nat.le_refl _)]
end Go.Proofs.YtkmpfgpfbmeihaaGreatDoor.sha
namespace Go.Proofs.YtkmpfgpfbmeihaaGreatDoor.sha
open Go Go.RowKit lib bm pk
def wv (v : Nat) : Value := .int .u32 (v : Nat)
def be4s (vs : List Nat) : List UInt8 := vs.flatMap sums.be4
theorem be4s_len : ∀ vs : List Nat, (be4s vs).length = 4 * vs.length
 | [] => rfl
 | v :: t => by
  have : be4s (v :: t) = sums.be4 v ++ be4s t := rfl
  rw [this, List.length_append, sums.be4_length, be4s_len t, List.length_cons]; omega
theorem be4s_snoc (vs : List Nat) (v : Nat) : be4s (vs ++ [v]) = be4s vs ++ sums.be4 v := by unfold be4s; rw [List.flatMap_append]; simp
set_option maxHeartbeats 2000000 in
theorem words_any (ao : Option Addr) (cap : Nat) (vs : List Nat) (w : World) (h : Cs w ao (vs.map wv)) (hv : ∀ v ∈ vs, v < 4294967296) (hlen : vs.length ≤ 5) (hlc : vs.length ≤ cap) (hcm : cap ≤ maxLen) :
  Calls Tryz.prog 82 #[.slice ao vs.length cap] w fun e w' => ∃ a c, e = .returned (.slice a (4 * vs.length) c) ∧ lib.Rd w' a c (be4s vs) ∧ (∀ x ∈ blk a, w.heap.size ≤ x ∧ x < w'.heap.size) ∧ Fr [] w w' := by
 obtain ⟨L, hL⟩ : ∃ L, L = vs.length := ⟨_, rfl⟩
 unfold maxLen at hcm
 rw [← hL] at hlen hlc ⊢
 have HI := Lib.hid (And.intro h (And.intro hL hv))
 clear h hL hv
 go_enter Tryz.func82, Tryz.ntmps82
 go_wp2
 go_loopg [3, 4] L (fun k s3 s4 wr => ∃ i a c out, s4 = .int .i64 (i : Nat) ∧ s3 = .slice a out.length c ∧ i + k = L ∧ out = be4s (vs.take i) ∧ Wr w wr a c out)
 case atStart => exact ⟨0, none, 0, [], rfl, rfl, by omega, rfl, wr_start w w (Fr.refl _ _)⟩
 case round =>
  obtain ⟨i, a, c, out, rfl, rfl, hik, ho, hw⟩ := hrel
  have H := Lib.hid (And.intro hw ho)
  have hol : out.length ≤ 20 := by rw [ho, be4s_len, List.length_take]; omega
  clear hw ho
  by_cases hi : i < L
  ·obtain ⟨k, rfl⟩ : ∃ k, gk = k + 1 := ⟨gk - 1, by omega⟩
   have hil : i < vs.length := by rw [← HI.out.2.1]; exact hi
   obtain ⟨g, o, rfl, hc⟩ := HI.out.1.at (by rw [List.length_map]; omega)
   have hci := hc i (wv vs[i]) (by rw [List.getElem?_map, List.getElem?_eq_getElem hil]; rfl)
   have hglt : g < w.heap.size := World.block_lt_of_cell? w _ hci
   have hvb := HI.out.2.2 vs[i] (List.getElem_mem hil)
   have HT := Lib.hid (show vs.take (i + 1) = vs.take i ++ [vs[i]] from List.take_succ_eq_append_getElem hil)
   obtain ⟨v, hvv⟩ : ∃ v, v = vs[i] := ⟨_, rfl⟩
   rw [← hvv] at hci hvb HT
   have hb4 := sums.be4_map v hvb
   have HB := Lib.hid hb4
   unfold wv at hci
   have hcr := H.out.1.fr.cell hci (by simp)
   obtain ⟨S, hS⟩ : ∃ S, S = blk a := ⟨_, rfl⟩
   have hgS : g ∉ S := fun hm => by rw [hS] at hm; have := H.out.1.new g hm; omega
   have q0 : ∀ x, (sup S wr.drew x).cell? ⟨g, o + i, none⟩ = some (.int .u32 (v : Nat)) := fun x => (sup_fr S wr.drew x).cell (show wr.drew.cell? _ = _ from hcr) hgS
   have HS := Lib.hid hS
   clear hc hci hil hvv hb4 hcr hS hglt
   go_upto_region 5 with fail
   refine region_mix 26 [(false, 0), (false, 1), (false, 2), (false, 3), (false, 4), (false, 5), (false, 6), (false, 7), (false, 8), (false, 9), (false, 10), (false, 11), (false, 12), (false, 13), (false, 14), (false, 15), (false, 16), (false, 17), (false, 18), (false, 19), (false, 20), (false, 21), (false, 22), (false, 23), (true, 24), (true, 25)] S (by kernel_rfl) (by kernel_rfl) (fun _ _ d _ _ h => by cases d <;> exact h) ?_
   simp only [List.map_cons, List.map_nil, List.getD_cons_zero, List.getD_cons_succ, List.drop_succ_cons, List.drop_zero, List.drop_nil]
   refine mix_seg 24 rfl ?_
   simp only [List.take_succ_cons, List.take_zero, List.drop_succ_cons, List.drop_zero, List.map_cons, List.map_nil]
   repeat (go_big_quiet_step (fail))
   refine wpQuiet_nil ?_
   clear q0
   refine mix_eff rfl ?_
   intro X hX
   go_wp2
   refine hX.out _ _ ((Fr.refl _ wr.drew).alloc _) ?_
   clear hX X
   have fr0 : Fr [] wr (wr.drew.alloc (.cells #[.int .u8 ((v : Int) / 16777216), .int .u8 ((v : Int) / 65536 % 256), .int .u8 ((v : Int) / 256 % 256), .int .u8 ((v : Int) % 256)] 5)) := (Fr.drew1 [] wr).alloc _
   have ownA := ownsRow_fr H.out.1.own fr0 (by simp)
   have cA : Cs (wr.drew.alloc (.cells #[.int .u8 ((v : Int) / 16777216), .int .u8 ((v : Int) / 65536 % 256), .int .u8 ((v : Int) / 256 % 256), .int .u8 ((v : Int) % 256)] 5)) (some ⟨wr.drew.heap.size, 0, none⟩) ((sums.be4 v).map bv) := by
    rw [HB.out]
    exact .inr ⟨wr.drew.heap.size, 0, rfl, fun j u hj => by rw [cell_of (alloc_at wr.drew _)]; simpa using hj⟩
   refine mix_eff rfl ?_
   intro X hX
   refine wp_append sliceU8 _ _ rfl (.slice a out.length c) out.length (out.map bv) S rfl (by rw [own_blk, HS.out]) ownA (some ⟨wr.drew.heap.size, 0, none⟩) 4 4 ((sums.be4 v).map bv) rfl (by decide) (by simp) cA (by rfl) (bv_one _) (by omega) (by unfold maxLen; omega) ?_
   intro a2 c2 w2 A1
   refine hX.out _ _ A1.fr ?_
   clear hX X
   refine mix_nil ?_
   have HA := Lib.hid (And.intro fr0 A1)
   clear fr0 A1 ownA cA
   go_wp2
   go_roundg k
   case measure => omega
   case rel =>
    have A1 := HA.out.2
    rw [HS.out] at A1
    exact ⟨i + 1, a2, c2, out ++ sums.be4 v, by go_num, by rw [List.length_append]; rfl, by omega, by rw [HT.out, be4s_snoc, ← H.out.2], H.out.1.step2 HA.out.1 A1⟩
  ·obtain rfl : i = L := by omega
   have ho : out = be4s vs := by rw [H.out.2, HI.out.2.1, List.take_length]
   have hn : out.length = 4 * i := by rw [ho, be4s_len, ← HI.out.2.1]
   have HO := Lib.hid (And.intro ho hn)
   clear ho hn
   go_wp2
   go_ret
   obtain ⟨r1, _⟩ := rd_of_owns H.out.1.own
   exact ⟨a, c, by rw [← HO.out.2]; rfl, by rw [← HO.out.1]; exact r1, fun x hx => ⟨H.out.1.new x hx, owns_lt H.out.1.own (blk_own hx)⟩, H.out.1.fr⟩
theorem rol_any (x : Int) (n : Nat) (w : World) (hn : n = 1 ∨ n = 5 ∨ n = 30) :
  Calls Tryz.prog 83 #[.int .u32 x, .int .i64 (n : Nat)] w fun e w' => e = .returned (.int .u32 (rol x n)) ∧ Fr [] w w' := by
 rcases hn with rfl | rfl | rfl
 all_goals
  go_enter Tryz.func83, Tryz.ntmps83
  go_upto_region 1 with fail
  go_quiet (fail)
  go_wp2
  go_ret
  exact ⟨rfl, Fr.drewN _ _ _⟩
end Go.Proofs.YtkmpfgpfbmeihaaGreatDoor.sha
namespace Go.Proofs.YtkmpfgpfbmeihaaGreatDoor.lib
open Go Go.RowKit
theorem frozen_free {w : World} {b : Nat} {c : Array Value} {t : TypeId} {f : Nat × Nat} (h : w.heap[b]? = some (.cells c t f)) (hf : f = (0, 0) ∨ c.size ≤ f.1) (o : Nat) (ho : o < c.size) : w.frozen? ⟨b, o, none⟩ = false := by
 rcases hf with rfl | hf
 ·exact frozen_of h o
 ·simp [World.frozen?, h]
  intro h1
  omega
section
variable {P : Program}
theorem run_storeCells_free (g o : Nat) (t : TypeId) (f : Nat × Nat) : ∀ (vs : List Value) (i : Nat) (cur : Array Value) (w : World), w.heap[g]? = some (.cells cur t f) → (f = (0, 0) ∨ cur.size ≤ f.1) → o + i + vs.length ≤ cur.size → (∀ v ∈ vs, v.oneCell' = true) →
  (storeCells ⟨g, o, none⟩ vs i).run P w = .ok () (w.setRow g (cur.toList.take (o + i) ++ vs ++ cur.toList.drop (o + i + vs.length)).toArray)
 | [], i, cur, w, hg, _, _, _ => by
  simp only [storeCells, List.append_nil, List.length_nil, Nat.add_zero, List.take_append_drop, Array.toArray_toList]
  rw [setRow_self w g cur t f hg]
  rfl
 | v :: rest, i, cur, w, hg, hf, hl, h1 => by
  have hi : o + i < cur.size := by simp at hl; omega
  have hadd : (⟨g, o, none⟩ : Addr).add i = ⟨g, o + i, none⟩ := by unfold Addr.add; split <;> simp_all
  have hcell : w.cell? ⟨g, o + i, none⟩ = some cur[o + i] := by simp [World.cell?, hg, hi]
  have hfro : w.frozen? ⟨g, o + i, none⟩ = false := frozen_free hg hf _ hi
  have hst : (store ((⟨g, o, none⟩ : Addr).add i) v).run P w = .ok () (w.setRow g (cur.setIfInBounds (o + i) v)) := by
   rw [hadd, run_store P w _ v _ (h1 v (by simp)), hcell]
   simp [hfro, setCell_eq_setRow w g (o + i) cur t f v hg]
  have ih := run_storeCells_free g o t f rest (i + 1) (cur.setIfInBounds (o + i) v) (w.setRow g (cur.setIfInBounds (o + i) v)) (setRow_heap w g cur _ t _ hg) (by rw [Array.size_setIfInBounds]; exact hf) (by simp at hl ⊢; omega) (fun x hx => h1 x (by simp [hx]))
  simp only [storeCells, Sem.run_bind, hst, Result.andThen_ok, ih, setRow_setRow]
  congr 3
  have e := list_seg_step cur.toList (o + i) v rest (by simp at hl ⊢; omega)
  simpa [Array.toList_setIfInBounds, Nat.add_assoc] using e
end
def OwnB (w : World) (e : TypeId) (a : Option Addr) (cap : Nat) (xs : List Value) : Prop :=
 (a = none ∧ cap = 0 ∧ xs = []) ∨ ∃ g o cur f, a = some ⟨g, o, none⟩ ∧ w.heap[g]? = some (.cells cur e f) ∧ (f = (0, 0) ∨ cur.size ≤ f.1) ∧ xs.length ≤ cap ∧ cap ≤ maxLen ∧ o + cap ≤ cur.size ∧ (cur.toList.drop o).take xs.length = xs
theorem Own.b {w : World} {e : TypeId} {a : Option Addr} {cap : Nat} {xs : List Value} (h : Own w e a cap xs) : OwnB w e a cap xs := by
 rcases h with h | ⟨g, o, cur, rfl, hg, r⟩
 ·exact .inl h
 ·exact .inr ⟨g, o, cur, _, rfl, hg, .inl rfl, r⟩
theorem OwnB.shape {w : World} {e : TypeId} {a : Option Addr} {cap : Nat} {xs : List Value} (h : OwnB w e a cap xs) : xs.length ≤ cap ∧ cap ≤ maxLen ∧ (a = none → cap = 0) := by
 rcases h with ⟨_, rfl, rfl⟩ | ⟨g, o, cur, f, rfl, _, _, h1, h2, _⟩
 ·exact ⟨Nat.le_refl _, Nat.zero_le _, fun _ => rfl⟩
 ·exact ⟨h1, h2, fun h => by cases h⟩
theorem OwnB.cs {w : World} {e : TypeId} {a : Option Addr} {cap : Nat} {xs : List Value} (h : OwnB w e a cap xs) : Cs w a xs := by
 rcases h with ⟨_, _, rfl⟩ | ⟨g, o, cur, f, rfl, hg, _, h1, h2, h3, h4⟩
 ·exact .inl rfl
 ·refine .inr ⟨g, o, rfl, fun j v hv => ?_⟩
  rw [cell_of hg, ← Array.getElem?_toList]
  rw [← h4, List.getElem?_take] at hv
  split at hv
  ·simpa using hv
  ·cases hv
theorem OwnB.fr {S : List Nat} {w w' : World} {e : TypeId} {a : Option Addr} {cap : Nat} {xs : List Value} (h : OwnB w e a cap xs) (f : Fr S w w') (hn : ∀ x ∈ blk a, x ∉ S) : OwnB w' e a cap xs := by
 rcases h with h | ⟨g, o, cur, z, rfl, hg, r⟩
 ·exact .inl h
 ·exact .inr ⟨g, o, cur, z, rfl, f.blk hg (hn g (by simp [blk])), r⟩
theorem OwnB.lt {w : World} {e : TypeId} {a : Option Addr} {cap : Nat} {xs : List Value} (h : OwnB w e a cap xs) : ∀ x ∈ blk a, x < w.heap.size := by
 rcases h with ⟨rfl, _⟩ | ⟨g, o, cur, f, rfl, hg, r⟩
 ·simp [blk]
 ·intro x hx
  simp [blk] at hx
  rw [hx]
  exact lt_of_block hg
theorem OwnB.rd {w : World} {e : TypeId} {a : Option Addr} {cap : Nat} {bs : List UInt8} (h : OwnB w e a cap (bs.map bv)) : Rd w a cap bs := by
 obtain ⟨h1, h2, h3⟩ := h.shape
 exact ⟨h.cs, by simpa using h1, h2, h3⟩
section
variable {P : Program} {w : World} {t e : TypeId} {z : Value} {bytes : Nat}
structure MoreB (w w' : World) (e : TypeId) (a a' : Option Addr) (cap' : Nat) (xs : List Value) : Prop where
 own : OwnB w' e a' cap' xs
 fr : Fr (blk a) w w'
 at_ : ∀ x ∈ blk a', x ∈ blk a ∨ w.heap.size ≤ x
theorem run_append_b (T : SliceTy P t e z 1 bytes) (ty : TypeId) (a : Option Addr) (n cap : Nat) (xs : List Value) (hown : OwnB w e a cap xs) (hn : xs.length = n)
  (ao : Option Addr) (m c : Nat) (news : List Value) (hmc : m ≤ c) (hnone : ao = none → c = 0) (hc : Cs w ao news) (hl : news.length = m) (h1 : ∀ u ∈ news, u.oneCell' = true)
  (hby : (n + m) * bytes ≤ 140737488355328) (h63 : n + m ≤ maxLen) :
  ∃ a' cap' w', (Builtin.append_ #[t, t] ty #[.slice a n cap, .slice ao m c]).run P w = .ok (.slice a' (n + m) cap') w' ∧ MoreB w w' e a a' cap' (xs ++ news) := by
 subst hn
 have hcs := hown.cs
 rcases hown with ⟨rfl, rfl, rfl⟩ | ⟨g, o, cur, f, rfl, hg, kf, k1, k2, k3, k4⟩
 ·obtain ⟨a', cap', w', hr, A⟩ := run_append_mid (P := P) T ty none 0 0 [] (Own.nil w e) rfl ao m c news hmc hnone hc hl h1 (by simpa using hby) (by simpa using h63)
  exact ⟨a', cap', w', hr, A.own.b, A.fr, A.at_⟩
 ·by_cases hm0 : m = 0
  ·subst hm0
   obtain rfl : news = [] := List.eq_nil_of_length_eq_zero hl
   obtain ⟨hu, ⟨i, hi, hz, hs, hbt⟩, hcz, hp⟩ := T
   refine ⟨some ⟨g, o, none⟩, cap, w, ?_, by rw [List.append_nil]; exact .inr ⟨g, o, cur, f, rfl, hg, kf, k1, k2, k3, k4⟩, Fr.refl _ _, fun x hx => .inl hx⟩
   cases ao with
   | none =>
    have hc0 := hnone rfl
    simp [Builtin.append_, run_underlying hu, sizeOf, typeInfo, hi, Builtin.lenOf, k1, Builtin.firstCells, storeCells]
   | some b =>
    have hf := run_firstCells_some (P := P) w i.size 0 b 0 c [] (by simp) (by simp)
    simp [Builtin.append_, run_underlying hu, sizeOf, typeInfo, hi, Builtin.lenOf, k1, hf, storeCells]
  ·by_cases hroom : xs.length + m ≤ cap
   ·obtain ⟨hu, ⟨i, hi, hz, hs, hbt⟩, hcz, hp⟩ := T
    obtain ⟨g', o', rfl, hcn⟩ := hc.at (by omega)
    have hn' := cs_add hcn
    have hf := run_firstCells_some (P := P) w i.size m ⟨g', o', none⟩ m c news (by rw [hs]; omega) hn'
    have hst := run_storeCells_free (P := P) g (o + xs.length * i.size) e f news 0 cur w hg kf (by rw [hs]; omega) h1
    simp only [Nat.add_zero] at hst
    refine ⟨some ⟨g, o, none⟩, cap, _, ?_, ⟨.inr ⟨g, o, _, f, rfl, setRow_heap w g cur (cur.toList.take (o + xs.length * i.size) ++ news ++ cur.toList.drop (o + xs.length * i.size + news.length)).toArray e f hg, ?_, by rw [List.length_append, hl]; exact hroom, k2, ?_, ?_⟩, ⟨rfl, rfl, rfl, by simp, fun k _ hk => setRow_other w g k _ (fun e => hk (by simp [blk, e]))⟩, fun x hx => .inl hx⟩⟩
    ·simp [Builtin.append_, run_underlying hu, sizeOf, typeInfo, hi, Builtin.lenOf, hroom, hf, Addr.add_lit, hst]
    ·refine kf.imp id fun k => ?_
     simp only [List.size_toArray, List.length_append, List.length_take, List.length_drop, Array.length_toList, hs]
     omega
    ·simp only [List.size_toArray, List.length_append, List.length_take, List.length_drop, Array.length_toList, hs]
     omega
    ·simp only [hs, Nat.mul_one]
     rw [List.drop_append_of_le_length (by simp; omega), List.drop_append_of_le_length (by simp; omega), List.drop_take, Nat.add_sub_cancel_left, k4, List.length_append, hl]
     rw [List.take_append_of_le_length (by simp [hl]), List.take_of_length_le (by simp [hl])]
   ·obtain ⟨cap', w', hr, A⟩ := run_append_full (P := P) T ty (some ⟨g, o, none⟩) xs.length cap xs hcs (by omega) k1 (by simp) ao m c news hc (by omega) (by omega) hby h63
    obtain ⟨o1, _⟩ := own_of_row A.own
    exact ⟨_, cap', w', hr, o1.b, A.fr.mono (by simp), fun x hx => .inr (Nat.le_of_eq (by have := A.at_ x hx; simp at this; exact this.symm))⟩
theorem wpList_append_b (T : SliceTy P t e z 1 bytes) {ops : Array Oper} {rest : List Oper} {o : Oper} {A : Act} {Q : Exit → Act → World → Prop} (hgd : o.guard = none) (s x : Operand)
  (ho : o.op = .call { callee := .builtin .append, args := #[s, x], argTypes := #[t, t] })
  (a : Option Addr) (n cap : Nat) (xs : List Value) (hs : A.eval s = .slice a n cap) (hown : OwnB w e a cap xs) (hn : xs.length = n)
  (ao : Option Addr) (m c : Nat) (news : List Value) (hx : A.eval x = .slice ao m c) (hmc : m ≤ c) (hnone : ao = none → c = 0) (hc : Cs w ao news) (hl : news.length = m) (h1 : ∀ u ∈ news, u.oneCell' = true)
  (hby : (n + m) * bytes ≤ 140737488355328) (h63 : n + m ≤ maxLen)
  (h : ∀ a' cap' w', MoreB w w' e a a' cap' (xs ++ news) → wpList P ops Q rest (A.put o.dst (.slice a' (n + m) cap')) w') : wpList P ops Q (o :: rest) A w :=
 wpList_plain hgd fun _ hK => by
  obtain ⟨a', cap', w', hr, h2⟩ := run_append_b (P := P) T o.type a n cap xs hown hn ao m c news hmc hnone hc hl h1 hby h63
  unfold Oper.wp execOp
  simp only [ho, resolve, invoke, builtin, Sem.run_bind, Sem.run_pure, Result.andThen_ok, List.map_toArray, List.map_cons, List.map_nil, hs, hx, hr]
  exact hK _ _ (h a' cap' w' h2)
theorem wpList_bytes_own {ops : Array Oper} {rest : List Oper} {o : Oper} {a : Act} {Q : Exit → Act → World → Prop} {src dst : TypeId} (hs : P.underlying src = some .string) (hd : P.underlying dst = some (.slice e)) (he : P.underlying e = some (.int .u8))
  (hgd : o.guard = none) (x : Operand) (ho : o.op = .convert src dst x) (bs : List UInt8) (hx : a.eval x = .string (str bs)) (hm : bs.length ≤ maxLen)
  (h : ∀ cap w', bs.length ≤ cap → OwnB w' e (some ⟨w.heap.size, 0, none⟩) cap (bs.map bv) → Fr [] w w' → w.heap.size < w'.heap.size → wpList P ops Q rest (a.put o.dst (.slice (some ⟨w.heap.size, 0, none⟩) bs.length cap)) w') : wpList P ops Q (o :: rest) a w := by
 have hr := run_bytes_of_string (P := P) w src dst e (str bs) hs hd he
 have hsz : (str bs).size = bs.length := by simp [str, ByteArray.size]
 rw [hsz] at hr
 have h1 := grownCap_ge w bs.length 0 e
 have h2 := grownCap_le_maxLen w bs.length 0 e hm
 generalize grownCap w bs.length 0 e = cap at *
 refine wpList_plain hgd fun K hK => ?_
 unfold Oper.wp execOp
 simp only [ho, hx, Sem.run_bind, Result.andThen_ok, Sem.run_pure, hr]
 have hb := alloc_at w.drew (.cells (bytesRow (str bs) cap) e ((bytesRow (str bs) cap).size, (bytesRow (str bs) cap).size + 1))
 have hrow : (bytesRow (str bs) cap).toList.take bs.length = bs.map bv ∧ (bytesRow (str bs) cap).size = cap := by
  constructor
  ·unfold bytesRow
   rw [Array.toList_append, List.take_append_of_le_length (by simp [str]), List.take_of_length_le (by simp [str])]
   simp [str, bv]
  ·unfold bytesRow
   simp
   omega
 refine hK _ _ (h cap _ h1 (.inr ⟨w.heap.size, 0, _, _, rfl, hb, .inr (Nat.le_refl _), by simpa using h1, h2, by rw [hrow.2]; omega, ?_⟩) ((Fr.drew1 [] w).alloc _) (by rw [World.size_alloc]; exact Nat.lt_succ_self _))
 rw [List.drop_zero, List.length_map]
 exact hrow.1
end
end Go.Proofs.YtkmpfgpfbmeihaaGreatDoor.lib
namespace Go.Proofs.YtkmpfgpfbmeihaaGreatDoor.sha
open Go Go.RowKit lib bm
theorem sliceU32 : SliceTy Tryz.prog 147 32 (.int .u32 0) 1 4 := SliceTy.of Tryz.underlying147 (by kernel_rfl) rfl (by decide)
theorem make_words : ∃ A : Array Value, A.size = 80 ∧ ∀ w : World, (Instr.makeSlice 147 (.int .i64 80) (.int .i64 80)).run Tryz.prog w = .ok (.slice (some ⟨w.heap.size, 0, none⟩) 80 80) (w.alloc (.cells A 32)) := by
 obtain ⟨i, hi, hz, hs, hb⟩ := sliceU32.info
 refine ⟨madeCells (Value.int .u32 0).cells 80, size_madeCells _ _, fun w => ?_⟩
 have := run_make (P := Tryz.prog) w 147 32 i (.int .u32 0) Tryz.underlying147 hi hz .i64 .i64 80 80 (by omega) (Int.le_refl _) (by rw [hb]; omega) (by omega)
 simpa [hs] using this
structure Wd (w : World) (B : Nat) (p : List UInt8) (t : Nat) : Prop where
 wb : ∃ A, w.heap[B]? = some (.cells A 32 (0, 0)) ∧ A.size = 80 ∧ ∀ j, j < t → A[j]? = some (.int .u32 (sv p j))
theorem Wd.fr {S : List Nat} {w w' : World} {B t : Nat} {p : List UInt8} (h : Wd w B p t) (f : Fr S w w') (hB : B ∉ S) : Wd w' B p t := by
 obtain ⟨A, hA, r⟩ := h.wb
 exact ⟨A, f.blk hA hB, r⟩
theorem Wd.store {w : World} {B t : Nat} {p : List UInt8} (h : Wd w B p t) (ht : t < 80) (v : Int) (hv : v = sv p t) : Wd (w.setCell ⟨B, t, none⟩ (.int .u32 v)) B p (t + 1) := by
 obtain ⟨A, hA, hAs, hAt⟩ := h.wb
 refine ⟨_, setCell_of hA _, by simp [hAs], fun j hj => ?_⟩
 by_cases e : j = t
 ·subst e
  rw [Array.getElem?_setIfInBounds_self_of_lt (by omega), hv]
 ·rw [Array.getElem?_setIfInBounds_ne (by omega)]
  exact hAt j (by omega)
set_option maxHeartbeats 16000000 in
theorem rsha_any (bs : List UInt8) (w : World) (hlen : bs.length ≤ 140737488355000) :
  Calls Tryz.prog 51 #[.string (str bs)] w fun e w' => (∃ a c, e = .returned (.slice a 20 c) ∧ lib.Rd w' a c (sha1 bs) ∧ ∀ x ∈ lib.blk a, w.heap.size ≤ x ∧ x < w'.heap.size) ∧ Fr [] w w' := by
 obtain ⟨L, hL⟩ : ∃ L, L = bs.length := ⟨_, rfl⟩
 have hsz : (str bs).size = L := by rw [hL]; simp [str, ByteArray.size]
 rw [← hL] at hlen
 have H := Lib.hid hL
 clear hL
 go_enter Tryz.func51, Tryz.ntmps51
 go_upto_block 0 with (first
  | (refine wpList_bytes_own (e := 5) Tryz.underlying9 Tryz.underlying23 Tryz.underlying5 rfl _ rfl bs rfl (by unfold maxLen; have := H.out; omega) ?_; intro cap1 w1 hc1 ho1 f1 hl1; rw [← H.out] at hc1 ⊢; have H1 := Lib.hid (And.intro ho1 (And.intro f1 hl1)); clear ho1 f1 hl1)
  | (refine wpList_append_b sums.sliceU8 rfl _ _ rfl (some ⟨w.heap.size, 0, none⟩) L cap1 (bs.map bv) rfl (H1.out.1.fr ((Fr.refl [] w1).alloc (.cells #[.int .u8 128] 5)) (by simp)) (by rw [List.length_map]; exact H.out.symm) (some ⟨w1.heap.size, 0, none⟩) 1 1 [.int .u8 128] rfl (by omega) (by simp) (cs_new w1 _ _ _) rfl (by simp [Value.oneCell']) (by omega) (by unfold maxLen; omega) ?_; intro a2 q2 w2 A2; have H2 := Lib.hid A2; clear A2))
 have fw2 : Fr [] w w2 := (H1.out.2.1.trans ((Fr.refl [] w1).alloc (.cells #[.int .u8 128] 5))).step H2.out.fr (fun y hy => .inr (by simp [lib.blk] at hy; omega))
 have hnew2 : ∀ x ∈ lib.blk a2, w.heap.size ≤ x := fun x hx => by
  have h1 := H1.out.2.1.size
  rcases H2.out.at_ x hx with k | k
  ·simp [lib.blk] at k; omega
  ·rw [World.size_alloc] at k; omega
 have hown2 : OwnB w2 5 a2 q2 ((bs ++ [128]).map bv) := by rw [List.map_append]; exact H2.out.own
 obtain ⟨Z, hZ⟩ : ∃ Z, Z = zer (L + 1) := ⟨_, rfl⟩
 have hZ2 : Z < 64 ∧ (L + 1 + Z) % 64 = 56 := by rw [hZ]; unfold zer; omega
 have HW := Lib.hid (And.intro fw2 (And.intro hnew2 (And.intro hown2 hZ)))
 clear fw2 hnew2 hown2 hZ H1 H2
 go_wp2
 go_loopg [4] Z (fun k s4 wr => ∃ (j N : Nat) (a : Option Addr) (q : Nat), s4 = .slice a N q ∧ N = L + 1 + j ∧ j + k = Z ∧ OwnB wr 5 a q ((bs ++ [128] ++ List.replicate j 0).map bv) ∧ Fr [] w wr ∧ ∀ x ∈ lib.blk a, w.heap.size ≤ x)
 case atStart => exact ⟨0, L + 1, a2, q2, rfl, rfl, by omega, by simpa using HW.out.2.2.1, HW.out.1, HW.out.2.1⟩
 case round =>
  obtain ⟨j, N, a, q, rfl, hN, hjk, hown, hf, hnew⟩ := hrel
  obtain ⟨p1, p2, p3⟩ := hown.shape
  have hll : (bs ++ [128] ++ List.replicate j (0 : UInt8)).length = N := by
   simp only [List.length_append, List.length_singleton, List.length_replicate]
   rw [← H.out, hN]
  rw [List.length_map, hll] at p1
  have HR := Lib.hid (And.intro hown (And.intro hf (And.intro hnew hll)))
  clear hown hf hnew hll
  have hNb : N ≤ 140737488355200 := by omega
  by_cases hj : j < Z
  ·obtain ⟨k, rfl⟩ : ∃ k, gk = k + 1 := ⟨gk - 1, by omega⟩
   have hne : ¬ (N % 64 = 56) := by omega
   have d1 : ((N : Int) % 64 != 56) = true := by simp; omega
   have HN := Lib.hid (And.intro hN hjk)
   clear hne hN hjk
   go_wp2_with (refine wpList_append_b sums.sliceU8 rfl _ _ rfl a N q ((bs ++ [128] ++ List.replicate j 0).map bv) rfl (HR.out.1.fr ((Fr.refl [] wr).alloc (.cells #[.int .u8 0] 5)) (by simp)) (by rw [List.length_map]; exact HR.out.2.2.2) (some ⟨wr.heap.size, 0, none⟩) 1 1 [.int .u8 0] rfl (by omega) (by simp) (cs_new wr _ _ _) rfl (by simp [Value.oneCell']) (by omega) (by unfold maxLen; omega) ?_; intro a4 q4 w4 A4; have H4 := Lib.hid A4; clear A4)
   go_roundg k
   case measure => omega
   case rel =>
    obtain ⟨hN, hjk⟩ := HN.out
    refine ⟨j + 1, N + 1, a4, q4, rfl, by omega, by omega, ?_, (HR.out.2.1.trans ((Fr.refl [] wr).alloc (.cells #[.int .u8 0] 5))).step H4.out.fr (fun y hy => .inr (HR.out.2.2.1 y hy)), fun x hx => ?_⟩
    ·rw [List.replicate_succ', ← List.append_assoc, List.map_append]
     exact H4.out.own
    ·have h1 := HR.out.2.1.size
     rcases H4.out.at_ x hx with k | k
     ·exact HR.out.2.2.1 x k
     ·rw [World.size_alloc] at k; omega
  ·obtain rfl : j = Z := by omega
   obtain rfl : gk = 0 := by omega
   have d1 : ((N : Int) % 64 != 56) = false := by simp; omega
   obtain ⟨x1, hx1⟩ : ∃ x, x = L / 536870912 := ⟨_, rfl⟩
   obtain ⟨x2, hx2⟩ : ∃ x, x = L * 8 % 4294967296 := ⟨_, rfl⟩
   have e1 : (L : Int) * 8 / 4294967296 = (x1 : Int) := by omega
   have e2 : ((L : Int) * 8) % 4294967296 = (x2 : Int) := by omega
   have hx1l : x1 < 4294967296 := by omega
   have hx2l : x2 < 4294967296 := by omega
   have hwd := fun w' h => words_any (some ⟨wr.heap.size, 0, none⟩) 2 [x1, x2] w' h (by intro v hv; simp only [List.mem_cons, List.not_mem_nil, or_false] at hv; rcases hv with rfl | rfl <;> assumption) (by simp) (by simp) (by decide)
   have hpd : bs ++ [128] ++ List.replicate j (0 : UInt8) ++ be4s [x1, x2] = padded bs L := by
    have : be4s [x1, x2] = sums.be4 x1 ++ sums.be4 x2 := by simp [be4s]
    rw [this, padded, padTo, hx1, hx2, ← H.out, ← HW.out.2.2.2, ← List.append_assoc]
   have HN := Lib.hid (And.intro hN (And.intro hwd hpd))
   clear hN hjk hwd hpd hx1 hx2 hj
   have fAl : Fr [] w (wr.alloc (.cells #[.int .u32 (x1 : Nat), .int .u32 (x2 : Nat)] 32)) := HR.out.2.1.alloc _
   have hownA := HR.out.1.fr ((Fr.refl [] wr).alloc (.cells #[.int .u32 (x1 : Nat), .int .u32 (x2 : Nat)] 32)) (by simp)
   have HAl := Lib.hid (And.intro fAl hownA)
   clear fAl hownA
   go_upto_region 6 with (first
    | (go_at_call 82; refine (HN.out.2.1 _ (cs_new wr #[.int .u32 (x1 : Nat), .int .u32 (x2 : Nat)] 32 (0, 0))).mono ?_; rintro e w5 ⟨a5, c5, rfl, r5, n5, f5⟩; have hle5 := r5.le; rw [be4s_len] at hle5; simp only [List.length_cons, List.length_nil] at hle5; have H5 := Lib.hid (And.intro r5 (And.intro n5 f5)); clear r5 n5 f5)
    | (refine wpList_append_b sums.sliceU8 rfl _ _ rfl a N q ((bs ++ [128] ++ List.replicate j 0).map bv) rfl (HAl.out.2.fr H5.out.2.2 (by simp)) (by rw [List.length_map]; exact HR.out.2.2.2) a5 8 c5 ((be4s [x1, x2]).map bv) rfl (by omega) H5.out.1.nil H5.out.1.cs (by rw [List.length_map, be4s_len]; rfl) (sums.bv_one _) (by omega) (by unfold maxLen; omega) ?_; intro a6 q6 w6 A6; rw [← List.map_append, HN.out.2.2] at A6; have H6 := Lib.hid A6; clear A6))
   obtain ⟨pd, hpd⟩ : ∃ pd, pd = padded bs L := ⟨_, rfl⟩
   rw [← hpd] at H6
   have hf6 : Fr [] w w6 := (HAl.out.1.trans H5.out.2.2).step H6.out.fr (fun y hy => .inr (HR.out.2.2.1 y hy))
   have hn6 : ∀ x ∈ lib.blk a6, x < w6.heap.size := H6.out.own.lt
   have hrd6 := H6.out.own.rd
   have hpl : pd.length = N + 8 := by
    rw [hpd, ← HN.out.2.2, List.length_append, HR.out.2.2.2, be4s_len]; rfl
   have hpm : pd.length % 64 = 0 := by rw [hpd]; exact padded_length bs L
   obtain ⟨PB, hPB⟩ : ∃ PB, PB = pd.length := ⟨_, rfl⟩
   obtain ⟨RES, hRES⟩ : ∃ RES, RES = blocks PB h0 pd := ⟨_, rfl⟩
   have hres : sha1 bs = dig5 RES := by rw [sha1_at_once, ← H.out, ← hpd, ← hPB, ← hRES]
   rw [← hPB] at hpm
   rw [show N + 8 = PB by omega]
   have hcq6 := hrd6.le
   have hcm6 := hrd6.max
   unfold maxLen at hcm6
   rw [← hPB] at hcq6
   have hPBb : PB ≤ 140737488355300 := by omega
   have HP := Lib.hid (And.intro hf6 (And.intro hn6 (And.intro hrd6 (And.intro hPB (And.intro hRES hres)))))
   clear hf6 hn6 hrd6 hpl hPB hRES hres hpd H5 H6 HAl d1 e1 e2 hx1l hx2l
   obtain ⟨A80, hA80, hmk⟩ := make_words
   go_upto_block 2 with fail
   obtain ⟨Q, w7, hQ, hw7, f7, b7, d7⟩ : ∃ Q w7, Q = w6.heap.size ∧ w7 = (w6.alloc (.cells #[.int .u32 1732584193, .int .u32 4023233417, .int .u32 2562383102, .int .u32 271733878, .int .u32 3285377520] 32)).alloc (.cells A80 32) ∧ Fr [] w6 w7 ∧ w7.heap[Q]? = some (.cells h0.vals 32 (0, 0)) ∧ w7.heap[Q + 1]? = some (.cells A80 32 (0, 0)) :=
    ⟨_, _, rfl, rfl, ((Fr.refl [] w6).alloc _).alloc _, alloc_old _ (alloc_at w6 _), by have := alloc_at (w6.alloc (.cells #[.int .u32 1732584193, .int .u32 4023233417, .int .u32 2562383102, .int .u32 271733878, .int .u32 3285377520] 32)) (.cells A80 32); rw [World.size_alloc] at this; exact this⟩
   rw [← hw7, ← hQ]
   have H7 := Lib.hid (And.intro f7 (And.intro b7 (And.intro d7 (And.intro hQ hA80))))
   clear hw7 hQ f7 b7 d7 hmk hA80
   go_wp2
   go_loopg [5, 7] PB (fun k s5 s7 wr => ∃ (at_ B : Nat) (h' : H5), s7 = .int .i64 (at_ : Nat) ∧ s5 = .slice (some ⟨B, 0, none⟩) 5 5 ∧ at_ % 64 = 0 ∧ at_ ≤ PB ∧ PB - at_ ≤ k ∧ B ≠ Q + 1 ∧ wr.heap[B]? = some (.cells h'.vals 32 (0, 0)) ∧ Wd wr (Q + 1) [] 0 ∧ Fr [Q + 1] w7 wr ∧ Rng h' ∧ blocks k h' (pd.drop at_) = RES)
   case atStart => exact ⟨0, Q, h0, rfl, rfl, rfl, Nat.zero_le _, by omega, by omega, H7.out.2.1, ⟨A80, H7.out.2.2.1, H7.out.2.2.2.2, fun j hj => by omega⟩, Fr.refl _ _, h0_rng, HP.out.2.2.2.2.1.symm⟩
   case round =>
    obtain ⟨at_, B, h', rfl, rfl, hat, hatl, hatk, hBQ, hbB, hwd, hf, hrg, hbl⟩ := hrel
    have HL := Lib.hid (And.intro hBQ (And.intro hbB (And.intro hwd (And.intro hf (And.intro hrg (And.intro hbl hatk))))))
    have hatk2 := hatk
    clear hBQ hbB hwd hf hrg hbl hatk
    by_cases hlt : at_ < PB
    ·have h64 : at_ + 64 ≤ PB := by omega
     obtain ⟨k, rfl⟩ : ∃ k, gk = k + 1 := ⟨gk - 1, by omega⟩
     obtain ⟨p, hp⟩ : ∃ p, p = pd.drop at_ := ⟨_, rfl⟩
     have hpl : p.length = PB - at_ := by rw [hp, List.length_drop, ← HP.out.2.2.2.1]
     have HPP := Lib.hid (And.intro hp hpl)
     clear hp hpl
     obtain ⟨wo, hwo⟩ : ∃ wo, wo = wr := ⟨_, rfl⟩
     rw [← hwo] at HL ⊢
     clear hwo
     go_upto_block 4 with fail
     go_wp2
     go_loopg [8] 80 (fun k s8 wz => ∃ t : Nat, s8 = .int .i64 (t : Nat) ∧ t + k = 80 ∧ Wd wz (Q + 1) p t ∧ Fr [Q + 1] wo wz)
     case atStart => exact ⟨0, rfl, rfl, (by obtain ⟨A, h1, h2, _⟩ := HL.out.2.2.1.wb; exact ⟨A, h1, h2, fun j hj => by omega⟩), Fr.refl _ _⟩
     case round =>
      obtain ⟨t, rfl, htk, hwd, hf⟩ := hrel
      have HW2 := Lib.hid (And.intro hwd hf)
      clear hwd hf
      by_cases ht : t < 80
      ·obtain ⟨k2, rfl⟩ : ∃ k, gk = k + 1 := ⟨gk - 1, by omega⟩
       obtain ⟨A, hA, hAs, hAt⟩ := HW2.out.1.wb
       have zA := frozen_of hA t
       obtain ⟨xo, hxo⟩ : ∃ x, wr.cell? ⟨Q + 1, t, none⟩ = some x := ⟨A[t]'(by omega), by rw [cell_of hA]; exact Array.getElem?_eq_getElem (by omega)⟩
       have it : (t : Int) < 80 := by omega
       by_cases ht16 : t < 16
       ·obtain ⟨m0, hm0⟩ : ∃ m, m = at_ + 4 * t := ⟨_, rfl⟩
        have em0 : (at_ : Int) + 4 * (t : Int) = (m0 : Int) := by omega
        have Hm0 := Lib.hid hm0
        have HAA := Lib.hid (And.intro hA (And.intro hAs (And.intro hAt (And.intro zA hxo))))
        clear hm0 hA hAs hAt zA hxo
        go_upto_region 16 with fail
        have hm0 := Hm0.out
        have zA := HAA.out.2.2.2.1
        have hxo := HAA.out.2.2.2.2
        have hrr := (HP.out.2.2.1.fr H7.out.1).frS (HL.out.2.2.2.1.trans HW2.out.2) (fun x hx hm => by have := HP.out.2.1 x hx; have := H7.out.2.2.2.1; simp at hm; omega)
        obtain ⟨m1, hm1⟩ : ∃ m, m = m0 + 1 := ⟨_, rfl⟩
        obtain ⟨m2, hm2⟩ : ∃ m, m = m0 + 2 := ⟨_, rfl⟩
        obtain ⟨m3, hm3⟩ : ∃ m, m = m0 + 3 := ⟨_, rfl⟩
        have hPBl := HP.out.2.2.2.1
        have b0 : m0 < pd.length := by omega
        have b1 : m1 < pd.length := by omega
        have b2 : m2 < pd.length := by omega
        have b3 : m3 < pd.length := by omega
        obtain ⟨g, o, ea, X0⟩ := hrr.at b0
        obtain ⟨_, _, q1, X1⟩ := hrr.at b1
        obtain ⟨_, _, q2, X2⟩ := hrr.at b2
        obtain ⟨_, _, q3, X3⟩ := hrr.at b3
        subst ea
        simp only [Option.some.injEq, Addr.mk.injEq, and_true] at q1 q2 q3
        obtain ⟨rfl, rfl⟩ := q1
        obtain ⟨rfl, rfl⟩ := q2
        obtain ⟨rfl, rfl⟩ := q3
        have hw : word p (4 * t) = ((pd[m0].toNat * 16777216 + pd[m1].toNat * 65536 + pd[m2].toNat * 256 + pd[m3].toNat : Nat) : Int) := by
         unfold word
         rw [HPP.out.1, List.getElem?_drop, List.getElem?_drop, List.getElem?_drop, List.getElem?_drop, show at_ + 4 * t = m0 by omega, show at_ + (4 * t + 1) = m1 by omega, show at_ + (4 * t + 2) = m2 by omega, show at_ + (4 * t + 3) = m3 by omega, List.getElem?_eq_getElem b0, List.getElem?_eq_getElem b1, List.getElem?_eq_getElem b2, List.getElem?_eq_getElem b3]
         rfl
        have l0 := UInt8.toNat_lt pd[m0]
        have l1 := UInt8.toNat_lt pd[m1]
        have l2 := UInt8.toNat_lt pd[m2]
        have l3 := UInt8.toNat_lt pd[m3]
        generalize pd[m0].toNat = y0 at *
        generalize pd[m1].toNat = y1 at *
        generalize pd[m2].toNat = y2 at *
        generalize pd[m3].toNat = y3 at *
        obtain ⟨z1, hz1⟩ : ∃ z, z = y0 * 16777216 + y1 * 65536 := ⟨_, rfl⟩
        obtain ⟨z2, hz2⟩ : ∃ z, z = z1 + y2 * 256 := ⟨_, rfl⟩
        obtain ⟨z3, hz3⟩ : ∃ z, z = z2 + y3 := ⟨_, rfl⟩
        have r1 : bits .or .u32 ((y0 : Int) * 16777216) ((y1 : Int) * 65536) = (z1 : Int) := by
         have := sums.or_hi (y0 * 16777216) (y1 * 65536) 24 (by omega) (by decide) (by omega) (by omega)
         rw [← hz1] at this
         simpa using this
        have r2 : bits .or .u32 (z1 : Int) ((y2 : Int) * 256) = (z2 : Int) := by
         have := sums.or_hi z1 (y2 * 256) 16 (by omega) (by decide) (by omega) (by omega)
         rw [← hz2] at this
         simpa using this
        have r3 : bits .or .u32 (z2 : Int) (y3 : Int) = (z3 : Int) := by
         have := sums.or_hi z2 y3 8 (by omega) (by decide) (by omega) (by omega)
         rw [← hz3] at this
         exact this
        have HV : Hid ((z3 : Int) = sv p t) := Lib.hid (by rw [sv_lo p t ht16, hw]; congr 1; omega)
        have HM := Lib.hid (And.intro hm1 (And.intro hm2 hm3))
        have hm0b : m0 + 3 < PB := by omega
        clear hrr hPBl hw hz1 hz2 hz3 hm0 hm1 hm2 hm3 b0 b1 b2 b3 em0
        have e1 : (m0 : Int) + 1 = (m1 : Int) := by have := HM.out; omega
        have e2 : (m0 : Int) + 2 = (m2 : Int) := by have := HM.out; omega
        have e3 : (m0 : Int) + 3 = (m3 : Int) := by have := HM.out; omega
        have w1' : IntKind.i64.wrap ((m0 : Int) + 1) = (m1 : Int) := by rw [IntKind.wrap_i64]; omega
        have w2' : IntKind.i64.wrap ((m0 : Int) + 2) = (m2 : Int) := by rw [IntKind.wrap_i64]; omega
        have w3' : IntKind.i64.wrap ((m0 : Int) + 3) = (m3 : Int) := by rw [IntKind.wrap_i64]; omega
        have i0 : (m0 : Int) < (PB : Int) := by omega
        have i1 : (m1 : Int) < (PB : Int) := by omega
        have i2 : (m2 : Int) < (PB : Int) := by omega
        have i3 : (m3 : Int) < (PB : Int) := by omega
        refine region_tail 32 (by kernel_rfl) (by kernel_rfl) ?_
        simp only [List.take_succ_cons, List.take_zero, List.drop_succ_cons, List.drop_zero]
        repeat (go_big_quiet_step (fail))
        refine wpQuiet_nil ?_
        clear X0 X1 X2 X3 w1' w2' w3' r1 r2 r3 e1 e2 e3
        go_wp2
        go_roundg k2
        case measure => omega
        case rel => exact ⟨t + 1, by go_num, by omega, (HW2.out.1.fr (Fr.drew1 [] wr) (by simp)).store ht _ HV.out, (HW2.out.2.trans (Fr.drew1 [Q + 1] wr)).setCell (by simp) _⟩
       ·have HAA := Lib.hid (And.intro hA (And.intro hAs (And.intro hAt (And.intro zA hxo))))
        clear hA hAs hAt zA hxo
        have ht16b : decide (t < 16) = false := by simpa using ht16
        go_upto_region 17 with fail
        clear ht16b
        obtain ⟨hA, hAs, hAt, _, _⟩ := HAA.out
        obtain ⟨n3, hn3⟩ : ∃ m, m = t - 3 := ⟨_, rfl⟩
        obtain ⟨n8, hn8⟩ : ∃ m, m = t - 8 := ⟨_, rfl⟩
        obtain ⟨n14, hn14⟩ : ∃ m, m = t - 14 := ⟨_, rfl⟩
        obtain ⟨n16, hn16⟩ : ∃ m, m = t - 16 := ⟨_, rfl⟩
        have e3 : (t : Int) - 3 = (n3 : Int) := by omega
        have e8 : (t : Int) - 8 = (n8 : Int) := by omega
        have e14 : (t : Int) - 14 = (n14 : Int) := by omega
        have e16 : (t : Int) - 16 = (n16 : Int) := by omega
        have w3 : IntKind.i64.wrap ((t : Int) - 3) = (n3 : Int) := by rw [IntKind.wrap_i64]; omega
        have w8 : IntKind.i64.wrap ((t : Int) - 8) = (n8 : Int) := by rw [IntKind.wrap_i64]; omega
        have w14 : IntKind.i64.wrap ((t : Int) - 14) = (n14 : Int) := by rw [IntKind.wrap_i64]; omega
        have w16 : IntKind.i64.wrap ((t : Int) - 16) = (n16 : Int) := by rw [IntKind.wrap_i64]; omega
        have x3 : ∀ x, (sup [] wr.drew x).cell? ⟨Q + 1, n3, none⟩ = some (.int .u32 (sv p n3)) := fun x => (sup_fr [] wr.drew x).cell (show wr.drew.cell? _ = _ from (cell_of hA n3).trans (hAt n3 (by omega))) (by simp)
        have x8 : ∀ x, (sup [] wr.drew x).cell? ⟨Q + 1, n8, none⟩ = some (.int .u32 (sv p n8)) := fun x => (sup_fr [] wr.drew x).cell (show wr.drew.cell? _ = _ from (cell_of hA n8).trans (hAt n8 (by omega))) (by simp)
        have x14 : ∀ x, (sup [] wr.drew x).cell? ⟨Q + 1, n14, none⟩ = some (.int .u32 (sv p n14)) := fun x => (sup_fr [] wr.drew x).cell (show wr.drew.cell? _ = _ from (cell_of hA n14).trans (hAt n14 (by omega))) (by simp)
        have x16 : ∀ x, (sup [] wr.drew x).cell? ⟨Q + 1, n16, none⟩ = some (.int .u32 (sv p n16)) := fun x => (sup_fr [] wr.drew x).cell (show wr.drew.cell? _ = _ from (cell_of hA n16).trans (hAt n16 (by omega))) (by simp)
        have i3 : (n3 : Int) < 80 := by omega
        have i8 : (n8 : Int) < 80 := by omega
        have i14 : (n14 : Int) < 80 := by omega
        have i16 : (n16 : Int) < 80 := by omega
        have hv := sv_hi p t (by omega) ht
        rw [← hn3, ← hn8, ← hn14, ← hn16] at hv
        have HV := Lib.hid hv
        clear hA hAs hAt hn3 hn8 hn14 hn16 hv
        refine region_mix 27 [(false, 0), (false, 1), (false, 2), (false, 3), (false, 4), (false, 5), (false, 6), (false, 7), (false, 8), (false, 9), (false, 10), (false, 11), (false, 12), (false, 13), (false, 14), (false, 15), (false, 16), (false, 17), (false, 18), (false, 19), (false, 20), (false, 21), (false, 22), (false, 23), (false, 24), (true, 25), (false, 26)] [] (by kernel_rfl) (by kernel_rfl) (fun _ _ d _ _ h => by cases d <;> exact h) ?_
        simp only [List.map_cons, List.map_nil, List.getD_cons_zero, List.getD_cons_succ, List.drop_succ_cons, List.drop_zero, List.drop_nil]
        refine mix_seg 25 rfl ?_
        simp only [List.take_succ_cons, List.take_zero, List.drop_succ_cons, List.drop_zero, List.map_cons, List.map_nil]
        repeat (go_big_quiet_step (fail))
        refine wpQuiet_nil ?_
        clear x3 x8 x14 x16 w3 w8 w14 w16 e3 e8 e14 e16
        refine mix_eff rfl ?_
        intro X hX
        go_wp2_with (go_at_call 83; refine (rol_any _ 1 _ (.inl rfl)).mono ?_; rintro e w8 ⟨rfl, f8⟩)
        refine hX.out _ _ f8 ?_
        clear hX X
        refine mix_seg 1 rfl ?_
        simp only [List.take_succ_cons, List.take_zero, List.drop_succ_cons, List.drop_zero, List.map_cons, List.map_nil]
        repeat (go_big_quiet_step (fail))
        refine wpQuiet_nil ?_
        refine mix_nil ?_
        have hA8 := f8.blk (show wr.drew.heap[Q + 1]? = _ from HAA.out.1) (by simp)
        have z8 := frozen_of hA8 t
        have c8 : w8.cell? ⟨Q + 1, t, none⟩ = some (A[t]'(by rw [HAA.out.2.1]; exact ht)) := by rw [cell_of hA8]; exact Array.getElem?_eq_getElem (by rw [HAA.out.2.1]; exact ht)
        have H8 := Lib.hid f8
        clear hA8 f8
        go_wp2
        go_roundg k2
        case measure => omega
        case rel => exact ⟨t + 1, by go_num, by omega, ((HW2.out.1.fr (Fr.drew1 [] wr) (by simp)).fr H8.out (by simp)).store ht _ HV.out.symm, ((HW2.out.2.trans (Fr.drew1 [Q + 1] wr)).trans (H8.out.mono (by simp))).setCell (by simp) _⟩
      ·obtain rfl : t = 80 := by omega
       obtain rfl : gk = 0 := by omega
       have hbB := HW2.out.2.blk HL.out.2.1 (by simp; exact HL.out.1)
       have k0 := cell_of hbB 0
       have k1 := cell_of hbB 1
       have k2 := cell_of hbB 2
       have k3 := cell_of hbB 3
       have k4 := cell_of hbB 4
       unfold H5.vals at k0 k1 k2 k3 k4
       simp only [List.getElem?_toArray, List.getElem?_cons_zero, List.getElem?_cons_succ] at k0 k1 k2 k3 k4
       have HBB := Lib.hid hbB
       clear hbB
       obtain ⟨wi, hwi⟩ : ∃ wi, wi = wr := ⟨_, rfl⟩
       rw [← hwi] at HW2 HBB k0 k1 k2 k3 k4 ⊢
       clear hwi
       go_upto_block 6 with fail
       clear k0 k1 k2 k3 k4
       go_wp2
       go_loopg [10, 11, 12, 13, 14, 15] 80 (fun k s10 s11 s12 s13 s14 s15 wr => ∃ t : Nat, s15 = .int .i64 (t : Nat) ∧ t + k = 80 ∧ s10 = .int .u32 (rounds p t h').a ∧ s11 = .int .u32 (rounds p t h').b ∧ s12 = .int .u32 (rounds p t h').c ∧ s13 = .int .u32 (rounds p t h').d ∧ s14 = .int .u32 (rounds p t h').e ∧ Fr [] wi wr)
       case atStart => exact ⟨0, rfl, rfl, rfl, rfl, rfl, rfl, rfl, Fr.refl _ _⟩
       case round =>
        obtain ⟨t, rfl, htk3, rfl, rfl, rfl, rfl, rfl, hf⟩ := hrel
        have HF := Lib.hid hf
        clear hf
        by_cases ht : t < 80
        ·obtain ⟨k3, rfl⟩ : ∃ k, gk = k + 1 := ⟨gk - 1, by omega⟩
         have hro : rounds p (t + 1) h' = round p t (rounds p t h') := rfl
         unfold round at hro
         have hsv : (sched p 80)[t]?.getD 0 = sv p t := rfl
         rw [hsv] at hro
         generalize rounds p t h' = s at *
         obtain ⟨sa, sb, sc, sd, se⟩ := s
         simp only at hro
         obtain ⟨A, hA, hAs, hAt⟩ := (HW2.out.1.fr HF.out (by simp)).wb
         have xw : ∀ x, (sup [] wr.drew x).cell? ⟨Q + 1, t, none⟩ = some (.int .u32 (sv p t)) := fun x => (sup_fr [] wr.drew x).cell (show wr.drew.cell? _ = _ from (cell_of hA t).trans (hAt t ht)) (by simp)
         have it : (t : Int) < 80 := by omega
         obtain ⟨q3, hq⟩ : ∃ q, q = t / 20 := ⟨_, rfl⟩
         rw [← hq] at hro
         have HR3 := Lib.hid hro
         clear hro hsv hA hAs hAt
         rcases (show q3 = 0 ∨ q3 = 1 ∨ q3 = 2 ∨ q3 = 3 by omega) with rfl | rfl | rfl | rfl
         ·have g60 : decide ((60 : Int) ≤ (t : Int)) = false := by simp; omega
          have gg60 : decide (60 ≤ t) = false := by simp; omega
          have g40 : decide ((40 : Int) ≤ (t : Int)) = false := by simp; omega
          have gg40 : decide (40 ≤ t) = false := by simp; omega
          have g20 : decide ((20 : Int) ≤ (t : Int)) = false := by simp; omega
          have gg20 : decide (20 ≤ t) = false := by simp; omega
          clear hq
          go_upto_region 37 with fail
          clear g60 g40 g20 gg60 gg40 gg20
          refine region_mix 14 [(false, 0), (false, 2), (false, 4), (false, 6), (false, 8), (false, 9), (false, 10), (false, 11), (true, 1), (false, 3), (false, 5), (false, 7), (false, 12), (false, 13)] [] (by kernel_rfl) (by kernel_rfl) (fun _ _ d _ _ h => by cases d <;> exact h) ?_
          simp only [List.map_cons, List.map_nil, List.getD_cons_zero, List.getD_cons_succ, List.drop_succ_cons, List.drop_zero, List.drop_nil]
          refine mix_seg 8 rfl ?_
          simp only [List.take_succ_cons, List.take_zero, List.drop_succ_cons, List.drop_zero, List.map_cons, List.map_nil]
          repeat (go_big_quiet_step (fail))
          refine wpQuiet_nil ?_
          clear xw
          refine mix_eff rfl ?_
          intro X hX
          go_wp2_with (go_at_call 83; refine (rol_any _ 5 _ (.inr (.inl rfl))).mono ?_; rintro e w8 ⟨rfl, f8⟩)
          refine hX.out _ _ f8 ?_
          clear hX X
          refine mix_seg 5 rfl ?_
          simp only [List.take_succ_cons, List.take_zero, List.drop_succ_cons, List.drop_zero, List.map_cons, List.map_nil]
          repeat (go_big_quiet_step (fail))
          refine wpQuiet_nil ?_
          refine mix_nil ?_
          have H8 := Lib.hid f8
          clear f8
          go_wp2_with (go_at_call 83; refine (rol_any _ 30 _ (.inr (.inr rfl))).mono ?_; rintro e w9 ⟨rfl, f9⟩; have H9 := Lib.hid f9; clear f9)
          go_roundg k3
          case measure => omega
          case rel =>
           refine ⟨t + 1, by go_num, by omega, ?_, ?_, ?_, ?_, ?_, ((HF.out.trans (Fr.drew1 [] wr)).trans H8.out).trans H9.out⟩
           all_goals rw [HR3.out]
           all_goals (first | rfl | (simp only [add32, Int.emod_add_emod, Int.add_emod_emod, fsel, ksel, ch, par, maj, not32]))
         ·have g60 : decide ((60 : Int) ≤ (t : Int)) = false := by simp; omega
          have gg60 : decide (60 ≤ t) = false := by simp; omega
          have g40 : decide ((40 : Int) ≤ (t : Int)) = false := by simp; omega
          have gg40 : decide (40 ≤ t) = false := by simp; omega
          have g20 : (20 : Int) ≤ (t : Int) := by omega
          have gg20 : 20 ≤ t := by omega
          clear hq
          go_upto_region 37 with fail
          clear g60 g40 g20 gg60 gg40 gg20
          refine region_mix 14 [(false, 0), (false, 2), (false, 4), (false, 6), (false, 8), (false, 9), (false, 10), (false, 11), (true, 1), (false, 3), (false, 5), (false, 7), (false, 12), (false, 13)] [] (by kernel_rfl) (by kernel_rfl) (fun _ _ d _ _ h => by cases d <;> exact h) ?_
          simp only [List.map_cons, List.map_nil, List.getD_cons_zero, List.getD_cons_succ, List.drop_succ_cons, List.drop_zero, List.drop_nil]
          refine mix_seg 8 rfl ?_
          simp only [List.take_succ_cons, List.take_zero, List.drop_succ_cons, List.drop_zero, List.map_cons, List.map_nil]
          repeat (go_big_quiet_step (fail))
          refine wpQuiet_nil ?_
          clear xw
          refine mix_eff rfl ?_
          intro X hX
          go_wp2_with (go_at_call 83; refine (rol_any _ 5 _ (.inr (.inl rfl))).mono ?_; rintro e w8 ⟨rfl, f8⟩)
          refine hX.out _ _ f8 ?_
          clear hX X
          refine mix_seg 5 rfl ?_
          simp only [List.take_succ_cons, List.take_zero, List.drop_succ_cons, List.drop_zero, List.map_cons, List.map_nil]
          repeat (go_big_quiet_step (fail))
          refine wpQuiet_nil ?_
          refine mix_nil ?_
          have H8 := Lib.hid f8
          clear f8
          go_wp2_with (go_at_call 83; refine (rol_any _ 30 _ (.inr (.inr rfl))).mono ?_; rintro e w9 ⟨rfl, f9⟩; have H9 := Lib.hid f9; clear f9)
          go_roundg k3
          case measure => omega
          case rel =>
           refine ⟨t + 1, by go_num, by omega, ?_, ?_, ?_, ?_, ?_, ((HF.out.trans (Fr.drew1 [] wr)).trans H8.out).trans H9.out⟩
           all_goals rw [HR3.out]
           all_goals (first | rfl | (simp only [add32, Int.emod_add_emod, Int.add_emod_emod, fsel, ksel, ch, par, maj, not32]))
         ·have g60 : decide ((60 : Int) ≤ (t : Int)) = false := by simp; omega
          have gg60 : decide (60 ≤ t) = false := by simp; omega
          have g40 : (40 : Int) ≤ (t : Int) := by omega
          have gg40 : 40 ≤ t := by omega
          have g20 : (20 : Int) ≤ (t : Int) := by omega
          have gg20 : 20 ≤ t := by omega
          clear hq
          go_upto_region 37 with fail
          clear g60 g40 g20 gg60 gg40 gg20
          refine region_mix 14 [(false, 0), (false, 2), (false, 4), (false, 6), (false, 8), (false, 9), (false, 10), (false, 11), (true, 1), (false, 3), (false, 5), (false, 7), (false, 12), (false, 13)] [] (by kernel_rfl) (by kernel_rfl) (fun _ _ d _ _ h => by cases d <;> exact h) ?_
          simp only [List.map_cons, List.map_nil, List.getD_cons_zero, List.getD_cons_succ, List.drop_succ_cons, List.drop_zero, List.drop_nil]
          refine mix_seg 8 rfl ?_
          simp only [List.take_succ_cons, List.take_zero, List.drop_succ_cons, List.drop_zero, List.map_cons, List.map_nil]
          repeat (go_big_quiet_step (fail))
          refine wpQuiet_nil ?_
          clear xw
          refine mix_eff rfl ?_
          intro X hX
          go_wp2_with (go_at_call 83; refine (rol_any _ 5 _ (.inr (.inl rfl))).mono ?_; rintro e w8 ⟨rfl, f8⟩)
          refine hX.out _ _ f8 ?_
          clear hX X
          refine mix_seg 5 rfl ?_
          simp only [List.take_succ_cons, List.take_zero, List.drop_succ_cons, List.drop_zero, List.map_cons, List.map_nil]
          repeat (go_big_quiet_step (fail))
          refine wpQuiet_nil ?_
          refine mix_nil ?_
          have H8 := Lib.hid f8
          clear f8
          go_wp2_with (go_at_call 83; refine (rol_any _ 30 _ (.inr (.inr rfl))).mono ?_; rintro e w9 ⟨rfl, f9⟩; have H9 := Lib.hid f9; clear f9)
          go_roundg k3
          case measure => omega
          case rel =>
           refine ⟨t + 1, by go_num, by omega, ?_, ?_, ?_, ?_, ?_, ((HF.out.trans (Fr.drew1 [] wr)).trans H8.out).trans H9.out⟩
           all_goals rw [HR3.out]
           all_goals (first | rfl | (simp only [add32, Int.emod_add_emod, Int.add_emod_emod, fsel, ksel, ch, par, maj, not32]))
         ·have g60 : (60 : Int) ≤ (t : Int) := by omega
          have gg60 : 60 ≤ t := by omega
          have g40 : (40 : Int) ≤ (t : Int) := by omega
          have gg40 : 40 ≤ t := by omega
          have g20 : (20 : Int) ≤ (t : Int) := by omega
          have gg20 : 20 ≤ t := by omega
          clear hq
          go_upto_region 37 with fail
          clear g60 g40 g20 gg60 gg40 gg20
          refine region_mix 14 [(false, 0), (false, 2), (false, 4), (false, 6), (false, 8), (false, 9), (false, 10), (false, 11), (true, 1), (false, 3), (false, 5), (false, 7), (false, 12), (false, 13)] [] (by kernel_rfl) (by kernel_rfl) (fun _ _ d _ _ h => by cases d <;> exact h) ?_
          simp only [List.map_cons, List.map_nil, List.getD_cons_zero, List.getD_cons_succ, List.drop_succ_cons, List.drop_zero, List.drop_nil]
          refine mix_seg 8 rfl ?_
          simp only [List.take_succ_cons, List.take_zero, List.drop_succ_cons, List.drop_zero, List.map_cons, List.map_nil]
          repeat (go_big_quiet_step (fail))
          refine wpQuiet_nil ?_
          clear xw
          refine mix_eff rfl ?_
          intro X hX
          go_wp2_with (go_at_call 83; refine (rol_any _ 5 _ (.inr (.inl rfl))).mono ?_; rintro e w8 ⟨rfl, f8⟩)
          refine hX.out _ _ f8 ?_
          clear hX X
          refine mix_seg 5 rfl ?_
          simp only [List.take_succ_cons, List.take_zero, List.drop_succ_cons, List.drop_zero, List.map_cons, List.map_nil]
          repeat (go_big_quiet_step (fail))
          refine wpQuiet_nil ?_
          refine mix_nil ?_
          have H8 := Lib.hid f8
          clear f8
          go_wp2_with (go_at_call 83; refine (rol_any _ 30 _ (.inr (.inr rfl))).mono ?_; rintro e w9 ⟨rfl, f9⟩; have H9 := Lib.hid f9; clear f9)
          go_roundg k3
          case measure => omega
          case rel =>
           refine ⟨t + 1, by go_num, by omega, ?_, ?_, ?_, ?_, ?_, ((HF.out.trans (Fr.drew1 [] wr)).trans H8.out).trans H9.out⟩
           all_goals rw [HR3.out]
           all_goals (first | rfl | (simp only [add32, Int.emod_add_emod, Int.add_emod_emod, fsel, ksel, ch, par, maj, not32]))
        ·obtain rfl : t = 80 := by omega
         obtain rfl : gk = 0 := by omega
         have hbB := HF.out.blk HBB.out (by simp)
         have hlt9 := lt_of_block HW2.out.1.wb.choose_spec.1
         obtain ⟨s, hs⟩ : ∃ s, s = rounds p 80 h' := ⟨_, rfl⟩
         rw [← hs]
         obtain ⟨ha, hb, hc, hd, he⟩ := h'
         have c0 : ∀ x, (sup [] wr.drew x).cell? ⟨B, 0, none⟩ = some (.int .u32 ha) := fun x => (sup_fr [] wr.drew x).cell (show wr.drew.cell? _ = _ from cell_of hbB 0) (by simp)
         have c1 : ∀ x, (sup [] wr.drew x).cell? ⟨B, 1, none⟩ = some (.int .u32 hb) := fun x => (sup_fr [] wr.drew x).cell (show wr.drew.cell? _ = _ from cell_of hbB 1) (by simp)
         have c2 : ∀ x, (sup [] wr.drew x).cell? ⟨B, 2, none⟩ = some (.int .u32 hc) := fun x => (sup_fr [] wr.drew x).cell (show wr.drew.cell? _ = _ from cell_of hbB 2) (by simp)
         have c3 : ∀ x, (sup [] wr.drew x).cell? ⟨B, 3, none⟩ = some (.int .u32 hd) := fun x => (sup_fr [] wr.drew x).cell (show wr.drew.cell? _ = _ from cell_of hbB 3) (by simp)
         have c4 : ∀ x, (sup [] wr.drew x).cell? ⟨B, 4, none⟩ = some (.int .u32 he) := fun x => (sup_fr [] wr.drew x).cell (show wr.drew.cell? _ = _ from cell_of hbB 4) (by simp)
         obtain ⟨sa, sb, sc, sd, se⟩ := s
         have HS := Lib.hid hs
         clear hbB hs
         go_upto_region 43 with fail
         refine region_mix 26 [(false, 0), (false, 1), (false, 2), (false, 3), (false, 4), (false, 5), (false, 6), (false, 7), (false, 8), (false, 9), (false, 10), (false, 11), (false, 12), (false, 13), (false, 14), (false, 15), (false, 16), (false, 17), (false, 18), (false, 19), (false, 20), (false, 21), (false, 22), (false, 23), (false, 24), (true, 25)] [] (by kernel_rfl) (by kernel_rfl) (fun _ _ d _ _ h => by cases d <;> exact h) ?_
         simp only [List.map_cons, List.map_nil, List.getD_cons_zero, List.getD_cons_succ, List.drop_succ_cons, List.drop_zero, List.drop_nil]
         refine mix_seg 25 rfl ?_
         simp only [List.take_succ_cons, List.take_zero, List.drop_succ_cons, List.drop_zero, List.map_cons, List.map_nil]
         repeat (go_big_quiet_step (fail))
         refine wpQuiet_nil ?_
         clear c0 c1 c2 c3 c4
         refine mix_eff rfl ?_
         intro X hX
         go_wp2
         refine hX.out _ _ ((Fr.refl _ wr.drew).alloc _) ?_
         clear hX X
         refine mix_nil ?_
         go_wp2
         go_roundg (PB - at_ - 64)
         case measure => omega
         case rel =>
          have f9 : Fr [Q + 1] w7 wr := (HL.out.2.2.2.1.trans HW2.out.2).trans (HF.out.mono (by simp))
          have hp64 : 64 ≤ p.length := by rw [HPP.out.2]; omega
          have hb5 := HL.out.2.2.2.2.2.1
          rw [← HPP.out.1, blocks, if_pos hp64] at hb5
          have hmx : mixH ⟨ha, hb, hc, hd, he⟩ p = ⟨add32 ha sa, add32 hb sb, add32 hc sc, add32 hd sd, add32 he se⟩ := by unfold mixH; rw [← HS.out]
          refine ⟨at_ + 64, wr.drew.heap.size, mixH ⟨ha, hb, hc, hd, he⟩ p, by go_num, rfl, by omega, h64, by omega, ?_, ?_, ?_, (f9.trans (Fr.drew1 _ wr)).alloc _, mixH_rng _ _, ?_⟩
          ·have := HF.out.size; show wr.heap.size ≠ Q + 1; omega
          ·rw [hmx]; exact (alloc_at wr.drew _).trans rfl
          ·obtain ⟨A, g1, g2, _⟩ := (HW2.out.1.fr HF.out (by simp)).wb
           exact ⟨A, ((Fr.drew1 [] wr).alloc _).blk g1 (by simp), g2, fun j hj => by omega⟩
          ·rw [← List.drop_drop, ← HPP.out.1, ← hb5]
           exact blocks_fuel _ _ _ _ (by rw [List.length_drop, HPP.out.2]; omega) (by rw [List.length_drop, HPP.out.2]; have := HL.out.2.2.2.2.2.2; omega)
    ·obtain rfl : at_ = PB := by omega
     have hnil : pd.drop at_ = [] := List.drop_eq_nil_of_le (by rw [← HP.out.2.2.2.1]; exact Nat.le_refl _)
     have hbl := HL.out.2.2.2.2.2.1
     rw [hnil] at hbl
     have hh : h' = RES := by
      rw [← hbl]
      cases gk with
      | zero => rfl
      | succ k => rw [blocks, if_neg (by decide)]
     obtain ⟨r0, r1, r2, r3, r4⟩ := HL.out.2.2.2.2.1
     obtain ⟨ha, hb, hc, hd, he⟩ := h'
     simp only at r0 r1 r2 r3 r4
     have hcs : Cs wr (some ⟨B, 0, none⟩) ([ha.toNat, hb.toNat, hc.toNat, hd.toNat, he.toNat].map wv) := by
      refine .inr ⟨B, 0, rfl, fun j v hv => ?_⟩
      rw [Nat.zero_add, cell_of HL.out.2.1]
      have e : ([ha.toNat, hb.toNat, hc.toNat, hd.toNat, he.toNat].map wv) = (H5.vals ⟨ha, hb, hc, hd, he⟩).toList := by
       simp only [List.map_cons, List.map_nil, wv, H5.vals]
       rw [Int.toNat_of_nonneg r0.1, Int.toNat_of_nonneg r1.1, Int.toNat_of_nonneg r2.1, Int.toNat_of_nonneg r3.1, Int.toNat_of_nonneg r4.1]
      rw [e, Array.getElem?_toList] at hv
      exact hv
     have hwd := words_any (some ⟨B, 0, none⟩) 5 [ha.toNat, hb.toNat, hc.toNat, hd.toNat, he.toNat] wr hcs (by intro v hv; simp only [List.mem_cons, List.not_mem_nil, or_false] at hv; rcases hv with rfl | rfl | rfl | rfl | rfl <;> omega) (by simp) (by simp) (by decide)
     have hfw : Fr [] w wr := (HP.out.1.trans H7.out.1).step HL.out.2.2.2.1 (fun y hy => .inr (by simp at hy; have := HP.out.1.size; have := H7.out.2.2.2.1; omega))
     have hdg : be4s [ha.toNat, hb.toNat, hc.toNat, hd.toNat, he.toNat] = sha1 bs := by
      rw [HP.out.2.2.2.2.2, ← hh]
      simp [be4s, dig5]
     have HX := Lib.hid (And.intro hwd (And.intro hfw hdg))
     clear hwd hfw hdg hcs r0 r1 r2 r3 r4 hh hbl hnil
     go_wp2_with (go_at_call 82; refine HX.out.1.mono ?_; rintro e w9 ⟨a9, c9, rfl, r9, n9, f9⟩; have H9 := Lib.hid (And.intro r9 (And.intro n9 f9)); clear r9 n9 f9)
     go_ret
     refine ⟨⟨a9, c9, rfl, by rw [← HX.out.2.2]; exact H9.out.1, fun x hx => ⟨Nat.le_trans HX.out.2.1.size (H9.out.2.1 x hx).1, (H9.out.2.1 x hx).2⟩⟩, HX.out.2.1.trans H9.out.2.2⟩
end Go.Proofs.YtkmpfgpfbmeihaaGreatDoor.sha
namespace Go.Proofs.YtkmpfgpfbmeihaaGreatDoor.pk
open Go Go.RowKit lib bm
abbrev EM := Ent × Option Addr
def entL (m : EM) : List Value := (entV m.1 m.2 m.1.data.length).toList
def entCells (ms : List EM) : List Value := ms.flatMap entL
theorem entCells_len (ms : List EM) : (entCells ms).length = ms.length * 7 := flat_len entL 7 (fun _ => rfl) ms
theorem entCells_app (a b : List EM) : entCells (a ++ b) = entCells a ++ entCells b := by unfold entCells; rw [List.flatMap_append]
theorem entL_one (m : EM) : ∀ u ∈ entL m, u.oneCell' = true := by
 intro u hu
 simp only [entL, entV, List.mem_cons, List.not_mem_nil, or_false] at hu
 rcases hu with rfl | rfl | rfl | rfl | rfl | rfl | rfl <;> rfl
theorem sty_raw : SliceTy Tryz.prog 40 65 (.agg #[.int .i64 0, .int .i64 0, .int .i64 0, .int .u32 0, .slice none 0 0, .string ⟨#[]⟩, .int .i64 0]) 7 80 := SliceTy.of Tryz.underlying40 (by kernel_rfl) rfl (by decide)
structure Ents (w : World) (a : Option Addr) (ms : List EM) : Prop where
 cs : Cs w a (entCells ms)
 dat : ∀ m ∈ ms, lib.Rd w m.2 m.1.data.length m.1.data
theorem Ents.fr {w w' : World} {a : Option Addr} {ms : List EM} (h : Ents w a ms) (f : Fr [] w w') : Ents w' a ms := ⟨h.cs.fr f (by simp), fun m hm => (h.dat m hm).fr f⟩
theorem clip_ents (ao : Option Addr) (len cap : Nat) (w : World) (hle : len ≤ cap) (hmax : cap ≤ maxLen) :
  Calls Tryz.prog 45 #[.slice ao len cap] w fun e w' => e = .returned (.slice ao len len) ∧ w' = w := by
 go_enter Tryz.func45, Tryz.ntmps45
 go_wp2
 all_goals go_ret
 all_goals exact ⟨by first | rfl | simp, rfl⟩
structure EWr (w wr : World) (R : Nat) (a : Option Addr) (c : Nat) (ms : List EM) : Prop where
 own : wr.ownsRow 0 65 7 (.slice a ms.length c) ms.length (entCells ms)
 fr : Fr [] w wr
 new : ∀ x ∈ blk a, w.heap.size ≤ x ∧ x ≠ R
 dat : ∀ m ∈ ms, lib.Rd wr m.2 m.1.data.length m.1.data ∧ ∀ y ∈ blk m.2, w.heap.size ≤ y ∧ y < wr.heap.size ∧ y ∉ blk a ∧ y ≠ R
theorem EWr.start (w w' : World) (R : Nat) (f : Fr [] w w') : EWr w w' R none 0 [] := ⟨World.ownsRow_nil _ _ _ _, f, by simp [blk], by simp⟩
theorem EWr.more {w wr w1 w2 : World} {R : Nat} {a a2 : Option Addr} {c c2 : Nat} {ms : List EM} {m : EM} (h : EWr w wr R a c ms) (hR : w.heap.size ≤ R) (hRw : R < wr.heap.size) (f : Fr [R] wr w1)
  (hd : lib.Rd w1 m.2 m.1.data.length m.1.data) (hn : ∀ y ∈ blk m.2, wr.heap.size ≤ y ∧ y < w1.heap.size)
  (A : Appended w1 w2 65 7 (blk a) a2 (ms.length + 1) c2 (entCells ms ++ entL m)) : EWr w w2 R a2 c2 (ms ++ [m]) := by
 have f0 : Fr [] w w1 := h.fr.step f (fun y hy => .inr (by simp at hy; omega))
 have f2 : Fr [] w w2 := f0.step A.fr (fun y hy => .inr (h.new y hy).1)
 have hs := f.size
 have hs0 := h.fr.size
 have hin : ∀ y ∈ blk a, y < wr.heap.size := fun y hy => owns_lt h.own (blk_own hy)
 have key : ∀ m' : EM, lib.Rd w1 m'.2 m'.1.data.length m'.1.data → (∀ y ∈ blk m'.2, w.heap.size ≤ y ∧ y < w1.heap.size ∧ y ∉ blk a ∧ y ≠ R) → lib.Rd w2 m'.2 m'.1.data.length m'.1.data ∧ ∀ y ∈ blk m'.2, w.heap.size ≤ y ∧ y < w2.heap.size ∧ y ∉ blk a2 ∧ y ≠ R := fun m' r k =>
  ⟨r.frS A.fr (fun x hx => (k x hx).2.2.1), fun y hy => ⟨(k y hy).1, Nat.lt_of_lt_of_le (k y hy).2.1 A.fr.size, fun hm => by
   rcases A.at_ y hm with q | q
   ·exact (k y hy).2.2.1 q
   ·have := (k y hy).2.1; omega, (k y hy).2.2.2⟩⟩
 refine ⟨?_, f2, fun y hy => ?_, fun m' hm' => ?_⟩
 ·rw [entCells_app, List.length_append]
  have : entCells [m] = entL m := by simp [entCells]
  rw [this]
  exact A.own
 ·rcases A.at_ y hy with q | q
  ·exact h.new y q
  ·omega
 ·rcases List.mem_append.1 hm' with q | q
  ·obtain ⟨r, k⟩ := h.dat m' q
   exact key m' (rd_frE r f (fun _ x hx hm => (k x hx).2.2.2 (by simpa using hm))) (fun y hy => ⟨(k y hy).1, by have := (k y hy).2.1; omega, (k y hy).2.2⟩)
  ·obtain rfl : m' = m := by simpa using q
   exact key m' hd (fun y hy => ⟨by have := (hn y hy).1; omega, (hn y hy).2, fun hm => by have := hin y hm; have := (hn y hy).1; omega, by have := (hn y hy).1; omega⟩)
end Go.Proofs.YtkmpfgpfbmeihaaGreatDoor.pk
namespace Go.Proofs.YtkmpfgpfbmeihaaGreatDoor.pk
open Go Go.RowKit lib bm
theorem clone_nil (w : World) : Calls Tryz.prog 60 #[.slice none 0 0] w fun e w' => e = .returned (.slice none 0 0) ∧ w' = w := by
 have qT : ∀ (w : World) (a : Option Addr) (n c n' c' : Nat), (binOp .eql 27 (.slice a n c) (.slice none n' c')).run Tryz.prog w = .ok (.bool a.isNone) w := fun w a n c n' c' => Lib.run_eql_slice_nil w _ _ a n c n' c' Tryz.underlying27
 go_enter Tryz.func60, Tryz.ntmps60
 go_wp2
 go_ret
 exact ⟨rfl, rfl⟩
theorem index_nil (v : Value) (w : World) : Calls Tryz.prog 64 #[.slice none 0 0, v] w fun e w' => e = .returned (.int .i64 (-1)) ∧ w' = w := by
 go_enter Tryz.func64, Tryz.ntmps64
 go_wp2
 go_loopg [8] 0 (fun k s8 wr => s8 = .int .i64 0 ∧ wr = w)
 case atStart => exact ⟨rfl, rfl⟩
 case round =>
 obtain ⟨rfl, rfl⟩ := hrel
 go_wp2
 go_ret
 exact ⟨rfl, rfl⟩
theorem delete_nil (v : Value) (w : World) : Calls Tryz.prog 32 #[.slice none 0 0, v] w fun e w' => e = .returned (.slice none 0 0) ∧ w' = w := by
 go_enter Tryz.func32, Tryz.ntmps32
 go_wp2_with (go_at_call 64; refine (index_nil _ _).mono ?_; rintro e w2 ⟨rfl, hw⟩; obtain rfl := hw.symm)
 go_ret
 exact ⟨rfl, rfl⟩
theorem clip_nil (w : World) : Calls Tryz.prog 42 #[.slice none 0 0] w fun e w' => e = .returned (.slice none 0 0) ∧ w' = w := by
 go_enter Tryz.func42, Tryz.ntmps42
 go_wp2
 go_ret
 exact ⟨rfl, rfl⟩
theorem insert_nil (v : Value) (w : World) : Calls Tryz.prog 107 #[.slice none 0 0, .int .i64 0, .int .i64 0, v] w fun e w' => e = .returned (.tuple #[]) ∧ w' = w := by
 go_enter Tryz.func107, Tryz.ntmps107
 go_wp2
 go_loopg [8] 0 (fun k s8 wr => s8 = .int .i64 1 ∧ wr = w)
 case atStart => exact ⟨rfl, rfl⟩
 case round =>
 obtain ⟨rfl, rfl⟩ := hrel
 go_wp2
 exact bodyPost_end (results_none rfl _ _ _) rfl ⟨rfl, rfl⟩
theorem stable_nil (v : Value) (w : World) : Calls Tryz.prog 70 #[.slice none 0 0, .int .i64 0, v] w fun e w' => e = .returned (.tuple #[]) ∧ w' = w := by
 go_enter Tryz.func70, Tryz.ntmps70
 go_wp2
 go_loopg [7, 8] 0 (fun k s7 s8 wr => s7 = .int .i64 0 ∧ s8 = .int .i64 20 ∧ wr = w)
 case atStart => exact ⟨rfl, rfl, rfl⟩
 case round =>
 obtain ⟨rfl, rfl, rfl⟩ := hrel
 go_wp2_with (go_at_call 107; refine (insert_nil _ _).mono ?_; rintro e w2 ⟨rfl, hw⟩; obtain rfl := hw.symm)
 go_loopg [6] 0 (fun k s6 wr2 => s6 = .int .i64 20 ∧ wr2 = wr)
 case atStart => exact ⟨rfl, rfl⟩
 case round =>
 obtain ⟨rfl, rfl⟩ := hrel
 go_wp2
 exact bodyPost_end (results_none rfl _ _ _) rfl ⟨rfl, rfl⟩
theorem sort_nil (v : Value) (w : World) : Calls Tryz.prog 38 #[.slice none 0 0, v] w fun e w' => e = .returned (.tuple #[]) ∧ w' = w := by
 go_enter Tryz.func38, Tryz.ntmps38
 go_wp2_with (go_at_call 70; refine (stable_nil _ _).mono ?_; rintro e w2 ⟨rfl, hw⟩; obtain rfl := hw.symm)
 exact bodyPost_end (results_none rfl _ _ _) rfl ⟨rfl, rfl⟩
theorem right_nil (w : World) : Calls Tryz.prog 31 #[.slice none 0 0] w fun e w' => e = .returned (.slice none 0 0) ∧ w' = w := by
 go_enter Tryz.func31, Tryz.ntmps31
 go_wp2_with (first
  | (go_at_call 60; refine (clone_nil _).mono ?_; rintro e w2 ⟨rfl, hw⟩; obtain rfl := hw.symm)
  | (go_at_call 32; refine (delete_nil _ _).mono ?_; rintro e w2 ⟨rfl, hw⟩; obtain rfl := hw.symm))
 go_ret
 exact ⟨rfl, rfl⟩
theorem order_nil (w : World) : Calls Tryz.prog 17 #[.slice none 0 0] w fun e w' => e = .returned (.slice none 0 0) ∧ Fr [] w w' := by
 have hmm := fun w' => run_makeMap (P := Tryz.prog) 75 w'
 go_enter Tryz.func17, Tryz.ntmps17
 go_wp2_with (first
  | (go_at_call 38; refine (sort_nil _ _).mono ?_; rintro e w2 ⟨rfl, hw⟩; obtain rfl := hw.symm)
  | (go_at_call 42; refine (clip_nil _).mono ?_; rintro e w2 ⟨rfl, hw⟩; obtain rfl := hw.symm))
 go_loopg [5, 11] 0 (fun k s5 s11 wr => s5 = .slice none 0 0 ∧ s11 = .int .i64 0 ∧ Fr [] w wr)
 case atStart => exact ⟨rfl, rfl, ((Fr.refl [] w).alloc _).alloc _⟩
 case round =>
 obtain ⟨rfl, rfl, hf⟩ := hrel
 clear hmm
 go_wp2_with (first
  | (go_at_call 38; refine (sort_nil _ _).mono ?_; rintro e w2 ⟨rfl, hw⟩; obtain rfl := hw.symm)
  | (go_at_call 42; refine (clip_nil _).mono ?_; rintro e w2 ⟨rfl, hw⟩; obtain rfl := hw.symm))
 go_ret
 exact ⟨rfl, hf⟩
def begin12 : List UInt8 := [80, 65, 67, 75, 0, 0, 0, 2, 0, 0, 0, 0]
end Go.Proofs.YtkmpfgpfbmeihaaGreatDoor.pk
namespace Go.Proofs.YtkmpfgpfbmeihaaGreatDoor.lib
open Go
section
variable {P : Program} {ops : Array Oper} {Q : Exit → Act → World → Prop} {md : Region.Mode}
def wpMe (P : Program) (md : Region.Mode) (ops : Array Oper) (Q : Exit → Act → World → Prop) (D : Nat → World → World → Prop) : Nat → Array Bool → Act → World → Prop
 | 0, listed, a, w => Region.ready md ops listed = [] ∧ Q .normal a w
 | f + 1, listed, a, w => (Region.ready md ops listed = [] → Q .normal a w) ∧
  ∀ i ∈ Region.ready md ops listed, wpOp P ops Q i (fun a' w' => D i w w' ∧ wpMe P md ops Q D f (listed.setIfInBounds i true) a' w') a w
theorem wpAny_of_me {D : Nat → World → World → Prop} : ∀ (f : Nat) (listed : Array Bool) (a : Act) (w : World), wpMe P md ops Q D f listed a w → wpAny P md ops Q f listed a w
 | 0, _, _, _, h => h
 | f + 1, _, _, _, h => ⟨h.1, fun i hi => wpOp_mono (fun a' w' h' => wpAny_of_me f _ a' w' h'.2) (h.2 i hi)⟩
theorem wpMe_first {i : Nat} {oi : Oper} {v : Value} {C : World → Prop} {D : Nat → World → World → Prop} (hi : ops[i]? = some oi) (hsel : ∀ (j : Nat) (o : Oper) cs b, ops[j]? = some o → o.op ≠ .select cs b)
  (hQ : ∀ c a d v w, Q (.panic c) (Act.put a d v) w → Q (.panic c) a w) (hDi : ∀ w, D i w w)
  (hT : ∀ listed, listed.getD i true = false → ∀ t ∈ Region.ready md ops listed, t ≠ i → ∀ w w', C w → D t w w' → C w') :
  ∀ (f : Nat) (listed : Array Bool) (a : Act) (w : World),
   (∀ j oj, ops[j]? = some oj → j ≠ i → listed.getD j true = false → (∀ e ∈ oj.after, Region.binds md e = true → e.on ≠ i) → oi.apart ops oj = true) →
   i ∈ Region.ready md ops listed → QY P ops C oi v a → C w →
   wpMe P md ops Q D f (listed.setIfInBounds i true) (a.put oi.dst v) w → wpMe P md ops Q D (f + 1) listed a w := by
 intro f
 induction f with
 | zero =>
  intro listed a w _ hr hy hC H
  refine ⟨fun h => (by rw [h] at hr; cases hr), fun j hj => ?_⟩
  by_cases hji : j = i
  ·subst hji; exact hy.op hi hC ⟨hDi w, H⟩
  ·have := ready_mono hj hji
   rw [H.1] at this
   cases this
 | succ f ih =>
  intro listed a w hfree hr hy hC H
  have hun := (mem_ready.1 hr).1
  refine ⟨fun h => (by rw [h] at hr; cases hr), fun j hj => ?_⟩
  by_cases hji : j = i
  ·subst hji; exact hy.op hi hC ⟨hDi w, H⟩
  ·have h1 := H.2 j (ready_mono hj hji)
   obtain ⟨hjun, oj, hoj, hall⟩ := mem_ready.1 hj
   have hnot : ∀ e ∈ oj.after, Region.binds md e = true → e.on ≠ i := fun e he hb heq => by
    have h1 := hall e he hb
    rw [heq, getD_both hun] at h1
    cases h1
   have h2 := put_of_QY hoj (hfree j oj hoj hji hjun hnot) (fun cs b => hsel i oi cs b hi) (fun cs b => hsel j oj cs b hoj) hQ hy h1
   have hfree' : ∀ k ok, ops[k]? = some ok → k ≠ i → (listed.setIfInBounds j true).getD k true = false →
     (∀ e ∈ ok.after, Region.binds md e = true → e.on ≠ i) → oi.apart ops ok = true := fun k ok hk hki hkun hno => by
    refine hfree k ok hk hki ?_ hno
    by_cases hjk : j = k
    ·subst hjk; exact hjun
    ·rw [getD_set_ne true hjk] at hkun; exact hkun
   refine wpOp_mono (fun a' w' h3 => ⟨h3.2.1, ?_⟩) h2
   refine ih (listed.setIfInBounds j true) a' w' hfree' (ready_mono hr (Ne.symm hji)) h3.1 (hT listed hun j hj hji w w' hC h3.2.1) ?_
   rw [Array.setIfInBounds_comm _ _ hji]
   exact h3.2.2
def DE (S : List Nat) (lates : List Nat) (j : Nat) (w w' : World) : Prop := if lates.contains j = true then Fr S w w' else w' = w
def mixE (P : Program) (ops : Array Oper) (S : List Nat) (Q : Exit → Act → World → Prop) : List (Nat × Oper) → Act → World → Prop
 | [], a, w => Q .normal a w
 | (0, o) :: rest, a, w => if Region.wanted o (yielded ops a.tmps) then o.quiet P a (Sup S w) (fun a' => mixE P ops S Q rest a' w) else mixE P ops S Q rest (a.put o.dst undef) w
 | (1, o) :: rest, a, w => if Region.wanted o (yielded ops a.tmps) then o.quiet P a (fun u => u = w) (fun a' => mixE P ops S Q rest a' w) else mixE P ops S Q rest (a.put o.dst undef) w
 | (_ + 2, o) :: rest, a, w => if Region.wanted o (yielded ops a.tmps) then o.wp P a w (fun a' w' => Fr S w w' ∧ mixE P ops S Q rest a' w') Q else mixE P ops S Q rest (a.put o.dst undef) w
def waitsFor (md : Region.Mode) (ops : Array Oper) (t i : Nat) : Bool := match ops[t]? with
 | some o => o.after.toList.any fun e => Region.binds md e && decide (e.on = i)
 | none => true
def quietB (md : Region.Mode) (ops : Array Oper) (lates : List Nat) (i : Nat) (listed : Array Bool) : Bool :=
 (Region.ready md ops listed).contains i && Region.free md ops listed i && (match ops[i]? with | some o => okKind o.op | none => false) && !lates.contains i
def mixEB (md : Region.Mode) (ops : Array Oper) (lates : List Nat) : List (Nat × Nat) → Array Bool → Bool
 | [], listed => decide (Region.ready md ops listed = [])
 | (0, i) :: rest, listed => quietB md ops lates i listed && mixEB md ops lates rest (listed.setIfInBounds i true)
 | (1, i) :: rest, listed => quietB md ops lates i listed && lates.all (fun t => waitsFor md ops t i) && mixEB md ops lates rest (listed.setIfInBounds i true)
 | (_ + 2, i) :: rest, listed => decide (Region.ready md ops listed = [i]) && lates.contains i && mixEB md ops lates rest (listed.setIfInBounds i true)
theorem late_waits {i t : Nat} {listed : Array Bool} (h : waitsFor md ops t i = true) (hun : listed.getD i true = false) (ht : t ∈ Region.ready md ops listed) : False := by
 obtain ⟨_, o, ho, hall⟩ := mem_ready.1 ht
 simp only [waitsFor, ho, List.any_eq_true, Bool.and_eq_true, decide_eq_true_eq] at h
 obtain ⟨e, he, hb, heq⟩ := h
 have h1 := hall e (by simpa using he) hb
 rw [heq, getD_both hun] at h1
 cases h1
theorem DE_sup {S lates : List Nat} {b : World} {t : Nat} {w w' : World} (hC : Sup S b w) (h : DE S lates t w w') : Sup S b w' := by
 unfold DE at h
 split at h
 ·exact Sup.of (hC.fr.trans h)
 ·rw [h]; exact hC
theorem me_walk {S lates : List Nat} {l : List Oper} (hl : ops = l.toArray) (hsel : Region.noSelect ops = true) (hQ : ∀ c a d v w, Q (.panic c) (Act.put a d v) w → Q (.panic c) a w) :
  ∀ (order : List (Nat × Nat)) (listed : Array Bool) (a : Act) (w : World), mixEB md ops lates order listed = true →
   mixE P ops S Q (order.map fun x => (x.1, l.getD x.2 default)) a w → wpMe P md ops Q (DE S lates) order.length listed a w
 | [], listed, a, w, hB, h => by
  simp only [mixEB, decide_eq_true_eq] at hB
  exact ⟨hB, h⟩
 | (0, i) :: rest, listed, a, w, hB, h => by
  simp only [mixEB, quietB, Bool.and_eq_true, Bool.not_eq_true'] at hB
  obtain ⟨⟨⟨⟨hr, hf⟩, hk⟩, hlt⟩, hrest⟩ := hB
  have hr' : i ∈ Region.ready md ops listed := by simpa using hr
  obtain ⟨_, oi, hoi, _⟩ := mem_ready.1 hr'
  rw [hoi] at hk
  have hd : l.getD i default = oi := by
   rw [hl] at hoi
   simp at hoi
   simp [List.getD, hoi]
  simp only [List.map_cons, hd, mixE] at h
  have hC : Sup S w w := Sup.of (Fr.refl _ _)
  have hDi : ∀ w, DE S lates i w w := fun w => by unfold DE; split; exact Fr.refl _ _; rfl
  have hT : ∀ listed : Array Bool, listed.getD i true = false → ∀ t ∈ Region.ready md ops listed, t ≠ i → ∀ w1 w', Sup S w w1 → DE S lates t w1 w' → Sup S w w' := fun _ _ t _ _ w1 w' h1 h2 => DE_sup h1 h2
  by_cases hw : Region.wanted oi (yielded ops a.tmps) = true
  ·rw [if_pos hw] at h
   obtain ⟨v, h1, h2⟩ := h
   have hy : QY P ops (Sup S w) oi v a := .inl ⟨hw, fun u hu => runs_of_quiet hk (h1 u hu)⟩
   exact wpMe_first hoi (Region.noSelect_spec hsel) hQ hDi hT _ listed a w (Region.free_spec hoi hf) hr' hy hC (me_walk hl hsel hQ rest _ _ w hrest h2)
  ·rw [if_neg hw] at h
   have hy : QY P ops (Sup S w) oi undef a := .inr ⟨by simpa using hw, rfl⟩
   exact wpMe_first hoi (Region.noSelect_spec hsel) hQ hDi hT _ listed a w (Region.free_spec hoi hf) hr' hy hC (me_walk hl hsel hQ rest _ _ w hrest h)
 | (1, i) :: rest, listed, a, w, hB, h => by
  simp only [mixEB, quietB, Bool.and_eq_true, Bool.not_eq_true'] at hB
  obtain ⟨⟨⟨⟨⟨hr, hf⟩, hk⟩, hlt⟩, hwait⟩, hrest⟩ := hB
  have hr' : i ∈ Region.ready md ops listed := by simpa using hr
  obtain ⟨_, oi, hoi, _⟩ := mem_ready.1 hr'
  rw [hoi] at hk
  have hd : l.getD i default = oi := by
   rw [hl] at hoi
   simp at hoi
   simp [List.getD, hoi]
  simp only [List.map_cons, hd, mixE] at h
  have hDi : ∀ w, DE S lates i w w := fun w => by unfold DE; split; exact Fr.refl _ _; rfl
  have hT : ∀ listed : Array Bool, listed.getD i true = false → ∀ t ∈ Region.ready md ops listed, t ≠ i → ∀ w1 w', w1 = w → DE S lates t w1 w' → w' = w := fun ls hun t ht _ w1 w' h1 h2 => by
   unfold DE at h2
   split at h2
   ·rename_i hc
    exact (late_waits (List.all_eq_true.1 hwait t (by simpa using hc)) hun ht).elim
   ·rw [h2, h1]
  by_cases hw : Region.wanted oi (yielded ops a.tmps) = true
  ·rw [if_pos hw] at h
   obtain ⟨v, h1, h2⟩ := h
   have hy : QY P ops (fun u => u = w) oi v a := .inl ⟨hw, fun u hu => runs_of_quiet hk (h1 u hu)⟩
   exact wpMe_first hoi (Region.noSelect_spec hsel) hQ hDi hT _ listed a w (Region.free_spec hoi hf) hr' hy rfl (me_walk hl hsel hQ rest _ _ w hrest h2)
  ·rw [if_neg hw] at h
   have hy : QY P ops (fun u => u = w) oi undef a := .inr ⟨by simpa using hw, rfl⟩
   exact wpMe_first hoi (Region.noSelect_spec hsel) hQ hDi hT _ listed a w (Region.free_spec hoi hf) hr' hy rfl (me_walk hl hsel hQ rest _ _ w hrest h)
 | (_ + 2, i) :: rest, listed, a, w, hB, h => by
  simp only [mixEB, Bool.and_eq_true, decide_eq_true_eq] at hB
  obtain ⟨⟨he, hlt⟩, hrest⟩ := hB
  have hr' : i ∈ Region.ready md ops listed := by rw [he]; simp
  obtain ⟨_, oi, hoi, _⟩ := mem_ready.1 hr'
  have hd : l.getD i default = oi := by
   rw [hl] at hoi
   simp at hoi
   simp [List.getD, hoi]
  simp only [List.map_cons, hd, mixE] at h
  refine ⟨fun h0 => (by rw [h0] at hr'; cases hr'), fun j hj => ?_⟩
  rw [he] at hj
  have hji : j = i := by simpa using hj
  subst hji
  unfold wpOp
  simp only [hoi]
  by_cases hw : Region.wanted oi (yielded ops a.tmps) = true
  ·rw [if_pos hw] at h
   rw [if_pos hw]
   left
   exact Oper.wp_mono (fun a' w' h' => ⟨by unfold DE; rw [if_pos hlt]; exact h'.1, me_walk hl hsel hQ rest _ a' w' hrest h'.2⟩) h
  ·rw [if_neg hw] at h
   rw [if_neg hw]
   exact ⟨by unfold DE; rw [if_pos hlt]; exact Fr.refl _ _, me_walk hl hsel hQ rest _ _ w hrest h⟩
theorem region_mixE {id : Nat} {a : Act} {w : World} {l : List Oper} (order : List (Nat × Nat)) (S lates : List Nat) (hm : P.follows .mixedOrders = true)
  (hB : (Region.noSelect l.toArray && decide (order.length = l.toArray.size) && mixEB .any l.toArray lates order (Array.replicate l.toArray.size false)) = true)
  (hQ : ∀ c a d v w, Q (.panic c) (Act.put a d v) w → Q (.panic c) a w)
  (h : mixE P l.toArray S Q (order.map fun x => (x.1, l.getD x.2 default)) a w.drew) : (Code.region id l.toArray true).wp P Q a w := by
 simp only [Bool.and_eq_true, decide_eq_true_eq] at hB
 obtain ⟨⟨hsel, hlen⟩, hmix⟩ := hB
 refine wp_region_any hm (wpAny_of_me (D := DE S lates) _ _ _ _ ?_)
 have := me_walk (P := P) (Q := Q) (md := .any) (S := S) (lates := lates) rfl hsel hQ order _ a w.drew hmix h
 rw [hlen] at this
 exact this
theorem mixE_early {S : List Nat} {items : List (Nat × Oper)} {a : Act} {w : World} (k : Nat) (h0 : ((items.take k).all fun x => decide (x.1 = 1)) = true)
  (h : wpQuiet P ops (fun u => u = w) (fun a' => mixE P ops S Q (items.drop k) a' w) ((items.take k).map (·.2)) a) : mixE P ops S Q items a w := by
 induction k generalizing items a with
 | zero => exact h
 | succ k ih =>
  cases items with
  | nil => exact h
  | cons x rest =>
   obtain ⟨e, o⟩ := x
   simp only [List.take_succ_cons, List.all_cons, Bool.and_eq_true, decide_eq_true_eq] at h0
   obtain ⟨rfl, h0⟩ := h0
   simp only [List.take_succ_cons, List.map_cons, List.drop_succ_cons, wpQuiet] at h
   unfold mixE
   by_cases hw : Region.wanted o (yielded ops a.tmps) = true
   ·rw [if_pos hw] at h ⊢
    obtain ⟨v, h1, h2⟩ := h
    exact ⟨v, h1, ih h0 h2⟩
   ·rw [if_neg hw] at h ⊢
    exact ih h0 h
theorem mixE_seg {S : List Nat} {items : List (Nat × Oper)} {a : Act} {w : World} (k : Nat) (h0 : ((items.take k).all fun x => decide (x.1 = 0)) = true)
  (h : wpQuiet P ops (Sup S w) (fun a' => mixE P ops S Q (items.drop k) a' w) ((items.take k).map (·.2)) a) : mixE P ops S Q items a w := by
 induction k generalizing items a with
 | zero => exact h
 | succ k ih =>
  cases items with
  | nil => exact h
  | cons x rest =>
   obtain ⟨e, o⟩ := x
   simp only [List.take_succ_cons, List.all_cons, Bool.and_eq_true, decide_eq_true_eq] at h0
   obtain ⟨rfl, h0⟩ := h0
   simp only [List.take_succ_cons, List.map_cons, List.drop_succ_cons, wpQuiet] at h
   unfold mixE
   by_cases hw : Region.wanted o (yielded ops a.tmps) = true
   ·rw [if_pos hw] at h ⊢
    obtain ⟨v, h1, h2⟩ := h
    exact ⟨v, h1, ih h0 h2⟩
   ·rw [if_neg hw] at h ⊢
    exact ih h0 h
theorem mixE_eff {S : List Nat} {rest : List (Nat × Oper)} {o : Oper} {a : Act} {w : World} (hw : Region.wanted o (yielded ops a.tmps) = true)
  (h : ∀ K : Act → World → Prop, Go.RowKit.Hid (∀ a' w', Fr S w w' → mixE P ops S Q rest a' w' → K a' w') → o.wp P a w K Q) : mixE P ops S Q ((2, o) :: rest) a w := by
 unfold mixE
 rw [if_pos hw]
 exact h _ fun _ _ h1 h2 => ⟨h1, h2⟩
theorem mixE_nil {S : List Nat} {a : Act} {w : World} (h : Q .normal a w) : mixE P ops S Q [] a w := h
end
end Go.Proofs.YtkmpfgpfbmeihaaGreatDoor.lib
namespace Go.Proofs.YtkmpfgpfbmeihaaGreatDoor.pk
open Go Go.RowKit lib
def rvs (l : List UInt8) (n i k : Nat) : UInt8 := if k < i ∨ n ≤ k + i then l[n - 1 - k]?.getD 0 else l[k]?.getD 0
theorem rvs_step {l : List UInt8} {n i j : Nat} (h : i + j + 1 = n) (hij : i < j) (k : Nat) (hk : k < n) : rvs l n (i + 1) k = if k = i then rvs l n i j else if k = j then rvs l n i i else rvs l n i k := by
 unfold rvs
 by_cases h1 : k = i
 ·subst h1
  rw [if_pos (by omega), if_pos rfl, if_neg (by omega), show n - 1 - k = j by omega]
 ·by_cases h2 : k = j
  ·subst h2
   rw [if_pos (by omega), if_neg h1, if_pos rfl, if_neg (by omega), show n - 1 - k = i by omega]
  ·rw [if_neg h1, if_neg h2]
   by_cases h3 : k < i ∨ n ≤ k + i
   ·rw [if_pos (by omega), if_pos h3]
   ·rw [if_neg (by omega), if_neg h3]
theorem rvs_end {l : List UInt8} {n i j : Nat} (hl : l.length = n) (h : i + j + 1 = n) (hij : ¬ i < j) (k : Nat) (hk : k < n) (h1 : i ≤ j + 1) : rvs l n i k = l.reverse[k]?.getD 0 := by
 rw [List.getElem?_reverse (by omega), hl]
 unfold rvs
 by_cases h3 : k < i ∨ n ≤ k + i
 ·rw [if_pos h3]
 ·rw [if_neg h3, show n - 1 - k = k by omega]
set_option maxHeartbeats 2000000 in
theorem rev_any (g n cap : Nat) (A0 : Array Value) (l : List UInt8) (w : World) (hA : w.heap[g]? = some (.cells A0 5 (0, 0))) (hl : l.length = n) (h1 : 1 ≤ n) (hn : n ≤ 100000000) (hnc : n ≤ cap) (hc : ∀ k, k < n → A0[k]? = some (.int .u8 ((l[k]?.getD 0).toNat : Nat))) :
  Calls Tryz.prog 28 #[.slice (some ⟨g, 0, none⟩) n cap] w fun e w' => e = .returned (.tuple #[]) ∧ Fr [g] w w' ∧ ∃ A', w'.heap[g]? = some (.cells A' 5 (0, 0)) ∧ A'.size = A0.size ∧ ∀ k, k < n → A'[k]? = some (.int .u8 ((l.reverse[k]?.getD 0).toNat : Nat)) := by
 have H0 := Lib.hid (And.intro hA (And.intro hl hc))
 clear hA hl hc
 obtain ⟨N, hN⟩ : ∃ N : Int, N = (n : Int) - 1 := ⟨_, rfl⟩
 go_enter Tryz.func28, Tryz.ntmps28
 go_wp2
 go_loopg [2, 3] n (fun k s2 s3 wr => ∃ i j : Nat, s2 = .int .i64 (i : Nat) ∧ s3 = .int .i64 (j : Nat) ∧ i + j + 1 = n ∧ i ≤ j + 1 ∧ i + k = n ∧ Fr [g] w wr ∧ ∃ A', wr.heap[g]? = some (.cells A' 5 (0, 0)) ∧ A'.size = A0.size ∧ ∀ k, k < n → A'[k]? = some (.int .u8 ((rvs l n i k).toNat : Nat)))
 case atStart => exact ⟨0, n - 1, rfl, by go_num, by omega, by omega, by omega, Fr.refl _ _, A0, H0.out.1, rfl, fun k hk => by rw [H0.out.2.2 k hk]; unfold rvs; rw [if_neg (by omega)]⟩
 case round =>
  obtain ⟨i, j, rfl, rfl, hij, hi1, hik, hf, A, hA, hAs, hAc⟩ := hrel
  by_cases h : i < j
  ·obtain ⟨k, rfl⟩ : ∃ k, gk = k + 1 := ⟨gk - 1, by omega⟩
   have d0 := (cell_of hA i).trans (hAc i (by omega))
   have d1 := (cell_of hA j).trans (hAc j (by omega))
   obtain ⟨x, hx⟩ : ∃ x, x = (rvs l n i i).toNat := ⟨_, rfl⟩
   obtain ⟨y, hy⟩ : ∃ y, y = (rvs l n i j).toNat := ⟨_, rfl⟩
   rw [← hx] at d0
   rw [← hy] at d1
   have hxb : x < 256 := by rw [hx]; exact UInt8.toNat_lt _
   have hyb : y < 256 := by rw [hy]; exact UInt8.toNat_lt _
   have HS := Lib.hid (And.intro hA (And.intro hAs (And.intro hAc (And.intro hx (And.intro hy hf)))))
   clear hA hAs hAc hx hy hf
   go_upto_region 3 with fail
   refine region_mixE [(0, 0), (0, 1), (0, 2), (0, 3), (0, 4), (0, 5), (0, 6), (1, 7), (0, 8), (0, 9), (0, 10), (1, 11), (0, 12), (2, 13), (0, 14), (2, 15)] [g] [13, 15] (by kernel_rfl) (by kernel_rfl) (fun _ _ d _ _ h => by cases d <;> exact h) ?_
   simp only [List.map_cons, List.map_nil, List.getD_cons_zero, List.getD_cons_succ]
   refine mixE_seg 7 rfl ?_
   simp only [List.take_succ_cons, List.take_zero, List.drop_succ_cons, List.drop_zero, List.map_cons, List.map_nil]
   repeat (go_big_quiet_step (fail))
   refine wpQuiet_nil ?_
   refine mixE_early 1 rfl ?_
   simp only [List.take_succ_cons, List.take_zero, List.drop_succ_cons, List.drop_zero, List.map_cons, List.map_nil]
   repeat (go_big_quiet_step (fail))
   refine wpQuiet_nil ?_
   refine mixE_seg 3 rfl ?_
   simp only [List.take_succ_cons, List.take_zero, List.drop_succ_cons, List.drop_zero, List.map_cons, List.map_nil]
   repeat (go_big_quiet_step (fail))
   refine wpQuiet_nil ?_
   refine mixE_early 1 rfl ?_
   simp only [List.take_succ_cons, List.take_zero, List.drop_succ_cons, List.drop_zero, List.map_cons, List.map_nil]
   repeat (go_big_quiet_step (fail))
   refine wpQuiet_nil ?_
   refine mixE_seg 1 rfl ?_
   simp only [List.take_succ_cons, List.take_zero, List.drop_succ_cons, List.drop_zero, List.map_cons, List.map_nil]
   repeat (go_big_quiet_step (fail))
   refine wpQuiet_nil ?_
   refine mixE_eff rfl ?_
   intro K hK
   have z0 := frozen_of HS.out.1 i
   go_wp2
   refine hK.out _ _ (Fr.from_drew (((Fr.refl [g] wr).setCell (by simp) _).drew)) ?_
   clear hK K z0
   have hA1 := setCell_of (o := i) HS.out.1 (.int .u8 (y : Nat))
   obtain ⟨ws1, hws1⟩ : ∃ ws1, ws1 = wr.setCell ⟨g, i, none⟩ (.int .u8 (y : Nat)) := ⟨_, rfl⟩
   rw [← hws1] at hA1 ⊢
   obtain ⟨A1, hB⟩ : ∃ A1, A1 = A.setIfInBounds i (.int .u8 (y : Nat)) := ⟨_, rfl⟩
   rw [← hB] at hA1
   have z0 := frozen_of hA1 j
   have c2 : ws1.cell? ⟨g, j, none⟩ = some (.int .u8 (y : Nat)) := by
    rw [cell_of hA1, hB, Array.getElem?_setIfInBounds_ne (by omega), ← cell_of HS.out.1]
    exact d1
   have HSy := Lib.hid (And.intro hA1 (And.intro hB hws1))
   clear hA1 hB hws1 d0 d1
   refine mixE_seg 1 rfl ?_
   simp only [List.take_succ_cons, List.take_zero, List.drop_succ_cons, List.drop_zero, List.map_cons, List.map_nil]
   repeat (go_big_quiet_step (fail))
   refine wpQuiet_nil ?_
   refine mixE_eff rfl ?_
   intro K hK
   go_wp2
   refine hK.out _ _ (Fr.from_drew (((Fr.refl [g] ws1).setCell (by simp) _).drew)) ?_
   clear hK K z0 c2
   refine mixE_nil ?_
   have hA2 := setCell_of (o := j) HSy.out.1 (.int .u8 (x : Nat))
   obtain ⟨w2, hw2⟩ : ∃ w2, w2 = ws1.setCell ⟨g, j, none⟩ (.int .u8 (x : Nat)) := ⟨_, rfl⟩
   rw [← hw2] at hA2 ⊢
   have HZ := Lib.hid (And.intro hA2 hw2)
   clear hA2 hw2
   go_wp2
   go_roundg k
   case measure => omega
   case rel =>
    obtain ⟨hA, hAs, hAc, hx, hy, hf⟩ := HS.out
    obtain ⟨hA1, hB, hws1⟩ := HSy.out
    obtain ⟨hA2, hw2⟩ := HZ.out
    refine ⟨i + 1, j - 1, by go_num, by go_num, by omega, by omega, by omega, ?_, _, hA2, by rw [Array.size_setIfInBounds, hB, Array.size_setIfInBounds, hAs], fun k hk => ?_⟩
    ·rw [hw2, hws1]
     exact hf.trans ((((Fr.refl [g] wr).setCell (by simp) _).setCell (by simp) _).drew)
    ·have hsz : ∀ k, k < n → k < A.size := fun k hk => (Array.getElem?_eq_some_iff.1 (hAc k hk)).1
     rw [rvs_step hij h k hk]
     by_cases h1 : k = j
     ·subst h1
      rw [Array.getElem?_setIfInBounds_self_of_lt (by rw [hB, Array.size_setIfInBounds]; exact hsz k hk), if_neg (by omega), if_pos rfl, hx]
     ·rw [Array.getElem?_setIfInBounds_ne (by omega), hB]
      by_cases h2 : k = i
      ·subst h2
       rw [Array.getElem?_setIfInBounds_self_of_lt (hsz k hk), if_pos rfl, hy]
      ·rw [Array.getElem?_setIfInBounds_ne (by omega), if_neg h2, if_neg h1]
       exact hAc k hk
  ·have HS := Lib.hid (And.intro hA (And.intro hAs (And.intro hAc hf)))
   clear hA hAs hAc hf
   go_wp2
   refine bodyPost_end (results_none rfl _ _ _) rfl ⟨rfl, HS.out.2.2.2, A, HS.out.1, HS.out.2.1, fun k hk => ?_⟩
   rw [HS.out.2.2.1 k hk, rvs_end H0.out.2.1 hij h k hk hi1]
end Go.Proofs.YtkmpfgpfbmeihaaGreatDoor.pk
namespace Go.Proofs.YtkmpfgpfbmeihaaGreatDoor.pk
open Go Go.RowKit lib bm
theorem clip_b (ao : Option Addr) (len cap : Nat) (w : World) (hle : len ≤ cap) (hmax : cap ≤ maxLen) :
  Calls Tryz.prog 29 #[.slice ao len cap] w fun e w' => e = .returned (.slice ao len len) ∧ w' = w := by
 go_enter Tryz.func29, Tryz.ntmps29
 go_wp2
 all_goals go_ret
 all_goals exact ⟨by first | rfl | simp, rfl⟩
theorem bkF_step {f m : Nat} (h : 0 < m) (hf : m ≤ f) : bkF f m = UInt8.ofNat ((m - 1) % 128 + 128) :: bkF f ((m - 1) / 128) := by
 cases f with
 | zero => omega
 | succ f => rw [bkF, if_neg (by omega), bkF_fuel (f := f) (g := f + 1) (by omega) (by omega)]
theorem bkF_zero (f : Nat) : bkF f 0 = [] := by cases f <;> simp [bkF]
theorem getD_byte {l : List UInt8} {C : Array Value} {k : Nat} (hk : k < l.length) (h : C.toList.take l.length = l.map bv) : C[k]? = some (.int .u8 ((l[k]?.getD 0).toNat : Nat)) := by
 have h1 := congrArg (fun (x : List Value) => x[k]?) h
 simp only [List.getElem?_take, if_pos hk, List.getElem?_map] at h1
 rw [List.getElem?_eq_getElem hk] at h1
 simp only [Option.map_some, bv] at h1
 rw [List.getElem?_eq_getElem hk, Option.getD_some, ← h1]
 simp
theorem own_one (w : World) (v : Value) : (w.alloc (.cells #[v] 5)).ownsRow 0 5 1 (.slice (some ⟨w.heap.size, 0, none⟩) 1 1) 1 [v] :=
 ⟨rfl, .inr ⟨w.heap.size, 1, #[v], rfl, Nat.zero_le _, alloc_at _ _, Nat.le_refl _, by decide, rfl, rfl⟩⟩
set_option maxHeartbeats 2000000 in
theorem back_any (n : Nat) (w : World) (hn : n ≤ 9007199254740992) : Calls Tryz.prog 9 #[.int .i64 (n : Nat)] w (NewBytes w (bk n).reverse) := by
 obtain ⟨bs, hbs⟩ : ∃ bs, bs = bk n := ⟨_, rfl⟩
 have hbl : bs.length ≤ 10 := by
  rw [hbs]
  have := bkF_len (k := 9) (f := n) (m := n / 128) (by omega)
  unfold bk
  simp only [List.length_cons]
  omega
 have h7 := low7 n
 obtain ⟨t0, ht0⟩ : ∃ t, t = n % 128 := ⟨_, rfl⟩
 have ht1 : t0 ≤ 127 := by omega
 rw [← ht0] at h7
 obtain ⟨x0, hx0⟩ : ∃ x, x = UInt8.ofNat t0 := ⟨_, rfl⟩
 have hb0 : bs = [x0] ++ bkF n (n / 128) := by rw [hbs, hx0, ht0]; rfl
 have hv0 : [bv x0] = [.int .u8 (t0 : Int)] := by unfold bv; rw [hx0, toNat_byte (by omega)]
 have ow0 := own_one w (.int .u8 (t0 : Int))
 rw [← hbs]
 have HB := Lib.hid (And.intro hb0 (And.intro hbl (And.intro hv0 ow0)))
 clear hb0 hbl hx0 hbs ht0 hv0 ow0
 go_enter Tryz.func9, Tryz.ntmps9
 go_upto_region 2 with (refine wpList_max2 (n : Int) rfl _ _ _ rfl (n : Int) 0 rfl rfl (by split <;> omega) ?_)
 go_upto_block 0 with fail
 clear h7
 go_cut [3] from 14 to 25 (fun s3 wz => ∃ a cap, s3 = .slice a bs.length cap ∧ Wr w wz a cap bs)
 case first =>
  go_wp2
  go_loopg [0, 3] n (fun k s0 s3 wr => ∃ m a cap out, s0 = .int .i64 (m : Nat) ∧ s3 = .slice a out.length cap ∧ m ≤ k ∧ m ≤ n ∧ Wr w wr a cap out ∧ bs = out ++ bkF n m)
  case atStart => exact ⟨n / 128, some ⟨w.heap.size, 0, none⟩, 1, [x0], by go_num, rfl, by omega, by omega, ⟨by simp only [List.length_cons, List.length_nil, List.map_cons, List.map_nil, HB.out.2.2.1]; exact HB.out.2.2.2, (Fr.refl _ _).alloc _, by simp [blk]⟩, HB.out.1⟩
  case round =>
   obtain ⟨m, a, cap, out, rfl, rfl, hk1, hns, h, hall⟩ := hrel
   have H := Lib.hid (And.intro h hall)
   have hol : out.length ≤ 10 := by
    have := congrArg List.length hall
    rw [List.length_append] at this
    have := HB.out.2.1
    omega
   clear h hall
   by_cases h0 : 0 < m
   ·obtain ⟨p, rfl⟩ : ∃ p, m = p + 1 := ⟨m - 1, by omega⟩
    have h7 := low7 p
    obtain ⟨t, ht⟩ : ∃ t, t = p % 128 := ⟨_, rfl⟩
    have ht1 : t ≤ 127 := by omega
    rw [← ht] at h7
    have ho := or_mark t ht1
    obtain ⟨x, hx⟩ : ∃ x, x = UInt8.ofNat (t + 128) := ⟨_, rfl⟩
    rw [← hx] at ho
    obtain ⟨S, hS⟩ : ∃ S, S = blk a := ⟨_, rfl⟩
    have HX := Lib.hid (And.intro hx (And.intro hS ht))
    have f0 : Fr [] wr (wr.alloc (.cells #[.int .u8 (x.toNat : Nat)] 5)) := (Fr.refl [] wr).alloc _
    have ownA := ownsRow_fr H.out.1.own f0 (by simp)
    have cA : Cs (wr.alloc (.cells #[.int .u8 (x.toNat : Nat)] 5)) (some ⟨wr.heap.size, 0, none⟩) [bv x] := cs_one _ _ _ 5 (alloc_at wr _)
    have HA := Lib.hid (And.intro ownA (And.intro cA f0))
    clear ownA cA f0 hx hS ht
    go_wp2_with (refine wpList_append sliceU8 rfl _ _ rfl (.slice a out.length cap) out.length (out.map bv) S rfl (by rw [own_blk, HX.out.2.1]) HA.out.1 (some ⟨wr.heap.size, 0, none⟩) 1 1 [bv x] rfl (by decide) (by simp) HA.out.2.1 (by rfl) (bv_one [x]) (by omega) (by unfold maxLen; omega) ?_; intro a2 c2 w2 A1; have HA1 := Lib.hid A1; clear A1)
    go_roundg (p / 128)
    case measure => omega
    case rel =>
     have A1 := HA1.out
     rw [HX.out.2.1] at A1
     refine ⟨p / 128, a2, c2, out ++ [x], by go_num, by rw [List.length_append]; rfl, Nat.le_refl _, by omega, H.out.1.step HA.out.2.2 A1, ?_⟩
     rw [H.out.2, bkF_step h0 hns, Nat.add_sub_cancel, ← HX.out.2.2, HX.out.1, List.append_assoc]
     rfl
   ·go_wp2
    go_meet
    obtain rfl : m = 0 := by omega
    have he : bs = out := by rw [H.out.2, bkF_zero, List.append_nil]
    exact ⟨a, cap, by rw [he], by rw [he]; exact H.out.1⟩
 case rest =>
 obtain ⟨a, cap, rfl, h⟩ := hcut
 have hb1 : 1 ≤ bs.length := by rw [HB.out.1]; simp
 have hb10 := HB.out.2.1
 obtain ⟨o1, o2⟩ := h.own
 have o3 := o2.resolve_left (fun hh => by omega)
 obtain ⟨g, cp, cur, e1, e2, e3, e4, e5, e6, e7⟩ := o3
 simp only [Value.slice.injEq] at e1
 obtain ⟨rfl, _, rfl⟩ := e1
 have hrv := rev_any g bs.length cap cur bs wc e3 rfl hb1 (by omega) e4 (fun k hk => getD_byte hk (by rw [← e7, Nat.mul_one]))
 obtain ⟨N, hN⟩ : ∃ N, N = bs.length := ⟨_, rfl⟩
 rw [← hN] at hrv hb1 hb10 e4 ⊢
 have H := Lib.hid (And.intro h.fr (And.intro (h.new g (by simp [blk])) (And.intro hN (And.intro hrv (lt_of_block e3)))))
 clear h o1 o2 e2 e3 e6 e7 hrv hN
 go_wp2_with (first
  | (go_at_call 28; refine H.out.2.2.2.1.mono ?_; rintro e w1 ⟨rfl, f1, A', q1, q2, q3⟩; have H1 := Lib.hid (And.intro f1 (And.intro q1 q3)); clear f1 q1 q2 q3)
  | (go_at_call 29; refine (clip_b _ N cap _ e4 e5).mono ?_; rintro e w2 ⟨rfl, hw⟩; obtain rfl := hw.symm))
 go_ret
 have hf : Fr [] w w1 := H.out.1.step H1.out.1 (fun y hy => .inr (by simp only [List.mem_singleton] at hy; rw [hy]; exact H.out.2.1))
 have hl : bs.reverse.length = N := by rw [List.length_reverse, H.out.2.2.1]
 refine ⟨some ⟨g, 0, none⟩, by rw [hl]; rfl, ⟨.inr ⟨g, 0, rfl, fun j u hj => ?_⟩, by rw [hl]; exact Nat.le_refl _, by rw [hl]; omega, fun e => by cases e⟩, fun y hy => ?_, hf⟩
 ·rw [List.getElem?_map] at hj
  have hjl : j < bs.reverse.length := by
   rcases Nat.lt_or_ge j bs.reverse.length with h | h
   ·exact h
   ·rw [List.getElem?_eq_none h] at hj; cases hj
  have := H1.out.2.2 j (by omega)
  rw [Nat.zero_add, cell_of H1.out.2.1, this]
  rw [List.getElem?_eq_getElem hjl] at hj ⊢
  exact hj
 ·simp only [blk, List.mem_singleton] at hy
  rw [hy]
  exact ⟨H.out.2.1, lt_of_block H1.out.2.1⟩
end Go.Proofs.YtkmpfgpfbmeihaaGreatDoor.pk
namespace Go.Proofs.YtkmpfgpfbmeihaaGreatDoor.pk
open Go Go.RowKit lib bm
set_option maxHeartbeats 4000000 in
theorem write_nil (w : World) : Calls Tryz.prog 15 #[.slice none 0 0, .slice none 0 0] w (NewBytes w (begin12 ++ sha.sha1 begin12)) := by
 have hmm := fun w' => run_makeMap (P := Tryz.prog) 75 w'
 have hcv : ∀ w' : World, (convert 23 23 (.slice (some ⟨w'.heap.size, 0, none⟩) 8 8)).run Tryz.prog (w'.alloc (.cells #[.int .u8 80, .int .u8 65, .int .u8 67, .int .u8 75, .int .u8 0, .int .u8 0, .int .u8 0, .int .u8 2] 5)) = .ok (.slice (some ⟨w'.heap.size, 0, none⟩) 8 8) (w'.alloc (.cells #[.int .u8 80, .int .u8 65, .int .u8 67, .int .u8 75, .int .u8 0, .int .u8 0, .int .u8 0, .int .u8 2] 5 (8, 9))) := fun w' => Lib.run_convert_bytes_const (P := Tryz.prog) w' 23 5 #[.int .u8 80, .int .u8 65, .int .u8 67, .int .u8 75, .int .u8 0, .int .u8 0, .int .u8 0, .int .u8 2] 8 8 Tryz.underlying23 Tryz.underlying5
 go_enter Tryz.func15, Tryz.ntmps15
 go_upto_region 3 with (first
  | (go_at_call 31; refine (right_nil _).mono ?_; rintro e w1 ⟨rfl, hw⟩; obtain rfl := hw.symm)
  | (go_at_call 17; refine (order_nil _).mono ?_; rintro e w1 ⟨rfl, f1⟩))
 obtain ⟨P, w2, hP, hw2, f2, q2⟩ : ∃ P w2, P = w1.heap.size ∧ w2 = w1.alloc (.cells #[.slice none 0 0, .slice none 0 0, .slice none 0 0, .slice none 0 0] 74) ∧ Fr [] w w2 ∧ w2.heap[P]? = some (.cells #[.slice none 0 0, .slice none 0 0, .slice none 0 0, .slice none 0 0] 74 (0, 0)) := ⟨_, _, rfl, rfl, f1.alloc _, alloc_at w1 _⟩
 have hPw : w.heap.size ≤ P := by rw [hP]; exact f1.size
 have hP2 : P < w2.heap.size := lt_of_block q2
 rw [← hw2, ← hP]
 clear hw2 hP f1
 obtain ⟨B, hB⟩ : ∃ B, B = w2.heap.size := ⟨_, rfl⟩
 have c8 : Cs ((w2.alloc (.cells #[.int .u8 80, .int .u8 65, .int .u8 67, .int .u8 75, .int .u8 0, .int .u8 0, .int .u8 0, .int .u8 2] 5 (8, 9))).alloc (.cells #[.int .u8 0, .int .u8 0, .int .u8 0, .int .u8 0] 5)) (some ⟨w2.heap.size, 0, none⟩) [.int .u8 80, .int .u8 65, .int .u8 67, .int .u8 75, .int .u8 0, .int .u8 0, .int .u8 0, .int .u8 2] := by
  have := alloc_old (.cells #[.int .u8 0, .int .u8 0, .int .u8 0, .int .u8 0] 5) (alloc_at w2 (.cells #[.int .u8 80, .int .u8 65, .int .u8 67, .int .u8 75, .int .u8 0, .int .u8 0, .int .u8 0, .int .u8 2] 5 (8, 9)))
  exact .inr ⟨w2.heap.size, 0, rfl, fun j u hj => by rw [cell_of this]; simpa using hj⟩
 have c4 : Cs ((w2.alloc (.cells #[.int .u8 80, .int .u8 65, .int .u8 67, .int .u8 75, .int .u8 0, .int .u8 0, .int .u8 0, .int .u8 2] 5 (8, 9))).alloc (.cells #[.int .u8 0, .int .u8 0, .int .u8 0, .int .u8 0] 5)) (some ⟨w2.heap.size + 1, 0, none⟩) [.int .u8 0, .int .u8 0, .int .u8 0, .int .u8 0] := by
  have := alloc_at (w2.alloc (.cells #[.int .u8 80, .int .u8 65, .int .u8 67, .int .u8 75, .int .u8 0, .int .u8 0, .int .u8 0, .int .u8 2] 5 (8, 9))) (.cells #[.int .u8 0, .int .u8 0, .int .u8 0, .int .u8 0] 5)
  rw [World.size_alloc] at this
  exact .inr ⟨w2.heap.size + 1, 0, rfl, fun j u hj => by rw [cell_of this]; simpa using hj⟩
 have fa := ((Fr.refl [] w2).alloc (.cells #[.int .u8 80, .int .u8 65, .int .u8 67, .int .u8 75, .int .u8 0, .int .u8 0, .int .u8 0, .int .u8 2] 5 (8, 9))).alloc (.cells #[.int .u8 0, .int .u8 0, .int .u8 0, .int .u8 0] 5)
 have HO := Lib.hid (And.intro c8 (And.intro c4 (And.intro (fa.blk q2 (by simp)) (And.intro (f2.trans fa) hB))))
 clear c8 c4 fa f2 q2 hB
 go_upto_region 4 with (at_builtin; refine wpList_append_full sliceU8 rfl _ _ rfl (some ⟨w2.heap.size, 0, none⟩) 8 8 [.int .u8 80, .int .u8 65, .int .u8 67, .int .u8 75, .int .u8 0, .int .u8 0, .int .u8 0, .int .u8 2] rfl HO.out.1 rfl (by decide) (by simp) (some ⟨w2.heap.size + 1, 0, none⟩) 4 4 [.int .u8 0, .int .u8 0, .int .u8 0, .int .u8 0] rfl HO.out.2.1 rfl (by decide) (by decide) (by decide) ?_; intro c3 w3 A3; have q3 := A3.fr.blk HO.out.2.2.1 (by simp); have cc := cell_of q3 0; have zz := frozen_of q3 0; simp only [List.getElem?_toArray, List.getElem?_cons_zero] at cc; have HA := Lib.hid (And.intro A3 q3); clear A3 q3)
 clear cc zz
 obtain ⟨G, hG⟩ : ∃ G, G = w2.heap.size + 1 + 1 := ⟨_, rfl⟩
 obtain ⟨w4, hw4⟩ : ∃ w4, w4 = w3.setCell ⟨P, 0, none⟩ (.slice (some ⟨w2.heap.size + 1 + 1, 0, none⟩) 12 c3) := ⟨_, rfl⟩
 rw [← hw4, ← hG]
 have q4 : w4.heap[P]? = some (.cells #[.slice (some ⟨G, 0, none⟩) 12 c3, .slice none 0 0, .slice none 0 0, .slice none 0 0] 74 (0, 0)) := by rw [hw4, hG]; exact setCell_of HA.out.2 _
 have f34 : Fr [P] w3 w4 := by rw [hw4]; exact (Fr.refl [P] w3).setCell (by simp) _
 have f4 : Fr [] w w4 := (HO.out.2.2.2.1.trans HA.out.1.fr).step f34 (fun y hy => .inr (by simp only [List.mem_singleton] at hy; omega))
 have own4 : w4.ownsRow 0 5 1 (.slice (some ⟨G, 0, none⟩) 12 c3) 12 (begin12.map bv) := by
  have h1 := HA.out.1.own
  rw [World.size_alloc, World.size_alloc, ← hG] at h1
  exact ownsRow_fr h1 f34 (fun k hk => by
   simp only [Value.ownBlock, Option.some.injEq] at hk
   simp only [List.mem_singleton]
   omega)
 have hGw : w.heap.size ≤ G := by have := f4.size; omega
 have hPG : P ≠ G := by omega
 have hc3 : 12 ≤ c3 ∧ c3 ≤ maxLen := ⟨HA.out.1.le, HA.out.1.max⟩
 unfold maxLen at hc3
 have H4 := Lib.hid (And.intro q4 (And.intro f4 (And.intro own4 (And.intro hGw hPG))))
 clear q4 f34 f4 own4 hGw hw4 hG HO HA hcv hPG
 go_upto_region 5 with fail
 obtain ⟨M, hM⟩ : ∃ M, M = w4.heap.size := ⟨_, rfl⟩
 obtain ⟨w5, hw5⟩ : ∃ w5, w5 = (w4.alloc (.map #[] 0)).alloc (.cells #[.map (some w4.heap.size)] 75) := ⟨_, rfl⟩
 have f5 : Fr [] w4 w5 := by rw [hw5]; exact ((Fr.refl [] w4).alloc _).alloc _
 rw [← hw5]
 have q5 := f5.blk H4.out.1 (by simp)
 have e1 : w5.cell? ⟨P, 1, none⟩ = some (.slice none 0 0) := by rw [cell_of q5]; rfl
 have H5 := Lib.hid f5
 clear f5 hw5 q5 hM M hmm
 go_wp2
 go_loopg [46] 0 (fun k s46 wr => s46 = .int .i64 0 ∧ Fr [] w5 wr)
 case atStart => exact ⟨rfl, Fr.refl _ _⟩
 case round =>
 obtain ⟨rfl, hf⟩ := hrel
 have e1' := hf.cell e1 (by simp)
 obtain ⟨w6, hw6⟩ : ∃ w6, w6 = wr := ⟨_, rfl⟩
 have H6 := Lib.hid hf
 clear hf e1
 go_wp2_with (first
  | (go_at_call 31; refine (right_nil _).mono ?_; rintro e w1 ⟨rfl, hw⟩; obtain rfl := hw.symm)
  | (go_at_call 32; refine (delete_nil _ _).mono ?_; rintro e w1 ⟨rfl, hw⟩; obtain rfl := hw.symm))
 go_loopg [63] 0 (fun k s63 wq => s63 = .int .i64 0 ∧ wq = wr)
 case atStart => exact ⟨rfl, rfl⟩
 case round =>
 obtain ⟨rfl, rfl⟩ := hrel
 clear hw6 w6 e1'
 have f6 : Fr [] w4 wr := H5.out.trans H6.out
 have own6 := ownsRow_fr H4.out.2.2.1 (f6.trans (Fr.drew1 [] wr)) (by simp)
 have hP := (f6.trans (Fr.drew1 [] wr)).blk H4.out.1 (by simp)
 have q0 : ∀ x, (sup [G] wr.drew x).cell? ⟨P, 0, none⟩ = some (.slice (some ⟨G, 0, none⟩) 12 c3) := fun x => (sup_fr [G] wr.drew x).cell (by rw [cell_of hP]; rfl) (by simpa using H4.out.2.2.2.2)
 obtain ⟨r6, _⟩ := rd_of_owns own6
 have hsh := sha.sha1_any (some ⟨G, 0, none⟩) c3 begin12 wr.drew r6 (by decide)
 have H7 := Lib.hid (And.intro f6 (And.intro own6 hsh))
 clear f6 own6 hsh r6 hP
 go_upto_region 16 with fail
 refine region_mix 11 [(false, 0), (false, 1), (false, 2), (false, 3), (false, 4), (false, 5), (false, 6), (false, 7), (true, 8), (true, 9), (true, 10)] [G] (by kernel_rfl) (by kernel_rfl) (fun _ _ d _ _ h => by cases d <;> exact h) ?_
 simp only [List.map_cons, List.map_nil, List.getD_cons_zero, List.getD_cons_succ, List.drop_succ_cons, List.drop_zero, List.drop_nil]
 refine mix_seg 8 rfl ?_
 simp only [List.take_succ_cons, List.take_zero, List.drop_succ_cons, List.drop_zero, List.map_cons, List.map_nil]
 repeat (go_big_quiet_step (fail))
 refine wpQuiet_nil ?_
 clear q0
 refine mix_eff rfl ?_
 intro X hX
 go_wp2_with (go_at_call 35; refine H7.out.2.2.mono ?_; rintro e w7 ⟨⟨a7, c7, rfl, r7⟩, f7⟩)
 refine hX.out _ _ (f7.mono (by simp)) ?_
 clear hX X
 have HS := Lib.hid (And.intro r7 f7)
 clear r7 f7
 have own7 := ownsRow_fr H7.out.2.1 HS.out.2 (by simp)
 have c7l := HS.out.1.le
 rw [sha.sha1_length] at c7l
 refine mix_eff rfl ?_
 intro X hX
 refine wp_append sliceU8 _ _ rfl (.slice (some ⟨G, 0, none⟩) 12 c3) 12 (begin12.map bv) [G] rfl rfl own7 a7 20 c7 ((sha.sha1 begin12).map bv) rfl c7l HS.out.1.nil HS.out.1.cs (by rw [List.length_map]; rfl) (bv_one _) (by omega) (by unfold maxLen; omega) ?_
 intro a8 c8 w8 A8
 refine hX.out _ _ A8.fr ?_
 clear hX X
 refine mix_eff rfl ?_
 intro X hX
 go_wp2_with (go_at_call 29; refine (clip_b a8 32 c8 _ A8.le A8.max).mono ?_; rintro e w9 ⟨rfl, hw⟩; obtain rfl := hw.symm)
 refine hX.out _ _ (Fr.refl _ _) ?_
 clear hX X
 refine mix_nil ?_
 have H8 := Lib.hid A8
 clear A8 own7 c7l
 go_wp2
 go_ret
 have o8 := H8.out.own
 rw [← List.map_append] at o8
 obtain ⟨r8, _⟩ := rd_of_owns o8
 have f47 : Fr [] w w7 := H4.out.2.1.trans (H7.out.1.trans ((Fr.drew1 [] wr).trans HS.out.2))
 refine ⟨a8, rfl, ⟨r8.cs, Nat.le_refl _, by decide, fun e => by have := r8.nil e; have := r8.le; rw [List.length_append, sha.sha1_length] at this; simp [begin12] at this; omega⟩, fun x hx => ⟨?_, owns_lt o8 (blk_own hx)⟩, f47.step H8.out.fr (fun y hy => .inr (by simp only [List.mem_singleton] at hy; rw [hy]; exact H4.out.2.2.2.1))⟩
 rcases H8.out.at_ x hx with h | h
 ·simp only [List.mem_singleton] at h
  rw [h]; exact H4.out.2.2.2.1
 ·rw [h]; exact f47.size
end Go.Proofs.YtkmpfgpfbmeihaaGreatDoor.pk
namespace Go.Proofs.YtkmpfgpfbmeihaaGreatDoor.pk
open Go Go.RowKit lib bm
theorem clip_raw (w : World) : Calls Tryz.prog 45 #[.slice none 0 0] w fun e w' => e = .returned (.slice none 0 0) ∧ w' = w := by
 go_enter Tryz.func45, Tryz.ntmps45
 go_wp2
 go_ret
 exact ⟨rfl, rfl⟩
theorem slice_begin (w : World) : (Instr.slice 9 (.string ⟨#[80, 65, 67, 75, 0, 0, 0, 2]⟩) none (some (.int .i64 8)) none).run Tryz.prog w = .ok (.string ⟨#[80, 65, 67, 75, 0, 0, 0, 2]⟩) w := by
 kernel_rfl
set_option maxHeartbeats 4000000 in
theorem read_nil (a : Option Addr) (w : World) (h : lib.Rd w a 32 (begin12 ++ sha.sha1 begin12)) (hlow : ∀ x ∈ blk a, x < w.heap.size) :
  Calls Tryz.prog 18 #[.slice a 32 32] w fun e w' => (∃ s : ByteArray, s.size = 40 ∧ e = .returned (.tuple #[.slice none 0 0, .string s, .int .i64 0])) ∧ Fr [] w w' := by
 have hlen : (begin12 ++ sha.sha1 begin12).length = 32 := by rw [List.length_append, sha.sha1_length]; rfl
 obtain ⟨bs, hbs⟩ : ∃ bs, bs = begin12 ++ sha.sha1 begin12 := ⟨_, rfl⟩
 have e8 : bs.take 8 = [80, 65, 67, 75, 0, 0, 0, 2] := by rw [hbs]; rfl
 have e12 : bs.take 12 = begin12 := by rw [hbs]; rfl
 have e84 : (bs.drop 8).take 4 = [0, 0, 0, 0] := by rw [hbs]; rfl
 have e20 : (bs.drop 12).take 20 = sha.sha1 begin12 := by rw [hbs]; exact List.take_of_length_le (Nat.le_of_eq (sha.sha1_length _))
 rw [← hbs] at h hlen
 clear hbs
 obtain ⟨g, o, rfl, _⟩ := h.cs.at (by rw [List.length_map, hlen]; decide)
 have r8 := h.take 8
 rw [e8] at r8
 have cv8 : ∀ x c, (convert 23 9 (.slice (some ⟨g, o, none⟩) 8 c)).run Tryz.prog (w.drewN x) = .ok (.string ⟨#[80, 65, 67, 75, 0, 0, 0, 2]⟩) (w.drewN x) := fun x c => run_conv (w.drewN x) Tryz.underlying23 Tryz.underlying5 Tryz.underlying9 rfl (r8.cs.fr (Fr.drewN [] w x) (by simp)) c
 have hs8 := fun w' => lib.run_slice_to sliceU8 8 (some ⟨g, o, none⟩) 32 32 8 rfl (by decide) w'
 have hsb := slice_begin
 have HH := Lib.hid (And.intro h (And.intro hlen (And.intro (hlow g (by simp [blk])) (And.intro e12 (And.intro e84 e20)))))
 clear h hlen hlow e8 e12 e84 e20 r8
 go_enter Tryz.func18, Tryz.ntmps18
 go_upto_region 4 with fail
 go_quiet (fail)
 go_upto_region 7 with fail
 obtain ⟨R, w2, hR, hw2, f2, q2⟩ : ∃ R w2, R = w.heap.size ∧ w2 = (w.drewN nq).alloc (.cells #[.slice (some ⟨g, o, none⟩) 32 32, .int .i64 8] 85) ∧ Fr [] w w2 ∧ w2.heap[R]? = some (.cells #[.slice (some ⟨g, o, none⟩) 32 32, .int .i64 8] 85 (0, 0)) := ⟨_, _, rfl, rfl, (Fr.drewN [] w nq).alloc _, alloc_at (w.drewN nq) _⟩
 rw [← hw2, ← hR]
 have hgR : g ≠ R := by have := HH.out.2.2.1; omega
 have rdr : Rdr w2 R (some ⟨g, o, none⟩) 32 bs 8 := ⟨by rw [HH.out.2.1]; exact q2, HH.out.1.fr f2, by rw [HH.out.2.1]; decide, fun _ x hx => by simp only [blk, List.mem_singleton] at hx; rw [hx]; exact hgR⟩
 have ht := take_good R (some ⟨g, o, none⟩) 32 bs 8 4 w2 rdr (by rw [HH.out.2.1]; decide) (by rw [HH.out.2.1]; decide)
 have c8 : cutAt (some ⟨g, o, none⟩) 32 8 = some ⟨g, o + 8, none⟩ := by unfold cutAt; simp [addr_add]
 rw [c8] at ht
 have H2 := Lib.hid (And.intro f2 (And.intro ht (And.intro hgR hR)))
 clear hw2 hR f2 q2 rdr ht hgR c8 cv8 hs8 hsb
 go_upto_region 8 with (go_at_call 43; refine H2.out.2.1.mono ?_; rintro e w3 ⟨rfl, rd3, f3⟩)
 have f3w : Fr [] w w3 := H2.out.1.step f3 (fun y hy => .inr (by simp only [List.mem_singleton] at hy; rw [hy, H2.out.2.2.2]; exact Nat.le_refl _))
 have rz := rd3.rd.mid 8 4 (by rw [HH.out.2.1]; decide)
 rw [HH.out.2.2.2.2.1, show cutAt (some ⟨g, o, none⟩) 32 8 = some ⟨g, o + 8, none⟩ by unfold cutAt; simp [addr_add]] at rz
 have z : ∀ i, i < 4 → w3.cell? ⟨g, o + 8 + i, none⟩ = some (.int .u8 0) := fun i hi => by
  obtain ⟨g', o', e, hc⟩ := rz.at (i := i) (by simpa using hi)
  cases e
  rw [hc]
  match i, hi with
  | 0, _ => rfl
  | 1, _ => rfl
  | 2, _ => rfl
  | 3, _ => rfl
 have z0 := z 0 (by decide)
 rw [Nat.add_zero] at z0
 have z1 := z 1 (by decide)
 have z2 := z 2 (by decide)
 have z3 := z 3 (by decide)
 have ob : bits .or .i64 0 0 = 0 := by decide
 have H3 := Lib.hid (And.intro rd3 f3w)
 clear rd3 f3 f3w rz z
 go_upto_region 10 with fail
 go_quiet (fail)
 clear z0 z1 z2 z3 ob
 obtain ⟨w4, hw4⟩ : ∃ w4, w4 = w3.drewN nq := ⟨_, rfl⟩
 rw [← hw4]
 have f4 : Fr [] w3 w4 := by rw [hw4]; exact Fr.drewN [] w3 nq
 have rd4 := H3.out.1.fr f4
 have c1 : w4.cell? ⟨R, 1, none⟩ = some (.int .i64 12) := by rw [cell_of rd4.box]; rfl
 have r12 := rd4.rd.take 12
 rw [HH.out.2.2.2.1] at r12
 have hsh := sha.sha1_any (some ⟨g, o, none⟩) 32 begin12 w4 r12 (by decide)
 have hs12 := fun w' => lib.run_slice_to sliceU8 12 (some ⟨g, o, none⟩) 32 32 12 rfl (by decide) w'
 have H4 := Lib.hid (And.intro rd4 (And.intro (H3.out.2.trans f4) hsh))
 clear rd4 f4 hw4 r12 hsh
 go_wp2
 go_loopg [2, 66] 0 (fun k s2 s66 wr => s2 = .slice none 0 0 ∧ s66 = .int .i64 0 ∧ wr = w4)
 case atStart => exact ⟨rfl, rfl, rfl⟩
 case round =>
 obtain ⟨rfl, rfl, rfl⟩ := hrel
 go_upto_region 21 with (go_at_call 35; refine H4.out.2.2.mono ?_; rintro e w5 ⟨⟨a5, c5, rfl, r5⟩, f5⟩)
 have rd5 := H4.out.1.fr f5
 have ht := take_good R (some ⟨g, o, none⟩) 32 bs 12 20 w5 rd5 (by rw [HH.out.2.1]; decide) (by rw [HH.out.2.1]; decide)
 have c12 : cutAt (some ⟨g, o, none⟩) 32 12 = some ⟨g, o + 12, none⟩ := by unfold cutAt; simp [addr_add]
 rw [c12] at ht
 have hnew : R ∉ blk a5 := by
  obtain ⟨g5, o5, rfl, hc5⟩ := r5.cs.at (by rw [List.length_map, sha.sha1_length]; decide)
  simp only [blk, List.mem_singleton]
  rintro rfl
  obtain ⟨x, t, hx⟩ : ∃ x t, sha.sha1 begin12 = x :: t := by
   cases hh : sha.sha1 begin12 with
   | nil => have := congrArg List.length hh; rw [sha.sha1_length] at this; cases this
   | cons x t => exact ⟨x, t, rfl⟩
  have h0 := hc5 0 (bv x) (by rw [hx]; rfl)
  rw [cell_of rd5.box] at h0
  match o5, h0 with
  | 0, h0 => simp [bv] at h0
  | 1, h0 => simp [bv] at h0
  | n + 2, h0 => simp at h0
 have H5 := Lib.hid (And.intro r5 (And.intro f5 (And.intro ht hnew)))
 clear r5 f5 rd5 ht c12 hs12 c1 hnew
 go_upto_region 22 with (go_at_call 43; refine H5.out.2.2.1.mono ?_; rintro e w6 ⟨rfl, rd6, f6⟩)
 obtain ⟨S, hS⟩ : ∃ S, S = str (sha.sha1 begin12) := ⟨_, rfl⟩
 have r6 := H5.out.1.frS f6 (fun x hx hm => by simp only [List.mem_singleton] at hm; exact H5.out.2.2.2 (hm ▸ hx))
 have rm := rd6.rd.mid 12 20 (by rw [HH.out.2.1]; decide)
 rw [HH.out.2.2.2.2.2, show cutAt (some ⟨g, o, none⟩) 32 12 = some ⟨g, o + 12, none⟩ by unfold cutAt; simp [addr_add]] at rm
 have cvA := run_conv w6 Tryz.underlying23 Tryz.underlying5 Tryz.underlying9 (sha.sha1_length begin12) rm.cs
 have cvB := run_conv w6 Tryz.underlying23 Tryz.underlying5 Tryz.underlying9 (sha.sha1_length begin12) r6.cs
 rw [← hS] at cvA cvB
 have hss : (S == S) = true := by rw [hS, str_beq]; exact beq_self_eq_true _
 have k1 : w6.cell? ⟨R, 1, none⟩ = some (.int .i64 32) := by rw [cell_of rd6.box]; rfl
 have hex := hex_any a5 c5 (sha.sha1 begin12) w6 r6 (by decide)
 rw [sha.sha1_length] at hex
 obtain ⟨X, hX⟩ : ∃ X, X = str (hexb (sha.sha1 begin12)) := ⟨_, rfl⟩
 rw [← hX] at hex
 have hXs : X.size = 40 := by
  have : (str (hexb (sha.sha1 begin12))).size = (hexb (sha.sha1 begin12)).length := by simp [str, ByteArray.size]
  rw [hX, this, hexb_length, sha.sha1_length]
 have hf : Fr [] w w6 := (H4.out.2.1.trans H5.out.2.1).step f6 (fun y hy => .inr (by simp only [List.mem_singleton] at hy; rw [hy, H2.out.2.2.2]; exact Nat.le_refl _))
 have H6 := Lib.hid (And.intro hex (And.intro hXs hf))
 clear hex hXs hf hX rm r6 rd6 f6 hS
 go_wp2_with (first
  | (go_at_call 45; refine (clip_raw _).mono ?_; rintro e w7 ⟨rfl, hw⟩; obtain rfl := hw.symm)
  | (go_at_call 46; refine H6.out.1.mono ?_; rintro e w8 ⟨rfl, f8⟩))
 go_ret3
 exact ⟨⟨X, H6.out.2.1, rfl⟩, H6.out.2.2.trans f8⟩
end Go.Proofs.YtkmpfgpfbmeihaaGreatDoor.pk
