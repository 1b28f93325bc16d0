/-
  Texts of this proof, one behind the other: DeltaRefC, RfOver, RsIdx, RsClone, RsSt, RsStart, RsTry, PkLaw3, PkLaw4, RfItem, Same11, RfStep, RsTold, RsFrom, PkLaw5.
-/
import Derived.Test.YtkmpfgpfbmeihaaGreatDoorG8
import Derived.Lib.SliceRun
import Derived.Laws.StructEq
import Derived.Maps.OwnSet
set_option maxRecDepth 100000
set_option linter.unusedVariables false
set_option linter.unusedSimpArgs false
namespace Go.Proofs.YtkmpfgpfbmeihaaGreatDoor.delta
open Go Go.RowKit lib bm
theorem pl_none {c : Nat} {d : List UInt8} (hc : c < 256) (h128 : 128 ≤ c) (h : pl (c - 128) 7 0 0 0 d = none) :
  fld (c % 16) 4 0 0 d = none ∨ ∃ p q, fld (c % 16) 4 0 0 d = some (p, q) ∧ fld (c / 16 % 8) 3 0 0 q = none := by
 have h1 := pl_lo (c - 128) 0 4 0 0 d rfl
 rw [show 4 + 3 = 7 from rfl, h] at h1
 have e1 : fld (c - 128) 4 0 0 d = fld (c % 16) 4 0 0 d := fld_congr 4 0 0 d fun j _ hj => by
  rw [show c % 16 = (c - 128) % 2 ^ 4 from by omega, bit_mod _ 4 j (by omega)]
 rw [e1] at h1
 cases hx : fld (c % 16) 4 0 0 d with
 | none => exact .inl rfl
 | some x =>
  right
  rw [hx] at h1
  obtain ⟨p', q⟩ := x
  simp only [Option.bind_some] at h1
  have h2 := pl_hi (c - 128) p' 3 0 0 q
  rw [← h1] at h2
  have e2 : fld ((c - 128) / 16) 3 0 0 q = fld (c / 16 % 8) 3 0 0 q := fld_congr 3 0 0 q fun j _ hj => by
   rw [show c / 16 % 8 = ((c - 128) / 16) % 2 ^ 3 from by omega, bit_mod _ 3 j (by omega)]
  rw [e2] at h2
  refine ⟨p', q, rfl, ?_⟩
  cases hy : fld (c / 16 % 8) 3 0 0 q with
  | none => rfl
  | some y => rw [hy] at h2; cases h2
set_option maxHeartbeats 4000000 in
theorem field_bad (bt n : Nat) (a : Option Addr) (cap : Nat) (d : List UInt8) (w : World) (hn : n ≤ 4) (hbt : bt < 256) (h : Rd w a cap d) (hf : fld bt n 0 0 d = none) :
  Calls Tryz.prog 116 #[.slice a d.length cap, .int .i64 bt, .int .i64 n] w fun e w' => w = w' ∧ e = .returned (.tuple #[.int .i64 0, .slice none 0 0, .bool false]) := by
 have H0 := Lib.hid (And.intro h hf)
 clear h hf
 go_enter Tryz.func116, Tryz.ntmps116
 go_wp2
 go_loopg [0, 9, 10] n (fun k s0 s9 s10 wr => ∃ i x a' c q, i + k = n ∧ s10 = .int .i64 (i : Nat) ∧ s9 = .int .i64 (x : Nat) ∧ s0 = .slice a' q.length c ∧ (∀ wz, Rd wz a cap d → Rd wz a' c q) ∧ x < 256 ^ i ∧ x < 4294967296 ∧ fld bt k i x q = none ∧ w = wr)
 case atStart => exact ⟨0, 0, a, cap, d, by omega, rfl, rfl, rfl, fun _ h => h, by decide, by decide, H0.out.2, rfl⟩
 case round =>
  obtain ⟨i, x, ar, cr, q, hi, rfl, rfl, rfl, hrr, hx, hx32, hfl, rfl⟩ := hrel
  have hr := hrr w H0.out.1
  have hrl := hr.le
  have hmax := hr.max
  unfold maxLen at hmax
  have H := Lib.hid hr
  have HRR := Lib.hid hrr
  have HX := Lib.hid hx
  clear hrr hr hx
  by_cases hin : i < n
  ·obtain ⟨k, rfl⟩ : ∃ k, gk = k + 1 := ⟨gk - 1, by omega⟩
   have hb : bits .and .i64 ((bt : Int) / 2 ^ i) 1 = ((bt / 2 ^ i % 2 : Nat) : Int) := (i64_mask _ 1 (by decide)).trans (by
    rw [Int.natCast_emod, Int.natCast_ediv, Int.natCast_pow]; rfl)
   by_cases hbit : bt / 2 ^ i % 2 = 0
   ·rw [fld_skip hbit] at hfl
    rw [hbit] at hb
    have HPL := Lib.hid hfl
    clear hfl hbit
    go_wp2
    go_roundg k
    case measure => omega
    case rel => exact ⟨i + 1, x, ar, cr, q, by omega, by go_num, rfl, rfl, HRR.out, Nat.lt_of_lt_of_le HX.out (Nat.pow_le_pow_right (by decide) (by omega)), hx32, HPL.out, rfl⟩
   ·have hbit1 : bt / 2 ^ i % 2 = 1 := by omega
    rw [hbit1] at hb
    cases q with
    | nil =>
     clear hfl hbit hbit1
     go_wp2
     go_ret3
     exact ⟨rfl, rfl⟩
    | cons y t =>
     rw [fld_cons hbit1] at hfl
     obtain ⟨g, o, rfl, hc⟩ := H.out.at (i := 0) (by simp)
     have hy : y.toNat < 256 := UInt8.toNat_lt y
     simp only [Nat.add_zero, List.getElem_cons_zero] at hc
     have hdr := fun wz (hz : Rd wz a cap d) => (HRR.out wz hz).drop 1 (by simp)
     simp only [List.drop_succ_cons, List.drop_zero] at hdr
     obtain ⟨yn, hyn⟩ : ∃ yn, yn = y.toNat := ⟨_, rfl⟩
     rw [← hyn] at hc hy hfl
     obtain ⟨m, hm, hm32, hw⟩ := add_bytes x yn i (by omega) HX.out hy
     rw [← hm.1] at hfl
     have HM := Lib.hid (And.intro hm (And.intro hfl hdr))
     simp only [List.length_cons] at hrl
     have hs : wrap64 ((x : Int) + (m : Int)) = (x : Int) + m := wrap_sum x m hm32
     have hi4 : i < 4 := by omega
     have HI := Lib.hid (And.intro hi hn)
     clear hyn hm hfl hbit hbit1 hdr hs hi hn
     go_wp2_with (refine wpList_slice_from sliceU8 1 rfl _ _ rfl (some ⟨g, o, none⟩) (t.length + 1) cr _ rfl rfl rfl (by omega) (by omega) ?_)
     go_roundg k
     case measure => omega
     case rel =>
      have hi := HI.out.1
      exact ⟨i + 1, x + m, _, _, t, by omega, by go_num, by first | go_num | (rw [wrap_sum x m hm32]; go_num), rfl, HM.out.2.2, HM.out.1.2, hm32, HM.out.2.1, rfl⟩
  ·obtain rfl : i = n := by omega
   obtain rfl : gk = 0 := by omega
   simp only [fld] at hfl
   cases hfl
structure RAq (w wr : World) (hd : Array Value) (base : List UInt8) (tn k : Nat) (r out : List UInt8) (a : Option Addr) (c : Nat) (R : List UInt8 × Nat) : Prop where
 own : Own wr 5 a c (out.map bv)
 fr : Fr [] w wr
 new : ∀ x ∈ blk a, w.heap.size < x
 head : wr.heap[w.heap.size]? = some (.cells hd 182 (0, 0))
 few : out.length ≤ tn
 fuel : r.length ≤ k
 all : app base tn k r out = R
theorem RAq.more {w wr w2 : World} {hd : Array Value} {base : List UInt8} {tn k k' : Nat} {r r' out news : List UInt8} {a a2 : Option Addr} {c c2 m : Nat} {R : List UInt8 × Nat} (h : RAq w wr hd base tn k r out a c R) (hm : news.length = m)
  (A : OwnMore wr w2 5 a a2 c2 (out.map bv ++ news.map bv)) (hf : out.length + m ≤ tn) (hr : r'.length ≤ k') (hall : app base tn k' r' (out ++ news) = R) : RAq w w2 hd base tn k' r' (out ++ news) a2 c2 R := by
 have hlt := lt_of_block h.head
 refine ⟨by rw [List.map_append]; exact A.own, h.fr.step A.fr fun y hy => .inr (Nat.le_of_lt (h.new y hy)), fun y hy => ?_, A.fr.blk h.head fun hx => by have := h.new _ hx; omega, by rw [List.length_append, hm]; exact hf, hr, hall⟩
 rcases A.at_ y hy with h1 | h1
 ·exact h.new y h1
 ·omega
def RApp (w : World) (R : List UInt8 × Nat) (e : Ending) (w' : World) : Prop := ∃ a c, e = .returned (.tuple #[.slice a R.1.length c, .int .i64 (R.2 : Nat)]) ∧ Rd w' a c R.1 ∧ (∀ x ∈ blk a, w.heap.size ≤ x ∧ x < w'.heap.size) ∧ Fr [] w w'
theorem rapp_err {w w' : World} {x : Nat} {R : List UInt8 × Nat} (h : R = ([], x)) (f : Fr [] w w') : RApp w R (.returned (.tuple #[.slice none 0 0, .int .i64 (x : Nat)])) w' := by
 subst h
 exact ⟨none, 0, rfl, Rd.none _, by simp [blk], f⟩
set_option maxHeartbeats 16000000 in
theorem rapply_any (a b : Option Addr) (cap capd : Nat) (base d : List UInt8) (bound : Int) (w : World) (hb : Rd w a cap base) (hd : Rd w b capd d) (hdl : d.length ≤ 2199023255552) :
  Calls Tryz.prog 91 #[.slice a base.length cap, .slice b d.length capd, .int .i64 bound] w (RApp w (delta.apply base d bound)) := by
 obtain ⟨R, hR⟩ : ∃ R, R = delta.apply base d bound := ⟨_, rfl⟩
 rw [← hR]
 have h1 := drsizes_all b capd d w hd hdl
 unfold DSized at h1
 obtain ⟨hto, _⟩ := sizes_to d
 have hap : ∀ x, delta.sizes d = x → R = if x.2.2.2 ≠ 0 then ([], x.2.2.2) else if x.1 ≠ base.length then ([], 3) else if bound.toNat < x.2.1 then ([], 5) else app base x.2.1 x.2.2.1.length x.2.2.1 [] := by rintro x rfl; exact hR
 generalize delta.sizes d = x at *
 have hap := hap x rfl
 obtain ⟨fn, m, r, e⟩ := x
 simp only at h1 hto hap
 have hble := hb.le
 have hbm := hb.max
 unfold maxLen at hbm
 have hdle := hd.le
 have hdm := hd.max
 unfold maxLen at hdm
 have hmx : ((bound.toNat : Nat) : Int) = if 0 > bound then 0 else bound := by split <;> omega
 generalize bound.toNat = bt at *
 obtain ⟨bl, hbl2⟩ : ∃ bl, bl = base.length := ⟨_, rfl⟩
 rw [← hbl2] at hap hble ⊢
 have H := Lib.hid (And.intro h1 (And.intro hb (And.intro hd (And.intro hmx hbl2))))
 clear h1 hb hd hmx hR hbl2
 by_cases he : e = 0
 ·subst he
  rw [if_neg (by simp)] at hap
  by_cases hn : fn = bl
  ·rw [if_neg (by simp [hn])] at hap
   by_cases hbig : bt < m
   ·rw [if_pos hbig] at hap
    have HA := Lib.hid hap
    have hn' : ((fn : Int) != bl) = false := by simp [hn]
    clear hap
    go_enter Tryz.func91, Tryz.ntmps91
    go_wp2_with (first | (go_at_call 115; refine H.out.1.mono ?_; rintro e1 w1 ⟨u, rfl, hu, hl, f1⟩; have H1 := Lib.hid f1; clear hu f1) | (refine wpList_max2 (bt : Int) rfl _ _ _ rfl bound 0 rfl rfl H.out.2.2.2.1 ?_))
    go_ret2
    exact rapp_err HA.out (H1.out.alloc _)
   ·rw [if_neg hbig] at hap
    obtain ⟨n', hn2⟩ : ∃ n', n' = fn := ⟨_, rfl⟩
    subst hn
    clear hn2 n'
    have HA := Lib.hid hap
    clear hap
    go_enter Tryz.func91, Tryz.ntmps91
    have hbg : decide (bt < m) = false := by simp; omega
    go_upto_block 1 with (first | (go_at_call 115; refine H.out.1.mono ?_; rintro e1 w1 ⟨u, rfl, hu, hl, f1⟩; have H1 := Lib.hid (And.intro hu f1); clear hu f1) | (refine wpList_max2 (bt : Int) rfl _ _ _ rfl bound 0 rfl rfl H.out.2.2.2.1 ?_) | (refine wpList_slice_from sliceU8 u rfl _ _ rfl b d.length capd _ rfl rfl rfl hl hdle ?_))
    have hw2 : ∃ B w2, B = w1.heap.size ∧ w2 = (w1.alloc (.cells #[.int .i64 (fn : Nat), .int .i64 (m : Nat), .int .i64 (u : Nat), .int .i64 0] 182)).alloc (.cells #[] 5) ∧ RAq w1 w2 #[.int .i64 (fn : Nat), .int .i64 (m : Nat), .int .i64 (u : Nat), .int .i64 0] base m r.length r [] (some ⟨B + 1, 0, none⟩) 0 R := by
     refine ⟨_, _, rfl, rfl, .inr ⟨w1.heap.size + 1, 0, #[], rfl, ?_, Nat.zero_le _, Nat.zero_le _, Nat.zero_le _, rfl⟩, ((Fr.refl [] w1).alloc _).alloc _, ?_, alloc_old _ (alloc_at w1 _), Nat.zero_le _, Nat.le_refl _, HA.out.symm⟩
     ·have := alloc_at (w1.alloc (.cells #[.int .i64 (fn : Nat), .int .i64 (m : Nat), .int .i64 (u : Nat), .int .i64 0] 182)) (.cells #[] 5)
      rw [World.size_alloc] at this
      exact this
     ·intro x hx
      simp [blk] at hx
      omega
    obtain ⟨B, w2, hB, hW2, hap⟩ := hw2
    rw [← hW2]
    rw [← hB]
    have HA0 := Lib.hid (And.intro hap (And.intro hB hW2))
    have rd0 : Rd w1 (cutAtN b capd u 1) (capd - u) r := by
     rw [H1.out.1 (by trivial)]
     exact (H.out.2.2.1.fr H1.out.2).drop u hl
    have hrl : r.length = d.length - u := by rw [H1.out.1 (by trivial), List.length_drop]
    rw [← hrl]
    have HR0 := Lib.hid rd0
    clear hap hB hW2 rd0 hrl
    go_wp2
    go_loopg [1, 9] r.length (fun k s1 s9 wr => ∃ ar cr q ao co out, s1 = .slice ar q.length cr ∧ s9 = .slice ao out.length co ∧ Rd w1 ar cr q ∧ RAq w1 wr #[.int .i64 (fn : Nat), .int .i64 (m : Nat), .int .i64 (u : Nat), .int .i64 0] base m k q out ao co R)
    case atStart => exact ⟨_, _, r, _, 0, [], rfl, rfl, HR0.out, HA0.out.1⟩
    case round =>
     obtain ⟨ar, cr, q, ao, co, out, rfl, rfl, hq, h⟩ := hrel
     have hq1 := hq.le
     have hq2 := hq.max
     unfold maxLen at hq2
     have hfew := h.few
     have hfuel := h.fuel
     have hall := h.all
     have hco := h.own.shape
     obtain ⟨ho1, ho2, ho3⟩ := hco
     rw [List.length_map] at ho1
     unfold maxLen at ho2
     have hc1 := cell_of h.head 1
     simp only [List.getElem?_toArray, List.getElem?_cons_zero, List.getElem?_cons_succ] at hc1
     rw [← HA0.out.2.1] at hc1
     have HQ := Lib.hid hq
     have G := Lib.hid h
     have fwr : Fr [] w wr := H1.out.2.trans h.fr
     have HF := Lib.hid fwr
     clear hq h fwr
     cases q with
     | nil =>
      rw [app_nil] at hall
      by_cases hlt : out.length < m
      ·rw [if_pos hlt] at hall
       have HALL := Lib.hid hall
       clear hall
       go_wp2
       go_ret2
       exact rapp_err HALL.out.symm HF.out
      ·rw [if_neg hlt] at hall
       have hlt2 : decide (out.length < m) = false := by simpa using hlt
       have HALL := Lib.hid hall
       clear hall hlt
       go_wp2
       go_ret2
       refine ⟨ao, co, by rw [← HALL.out]; rfl, by rw [← HALL.out]; exact G.out.own.rd, fun x hx => ⟨?_, G.out.own.lt x hx⟩, HF.out⟩
       have := G.out.new x hx
       have := H1.out.2.size
       omega
     | cons x t =>
      obtain ⟨k, rfl⟩ : ∃ k, gk = k + 1 := ⟨gk - 1, by simp at hfuel; omega⟩
      simp only [List.length_cons] at hq1 hfuel
      obtain ⟨g, o, rfl, hc⟩ := HQ.out.at (i := 0) (by simp)
      have hc := G.out.fr.cell hc (by simp)
      have hx : x.toNat < 256 := UInt8.toNat_lt x
      simp only [Nat.add_zero, List.getElem_cons_zero] at hc
      have hrd := HQ.out.drop 1 (by simp)
      rw [List.drop_succ_cons, List.drop_zero] at hrd
      rw [app_cons] at hall
      by_cases h128 : 128 ≤ x.toNat
      ·rw [if_pos h128] at hall
       generalize x.toNat = xn at *
       have ha15 : bits .and .i64 (xn : Int) 15 = ((xn % 16 : Nat) : Int) := (i64_mask _ 4 (by decide)).trans (by omega)
       have ha7 : bits .and .i64 ((xn : Int) / 16) 7 = ((xn / 16 % 8 : Nat) : Int) := (i64_mask _ 3 (by decide)).trans (by omega)
       have e1 : ((xn : Int) == 0) = false := by simp; omega
       have e2 : decide ((xn : Int) < 128) = false := by simp; omega
       have hsl1 := fun w' => lib.run_slice_from sliceU8 1 (some ⟨g, o, none⟩) (t.length + 1) cr 1 rfl (by omega) hq1 w'
       cases hpl : pl (xn - 128) 7 0 0 0 t with
       | none =>
        rw [hpl] at hall
        simp only at hall
        have HALL := Lib.hid hall
        obtain ⟨c1, hc1'⟩ : ∃ c1, c1 = xn % 16 := ⟨_, rfl⟩
        obtain ⟨c2, hc2'⟩ : ∃ c2, c2 = xn / 16 % 8 := ⟨_, rfl⟩
        have hnone := pl_none hx h128 hpl
        rw [← hc1'] at ha15 hnone
        rw [← hc2'] at ha7 hnone
        have hc1b : c1 < 256 := by omega
        have hc2b : c2 < 256 := by omega
        rcases hnone with hf1 | ⟨p, q2, hf1, hf2⟩
        ·have F1 := field_bad c1 4 (cutAtN (some ⟨g, o, none⟩) cr 1 1) (cr - 1) t wr (by decide) hc1b (hrd.fr G.out.fr) hf1
         have HB := Lib.hid F1
         clear F1 hall hrd hpl hf1 hc1' hc2' hsl1 h128
         go_wp2_with (first | (refine wpList_slice_from sliceU8 1 rfl _ _ rfl (some ⟨g, o, none⟩) (t.length + 1) cr _ rfl rfl rfl (by omega) (by omega) ?_) | (go_at_call 116; refine HB.out.mono ?_; rintro e w5 ⟨rfl, rfl⟩))
         go_ret2
         exact rapp_err HALL.out.symm HF.out
        ·have F1 := field_good c1 4 p q2 (cutAtN (some ⟨g, o, none⟩) cr 1 1) (cr - 1) t wr (by decide) hc1b (hrd.fr G.out.fr) hf1
         unfold Fielded at F1
         have F2 := fun w a c h => field_bad c2 3 a c q2 w (by decide) hc2b h hf2
         have HB := Lib.hid (And.intro F1 (And.intro F2 (hrd.fr G.out.fr)))
         clear F1 F2 hall hrd hpl hf1 hf2 hc1' hc2' hsl1 h128
         have tok1 : True := trivial
         go_wp2_with (first | (refine wpList_slice_from sliceU8 1 rfl _ _ rfl (some ⟨g, o, none⟩) (t.length + 1) cr _ rfl rfl rfl (by omega) (by omega) ?_) | (go_at_call 116; have _t := tok1; refine HB.out.1.mono ?_; rintro e w5 ⟨rfl, a5, c5, rfl, h5, hp5⟩; have H5 := Lib.hid h5; clear h5; clear tok1 _t) | (go_at_call 116; refine (HB.out.2.1 _ a5 c5 (H5.out _ HB.out.2.2)).mono ?_; rintro e w6 ⟨rfl, rfl⟩))
         go_ret2
         exact rapp_err HALL.out.symm HF.out
       | some y =>
        obtain ⟨p, nn, rest⟩ := y
        rw [hpl] at hall
        simp only at hall
        obtain ⟨n0, q2, hf1, hf2, hnn⟩ := pl_fields hx h128 hpl
        have hlen := pl_len _ 7 0 0 0 t _ hpl
        simp only at hlen
        obtain ⟨c1, hc1'⟩ : ∃ c1, c1 = xn % 16 := ⟨_, rfl⟩
        obtain ⟨c2, hc2'⟩ : ∃ c2, c2 = xn / 16 % 8 := ⟨_, rfl⟩
        rw [← hc1'] at ha15 hf1
        rw [← hc2'] at ha7 hf2
        have F1 := field_good c1 4 p q2 (cutAtN (some ⟨g, o, none⟩) cr 1 1) (cr - 1) t wr (by decide) (by omega) (hrd.fr G.out.fr) hf1
        have F2 := fun w a c h => field_good c2 3 n0 rest a c q2 w (by decide) (by omega) h hf2
        unfold Fielded at F1 F2
        have HB := Lib.hid (And.intro F1 (And.intro F2 (And.intro (hrd.fr G.out.fr) (And.intro hnn (And.intro hall hrd)))))
        clear F1 F2 hall hrd hpl hf1 hf2 hc1' hc2' hsl1 h128 hnn
        have tok1 : True := trivial
        go_upto_if 73 with (first | (refine wpList_slice_from sliceU8 1 rfl _ _ rfl (some ⟨g, o, none⟩) (t.length + 1) cr _ rfl rfl rfl (by omega) (by omega) ?_) | (go_at_call 116; have _t := tok1; refine HB.out.1.mono ?_; rintro e w5 ⟨rfl, a5, c5, rfl, h5, hp5⟩; have H5 := Lib.hid h5; clear h5; clear tok1 _t) | (go_at_call 116; refine (HB.out.2.1 _ a5 c5 (H5.out _ HB.out.2.2.1)).mono ?_; rintro e w6 ⟨rfl, a6, c6, rfl, h6, hp6⟩; have H6 := Lib.hid h6; clear h6))
        go_cut [14] from 14 to 14 (fun s14 wc => s14 = .int .i64 (nn : Nat) ∧ wc = wr)
        case first =>
         by_cases h0 : n0 = 0
         ·have hz : ((n0 : Int) == 0) = true := by simp; omega
          have HN := Lib.hid (show nn = 65536 by rw [HB.out.2.2.2.1, if_pos h0])
          clear h0
          go_wp2
          go_meet
          case rel => exact ⟨by rw [HN.out]; rfl, rfl⟩
         ·have hz : ((n0 : Int) == 0) = false := by simp; omega
          have HN := Lib.hid (show nn = n0 by rw [HB.out.2.2.2.1, if_neg h0])
          clear h0
          go_wp2
          go_meet
          case rel => exact ⟨by rw [HN.out], rfl⟩
        case rest =>
         obtain ⟨rfl, hwc⟩ := hcut
         subst hwc
         have hall := HB.out.2.2.2.2.1
         have hbl := H.out.2.2.2.2
         rw [← hbl] at hall
         have hnb : nn < 4294967296 := by
          rw [HB.out.2.2.2.1]; split <;> omega
         by_cases k1 : fn < p
         ·rw [if_pos (by omega)] at hall
          have HALL := Lib.hid hall
          clear hall hbl
          go_wp2
          go_ret2
          exact rapp_err HALL.out.symm HF.out
         ·have b1 : decide (fn < p) = false := by simpa using k1
          by_cases k2 : fn - p < nn
          ·rw [if_pos (by omega)] at hall
           have HALL := Lib.hid hall
           have b2 : decide ((fn : Int) - p < nn) = true := by simp; omega
           clear hall hbl k1
           go_wp2
           go_ret2
           exact rapp_err HALL.out.symm HF.out
          ·have b2 : decide ((fn : Int) - p < nn) = false := by simp; omega
           by_cases k3 : m - out.length < nn
           ·rw [if_pos (by omega)] at hall
            have HALL := Lib.hid hall
            have b3 : decide ((m : Int) - out.length < nn) = true := by simp; omega
            clear hall hbl k1 k2
            go_wp2
            go_ret2
            exact rapp_err HALL.out.symm HF.out
           ·rw [if_neg (by omega)] at hall
            have b3 : decide ((m : Int) - out.length < nn) = false := by simp; omega
            have hpn : p + nn ≤ cap := by omega
            have hpm : out.length + nn ≤ m := by omega
            have hmid := (H.out.2.1.fr HF.out).mid p nn (by omega)
            obtain ⟨news, hnews⟩ : ∃ news, news = (base.drop p).take nn := ⟨_, rfl⟩
            rw [← hnews] at hmid hall
            have hnl : news.length = nn := by rw [hnews, List.length_take, List.length_drop]; omega
            have HM := Lib.hid (And.intro hmid (And.intro hnl hall))
            clear hmid hnews hnl hall hbl k1 k2 k3
            go_wp2_with (first | (refine wpList_slice_lh sliceU8 p nn rfl _ _ _ rfl a fn cap _ _ rfl rfl rfl rfl rfl (by omega) ?_) | (refine wpList_append_mid sliceU8 rfl _ _ rfl ao out.length co (out.map bv) rfl G.out.own (by rw [List.length_map]) (cutAt a cap p) nn (cap - p) (news.map bv) rfl (by omega) HM.out.1.nil HM.out.1.cs (by rw [List.length_map, HM.out.2.1]) (bv_one _) (by omega) (by unfold maxLen; omega) ?_; intro a7 c7 w7 A1; have HA1 := Lib.hid A1; clear A1))
            go_roundg k
            case measure => omega
            case rel => exact ⟨a6, c6, rest, a7, c7, out ++ news, rfl, by rw [List.length_append, HM.out.2.1], H6.out w1 (H5.out w1 HB.out.2.2.2.2.2), G.out.more HM.out.2.1 HA1.out hpm (by omega) HM.out.2.2⟩
      ·rw [if_neg h128] at hall
       generalize x.toNat = xn at *
       have e2 : decide ((xn : Int) < 128) = true := by simp; omega
       by_cases hx0 : xn = 0
       ·subst hx0
        rw [if_pos (by omega)] at hall
        have HALL := Lib.hid hall
        clear hall hrd h128 e2
        go_wp2_with (refine wpList_slice_from sliceU8 1 rfl _ _ rfl (some ⟨g, o, none⟩) (t.length + 1) cr _ rfl rfl rfl (by omega) (by omega) ?_)
        go_ret2
        exact rapp_err HALL.out.symm HF.out
       ·have e1 : ((xn : Int) == 0) = false := by simp; omega
        by_cases hx1 : m - out.length < xn
        ·rw [if_pos (by omega)] at hall
         have HALL := Lib.hid hall
         have b3 : decide ((m : Int) - out.length < xn) = true := by simp; omega
         clear hall hrd h128
         go_wp2_with (refine wpList_slice_from sliceU8 1 rfl _ _ rfl (some ⟨g, o, none⟩) (t.length + 1) cr _ rfl rfl rfl (by omega) (by omega) ?_)
         go_ret2
         exact rapp_err HALL.out.symm HF.out
        ·rw [if_neg (by omega)] at hall
         have b3 : decide ((m : Int) - out.length < xn) = false := by simp; omega
         by_cases hx2 : t.length < xn
         ·rw [if_pos hx2] at hall
          have HALL := Lib.hid hall
          clear hall hrd h128
          go_wp2_with (refine wpList_slice_from sliceU8 1 rfl _ _ rfl (some ⟨g, o, none⟩) (t.length + 1) cr _ rfl rfl rfl (by omega) (by omega) ?_)
          go_ret2
          exact rapp_err HALL.out.symm HF.out
         ·rw [if_neg hx2] at hall
          have b4 : decide (t.length < xn) = false := by simp; omega
          have hpm : out.length + xn ≤ m := by omega
          have hmid := (hrd.fr G.out.fr).take xn
          have hrest := hrd.drop xn (by omega)
          have hnl : (t.take xn).length = xn := by rw [List.length_take]; omega
          have HM := Lib.hid (And.intro hmid (And.intro hrest (And.intro hnl hall)))
          clear hall hmid hrest hnl hrd h128
          go_wp2_with (first | (refine wpList_slice_from sliceU8 1 rfl _ _ rfl (some ⟨g, o, none⟩) (t.length + 1) cr _ rfl rfl rfl (by omega) (by omega) ?_) | (refine wpList_slice_to sliceU8 xn rfl _ _ rfl (cutAtN (some ⟨g, o, none⟩) cr 1 1) t.length (cr - 1) _ rfl rfl rfl (by omega) ?_) | (refine wpList_append_mid sliceU8 rfl _ _ rfl ao out.length co (out.map bv) rfl G.out.own (by rw [List.length_map]) (cutAtN (some ⟨g, o, none⟩) cr 1 1) xn (cr - 1) ((t.take xn).map bv) rfl (by omega) HM.out.1.nil HM.out.1.cs (by rw [List.length_map, HM.out.2.2.1]) (bv_one _) (by omega) (by unfold maxLen; omega) ?_; intro a7 c7 w7 A1; have HA1 := Lib.hid A1; clear A1) | (refine wpList_slice_from sliceU8 xn rfl _ _ rfl (cutAtN (some ⟨g, o, none⟩) cr 1 1) t.length (cr - 1) _ rfl rfl rfl (by omega) (by omega) ?_))
          go_roundg k
          case measure => omega
          case rel => exact ⟨_, _, t.drop xn, a7, c7, out ++ t.take xn, by rw [List.length_drop], by rw [List.length_append, HM.out.2.2.1], HM.out.2.1, G.out.more HM.out.2.2.1 HA1.out hpm (by rw [List.length_drop]; omega) HM.out.2.2.2⟩
  ·rw [if_pos hn] at hap
   have HA := Lib.hid hap
   have hn' : ((fn : Int) != bl) = true := by simp; omega
   clear hap hn
   go_enter Tryz.func91, Tryz.ntmps91
   go_wp2_with (go_at_call 115; refine H.out.1.mono ?_; rintro e1 w1 ⟨u, rfl, hu, hl, f1⟩; have H1 := Lib.hid f1; clear hu f1)
   go_ret2
   exact rapp_err HA.out (H1.out.alloc _)
 ·rw [if_pos he] at hap
  have HA := Lib.hid hap
  have he2 : ((e : Int) != 0) = true := by simp; omega
  clear hap he
  go_enter Tryz.func91, Tryz.ntmps91
  go_upto_region 3 with (go_at_call 115; refine H.out.1.mono ?_; rintro e1 w1 ⟨u, rfl, hu, hl, f1⟩; have H1 := Lib.hid f1; clear hu f1)
  go_quiet (fail)
  go_wp2
  go_ret2
  exact rapp_err HA.out ((H1.out.alloc _).trans (Fr.drewN _ _ _))
end Go.Proofs.YtkmpfgpfbmeihaaGreatDoor.delta
namespace Go.Proofs.YtkmpfgpfbmeihaaGreatDoor.pk
open Go Go.RowKit lib bm
theorem infoItem : (Tryz.prog.info? 113).map (·.size) = some 8 := by kernel_rfl
theorem results_item {fn : Func} {t : Tmp} (h : fn.results = #[.cell t 113]) (tmps : Array Value) (w : World) (g : Nat) (cs : Array Value) (fr : Nat × Nat) (hp : tmps.getD t undef = .pointer (some ⟨g, 0, none⟩)) (hg : w.heap[g]? = some (.cells cs 113 fr)) (hs : cs.size = 8) :
  (results fn tmps).run Tryz.prog w = .ok (.agg cs) w :=
 results_cell_row h tmps w g 113 cs fr _ hp hg Tryz.underlying113 rfl (by rw [infoItem, hs])
def itemE (x : Nat) : Array Value := #[.bool true, .int .i64 0, .slice none 0 0, .string ⟨#[]⟩, .int .i64 0, .int .u32 0, .int .i64 0, .int .i64 (x : Nat)]
def itemO (o : Obj) (d : Nat) (a : Option Addr) (c : Nat) : Array Value := #[.bool true, .int .i64 o.kind, .slice a o.body.length c, .string (str o.id), .int .i64 (o.at_ : Nat), .int .u32 (o.crc : Nat), .int .i64 (d : Nat), .int .i64 0]
def ROver (w : World) (P : Except Nat (Obj × Nat)) (e : Ending) (w' : World) : Prop := Fr [] w w' ∧ match P with
 | .error x => e = .returned (.agg (itemE x)) ∧ 0 < x
 | .ok (o, d) => ∃ a c, e = .returned (.agg (itemO o d a c)) ∧ lib.Rd w' a c o.body ∧ (∀ y ∈ blk a, w.heap.size ≤ y ∧ y < w'.heap.size) ∧ o.body.length ≤ 2147483647
set_option maxHeartbeats 8000000 in
theorem rover_any (x : Ent) (kd : Int) (ba : Option Addr) (bc : Nat) (body : List UInt8) (d : Nat) (w : World) (hb : lib.Rd w ba bc body) (hd : d ≤ 100) (hx : x.data.length ≤ 2147483647) :
  Calls Tryz.prog 59 #[.agg (rentV x), .int .i64 kd, .slice ba body.length bc, .int .i64 (d : Nat)] w (ROver w (over x kd body d)) := by
 obtain ⟨bl, hbl⟩ : ∃ bl, bl = body.length := ⟨_, rfl⟩
 obtain ⟨RR, hRR⟩ : ∃ RR, RR = over x kd body d := ⟨_, rfl⟩
 rw [← hbl, ← hRR]
 have H := Lib.hid (And.intro hb (And.intro hx (And.intro hbl hRR)))
 clear hb hx hbl hRR
 obtain ⟨xk, xa, xs, xc, xd, xb, xo⟩ := x
 simp only [rentV]
 by_cases h50 : 50 < d + 1
 ·have g51 : decide ((50 : Int) < (d : Int) + 1) = true := by simp; omega
  have hr : RR = .error 3 := by rw [H.out.2.2.2]; unfold over; rw [if_pos h50]
  have HR := Lib.hid hr
  clear hr h50
  go_enter Tryz.func59, Tryz.ntmps59
  go_upto_region 2 with fail
  obtain ⟨w1, hw1⟩ : ∃ w1, w1 = (w.alloc (Obj.cells #[.int .i64 (xk : Nat), .int .i64 (xa : Nat), .int .i64 (xs : Nat), .int .u32 (xc : Nat), .string (str xd), .string (str xb), .int .i64 (xo : Nat)] 107)).alloc (Obj.cells #[.bool false, .int .i64 0, .slice none 0 0, .string ⟨#[]⟩, .int .i64 0, .int .u32 0, .int .i64 0, .int .i64 0] 113) := ⟨_, rfl⟩
  rw [← hw1]
  obtain ⟨B, hB⟩ : ∃ B, B = w.heap.size := ⟨_, rfl⟩
  rw [← hB]
  have f1 : Fr [] w w1 := by rw [hw1]; exact ((Fr.refl [] w).alloc _).alloc _
  have h1 : w1.heap[B + 1]? = some (.cells #[.bool false, .int .i64 0, .slice none 0 0, .string ⟨#[]⟩, .int .i64 0, .int .u32 0, .int .i64 0, .int .i64 0] 113 (0, 0)) := by
   rw [hw1, hB]
   have := alloc_at (w.alloc (Obj.cells #[.int .i64 (xk : Nat), .int .i64 (xa : Nat), .int .i64 (xs : Nat), .int .u32 (xc : Nat), .string (str xd), .string (str xb), .int .i64 (xo : Nat)] 107)) (Obj.cells #[.bool false, .int .i64 0, .slice none 0 0, .string ⟨#[]⟩, .int .i64 0, .int .u32 0, .int .i64 0, .int .i64 0] 113)
   simpa using this
  clear hw1
  have hr := setRow_heap w1 (B + 1) _ (itemE 3) _ _ h1
  have fF : Fr [] w (w1.setRow (B + 1) (itemE 3)) := f1.setRow (.inr (by omega)) _
  have HZ := Lib.hid (And.intro fF (And.intro h1 hr))
  clear fF f1 hB h1 hr
  go_wp2_with (refine wpList_store_row rfl 113 (.tmp 8) (.tmp 14) rfl (B + 1) (itemE 3) rfl rfl 113 _ HZ.out.2.1 infoItem rfl (by kernel_rfl) ?_)
  refine bodyPost_ret (results_item rfl _ _ (B + 1) _ _ rfl HZ.out.2.2 rfl) rfl ?_
  refine ⟨HZ.out.1, ?_⟩
  rw [HR.out]
  exact ⟨rfl, by decide⟩
 ·have g51 : decide ((50 : Int) < (d : Int) + 1) = false := by simp; omega
  have hr : RR = if (delta.apply body xd 65536).2 = 0 then .ok (whole ⟨xk, xa, xs, xc, xd, xb, xo⟩ kd (delta.apply body xd 65536).1, d + 1) else .error (delta.apply body xd 65536).2 := by rw [H.out.2.2.2]; unfold over; rw [if_neg h50]
  have hap := fun w' b' c' (f : Fr [] w w') (r : lib.Rd w' b' c' xd) => delta.rapply_any ba b' bc c' body xd 65536 w' (H.out.1.fr f) r (by have : xd.length ≤ 2147483647 := H.out.2.1; omega)
  have hal := apply_len body xd 65536
  rw [← H.out.2.2.1] at hap
  generalize delta.apply body xd 65536 = y at hr hap hal
  obtain ⟨out, ec⟩ := y
  simp only at hr hal
  have HR := Lib.hid (And.intro hr (And.intro hap hal))
  clear hr h50 hap hal
  go_enter Tryz.func59, Tryz.ntmps59
  go_upto_region 3 with fail
  obtain ⟨w1, hw1⟩ : ∃ w1, w1 = (w.alloc (Obj.cells #[.int .i64 (xk : Nat), .int .i64 (xa : Nat), .int .i64 (xs : Nat), .int .u32 (xc : Nat), .string (str xd), .string (str xb), .int .i64 (xo : Nat)] 107)).alloc (Obj.cells #[.bool false, .int .i64 0, .slice none 0 0, .string ⟨#[]⟩, .int .i64 0, .int .u32 0, .int .i64 0, .int .i64 0] 113) := ⟨_, rfl⟩
  rw [← hw1]
  obtain ⟨B, hB⟩ : ∃ B, B = w.heap.size := ⟨_, rfl⟩
  rw [← hB]
  have f1 : Fr [] w w1 := by rw [hw1]; exact ((Fr.refl [] w).alloc _).alloc _
  have h1 : w1.heap[B + 1]? = some (.cells #[.bool false, .int .i64 0, .slice none 0 0, .string ⟨#[]⟩, .int .i64 0, .int .u32 0, .int .i64 0, .int .i64 0] 113 (0, 0)) := by
   rw [hw1, hB]
   have := alloc_at (w.alloc (Obj.cells #[.int .i64 (xk : Nat), .int .i64 (xa : Nat), .int .i64 (xs : Nat), .int .u32 (xc : Nat), .string (str xd), .string (str xb), .int .i64 (xo : Nat)] 107)) (Obj.cells #[.bool false, .int .i64 0, .slice none 0 0, .string ⟨#[]⟩, .int .i64 0, .int .u32 0, .int .i64 0, .int .i64 0] 113)
   simpa using this
  have h0 : w1.heap[B]? = some (.cells #[.int .i64 (xk : Nat), .int .i64 (xa : Nat), .int .i64 (xs : Nat), .int .u32 (xc : Nat), .string (str xd), .string (str xb), .int .i64 (xo : Nat)] 107 (0, 0)) := by
   rw [hw1, hB]
   exact ((Fr.refl [] (w.alloc _)).alloc _).blk (alloc_at _ _) (by simp)
  clear hw1
  have k4 := cell_of h0 4
  simp only [List.getElem?_toArray, List.getElem?_cons_zero, List.getElem?_cons_succ] at k4
  have H1 := Lib.hid (And.intro f1 (And.intro h0 (And.intro h1 hB)))
  clear f1 h0 h1 hB
  go_upto_region 4 with (first
   | (refine wpList_bytes_own (e := 5) Tryz.underlying9 Tryz.underlying23 Tryz.underlying5 rfl _ rfl xd rfl (by have : xd.length ≤ 2147483647 := H.out.2.1; unfold maxLen; omega) ?_; intro cap w3 hc3 ho3 f3 hl3; have H3 := Lib.hid (And.intro ho3.rd f3); clear ho3 f3)
   | (go_at_call 91; refine (HR.out.2.1 _ _ _ (H1.out.1.trans H3.out.2) H3.out.1).mono ?_; rintro e w4 ⟨a4, c4, rfl, r4, n4, f4⟩; have H4 := Lib.hid (And.intro r4 (And.intro n4 f4)); clear r4 n4 f4))
  clear k4
  have f4 := (H1.out.1.trans H3.out.2).trans H4.out.2.2
  have f14 := H3.out.2.trans H4.out.2.2
  by_cases hx : ec = 0
  ·subst hx
   have gx : ((0 : Int) != 0) = false := by decide
   have hr := HR.out.1
   rw [if_pos rfl] at hr
   have h0 := f14.blk H1.out.2.1 (by simp)
   have hwh := rwhole_any ⟨xk, xa, xs, xc, xd, xb, xo⟩ kd a4 c4 out w4 H4.out.1 (by have := HR.out.2.2; omega)
   have H6 := Lib.hid (And.intro hr (And.intro h0 (And.intro f4 (And.intro f14 hwh))))
   clear hr h0 f4 f14 hwh
   obtain ⟨ol, hol⟩ : ∃ ol, ol = out.length := ⟨_, rfl⟩
   obtain ⟨sj, hsj⟩ : ∃ sj, sj = str (oid kd out) := ⟨_, rfl⟩
   have hob : objV (whole ⟨xk, xa, xs, xc, xd, xb, xo⟩ kd out) a4 c4 = #[.int .i64 kd, .slice a4 ol c4, .string sj, .int .i64 (xa : Nat), .int .u32 (xc : Nat)] := by rw [hol, hsj]; rfl
   have hwh := H6.out.2.2.2.2
   rw [hob] at hwh
   rw [← hol] at hwh ⊢
   have HW := Lib.hid (And.intro hwh (And.intro hob (And.intro hol hsj)))
   clear hwh hob hol hsj g51
   go_upto_region 6 with fail
   go_wp2_with (first
    | (refine wpList_load_row rfl 107 (.tmp 4) rfl B rfl 107 #[.int .i64 (xk : Nat), .int .i64 (xa : Nat), .int .i64 (xs : Nat), .int .u32 (xc : Nat), .string (str xd), .string (str xb), .int .i64 (xo : Nat)] (0, 0) _ H6.out.2.1 Tryz.underlying107 rfl infoRRaw ?_)
    | (go_at_call 90; refine HW.out.1.mono ?_; rintro e w5 ⟨rfl, f5⟩; have h5 := (H6.out.2.2.2.1.trans f5).blk H1.out.2.2.1 (by simp); have H7 := Lib.hid (And.intro f5 h5); clear f5 h5)
    | (refine wpList_store_row rfl 113 (.tmp 8) (.tmp 33) rfl (B + 1) #[.bool true, .int .i64 kd, .slice a4 ol c4, .string sj, .int .i64 (xa : Nat), .int .u32 (xc : Nat), .int .i64 ((d : Int) + 1), .int .i64 0] rfl rfl 113 _ H7.out.2 infoItem rfl (by kernel_rfl) ?_))
   have hs := setRow_heap w5 (B + 1) _ #[.bool true, .int .i64 kd, .slice a4 ol c4, .string sj, .int .i64 (xa : Nat), .int .u32 (xc : Nat), .int .i64 ((d : Int) + 1), .int .i64 0] _ _ H7.out.2
   have fF : Fr [] w (w5.setRow (B + 1) #[.bool true, .int .i64 kd, .slice a4 ol c4, .string sj, .int .i64 (xa : Nat), .int .u32 (xc : Nat), .int .i64 ((d : Int) + 1), .int .i64 0]) := (H6.out.2.2.1.trans H7.out.1).setRow (.inr (by have := H1.out.2.2.2; omega)) _
   refine bodyPost_ret (results_item rfl _ _ (B + 1) _ _ rfl hs rfl) rfl ?_
   refine ⟨fF, ?_⟩
   rw [H6.out.1]
   have hB1 := lt_of_block H1.out.2.2.1
   have s1 := H1.out.1.size
   have s5 := H7.out.1.size
   refine ⟨a4, c4, ?_, (H4.out.1.fr H7.out.1).frS (Fr.setRow (S := [B + 1]) (Fr.refl _ w5) (.inl (by simp)) _) (fun y hy => ?_), fun y hy => ⟨?_, ?_⟩, HR.out.2.2⟩
   ·rw [HW.out.2.2.1, HW.out.2.2.2]
    rfl
   ·have := (H4.out.2.1 y hy).1
    simp only [List.mem_singleton]
    omega
   ·have := (H4.out.2.1 y hy).1
    omega
   ·have := (H4.out.2.1 y hy).2
    rw [setRow_size]
    omega
  ·have gx : ((ec : Int) != 0) = true := by simp; omega
   have hr := HR.out.1
   rw [if_neg hx] at hr
   have h1 := f14.blk H1.out.2.2.1 (by simp)
   have hs := setRow_heap w4 (B + 1) _ (itemE ec) _ _ h1
   have fF : Fr [] w (w4.setRow (B + 1) (itemE ec)) := f4.setRow (.inr (by have := H1.out.2.2.2; omega)) _
   have HZ := Lib.hid (And.intro fF (And.intro h1 (And.intro hs (And.intro hr (Nat.pos_of_ne_zero hx)))))
   clear fF h1 hs hr hx f4 f14
   go_upto_region 5 with fail
   go_wp2_with (refine wpList_store_row rfl 113 (.tmp 8) (.tmp 26) rfl (B + 1) (itemE ec) rfl rfl 113 _ HZ.out.2.1 infoItem rfl (by kernel_rfl) ?_)
   refine bodyPost_ret (results_item rfl _ _ (B + 1) _ _ rfl HZ.out.2.2.1 rfl) rfl ?_
   refine ⟨HZ.out.1, ?_⟩
   rw [HZ.out.2.2.2.1]
   exact ⟨rfl, HZ.out.2.2.2.2⟩
end Go.Proofs.YtkmpfgpfbmeihaaGreatDoor.pk
namespace Go.Proofs.YtkmpfgpfbmeihaaGreatDoor.pk
open Go Go.RowKit lib bm
theorem start1_any (m : EM) (X off : Nat) (w : World) (hX : w.cell? ⟨X, 6, none⟩ = some (.int .i64 (off : Nat))) :
  Calls Tryz.prog 78 #[.agg (entV m.1 m.2 m.1.data.length), .pointer (some ⟨X, 0, none⟩)] w fun e w' => e = .returned (.bool (m.1.at_ == off)) ∧ Fr [] w w' := by
 obtain ⟨⟨xk, xa, xs, xc, xd, xb, xo⟩, da⟩ := m
 simp only [entV]
 obtain ⟨dl, hdl⟩ : ∃ dl, dl = xd.length := ⟨_, rfl⟩
 rw [← hdl]
 have hXl := World.block_lt_of_cell? w _ hX
 simp only at hXl
 by_cases he : xa = off
 ·subst he
  have he2 : ((xa : Int) == xa) = true := beq_self_eq_true _
  rw [show (xa == xa) = true from beq_self_eq_true _]
  go_enter Tryz.func78, Tryz.ntmps78
  go_wp2
  go_ret
  exact ⟨rfl, (Fr.refl [] w).alloc _⟩
 ·have he2 : ((xa : Int) == off) = false := by simp; omega
  rw [show (xa == off) = false from by simpa using he]
  go_enter Tryz.func78, Tryz.ntmps78
  go_wp2
  go_ret
  exact ⟨rfl, (Fr.refl [] w).alloc _⟩
def atP (l : List Ent) (off k : Nat) : Bool := match l[k]? with
 | some y => y.at_ == off
 | none => false
theorem atOf_eq (l : List Ent) (i off : Nat) : atOf l i off = (List.range i).find? (atP l off) := rfl
theorem find_skip (p : Nat → Bool) (i : Nat) : ∀ k, k ≤ i → (∀ j, j < k → p j = false) → (List.range i).find? p = ((List.range i).drop k).find? p := by
 intro k
 induction k with
 | zero => intro _ _; rw [List.drop_zero]
 | succ k ih =>
  intro hk h
  rw [ih (by omega) (fun j hj => h j (by omega))]
  have hd : (List.range i).drop k = k :: (List.range i).drop (k + 1) := by
   rw [List.drop_eq_getElem_cons (by simp; omega)]
   simp
  rw [hd, List.find?_cons, h k (by omega)]
theorem atP_no {l : List Ent} {off k : Nat} (h : ∀ y, l[k]? = some y → y.at_ ≠ off) : atP l off k = false := by
 unfold atP
 cases hl : l[k]? with
 | none => rfl
 | some y => simpa using h y hl
theorem atOf_hit (l : List Ent) (i off k : Nat) (y : Ent) (hk : k < i) (h : ∀ j, j < k → ∀ y, l[j]? = some y → y.at_ ≠ off) (hy : l[k]? = some y) (ho : y.at_ = off) : atOf l i off = some k := by
 rw [atOf_eq, find_skip _ i k (by omega) (fun j hj => atP_no (h j hj))]
 have hd : (List.range i).drop k = k :: (List.range i).drop (k + 1) := by
  rw [List.drop_eq_getElem_cons (by simp; omega)]
  simp
 have hp : atP l off k = true := by unfold atP; rw [hy]; simpa using ho
 rw [hd, List.find?_cons, hp]
theorem atOf_none (l : List Ent) (i off : Nat) (h : ∀ j, j < i → ∀ y, l[j]? = some y → y.at_ ≠ off) : atOf l i off = none := by
 rw [atOf_eq, find_skip _ i i (Nat.le_refl _) (fun j hj => atP_no (h j hj)), List.drop_of_length_le (by simp)]
 rfl
def atI : Option Nat → Int
 | some k => (k : Int)
 | none => -1
set_option maxHeartbeats 4000000 in
theorem index_any (la : Option Addr) (ms : List EM) (i X off : Nat) (w : World) (h : Ents w la ms) (hi : i ≤ ms.length) (hfew : ms.length ≤ 4096) (hX : w.cell? ⟨X, 6, none⟩ = some (.int .i64 (off : Nat))) :
  Calls Tryz.prog 77 #[.slice la i ms.length, .func (.func 78) #[] #[.pointer (some ⟨X, 0, none⟩)]] w fun e w' => e = .returned (.int .i64 (atI (atOf (ms.map (·.1)) i off))) ∧ Fr [] w w' := by
 obtain ⟨n, hn⟩ : ∃ n, n = ms.length := ⟨_, rfl⟩
 have H := Lib.hid (And.intro h (And.intro hn hX))
 rw [← hn] at hi hfew ⊢
 clear h hn hX
 go_enter Tryz.func77, Tryz.ntmps77
 go_wp2
 go_loopg [5, 8] i (fun k s5 s8 wr => ∃ j : Nat, s8 = .int .i64 (j : Nat) ∧ j + k = i ∧ Fr [] w wr ∧ ∀ t, t < j → ∀ y, (ms.map (·.1))[t]? = some y → y.at_ ≠ off)
 case atStart => exact ⟨0, rfl, by omega, Fr.refl _ _, fun t ht => by omega⟩
 case round =>
  obtain ⟨j, rfl, hjk, hf, hno⟩ := hrel
  have HL := Lib.hid (And.intro hf hno)
  clear hf hno
  by_cases hj : j < i
  ·obtain ⟨k, rfl⟩ : ∃ k, gk = k + 1 := ⟨gk - 1, by omega⟩
   obtain ⟨m, hm⟩ : ∃ m, ms[j]? = some m := ⟨ms[j]'(by rw [← H.out.2.1]; omega), List.getElem?_eq_getElem _⟩
   obtain ⟨gb, o, hla, hce⟩ := (H.out.1.fr HL.out.1).cell hm
   subst hla
   have hst := fun w' f => start1_any m X off w' ((HL.out.1.trans f).cell H.out.2.2 (by simp))
   have hst2 := hst
   have hm2 := hm
   have c0 := hce 0 _ (by decide) rfl
   have c1 := hce 1 _ (by decide) rfl
   have c2 := hce 2 _ (by decide) rfl
   have c3 := hce 3 _ (by decide) rfl
   have c4 := hce 4 _ (by decide) rfl
   have c5 := hce 5 _ (by decide) rfl
   have c6 := hce 6 _ (by decide) rfl
   rw [← Nat.add_assoc] at c0 c1 c2 c3 c4 c5 c6
   clear hce hst hm
   have hgl : (ms.map (·.1))[j]? = some m.1 := by rw [List.getElem?_map, hm2]; rfl
   have HG := Lib.hid hgl
   clear hgl hm2
   obtain ⟨⟨xk, xa, xs, xc, xd, xb, xo⟩, da⟩ := m
   simp only [entV] at hst2
   replace c0 : wr.cell? ⟨gb, o + j * 7, none⟩ = some (.int .i64 (xk : Nat)) := c0
   replace c1 : wr.cell? ⟨gb, o + j * 7 + 1, none⟩ = some (.int .i64 (xa : Nat)) := c1
   replace c2 : wr.cell? ⟨gb, o + j * 7 + 2, none⟩ = some (.int .i64 (xs : Nat)) := c2
   replace c3 : wr.cell? ⟨gb, o + j * 7 + 3, none⟩ = some (.int .u32 (xc : Nat)) := c3
   replace c4 : wr.cell? ⟨gb, o + j * 7 + 4, none⟩ = some (.slice da xd.length xd.length) := c4
   replace c5 : wr.cell? ⟨gb, o + j * 7 + 5, none⟩ = some (.string (str xb)) := c5
   replace c6 : wr.cell? ⟨gb, o + j * 7 + 6, none⟩ = some (.int .i64 (xo : Nat)) := c6
   have HS := Lib.hid hst2
   clear hst2
   by_cases hx : xa = off
   ·have hb : (xa == off) = true := by simpa using hx
    have HB := Lib.hid (And.intro hx hb)
    clear hx hb
    go_wp2_with (go_at_call 78; refine (HS.out _ (Fr.refl _ _)).mono ?_; rintro e w1 ⟨rfl, f1⟩; rw [HB.out.2]; have HF := Lib.hid f1; clear f1)
    go_ret
    refine ⟨?_, HL.out.1.trans HF.out⟩
    rw [atOf_hit (ms.map (·.1)) i off j _ hj HL.out.2 HG.out HB.out.1]
    rfl
   ·have hb : (xa == off) = false := by simpa using hx
    have HB := Lib.hid (And.intro hx hb)
    clear hx hb
    go_wp2_with (go_at_call 78; refine (HS.out _ (Fr.refl _ _)).mono ?_; rintro e w1 ⟨rfl, f1⟩; rw [HB.out.2]; have HF := Lib.hid f1; clear f1)
    go_roundg k
    case measure => omega
    case rel =>
     refine ⟨j + 1, rfl, by omega, HL.out.1.trans HF.out, ?_⟩
     intro t ht y hy
     by_cases hjt : t = j
     ·subst hjt
      rw [HG.out] at hy
      obtain rfl := Option.some.inj hy
      exact HB.out.1
     ·exact HL.out.2 t (by omega) y hy
  ·obtain rfl : j = i := by omega
   have hnone := atOf_none (ms.map (·.1)) j off HL.out.2
   have HX := Lib.hid hnone
   clear hnone
   go_wp2
   go_ret
   exact ⟨by rw [HX.out]; rfl, HL.out.1⟩
end Go.Proofs.YtkmpfgpfbmeihaaGreatDoor.pk
namespace Go.Proofs.YtkmpfgpfbmeihaaGreatDoor.pk
open Go Go.RowKit lib bm
def Copied (w : World) (bs : List UInt8) (e : Ending) (w' : World) : Prop :=
 ∃ ao cap, e = .returned (.slice ao bs.length cap) ∧ lib.Rd w' ao cap bs ∧ bs.length ≤ cap ∧ cap ≤ maxLen ∧ (∀ x ∈ blk ao, w.heap.size ≤ x ∧ x < w'.heap.size) ∧ Fr [] w w'
set_option maxHeartbeats 1000000 in
theorem clone_b (ao : Option Addr) (cap : Nat) (bs : List UInt8) (w : World) (h : lib.Rd w ao cap bs) (hlim : bs.length ≤ 140737488355328) :
  Calls Tryz.prog 37 #[.slice ao bs.length cap] w (Copied w bs) := by
 have qT : ∀ (w : World) (a : Option Addr) (n c n' c' : Nat), (binOp .eql 23 (.slice a n c) (.slice none n' c')).run Tryz.prog w = .ok (.bool a.isNone) w := fun w a n c n' c' => Lib.run_eql_slice_nil w _ _ a n c n' c' Tryz.underlying23
 have hcs := h.cs
 have hle := h.le
 have hnone := h.nil
 have hlt := h
 cases ao with
 | none =>
  have h0 := hnone rfl
  obtain rfl : bs = [] := List.eq_nil_of_length_eq_zero (by omega)
  go_enter Tryz.func37, Tryz.ntmps37
  go_wp2
  go_ret
  exact ⟨none, 0, rfl, ⟨.inl rfl, by simp, by decide, fun _ => rfl⟩, by simp, by decide, by simp [blk], Fr.refl _ _⟩
 | some a =>
  go_enter Tryz.func37, Tryz.ntmps37
  go_wp2_with (refine wpList_append sliceU8 rfl _ _ rfl (.slice (some ⟨w.heap.size, 0, none⟩) 0 0) 0 [] [w.heap.size] rfl rfl ⟨rfl, .inr ⟨w.heap.size, 0, #[], rfl, Nat.zero_le _, alloc_at _ _, Nat.le_refl _, Nat.zero_le _, rfl, rfl⟩⟩ (some a) bs.length cap (bs.map bv) rfl hle hnone (hcs.fr ((Fr.refl [] w).alloc _) (by simp)) (by simp) (bv_one bs) (by omega) (by unfold maxLen; omega) ?_; intro ao1 cap1 w1 A1; simp only [Nat.zero_add, List.nil_append] at A1)
  go_ret
  have fr2 : Fr [] w w1 := ((Fr.refl [] w).alloc _).step A1.fr (by simp)
  have hb : ∀ x ∈ blk ao1, w.heap.size ≤ x ∧ x < w1.heap.size := fun x hx => ⟨by have := A1.at_ x hx; simp at this; omega, A1.lt x hx⟩
  exact ⟨ao1, cap1, rfl, ⟨cs_of_owns A1.own, A1.le, A1.max, A1.nil⟩, A1.le, A1.max, hb, fr2⟩
end Go.Proofs.YtkmpfgpfbmeihaaGreatDoor.pk
namespace Go.Proofs.YtkmpfgpfbmeihaaGreatDoor.pk
open Go Go.RowKit lib bm
def S1 (w : World) (O S : Nat) (C D : Array Value) (i : Nat) : St → Prop
 | none => D[i * 4]? = some (.bool false) ∧ D[i * 4 + 1]? = some (.int .i64 0)
 | some (.error x) => D[i * 4]? = some (.bool true) ∧ D[i * 4 + 1]? = some (.int .i64 (x : Nat)) ∧ 0 < x
 | some (.ok (o, d)) => D[i * 4]? = some (.bool true) ∧ D[i * 4 + 1]? = some (.int .i64 0) ∧ D[i * 4 + 2]? = some (.int .i64 (d : Nat)) ∧ d ≤ 50 ∧
   ∃ ba bc, (∀ j v, (objV o ba bc)[j]? = some v → C[i * 5 + j]? = some v) ∧ lib.Rd w ba bc o.body ∧ (∀ y ∈ blk ba, y ≠ O ∧ y ≠ S) ∧ o.body.length ≤ 2147483647
theorem S1.keep {w w' : World} {O S : Nat} {C C' D D' : Array Value} {i : Nat} {s : St} (h : S1 w O S C D i s) (hC : ∀ j, j < 5 → C'[i * 5 + j]? = C[i * 5 + j]?) (hD : ∀ j, j < 3 → D'[i * 4 + j]? = D[i * 4 + j]?) (f : Fr [O, S] w w') : S1 w' O S C' D' i s := by
 have d0 := hD 0 (by decide)
 have d1 := hD 1 (by decide)
 have d2 := hD 2 (by decide)
 simp only [Nat.add_zero] at d0
 match s, h with
 | none, h => exact ⟨by rw [d0]; exact h.1, by rw [d1]; exact h.2⟩
 | some (.error x), h => exact ⟨by rw [d0]; exact h.1, by rw [d1]; exact h.2.1, h.2.2⟩
 | some (.ok (o, d)), h =>
  obtain ⟨h0, h1, h2, h3, ba, bc, h4, h5, h6, h7⟩ := h
  refine ⟨by rw [d0]; exact h0, by rw [d1]; exact h1, by rw [d2]; exact h2, h3, ba, bc, fun j v hj => ?_, h5.frS f (fun x hx => by have := h6 x hx; simp; exact this), h6, h7⟩
  have hj5 : j < 5 := by
   have := (Array.getElem?_eq_some_iff.1 hj).1
   simpa [objV] using this
  rw [hC j hj5]
  exact h4 j v hj
def baseV (l : List Ent) (i : Nat) (x : Ent) : Value :=
 if x.kind = 6 then .iface 123 (.int .i64 (atI (atOf l i x.off))) else if x.kind = 7 then .iface 124 (.string (str x.base)) else .nilIface
structure Sts (w : World) (O S : Nat) (C D : Array Value) (l : List Ent) (W : List St) : Prop where
 len : W.length = l.length
 st : ∀ i s, W[i]? = some s → S1 w O S C D i s
 base : ∀ i x, l[i]? = some x → D[i * 4 + 3]? = some (baseV l i x)
theorem Sts.one {w w' : World} {O S : Nat} {C C' D D' : Array Value} {l : List Ent} {W : List St} (h : Sts w O S C D l W) (i : Nat) (s : St)
  (hC : ∀ j, j < i * 5 ∨ i * 5 + 5 ≤ j → C'[j]? = C[j]?) (hD : ∀ j, j < i * 4 ∨ i * 4 + 3 ≤ j → D'[j]? = D[j]?) (f : Fr [O, S] w w') (hs : S1 w' O S C' D' i s) : Sts w' O S C' D' l (W.set i s) := by
 refine ⟨by rw [List.length_set]; exact h.len, fun k t hk => ?_, fun k x hk => ?_⟩
 ·rw [List.getElem?_set] at hk
  split at hk
  ·rename_i hik
   subst hik
   split at hk
   ·obtain rfl := Option.some.inj hk
    exact hs
   ·cases hk
  ·rename_i hik
   exact (h.st k t hk).keep (fun j hj => hC _ (by omega)) (fun j hj => hD _ (by omega)) f
 ·rw [hD _ (by omega)]
  exact h.base k x hk
theorem over_deep {r : Ent} {kind : Int} {b : List UInt8} {d : Nat} {o : Obj} {k : Nat} (h : over r kind b d = .ok (o, k)) : k = d + 1 ∧ k ≤ 50 := by
 unfold over at h
 split at h
 ·cases h
 ·split at h
  ·cases h
   exact ⟨rfl, by omega⟩
  ·cases h
theorem Fin.st {w w' : World} {O S i : Nat} {C C' D D' : Array Value} {r : Ent} {kind : Int} {b : List UInt8} {d : Nat} (h : Fin w w' O S i C C' D D' (over r kind b d)) (hO : O < w.heap.size) (hS : S < w.heap.size) : S1 w' O S C' D' i (some (over r kind b d)) := by
 obtain ⟨R, hR⟩ : ∃ R, R = over r kind b d := ⟨_, rfl⟩
 rw [← hR] at h ⊢
 obtain ⟨-, -, h0, h1⟩ := h
 match R, hR, h1 with
 | .error x, _, h1 => exact ⟨h0, h1.1, h1.2⟩
 | .ok (o, k), hR, h1 =>
  obtain ⟨g1, g2, ba, bc, g3, g4, g5, g6⟩ := h1
  exact ⟨h0, g1, g2, (over_deep hR.symm).2, ba, bc, g3, g4, fun y hy => ⟨by have := (g5 y hy).1; omega, by have := (g5 y hy).1; omega⟩, g6⟩
end Go.Proofs.YtkmpfgpfbmeihaaGreatDoor.pk
namespace Go.Proofs.YtkmpfgpfbmeihaaGreatDoor.pk
open Go Go.RowKit lib bm
structure Beg (w w' : World) (g O S : Nat) (gv tv : Value) (la : Option Addr) (ms : List EM) (C D : Array Value) (i : Nat) : Prop where
 rb : Rb w' g O S gv tv la ms C D
 fr : Fr [O, S] w w'
 done : ∀ t m, t < i → ms[t]? = some m → S1 w' O S C D t (first1 (ms.map (·.1)) t m.1) ∧ D[t * 4 + 3]? = some (baseV (ms.map (·.1)) t m.1)
 rest : ∀ t, i ≤ t → t < ms.length → D[t * 4]? = some (.bool false) ∧ D[t * 4 + 1]? = some (.int .i64 0) ∧ D[t * 4 + 3]? = some .nilIface
 deep : ∀ t, i ≤ t → t < ms.length → D[t * 4 + 2]? = some (.int .i64 0)
theorem Beg.next {w w1 w2 : World} {g O S : Nat} {gv tv : Value} {la : Option Addr} {ms : List EM} {C C' D D' : Array Value} {i : Nat} {m : EM} (h : Beg w w1 g O S gv tv la ms C D i) (hm : ms[i]? = some m) (rb : Rb w2 g O S gv tv la ms C' D') (f : Fr [O, S] w1 w2)
  (hC : ∀ j, j < i * 5 ∨ i * 5 + 5 ≤ j → C'[j]? = C[j]?) (hD : ∀ j, j < i * 4 ∨ i * 4 + 4 ≤ j → D'[j]? = D[j]?) (hs : S1 w2 O S C' D' i (first1 (ms.map (·.1)) i m.1)) (hb : D'[i * 4 + 3]? = some (baseV (ms.map (·.1)) i m.1)) : Beg w w2 g O S gv tv la ms C' D' (i + 1) := by
 refine ⟨rb, h.fr.trans f, fun t y ht hy => ?_, fun t ht hn => ?_, fun t ht hn => by rw [hD _ (by omega)]; exact h.deep t (by omega) hn⟩
 ·by_cases hti : t = i
  ·subst hti
   rw [hm] at hy
   obtain rfl := Option.some.inj hy
   exact ⟨hs, hb⟩
  ·obtain ⟨h1, h2⟩ := h.done t y (by omega) hy
   exact ⟨h1.keep (fun j hj => hC _ (by omega)) (fun j hj => hD _ (by omega)) f, by rw [hD _ (by omega)]; exact h2⟩
 ·obtain ⟨h1, h2, h3⟩ := h.rest t (by omega) hn
  exact ⟨by rw [hD _ (by omega)]; exact h1, by rw [hD _ (by omega)]; exact h2, by rw [hD _ (by omega)]; exact h3⟩
theorem Beg.fr0 {w w1 w2 : World} {g O S : Nat} {gv tv : Value} {la : Option Addr} {ms : List EM} {C D : Array Value} {i : Nat} (h : Beg w w1 g O S gv tv la ms C D i) (f : Fr [] w1 w2) : Beg w w2 g O S gv tv la ms C D i :=
 ⟨h.rb.fr f, h.fr.trans (f.mono (by simp)), fun t y ht hy => ⟨(h.done t y ht hy).1.keep (fun _ _ => rfl) (fun _ _ => rfl) (f.mono (by simp)), (h.done t y ht hy).2⟩, h.rest, h.deep⟩
theorem Beg.sts {w w' : World} {g O S : Nat} {gv tv : Value} {la : Option Addr} {ms : List EM} {C D : Array Value} (h : Beg w w' g O S gv tv la ms C D ms.length) : Sts w' O S C D (ms.map (·.1)) (firsts (ms.map (·.1))) := by
 refine ⟨firsts_length _, fun i s hi => ?_, fun i x hx => ?_⟩
 ·have hl := (List.getElem?_eq_some_iff.1 hi).1
  rw [firsts_length, List.length_map] at hl
  have hm : ms[i]? = some ms[i] := List.getElem?_eq_getElem hl
  rw [firsts_get _ i ms[i].1 (by rw [List.getElem?_map, hm]; rfl)] at hi
  obtain rfl := Option.some.inj hi
  exact (h.done i _ hl hm).1
 ·rw [List.getElem?_map] at hx
  cases hm : ms[i]? with
  | none => rw [hm] at hx; cases hx
  | some m =>
   rw [hm] at hx
   obtain rfl := Option.some.inj hx
   exact (h.done i m (List.getElem?_eq_some_iff.1 hm).1 hm).2
set_option maxHeartbeats 8000000 in
theorem start_any (g O S : Nat) (gv tv : Value) (la : Option Addr) (ms : List EM) (C D : Array Value) (w : World) (h : Rb w g O S gv tv la ms C D) (hp : ∀ w', Fr [O, S] w w' → obj.Pw w')
  (hl : ∀ m ∈ ms, m.1.data.length ≤ 2147483647) (hz : ∀ t, t < ms.length → D[t * 4]? = some (.bool false) ∧ D[t * 4 + 1]? = some (.int .i64 0) ∧ D[t * 4 + 3]? = some .nilIface) (hz2 : ∀ t, t < ms.length → D[t * 4 + 2]? = some (.int .i64 0)) :
  Calls Tryz.prog 47 #[.pointer (some ⟨g, 0, none⟩)] w fun e w' => e = .returned (.tuple #[]) ∧
   ∃ C' D', Beg w w' g O S gv tv la ms C' D' ms.length := by
 have h0 : Beg w w g O S gv tv la ms C D 0 := ⟨h, Fr.refl _ _, fun t m ht => by omega, fun t _ ht => hz t ht, fun t _ ht => hz2 t ht⟩
 obtain ⟨n, hn⟩ : ∃ n, n = ms.length := ⟨_, rfl⟩
 have hfew : n ≤ 4096 := by rw [hn]; exact h.few
 have b0 := cell_of h.box 0
 simp only [List.getElem?_toArray, List.getElem?_cons_zero] at b0
 rw [← hn] at b0 ⊢
 have H := Lib.hid (And.intro h0 (And.intro hn (And.intro hp hl)))
 clear h h0 hn hp hl hz hz2
 go_enter Tryz.func47, Tryz.ntmps47
 go_wp2
 clear b0
 go_loopg [2, 3, 4, 5, 11] n (fun k s2 s3 s4 s5 s11 wr => ∃ j C D, s11 = .int .i64 (j : Nat) ∧ j + k = n ∧ Beg w wr g O S gv tv la ms C D j)
 case atStart => exact ⟨0, C, D, rfl, by omega, H.out.1⟩
 case round =>
  obtain ⟨i, C1, D1, rfl, hik, hB⟩ := hrel
  have HL := Lib.hid hB
  clear hB
  by_cases hi : i < n
  ·obtain ⟨k, rfl⟩ : ∃ k, gk = k + 1 := ⟨gk - 1, by omega⟩
   obtain ⟨m, hm⟩ : ∃ m, ms[i]? = some m := ⟨ms[i]'(by rw [← H.out.2.1]; omega), List.getElem?_eq_getElem _⟩
   obtain ⟨gb, o, hla, hce⟩ := HL.out.rb.ents.cell hm
   have hla2 := hla
   subst hla
   have c0 := hce 0 _ (by decide) rfl
   have c1 := hce 1 _ (by decide) rfl
   have c2 := hce 2 _ (by decide) rfl
   have c3 := hce 3 _ (by decide) rfl
   have c4 := hce 4 _ (by decide) rfl
   have c5 := hce 5 _ (by decide) rfl
   have c6 := hce 6 _ (by decide) rfl
   rw [← Nat.add_assoc] at c0 c1 c2 c3 c4 c5 c6
   have HM := Lib.hid hm
   clear hce hm hla2
   obtain ⟨⟨xk, xa, xs, xc, xd, xb, xo⟩, da⟩ := m
   replace c0 : wr.cell? ⟨gb, o + i * 7, none⟩ = some (.int .i64 (xk : Nat)) := c0
   replace c1 : wr.cell? ⟨gb, o + i * 7 + 1, none⟩ = some (.int .i64 (xa : Nat)) := c1
   replace c2 : wr.cell? ⟨gb, o + i * 7 + 2, none⟩ = some (.int .i64 (xs : Nat)) := c2
   replace c3 : wr.cell? ⟨gb, o + i * 7 + 3, none⟩ = some (.int .u32 (xc : Nat)) := c3
   replace c4 : wr.cell? ⟨gb, o + i * 7 + 4, none⟩ = some (.slice da xd.length xd.length) := c4
   replace c5 : wr.cell? ⟨gb, o + i * 7 + 5, none⟩ = some (.string (str xb)) := c5
   replace c6 : wr.cell? ⟨gb, o + i * 7 + 6, none⟩ = some (.int .i64 (xo : Nat)) := c6
   obtain ⟨dl, hdl⟩ : ∃ dl, dl = xd.length := ⟨_, rfl⟩
   rw [← hdl] at c4
   have HD := Lib.hid hdl
   clear hdl
   go_upto_region 3 with (refine wpList_store_row rfl 65 (.tmp 3) (.tmp 15) rfl wr.heap.size #[.int .i64 (xk : Nat), .int .i64 (xa : Nat), .int .i64 (xs : Nat), .int .u32 (xc : Nat), .slice da dl dl, .string (str xb), .int .i64 (xo : Nat)] rfl rfl 65 _ (alloc_at _ _) infoRaw rfl (by kernel_rfl) ?_)
   clear c0 c1 c2 c3 c4 c5 c6
   generalize hw1 : World.setRow _ _ _ = w1
   obtain ⟨X, hX⟩ : ∃ X, X = wr.heap.size := ⟨_, rfl⟩
   rw [← hX] at hw1 ⊢
   have hx1 : w1.heap[X]? = some (.cells #[.int .i64 (xk : Nat), .int .i64 (xa : Nat), .int .i64 (xs : Nat), .int .u32 (xc : Nat), .slice da dl dl, .string (str xb), .int .i64 (xo : Nat)] 65 (0, 0)) := by rw [← hw1, hX]; exact setRow_heap _ _ _ _ _ _ (alloc_at _ _)
   have f1 : Fr [] wr w1 := by rw [← hw1, hX]; exact ((Fr.refl [] wr).alloc _).setRow (.inr (Nat.le_refl _)) _
   have hX1 := lt_of_block hx1
   clear hw1
   have hB1 := HL.out.fr0 f1
   have hn := H.out.2.1
   have b0 := cell_of hB1.rb.box 0
   have b2 := cell_of hB1.rb.box 2
   simp only [List.getElem?_toArray, List.getElem?_cons_zero, List.getElem?_cons_succ] at b0 b2
   rw [← hn] at b0 b2
   have k0 := cell_of hx1 0
   have k4 := cell_of hx1 4
   have k5 := cell_of hx1 5
   have k6 := cell_of hx1 6
   simp only [List.getElem?_toArray, List.getElem?_cons_zero, List.getElem?_cons_succ] at k0 k4 k5 k6
   have hXO : X ≠ O := by have := lt_of_block HL.out.rb.ob; omega
   have hXS : X ≠ S := by have := lt_of_block HL.out.rb.sb; omega
   have hidx := fun w2 (f : Fr [] w1 w2) => index_any _ ms i X xo w2 (hB1.rb.ents.fr f) (by omega) (by omega) (f.cell k6 (by simp))
   rw [← hn] at hidx
   obtain ⟨r0, r1, r3⟩ := hB1.rest i (Nat.le_refl _) (by omega)
   have hsz : i * 4 + 4 ≤ D1.size := by rw [hB1.rb.sc]; omega
   have H1 := Lib.hid (And.intro hB1 (And.intro hx1 (And.intro hXO (And.intro hXS (And.intro hidx (And.intro r0 (And.intro r1 (And.intro r3 (And.intro hsz hX)))))))))
   clear hB1 hn hx1 hXO hXS hidx r0 r1 r3 hsz hX f1 hX1 k6 HL
   by_cases h6 : xk = 6
   ·subst h6
    have g6 : (((6 : Nat) : Int) == 6) = true := by decide
    clear k4 k5
    have HI := Lib.hid (H1.out.2.2.2.2.1 w1 (Fr.refl _ _))
    obtain ⟨at_, hat⟩ : ∃ at_, at_ = atOf (ms.map (·.1)) i xo := ⟨_, rfl⟩
    rw [← hat] at HI
    have HA := Lib.hid hat
    clear hat
    go_upto_region 9 with (go_at_call 77; refine HI.out.mono ?_; rintro e w2 ⟨rfl, f2⟩; have H2 := Lib.hid f2; clear f2)
    clear b0 b2 k0 g6
    obtain ⟨hB1, hx1, hXO, hXS, hidx, r0, r1, r3, hsz, hX⟩ := H1.out
    have hB2 := hB1.fr0 H2.out
    obtain ⟨bV, hbV⟩ : ∃ bV, bV = Value.iface 123 (.int .i64 (atI at_)) := ⟨_, rfl⟩
    have hb6 : baseV (ms.map (·.1)) i ⟨6, xa, xs, xc, xd, xb, xo⟩ = bV := by rw [hbV, HA.out]; rfl
    have y3 : w2.cell? ⟨S, i * 4 + 3, none⟩ = some .nilIface := by rw [cell_of hB2.rb.sb]; exact r3
    have z3 := frozen_of hB2.rb.sb (i * 4 + 3)
    have f3 : Fr [S] w2 (w2.setCell ⟨S, i * 4 + 3, none⟩ bV) := (Fr.refl [S] w2).setCell (by simp) _
    have hs3 : (w2.setCell ⟨S, i * 4 + 3, none⟩ bV).heap[S]? = some (.cells (D1.setIfInBounds (i * 4 + 3) bV) 100 (0, 0)) := setCell_of hB2.rb.sb _
    have hR3 := hB2.rb.setS f3 hs3 (by rw [Array.size_setIfInBounds])
    rw [hbV] at hs3 hR3 f3
    have H3 := Lib.hid (And.intro hB2 (And.intro hb6 (And.intro f3 (And.intro hs3 (And.intro hR3 hbV)))))
    clear hB1 hx1 hXO hXS hidx r0 r1 r3 hsz hX hB2 hb6 f3 hs3 hR3 hbV
    cases at_ with
    | some q =>
     have gq : decide (((q : Nat) : Int) < 0) = false := by simp
     simp only [atI] at H3
     simp only [atI]
     go_upto_region 10 with fail
     clear y3 z3
     go_wp2
     go_roundg k
     case measure => omega
     case rel =>
      obtain ⟨hB2, hb6, f3, hs3, hR3, hbV⟩ := H3.out
      obtain ⟨hB1, hx1, hXO, hXS, hidx, r0, r1, r3, hsz, hX⟩ := H1.out
      refine ⟨i + 1, C1, _, rfl, by omega, hB2.next HM.out hR3 (f3.mono (fun x hx => .inl (by simp at hx; simp [hx]))) (fun _ _ => rfl) (fun j hj => by rw [Array.getElem?_setIfInBounds_ne (by omega)]) ?_ ?_⟩
      ·have : first1 (ms.map (·.1)) i ⟨6, xa, xs, xc, xd, xb, xo⟩ = none := by unfold first1; simp only [if_pos]; rw [← HA.out]
       rw [this]
       exact ⟨by rw [Array.getElem?_setIfInBounds_ne (by omega)]; exact r0, by rw [Array.getElem?_setIfInBounds_ne (by omega)]; exact r1⟩
      ·rw [hb6, hbV]
       exact Array.getElem?_setIfInBounds_self_of_lt (by omega)
    | none =>
     simp only [atI] at H3
     simp only [atI]
     go_upto_region 10 with fail
     clear y3 z3
     generalize hw3 : w2.setCell _ _ = w3
     have hb9 := H3.out
     rw [hw3] at hb9
     clear hw3 H3
     obtain ⟨hB2, hb6, f3, hs3, hR3, hbV⟩ := hb9
     obtain ⟨hB1, hx1, hXO, hXS, hidx, r0, r1, r3, hsz, hX⟩ := H1.out
     obtain ⟨D3, hD3⟩ : ∃ D3, D3 = D1.setIfInBounds (i * 4 + 3) (Value.iface 123 (.int .i64 (-1))) := ⟨_, rfl⟩
     rw [← hD3] at hs3 hR3
     have y0 : w3.cell? ⟨S, i * 4, none⟩ = some (.bool false) := by rw [cell_of hs3, hD3, Array.getElem?_setIfInBounds_ne (by omega)]; exact r0
     have z0 := frozen_of hs3 (i * 4)
     have hs4 := setCell_of (o := i * 4) hs3 (.bool true)
     have f4 : Fr [S] w3 (w3.setCell ⟨S, i * 4, none⟩ (.bool true)) := (Fr.refl [S] w3).setCell (by simp) _
     have y1 : (w3.setCell ⟨S, i * 4, none⟩ (.bool true)).cell? ⟨S, i * 4 + 1, none⟩ = some (.int .i64 0) := by rw [cell_of hs4, Array.getElem?_setIfInBounds_ne (by omega), hD3, Array.getElem?_setIfInBounds_ne (by omega)]; exact r1
     have z1 := frozen_of hs4 (i * 4 + 1)
     have hR4 := hR3.setS f4 hs4 (by rw [Array.size_setIfInBounds])
     have hs5 := setCell_of (o := i * 4 + 1) hs4 (.int .i64 3)
     have f5 : Fr [S] (w3.setCell ⟨S, i * 4, none⟩ (.bool true)) ((w3.setCell ⟨S, i * 4, none⟩ (.bool true)).setCell ⟨S, i * 4 + 1, none⟩ (.int .i64 3)) := (Fr.refl [S] _).setCell (by simp) _
     have hR5 := hR4.setS f5 hs5 (by rw [Array.size_setIfInBounds])
     have fF := (f3.trans f4).trans f5
     have H4 := Lib.hid (And.intro hB2 (And.intro hb6 (And.intro hbV (And.intro hD3 (And.intro hR5 fF)))))
     clear hB2 hb6 hbV hD3 hR5 fF hB1 hx1 hXO hXS hidx r0 r1 r3 hsz hX f3 f4 f5 hs3 hs4 hs5 hR3 hR4
     go_wp2
     clear y0 z0 y1 z1
     go_roundg k
     case measure => omega
     case rel =>
      obtain ⟨hB2, hb6, hbV, hD3, hR5, fF⟩ := H4.out
      obtain ⟨hB1, hx1, hXO, hXS, hidx, r0, r1, r3, hsz, hX⟩ := H1.out
      have hsz3 : D3.size = D1.size := by rw [hD3, Array.size_setIfInBounds]
      refine ⟨i + 1, C1, _, rfl, by omega, hB2.next HM.out hR5 (fF.mono (fun x hx => .inl (by simp at hx; simp [hx]))) (fun _ _ => rfl) (fun j hj => by rw [Array.getElem?_setIfInBounds_ne (by omega), Array.getElem?_setIfInBounds_ne (by omega), hD3, Array.getElem?_setIfInBounds_ne (by omega)]) ?_ ?_⟩
      ·have : first1 (ms.map (·.1)) i ⟨6, xa, xs, xc, xd, xb, xo⟩ = some (.error 3) := by unfold first1; simp only [if_pos]; rw [← HA.out]
       rw [this]
       exact ⟨by rw [Array.getElem?_setIfInBounds_ne (by omega)]; exact Array.getElem?_setIfInBounds_self_of_lt (by omega), Array.getElem?_setIfInBounds_self_of_lt (by rw [Array.size_setIfInBounds]; omega), by decide⟩
      ·rw [hb6, hbV, Array.getElem?_setIfInBounds_ne (by omega), Array.getElem?_setIfInBounds_ne (by omega), hD3]
       exact Array.getElem?_setIfInBounds_self_of_lt (by omega)
   ·have g6 : ((xk : Int) == 6) = false := by simp; omega
    by_cases h7 : xk = 7
    ·subst h7
     have g7 : (((7 : Nat) : Int) == 7) = true := by decide
     clear b0 k4
     obtain ⟨hB1, hx1, hXO, hXS, hidx, r0, r1, r3, hsz, hX⟩ := H1.out
     have y3 : w1.cell? ⟨S, i * 4 + 3, none⟩ = some .nilIface := by rw [cell_of hB1.rb.sb]; exact r3
     have z3 := frozen_of hB1.rb.sb (i * 4 + 3)
     have f3 : Fr [S] w1 (w1.setCell ⟨S, i * 4 + 3, none⟩ (.iface 124 (.string (str xb)))) := (Fr.refl [S] w1).setCell (by simp) _
     have hs3 : (w1.setCell ⟨S, i * 4 + 3, none⟩ (.iface 124 (.string (str xb)))).heap[S]? = some (.cells (D1.setIfInBounds (i * 4 + 3) (.iface 124 (.string (str xb)))) 100 (0, 0)) := setCell_of hB1.rb.sb _
     have hR3 := hB1.rb.setS f3 hs3 (by rw [Array.size_setIfInBounds])
     have H3 := Lib.hid (And.intro f3 hR3)
     clear hB1 hx1 hXO hXS hidx r0 r1 r3 hsz hX f3 hs3 hR3
     go_wp2
     clear y3 z3 b2 k0 k5
     go_roundg k
     case measure => omega
     case rel =>
      obtain ⟨f3, hR3⟩ := H3.out
      obtain ⟨hB1, hx1, hXO, hXS, hidx, r0, r1, r3, hsz, hX⟩ := H1.out
      refine ⟨i + 1, C1, _, rfl, by omega, hB1.next HM.out hR3 (f3.mono (fun x hx => .inl (by simp at hx; simp [hx]))) (fun _ _ => rfl) (fun j hj => by rw [Array.getElem?_setIfInBounds_ne (by omega)]) ?_ ?_⟩
      ·have : first1 (ms.map (·.1)) i ⟨7, xa, xs, xc, xd, xb, xo⟩ = none := rfl
       rw [this]
       exact ⟨by rw [Array.getElem?_setIfInBounds_ne (by omega)]; exact r0, by rw [Array.getElem?_setIfInBounds_ne (by omega)]; exact r1⟩
      ·have : baseV (ms.map (·.1)) i ⟨7, xa, xs, xc, xd, xb, xo⟩ = .iface 124 (.string (str xb)) := rfl
       rw [this]
       exact Array.getElem?_setIfInBounds_self_of_lt (by omega)
    ·have g7 : ((xk : Int) == 7) = false := by simp; omega
     clear b0
     obtain ⟨hB1, hx1, hXO, hXS, hidx, r0, r1, r3, hsz, hX⟩ := H1.out
     have y0 : w1.cell? ⟨S, i * 4, none⟩ = some (.bool false) := by rw [cell_of hB1.rb.sb]; exact r0
     have z0 := frozen_of hB1.rb.sb (i * 4)
     clear hB1 hx1 hXO hXS hidx r0 r1 r3 hsz hX k4 k5
     go_upto_region 6 with fail
     clear y0 z0 b2 k0 g6 g7
     obtain ⟨hB1, hx1, hXO, hXS, hidx, r0, r1, r3, hsz, hX⟩ := H1.out
     have hs2 : (w1.setCell ⟨S, i * 4, none⟩ (.bool true)).heap[S]? = some (.cells (D1.setIfInBounds (i * 4) (.bool true)) 100 (0, 0)) := setCell_of hB1.rb.sb _
     have f2 : Fr [S] w1 (w1.setCell ⟨S, i * 4, none⟩ (.bool true)) := (Fr.refl [S] w1).setCell (by simp) _
     generalize w1.setCell ⟨S, i * 4, none⟩ (.bool true) = w2 at *
     have hR2 := hB1.rb.setS f2 hs2 (by rw [Array.size_setIfInBounds])
     obtain ⟨D2, hD2⟩ : ∃ D2, D2 = D1.setIfInBounds (i * 4) (.bool true) := ⟨_, rfl⟩
     rw [← hD2] at hR2 hs2
     have k0 : w2.cell? ⟨X, 0, none⟩ = some (.int .i64 (xk : Nat)) := f2.cell (by rw [cell_of hx1]; rfl) (by simp; exact hXS)
     have k4 : w2.cell? ⟨X, 4, none⟩ = some (.slice da dl dl) := f2.cell (by rw [cell_of hx1]; rfl) (by simp; exact hXS)
     have hXO' : X ∉ [O] := by simp; exact hXO
     have s0 : ∀ x, (sup [O] w2.drew x).cell? ⟨X, 0, none⟩ = some (.int .i64 (xk : Nat)) := fun x => (sup_fr [O] w2.drew x).cell (show w2.drew.cell? _ = _ from k0) hXO'
     have s4 : ∀ x, (sup [O] w2.drew x).cell? ⟨X, 4, none⟩ = some (.slice da dl dl) := fun x => (sup_fr [O] w2.drew x).cell (show w2.drew.cell? _ = _ from k4) hXO'
     have H2 := Lib.hid (And.intro hR2 (And.intro f2 (And.intro hD2 hs2)))
     clear hB1 hx1 hXO hXS hidx r0 r1 r3 hsz hX hR2 hD2 f2 k0 k4 hXO' hs2
     refine region_mix 9 [(false, 0), (false, 1), (false, 2), (false, 3), (false, 4), (false, 5), (true, 6), (true, 7), (true, 8)] [O] (by kernel_rfl) (by kernel_rfl) (fun _ _ d _ _ h => by cases d <;> exact h) ?_
     simp only [List.map_cons, List.map_nil, List.getD_cons_zero, List.getD_cons_succ, List.drop_succ_cons, List.drop_zero, List.drop_nil]
     refine mix_seg 6 rfl ?_
     simp only [List.take_succ_cons, List.take_zero, List.drop_succ_cons, List.drop_zero, List.map_cons, List.map_nil]
     repeat (go_big_quiet_step (fail))
     refine wpQuiet_nil ?_
     clear s0 s4
     refine mix_eff rfl ?_
     intro X1 hX1
     have hR2 := H2.out.1.fr (Fr.drew1 [] w2)
     have hml := H.out.2.2.2 _ (List.mem_of_getElem? HM.out)
     have hc := clone_b da xd.length xd w2.drew (hR2.ents.dat _ (List.mem_of_getElem? HM.out)) (by have : xd.length ≤ 2147483647 := hml; omega)
     rw [← HD.out] at hc
     have HC := Lib.hid (And.intro hc hml)
     clear hc hml hR2
     go_wp2_with (go_at_call 37; refine HC.out.1.mono ?_; rintro e w3 ⟨a3, cc, rfl, r3, l3, m3, b3, f3⟩)
     refine hX1.out _ _ (f3.mono (by simp)) ?_
     clear hX1 X1
     have H3 := Lib.hid (And.intro r3 (And.intro l3 (And.intro m3 (And.intro b3 f3))))
     clear r3 l3 m3 b3 f3
     refine mix_eff rfl ?_
     intro X1 hX1
     go_wp2_with (go_at_call 29; refine (clip_b a3 xd.length cc _ H3.out.2.1 H3.out.2.2.1).mono ?_; rintro e w4 ⟨rfl, rfl⟩)
     refine hX1.out _ _ (Fr.refl _ _) ?_
     clear hX1 X1
     refine mix_eff rfl ?_
     intro X1 hX1
     have fw : Fr [O, S] w w4 := by
      have := H1.out.1.fr.trans ((H2.out.2.1.mono (fun x hx => .inl (by simp at hx; simp [hx]))).trans (((Fr.drew1 [] w2).trans H3.out.2.2.2.2).mono (by simp)))
      exact this
     have hset := set_any g O S gv tv _ ms C1 D2 i _ (xk : Nat) a3 xd.length xd w4 (H2.out.1.fr ((Fr.drew1 [] w2).trans H3.out.2.2.2.2)) HM.out ⟨H3.out.1.cs, Nat.le_refl _, Nat.le_trans H3.out.2.1 H3.out.2.2.1, fun h => by have := H3.out.1.nil h; have := H3.out.2.1; omega⟩ (by have : xd.length ≤ 2147483647 := HC.out.2; omega) (H.out.2.2.1 _ fw)
     have HS := Lib.hid hset
     clear hset fw
     go_wp2_with (go_at_call 79; refine HS.out.mono ?_; rintro e w5 ⟨rfl, f5, C2, hR5, hC1, hC2⟩)
     refine hX1.out _ _ f5 ?_
     clear hX1 X1
     have H5 := Lib.hid (And.intro f5 (And.intro hR5 (And.intro hC1 hC2)))
     clear f5 hR5 hC1 hC2
     refine mix_nil ?_
     go_wp2
     go_roundg k
     case measure => omega
     case rel =>
      obtain ⟨f5, hR5, hC1, hC2⟩ := H5.out
      obtain ⟨hB1, hx1, hXO, hXS, hidx, r0, r1, r3, hsz, hX⟩ := H1.out
      obtain ⟨hR2, f2, hD2, hs2⟩ := H2.out
      obtain ⟨q3, l3, m3, b3, f3⟩ := H3.out
      have rd := hB1.deep i (Nat.le_refl _) (by rw [← H.out.2.1]; omega)
      have fF : Fr [O, S] w1 w5 := ((f2.mono (fun x hx => .inl (by simp at hx; simp [hx]))).trans (((Fr.drew1 [] w2).trans f3).mono (by simp))).trans (f5.mono (fun x hx => .inl (by simp at hx; simp [hx])))
      have hDo : ∀ j, j ≠ i * 4 → D2[j]? = D1[j]? := fun j hj => by rw [hD2, Array.getElem?_setIfInBounds_ne (Ne.symm hj)]
      refine ⟨i + 1, C2, D2, rfl, by omega, hB1.next HM.out hR5 fF hC1 (fun j hj => hDo j (by omega)) ?_ ?_⟩
      ·have : first1 (ms.map (·.1)) i ⟨xk, xa, xs, xc, xd, xb, xo⟩ = some (.ok (whole ⟨xk, xa, xs, xc, xd, xb, xo⟩ xk xd, 0)) := by unfold first1; rw [if_neg h6, if_neg h7]
       rw [this]
       refine ⟨by rw [hD2]; exact Array.getElem?_setIfInBounds_self_of_lt (by omega), by rw [hDo _ (by omega)]; exact r1, by rw [hDo _ (by omega)]; exact rd, by decide, a3, xd.length, hC2, ?_, fun y hy => ?_, HC.out.2⟩
       ·show lib.Rd w5 a3 xd.length xd
        exact Rd.frS ⟨q3.cs, Nat.le_refl _, Nat.le_trans l3 m3, fun h => by have := q3.nil h; omega⟩ f5 (fun x hx hm => by have := (b3 x hx).1; have := lt_of_block hR2.ob; simp at hm; simp at *; omega)
       ·have := (b3 y hy).1
        have h1 := lt_of_block hR2.ob
        have h2 := lt_of_block hR2.sb
        have : w2.drew.heap.size = w2.heap.size := rfl
        omega
      ·have : baseV (ms.map (·.1)) i ⟨xk, xa, xs, xc, xd, xb, xo⟩ = .nilIface := by unfold baseV; rw [if_neg h6, if_neg h7]
       rw [this, hDo _ (by omega)]
       exact r3
  ·obtain rfl : i = n := by omega
   go_wp2
   go_end0
   exact ⟨rfl, C1, D1, HL.out⟩
end Go.Proofs.YtkmpfgpfbmeihaaGreatDoor.pk
namespace Go.Proofs.YtkmpfgpfbmeihaaGreatDoor.pk
open Go Go.RowKit lib bm
theorem find_at (p : St → Bool) : ∀ (W : List St) (j : Nat) (s : St), (∀ t, t < j → ∀ y, W[t]? = some y → p y = false) → W[j]? = some s → p s = true → W.find? p = some s
 | [], j, s, _, h, _ => by simp at h
 | x :: t, 0, s, _, h, hs => by
  simp only [List.getElem?_cons_zero, Option.some.injEq] at h
  rw [List.find?_cons, h, hs]
 | x :: t, j + 1, s, hn, h, hs => by
  rw [List.find?_cons, hn 0 (by omega) x rfl]
  exact find_at p t j s (fun k hk y hy => hn (k + 1) (by omega) y (by simpa using hy)) (by simpa using h) hs
def Tried (w : World) (g O S : Nat) (gv tv : Value) (la : Option Addr) (ms : List EM) (W : List St) (i : Nat) (T : St) (e : Ending) (w' : World) : Prop :=
 match T with
 | none => e = .returned (.bool false) ∧ Fr [] w w'
 | some s => e = .returned (.bool true) ∧ Fr [O, S] w w' ∧ ∃ C' D', Rb w' g O S gv tv la ms C' D' ∧ Sts w' O S C' D' (ms.map (·.1)) (W.set i (some s))
set_option maxHeartbeats 8000000 in
theorem try_any (g O S : Nat) (gv tv : Value) (la : Option Addr) (ms : List EM) (C D : Array Value) (W : List St) (i : Nat) (m : EM) (w : World) (h : Rb w g O S gv tv la ms C D) (hs : Sts w O S C D (ms.map (·.1)) W) (hm : ms[i]? = some m) (hW : W[i]? = some none)
  (hp : ∀ w', Fr [O, S] w w' → obj.Pw w') (hk : (m.1.kind = 6 ∧ ∃ q, atOf (ms.map (·.1)) i m.1.off = some q) ∨ m.1.kind = 7) :
  Calls Tryz.prog 48 #[.pointer (some ⟨g, 0, none⟩), .int .i64 (i : Nat)] w (Tried w g O S gv tv la ms W i (try1 (ms.map (·.1)) W i m.1)) := by
 obtain ⟨n, hn⟩ : ∃ n, n = ms.length := ⟨_, rfl⟩
 have hin : i < n := by rw [hn]; exact (List.getElem?_eq_some_iff.1 hm).1
 have hfew : n ≤ 4096 := by rw [hn]; exact h.few
 have hwl : W.length = n := by rw [hs.len, List.length_map, hn]
 have b1 := cell_of h.box 1
 have b2 := cell_of h.box 2
 simp only [List.getElem?_toArray, List.getElem?_cons_zero, List.getElem?_cons_succ] at b1 b2
 rw [← hn] at b1 b2
 have hDs : D.size = n * 4 := by rw [h.sc, hn]
 have hCs : C.size = n * 5 := by rw [h.oc, hn]
 have hbase := hs.base i m.1 (by rw [List.getElem?_map, hm]; rfl)
 obtain ⟨T, hT⟩ : ∃ T, T = try1 (ms.map (·.1)) W i m.1 := ⟨_, rfl⟩
 rw [← hT]
 have H := Lib.hid (And.intro h (And.intro hs (And.intro hm (And.intro hW (And.intro hp (And.intro hn (And.intro hDs (And.intro hCs hwl))))))))
 clear h hs hm hW hp hn
 rcases hk with ⟨hk, q, hq⟩ | hk
 ·have hbv : baseV (ms.map (·.1)) i m.1 = .iface 123 (.int .i64 (q : Nat)) := by unfold baseV; rw [if_pos hk, hq]; rfl
  rw [hbv] at hbase
  have y3 : w.cell? ⟨S, i * 4 + 3, none⟩ = some (.iface 123 (.int .i64 (q : Nat))) := by rw [cell_of H.out.1.sb]; exact hbase
  have hqn : q < n := by
   have := List.mem_of_find?_eq_some hq
   simp at this
   omega
  have hTq : T = onto m.1 (W[q]?.getD none) := by rw [hT]; unfold try1; rw [if_pos hk, hq]
  have hta : ∀ w : World, (Instr.typeAssert (.iface 123 (.int .i64 (q : Nat))) 98 123 true).run Tryz.prog w = .ok (.tuple #[.int .i64 (q : Nat), .bool true]) w := fun _ => by kernel_rfl
  clear hbase hbv hq hk hT hwl
  go_enter Tryz.func48, Tryz.ntmps48
  go_upto_region 13 with fail
  clear y3 hta
  obtain ⟨s, hsq⟩ : ∃ s, W[q]? = some s := ⟨W[q]'(by rw [H.out.2.2.2.2.2.2.2.2]; omega), List.getElem?_eq_getElem _⟩
  rw [hsq, Option.getD_some] at hTq
  have hst := H.out.2.1.st q s hsq
  have gq : decide (((q : Nat) : Int) < 0) = false := by simp
  match s, hst, hTq, hsq with
  | none, hst, hTq, hsq =>
   have y0 : w.cell? ⟨S, q * 4, none⟩ = some (.bool false) := by rw [cell_of H.out.1.sb]; exact hst.1
   have HT := Lib.hid hTq
   clear hst hTq hsq b1
   go_wp2
   go_ret
   rw [HT.out]
   exact ⟨rfl, Fr.refl _ _⟩
  | some (.error x), hst, hTq, hsq =>
   have y0 : w.cell? ⟨S, q * 4, none⟩ = some (.bool true) := by rw [cell_of H.out.1.sb]; exact hst.1
   have y1 : w.cell? ⟨S, q * 4 + 1, none⟩ = some (.int .i64 (x : Nat)) := by rw [cell_of H.out.1.sb]; exact hst.2.1
   have hx := hst.2.2
   have gx : ((x : Int) != 0) = true := by simp; omega
   have HT := Lib.hid (And.intro hTq (And.intro hst hx))
   clear hst hTq hsq b1 hx
   go_upto_region 16 with fail
   have hgS : g ∉ [S] := by simp; exact H.out.1.gS
   have s2 : ∀ x, (sup [S] w.drew x).cell? ⟨g, 2, none⟩ = some (.slice (some ⟨S, 0, none⟩) n n) := fun x => (sup_fr [S] w.drew x).cell (show w.drew.cell? _ = _ from b2) hgS
   refine region_mix 24 [(false, 0), (false, 1), (false, 2), (false, 3), (false, 4), (false, 5), (false, 6), (false, 7), (false, 8), (false, 9), (false, 10), (false, 11), (false, 12), (false, 13), (false, 14), (false, 15), (false, 16), (true, 17), (false, 18), (false, 19), (true, 20), (false, 21), (false, 22), (true, 23)] [S] (by kernel_rfl) (by kernel_rfl) (fun _ _ d _ _ h => by cases d <;> exact h) ?_
   simp only [List.map_cons, List.map_nil, List.getD_cons_zero, List.getD_cons_succ, List.drop_succ_cons, List.drop_zero, List.drop_nil]
   refine mix_seg 17 rfl ?_
   simp only [List.take_succ_cons, List.take_zero, List.drop_succ_cons, List.drop_zero, List.map_cons, List.map_nil]
   repeat (go_big_quiet_step (fail))
   refine wpQuiet_nil ?_
   clear s2 hgS
   obtain ⟨w1, hw1⟩ : ∃ w1, w1 = w.drew := ⟨_, rfl⟩
   have fd : Fr [] w w1 := by rw [hw1]; exact Fr.drew1 [] w
   replace b2 : w1.cell? ⟨g, 2, none⟩ = some (.slice (some ⟨S, 0, none⟩) n n) := fd.cell b2 (by simp)
   replace y1 : w1.cell? ⟨S, q * 4 + 1, none⟩ = some (.int .i64 (x : Nat)) := fd.cell y1 (by simp)
   have hR := H.out.1.fr fd
   rw [← hw1]
   clear hw1
   have r0 : D[i * 4]? = some (.bool false) := (H.out.2.1.st i none H.out.2.2.2.1).1
   have r1 : D[i * 4 + 1]? = some (.int .i64 0) := (H.out.2.1.st i none H.out.2.2.2.1).2
   have v0 : w1.cell? ⟨S, i * 4, none⟩ = some (.bool false) := by rw [cell_of hR.sb]; exact r0
   have z0 := frozen_of hR.sb (i * 4)
   have hs4 := setCell_of (o := i * 4) hR.sb (.bool true)
   have f4 : Fr [S] w1 (w1.setCell ⟨S, i * 4, none⟩ (.bool true)) := (Fr.refl [S] w1).setCell (by simp) _
   have v1 : (w1.setCell ⟨S, i * 4, none⟩ (.bool true)).cell? ⟨S, i * 4 + 1, none⟩ = some (.int .i64 0) := by rw [cell_of hs4, Array.getElem?_setIfInBounds_ne (by omega)]; exact r1
   have z1 := frozen_of hs4 (i * 4 + 1)
   have hR4 := hR.setS f4 hs4 (by rw [Array.size_setIfInBounds])
   have hs5 := setCell_of (o := i * 4 + 1) hs4 (.int .i64 (x : Nat))
   have f5 : Fr [S] (w1.setCell ⟨S, i * 4, none⟩ (.bool true)) ((w1.setCell ⟨S, i * 4, none⟩ (.bool true)).setCell ⟨S, i * 4 + 1, none⟩ (.int .i64 (x : Nat))) := (Fr.refl [S] _).setCell (by simp) _
   have hR5 := hR4.setS f5 hs5 (by rw [Array.size_setIfInBounds])
   have fF := f4.trans f5
   have H4 := Lib.hid (And.intro hR5 (And.intro fF (And.intro fd (And.intro r0 (And.intro r1 (And.intro f4 f5))))))
   clear hR r0 r1 hs4 f4 hR4 hs5 f5 hR5 fF fd y0
   clear b2
   refine mix_eff rfl ?_
   intro X1 hX1
   go_wp2
   refine hX1.out _ _ (Fr.refl _ _) ?_
   clear hX1 X1 y1
   refine mix_seg 2 rfl ?_
   simp only [List.take_succ_cons, List.take_zero, List.drop_succ_cons, List.drop_zero, List.map_cons, List.map_nil]
   repeat (go_big_quiet_step (fail))
   refine wpQuiet_nil ?_
   refine mix_eff rfl ?_
   intro X1 hX1
   go_wp2
   refine hX1.out _ _ H4.out.2.2.2.2.2.1 ?_
   clear hX1 X1 v0 z0
   refine mix_seg 2 rfl ?_
   simp only [List.take_succ_cons, List.take_zero, List.drop_succ_cons, List.drop_zero, List.map_cons, List.map_nil]
   repeat (go_big_quiet_step (fail))
   refine wpQuiet_nil ?_
   refine mix_eff rfl ?_
   intro X1 hX1
   go_wp2
   refine hX1.out _ _ H4.out.2.2.2.2.2.2 ?_
   clear hX1 X1 v1 z1
   refine mix_nil ?_
   go_wp2
   go_ret
   obtain ⟨hR5, fF, fd, r0, r1, f4, f5⟩ := H4.out
   obtain ⟨hTq, hst, hx⟩ := HT.out
   rw [hTq]
   have fT := (fd.mono (T := [O, S]) (by simp)).trans (fF.mono (T := [O, S]) (fun x hx => .inl (by simp at hx; simp [hx])))
   refine ⟨rfl, fT, C, _, hR5, H.out.2.1.one i _ (fun _ _ => rfl) (fun j hj => by rw [Array.getElem?_setIfInBounds_ne (by omega), Array.getElem?_setIfInBounds_ne (by omega)]) fT ⟨?_, ?_, hx⟩⟩
   ·rw [Array.getElem?_setIfInBounds_ne (by omega)]; exact Array.getElem?_setIfInBounds_self_of_lt (by omega)
   ·exact Array.getElem?_setIfInBounds_self_of_lt (by rw [Array.size_setIfInBounds]; omega)
  | some (.ok (ob, d)), hst, hTq, hsq =>
   have y0 : w.cell? ⟨S, q * 4, none⟩ = some (.bool true) := by rw [cell_of H.out.1.sb]; exact hst.1
   have y1 : w.cell? ⟨S, q * 4 + 1, none⟩ = some (.int .i64 0) := by rw [cell_of H.out.1.sb]; exact hst.2.1
   have y2 : w.cell? ⟨S, q * 4 + 2, none⟩ = some (.int .i64 (d : Nat)) := by rw [cell_of H.out.1.sb]; exact hst.2.2.1
   obtain ⟨hd, ba, bc, ho, hrd, hoff, hle⟩ := hst.2.2.2
   have o0 : w.cell? ⟨O, q * 5, none⟩ = some (.int .i64 ob.kind) := by rw [cell_of H.out.1.ob]; exact ho 0 _ rfl
   have o1 : w.cell? ⟨O, q * 5 + 1, none⟩ = some (.slice ba ob.body.length bc) := by rw [cell_of H.out.1.ob]; exact ho 1 _ rfl
   obtain ⟨bl, hbl⟩ : ∃ bl, bl = ob.body.length := ⟨_, rfl⟩
   obtain ⟨kd, hkd⟩ : ∃ kd, kd = ob.kind := ⟨_, rfl⟩
   rw [← hbl] at o1
   rw [← hkd] at o0
   have gx : ((0 : Int) != 0) = false := by decide
   have fd := Fr.drew1 [] w
   have hfin := finish_any g O S gv tv la ms C D i m ob.kind ba bc ob.body d w.drew (H.out.1.fr fd) H.out.2.2.1 (hrd.fr fd) hoff (by omega) (H.out.2.2.2.2.1 _ (fd.mono (by simp))) (H.out.2.1.st i none H.out.2.2.2.1).2 (fun w' f => H.out.2.2.2.2.1 _ ((fd.mono (by simp)).trans f))
   rw [← hbl, ← hkd] at hfin
   have HT := Lib.hid (And.intro hTq (And.intro hfin (And.intro hkd fd)))
   have ew : wrap64 ((d : Int) + 1) = ((d + 1 : Nat) : Int) := by unfold wrap64; omega
   clear hst hTq hsq hrd hoff hle hfin hbl hkd fd
   go_upto_region 12 with fail
   refine region_tail 27 (by kernel_rfl) (by kernel_rfl) ?_
   simp only [List.take_succ_cons, List.take_zero, List.drop_succ_cons, List.drop_zero]
   repeat (go_big_quiet_step (fail))
   refine wpQuiet_nil ?_
   clear y0 y1 y2 o0 o1 b1 b2
   go_wp2_with (go_at_call 80; refine HT.out.2.1.mono ?_; rintro e w2 ⟨rfl, f2, C2, D2, hR2, hF2⟩; have H2 := Lib.hid (And.intro f2 (And.intro hR2 hF2)); clear f2 hR2 hF2)
   go_ret
   obtain ⟨f2, hR2, hF2⟩ := H2.out
   obtain ⟨hTq, _, hkd, fd⟩ := HT.out
   rw [hTq]
   rw [hkd] at hF2
   have fT := (fd.mono (T := [O, S]) (by simp)).trans f2
   exact ⟨rfl, fT, C2, D2, hR2, H.out.2.1.one i _ hF2.1 hF2.2.1 fT (hF2.st (lt_of_block (H.out.1.fr fd).ob) (lt_of_block (H.out.1.fr fd).sb))⟩
 ·have hbv : baseV (ms.map (·.1)) i m.1 = .iface 124 (.string (str m.1.base)) := by unfold baseV; rw [if_neg (by omega), if_pos hk]
  rw [hbv] at hbase
  have y3 : w.cell? ⟨S, i * 4 + 3, none⟩ = some (.iface 124 (.string (str m.1.base))) := by rw [cell_of H.out.1.sb]; exact hbase
  have hT7 : T = onto m.1 ((W.find? (idIs m.1.base)).getD none) := by rw [hT]; unfold try1; rw [if_neg (by omega)]
  obtain ⟨sb, hsb⟩ : ∃ sb, sb = str m.1.base := ⟨_, rfl⟩
  rw [← hsb] at y3
  have hta : ∀ w : World, (Instr.typeAssert (.iface 124 (.string sb)) 98 123 true).run Tryz.prog w = .ok (.tuple #[.int .i64 0, .bool false]) w := fun _ => by kernel_rfl
  have htb : ∀ w : World, (Instr.typeAssert (.iface 124 (.string sb)) 98 124 false).run Tryz.prog w = .ok (.string sb) w := fun _ => by kernel_rfl
  have H7 := Lib.hid (And.intro hT7 hsb)
  clear hbase hbv hk hT hwl hT7 hsb
  go_enter Tryz.func48, Tryz.ntmps48
  go_wp2
  clear y3 hta htb
  go_loopg [5, 9, 38] n (fun k s5 s9 s38 wr => ∃ j : Nat, s38 = .int .i64 (j : Nat) ∧ j + k = n ∧ s5 = .int .i64 (-1) ∧ wr = w ∧ ∀ t, t < j → ∀ s, W[t]? = some s → idIs m.1.base s = false)
  case atStart => exact ⟨0, rfl, by omega, rfl, rfl, fun t ht => by omega⟩
  case round =>
   obtain ⟨q, rfl, hqk, rfl, hwr, hno⟩ := hrel
   subst hwr
   have HN := Lib.hid hno
   clear hno
   by_cases hqn : q < n
   ·obtain ⟨k, rfl⟩ : ∃ k, gk = k + 1 := ⟨gk - 1, by omega⟩
    obtain ⟨s, hsq⟩ : ∃ s, W[q]? = some s := ⟨W[q]'(by rw [H.out.2.2.2.2.2.2.2.2]; omega), List.getElem?_eq_getElem _⟩
    have hst := H.out.2.1.st q s hsq
    have hnext : idIs m.1.base s = false → ∀ t, t < q + 1 → ∀ s, W[t]? = some s → idIs m.1.base s = false := fun h t ht y hy => by
     by_cases htq : t = q
     ·subst htq
      rw [hsq] at hy
      obtain rfl := Option.some.inj hy
      exact h
     ·exact HN.out t (by omega) y hy
    match s, hst, hsq, hnext with
    | none, hst, hsq, hnext =>
     have y0 : wr.cell? ⟨S, q * 4, none⟩ = some (.bool false) := by rw [cell_of H.out.1.sb]; exact hst.1
     have HX := Lib.hid (hnext rfl)
     clear hst hsq hnext
     go_wp2
     go_roundg k
     case measure => omega
     case rel => exact ⟨q + 1, rfl, by omega, rfl, rfl, HX.out⟩
    | some (.error x), hst, hsq, hnext =>
     have y0 : wr.cell? ⟨S, q * 4, none⟩ = some (.bool true) := by rw [cell_of H.out.1.sb]; exact hst.1
     have y1 : wr.cell? ⟨S, q * 4 + 1, none⟩ = some (.int .i64 (x : Nat)) := by rw [cell_of H.out.1.sb]; exact hst.2.1
     have hx := hst.2.2
     have gx : ((x : Int) == 0) = false := by simp; omega
     have HX := Lib.hid (hnext rfl)
     clear hst hsq hnext hx
     go_wp2
     go_roundg k
     case measure => omega
     case rel => exact ⟨q + 1, rfl, by omega, rfl, rfl, HX.out⟩
    | some (.ok (ob, d)), hst, hsq, hnext =>
     have yy0 : wr.cell? ⟨S, q * 4, none⟩ = some (.bool true) := by rw [cell_of H.out.1.sb]; exact hst.1
     have yy1 : wr.cell? ⟨S, q * 4 + 1, none⟩ = some (.int .i64 0) := by rw [cell_of H.out.1.sb]; exact hst.2.1
     obtain ⟨si, hsi⟩ : ∃ si, si = str ob.id := ⟨_, rfl⟩
     have yi : wr.cell? ⟨O, q * 5 + 2, none⟩ = some (.string si) := by
      obtain ⟨_, ba, bc, ho, _⟩ := hst.2.2.2
      rw [cell_of H.out.1.ob, hsi]; exact ho 2 _ rfl
     by_cases hid : ob.id = m.1.base
     ·have gs : (si.toList == sb.toList) = true := by rw [hsi, H7.out.2, hid, str_toList]; exact beq_self_eq_true _
      have hTq : T = onto m.1 (some (.ok (ob, d))) := by
       rw [H7.out.1, find_at (idIs m.1.base) W q _ (fun t ht y hy => HN.out t ht y hy) hsq (by simpa [idIs] using hid)]
       rfl
      clear hid hnext hsi
      go_upto_region 13 with fail
      clear gs yi yy0 yy1
      have gq : decide (((q : Nat) : Int) < 0) = false := by simp
      have y0 : wr.cell? ⟨S, q * 4, none⟩ = some (.bool true) := by rw [cell_of H.out.1.sb]; exact hst.1
      have y1 : wr.cell? ⟨S, q * 4 + 1, none⟩ = some (.int .i64 0) := by rw [cell_of H.out.1.sb]; exact hst.2.1
      have y2 : wr.cell? ⟨S, q * 4 + 2, none⟩ = some (.int .i64 (d : Nat)) := by rw [cell_of H.out.1.sb]; exact hst.2.2.1
      obtain ⟨hd, ba, bc, ho, hrd, hoff, hle⟩ := hst.2.2.2
      have o0 : wr.cell? ⟨O, q * 5, none⟩ = some (.int .i64 ob.kind) := by rw [cell_of H.out.1.ob]; exact ho 0 _ rfl
      have o1 : wr.cell? ⟨O, q * 5 + 1, none⟩ = some (.slice ba ob.body.length bc) := by rw [cell_of H.out.1.ob]; exact ho 1 _ rfl
      obtain ⟨bl, hbl⟩ : ∃ bl, bl = ob.body.length := ⟨_, rfl⟩
      obtain ⟨kd, hkd⟩ : ∃ kd, kd = ob.kind := ⟨_, rfl⟩
      rw [← hbl] at o1
      rw [← hkd] at o0
      have gx : ((0 : Int) != 0) = false := by decide
      have fd := Fr.drew1 [] wr
      have hfin := finish_any g O S gv tv la ms C D i m ob.kind ba bc ob.body d wr.drew (H.out.1.fr fd) H.out.2.2.1 (hrd.fr fd) hoff (by omega) (H.out.2.2.2.2.1 _ (fd.mono (by simp))) (H.out.2.1.st i none H.out.2.2.2.1).2 (fun w' f => H.out.2.2.2.2.1 _ ((fd.mono (by simp)).trans f))
      rw [← hbl, ← hkd] at hfin
      have HT := Lib.hid (And.intro hTq (And.intro hfin (And.intro hkd fd)))
      have ew : wrap64 ((d : Int) + 1) = ((d + 1 : Nat) : Int) := by unfold wrap64; omega
      clear hst hTq hsq hrd hoff hle hfin hbl hkd fd
      go_upto_region 12 with fail
      refine region_tail 27 (by kernel_rfl) (by kernel_rfl) ?_
      simp only [List.take_succ_cons, List.take_zero, List.drop_succ_cons, List.drop_zero]
      repeat (go_big_quiet_step (fail))
      refine wpQuiet_nil ?_
      clear y0 y1 y2 o0 o1 b1 b2
      go_wp2_with (go_at_call 80; refine HT.out.2.1.mono ?_; rintro e w2 ⟨rfl, f2, C2, D2, hR2, hF2⟩; have H2 := Lib.hid (And.intro f2 (And.intro hR2 hF2)); clear f2 hR2 hF2)
      go_ret
      obtain ⟨f2, hR2, hF2⟩ := H2.out
      obtain ⟨hTq, _, hkd, fd⟩ := HT.out
      rw [hTq]
      rw [hkd] at hF2
      have fT := (fd.mono (T := [O, S]) (by simp)).trans f2
      exact ⟨rfl, fT, C2, D2, hR2, H.out.2.1.one i _ hF2.1 hF2.2.1 fT (hF2.st (lt_of_block (H.out.1.fr fd).ob) (lt_of_block (H.out.1.fr fd).sb))⟩
     ·have gs : (si.toList == sb.toList) = false := by
       rw [hsi, H7.out.2, str_toList, str_toList]
       simpa using hid
      have HX := Lib.hid (hnext (by simpa [idIs] using hid))
      clear hst hsq hnext hid hsi
      go_wp2
      go_roundg k
      case measure => omega
      case rel => exact ⟨q + 1, rfl, by omega, rfl, rfl, HX.out⟩
   ·have hT0 : T = none := by
     rw [H7.out.1, List.find?_eq_none.2 (fun x hx => ?_)]
     ·rfl
     ·obtain ⟨t, ht⟩ := List.mem_iff_getElem?.1 hx
      have := (List.getElem?_eq_some_iff.1 ht).1
      rw [HN.out t (by rw [H.out.2.2.2.2.2.2.2.2] at this; omega) x ht]
      simp
    have HX := Lib.hid hT0
    clear hT0
    obtain rfl : q = n := by omega
    go_wp2
    go_ret
    rw [HX.out]
    exact ⟨rfl, Fr.refl _ _⟩
end Go.Proofs.YtkmpfgpfbmeihaaGreatDoor.pk
namespace Go.Proofs.YtkmpfgpfbmeihaaGreatDoor.pk
def Und (l : List Ent) (W : List St) : Prop := ∀ i x, l[i]? = some x → W[i]? = some none → (x.kind = 6 ∧ ∃ q, atOf l i x.off = some q) ∨ x.kind = 7
theorem und_firsts (l : List Ent) : Und l (firsts l) := by
 intro i x hx hW
 rw [firsts_get l i x hx] at hW
 have h := Option.some.inj hW
 unfold first1 at h
 split at h
 ·rename_i h6
  split at h
  ·cases h
  ·rename_i q hq
   exact .inl ⟨h6, q, hq⟩
 ·split at h
  ·rename_i h7
   exact .inr h7
  ·cases h
theorem Und.set {l : List Ent} {W : List St} (h : Und l W) (i : Nat) (s : Except Nat (Obj × Nat)) : Und l (W.set i (some s)) := by
 intro k x hx hW
 rw [List.getElem?_set] at hW
 split at hW
 ·split at hW
  ·cases hW
  ·cases hW
 ·exact h k x hx hW
theorem Und.pass {l : List Ent} : ∀ (n i : Nat) (W : List St) (more : Bool), Und l W → Und l (pass l n i W more).1
 | 0, i, W, more, h => h
 | n + 1, i, W, more, h => by
  rw [pk.pass]
  split
  ·split
   ·exact Und.pass n (i + 1) W more h
   ·exact Und.pass n (i + 1) _ true (h.set i _)
  ·exact Und.pass n (i + 1) W more h
theorem Und.ask {l : List Ent} {kn : List Kn} : ∀ (n i : Nat) (W : List St) {W2 : List St}, Und l W → ask l kn n i W = some W2 → Und l W2
 | 0, i, W, W2, h, e => by cases e
 | n + 1, i, W, W2, h, e => by
  rw [pk.ask] at e
  split at e
  ·split at e
   ·split at e
    ·obtain rfl := Option.some.inj e
     exact h.set i _
    ·exact Und.ask n (i + 1) W h e
   ·exact Und.ask n (i + 1) W h e
  ·exact Und.ask n (i + 1) W h e
end Go.Proofs.YtkmpfgpfbmeihaaGreatDoor.pk
namespace Go.Proofs.YtkmpfgpfbmeihaaGreatDoor.pk
def looks (i k : Nat) (x y : Ent) (s : St) : Bool := (x.kind == 6 && decide (k < i) && y.at_ == x.off && s.isSome) || (x.kind == 7 && idIs x.base s)
def Apart (l : List Ent) : Prop := ∀ (j k : Nat) (y z : Ent), j < k → l[j]? = some y → l[k]? = some z → y.at_ < z.at_
theorem step_hit {l : List Ent} (hd : Apart l) {W : List St} {i k : Nat} {x y : Ent} {s : St}
  (hy : l[k]? = some y) (hs : W[k]? = some s) (hno : ∀ t, t < k → ∀ y s, l[t]? = some y → W[t]? = some s → looks i t x y s = false) (hl : W.length = l.length) (h : looks i k x y s = true) : try1 l W i x = onto x s := by
 unfold looks at h
 unfold try1
 by_cases h6 : x.kind = 6
 ·rw [if_pos h6]
  have h7 : (x.kind == 7) = false := by simp; omega
  rw [h7] at h
  simp only [Bool.false_and, Bool.or_false, Bool.and_eq_true, beq_iff_eq, decide_eq_true_eq] at h
  obtain ⟨⟨⟨_, hk⟩, ha⟩, _⟩ := h
  rw [atOf_hit l i x.off k y hk (fun j hj z hz => by have := hd j k z y hj hz hy; omega) hy ha]
  simp only [hs, Option.getD_some]
 ·rw [if_neg h6]
  have h6' : (x.kind == 6) = false := by simpa using h6
  rw [h6'] at h
  simp only [Bool.false_and, Bool.false_or, Bool.and_eq_true, beq_iff_eq] at h
  rw [find_at (idIs x.base) W k s (fun t ht z hz => ?_) hs h.2]
  ·rfl
  ·have htl : t < l.length := by rw [← hl]; exact (List.getElem?_eq_some_iff.1 hz).1
   have := hno t ht _ z (List.getElem?_eq_getElem htl) hz
   unfold looks at this
   rw [h6'] at this
   simp only [Bool.false_and, Bool.false_or, Bool.and_eq_false_iff] at this
   rcases this with q | q
   ·simp [h.1] at q
   ·exact q
theorem step_miss {l : List Ent} {W : List St} {i : Nat} {x : Ent} (hl : W.length = l.length) (hk : x.kind = 6 ∨ x.kind = 7)
  (hno : ∀ t, t < l.length → ∀ y s, l[t]? = some y → W[t]? = some s → looks i t x y s = false) : try1 l W i x = none := by
 unfold try1
 by_cases h6 : x.kind = 6
 ·rw [if_pos h6]
  cases ha : atOf l i x.off with
  | none => rfl
  | some q =>
   rw [atOf_eq] at ha
   have hq := List.mem_of_find?_eq_some ha
   have hp := List.find?_some ha
   simp only [List.mem_range] at hq
   unfold atP at hp
   simp only
   split at hp
   ·rename_i y hy
    have hql := (List.getElem?_eq_some_iff.1 hy).1
    have := hno q hql y _ hy (List.getElem?_eq_getElem (by rw [hl]; exact hql))
    rw [List.getElem?_eq_getElem (by rw [hl]; exact hql), Option.getD_some]
    unfold looks at this
    have e6 : (x.kind == 6) = true := by simpa using h6
    have eq : decide (q < i) = true := by simpa using hq
    rw [e6, eq, hp] at this
    simp only [Bool.true_and, Bool.or_eq_false_iff] at this
    cases hW : W[q]'(by rw [hl]; exact hql) with
    | none => rfl
    | some z => rw [hW] at this; simp at this
   ·cases hp
 ·rw [if_neg h6]
  have h7 : x.kind = 7 := by omega
  have hn : W.find? (idIs x.base) = none := by
   rw [List.find?_eq_none]
   intro z hz
   obtain ⟨t, ht, rfl⟩ := List.mem_iff_getElem.1 hz
   have := hno t (by omega) _ _ (List.getElem?_eq_getElem (by omega)) (List.getElem?_eq_getElem ht)
   unfold looks at this
   rw [show (x.kind == 7) = true by simpa using h7] at this
   simp only [Bool.true_and, Bool.or_eq_false_iff] at this
   simpa using this.2
  rw [hn]
  rfl
theorem pentry_at {bs : List UInt8} {at_ : Nat} {x : Ent} {p : Nat} (h : pentry bs at_ = .ok (x, p)) : x.at_ = at_ ∧ at_ < p := by
 unfold pentry at h
 split at h
 ·cases h
 ·rename_i kind size n hh
  obtain ⟨h1, h2, h3, h4⟩ := phF_le _ _ _ _ _ hh
  rw [List.length_drop] at h3
  split at h
  ·cases h
  ·rename_i base off q hb
   obtain ⟨k1, k2, k3, k4⟩ := pbase_le (by omega) hb
   split at h
   ·cases h
   ·split at h
    ·simp only [Except.ok.injEq, Prod.mk.injEq] at h
     obtain ⟨rfl, rfl⟩ := h
     exact ⟨rfl, by omega⟩
    ·cases h
theorem pents_apart (bs : List UInt8) : ∀ (n at_ : Nat) (l : List Ent) {r : List Ent} {p : Nat}, Apart l → (∀ y ∈ l, y.at_ < at_) → pents bs n at_ l = .ok (r, p) → Apart r
 | 0, at_, l, r, p, ha, hl, h => by
  simp only [pents, Except.ok.injEq, Prod.mk.injEq] at h
  rw [← h.1]
  exact ha
 | n + 1, at_, l, r, p, ha, hl, h => by
  rw [pents] at h
  split at h
  ·cases h
  ·rename_i x q hx
   obtain ⟨h1, h2⟩ := pentry_at hx
   refine pents_apart bs n q (l ++ [x]) (fun j k y z hjk hy hz => ?_) (fun y hy => ?_) h
   ·have hkl := (List.getElem?_eq_some_iff.1 hz).1
    rw [List.length_append, List.length_singleton] at hkl
    rw [List.getElem?_append_left (by omega)] at hy
    by_cases hk : k < l.length
    ·rw [List.getElem?_append_left hk] at hz
     exact ha j k y z hjk hy hz
    ·obtain rfl : k = l.length := by omega
     rw [List.getElem?_append_right (Nat.le_refl _)] at hz
     simp only [Nat.sub_self, List.getElem?_cons_zero, Option.some.injEq] at hz
     subst hz
     have := hl y (List.mem_of_getElem? hy)
     omega
   ·rcases List.mem_append.1 hy with hy | hy
    ·have := hl y hy; omega
    ·obtain rfl : y = x := by simpa using hy
     omega
theorem pread_apart {bs : List UInt8} {l : List Ent} {id : List UInt8} (h : pread bs = .ok (l, id)) : Apart l := by
 unfold pread at h
 split at h
 ·cases h
 ·split at h
  ·cases h
  ·split at h
   ·cases h
   ·split at h
    ·cases h
    ·split at h
     ·cases h
     ·rename_i l2 at_ hp
      split at h
      ·cases h
      ·split at h
       ·cases h
       ·split at h
        ·cases h
        ·simp only [Except.ok.injEq, Prod.mk.injEq] at h
         rw [← h.1]
         exact pents_apart bs _ 12 [] (fun j k y z _ hy => by simp at hy) (by simp) hp
end Go.Proofs.YtkmpfgpfbmeihaaGreatDoor.pk
namespace Go.Proofs.YtkmpfgpfbmeihaaGreatDoor.pk
open Go Go.RowKit lib bm
def itemZ : Array Value := #[.bool false, .int .i64 0, .slice none 0 0, .string ⟨#[]⟩, .int .i64 0, .int .u32 0, .int .i64 0, .int .i64 0]
def IR (w : World) (G : Nat) (r : Array Value) : St → Prop
 | none => r = itemZ
 | some (.error x) => r = itemE x ∧ 0 < x
 | some (.ok (o, d)) => ∃ a c, r = itemO o d a c ∧ lib.Rd w a c o.body ∧ (∀ y ∈ blk a, y ≠ G) ∧ o.body.length ≤ 2147483647 ∧ d ≤ 50
theorem IR.fr {w w' : World} {G : Nat} {r : Array Value} {s : St} (h : IR w G r s) (f : Fr [G] w w') : IR w' G r s := by
 match s, h with
 | none, h => exact h
 | some (.error x), h => exact h
 | some (.ok (o, d)), h =>
  obtain ⟨a, c, h1, h2, h3, h4⟩ := h
  exact ⟨a, c, h1, h2.frS f (fun x hx => by simp; exact h3 x hx), h3, h4⟩
theorem IR.size {w : World} {G : Nat} {r : Array Value} {s : St} (h : IR w G r s) : r.size = 8 := by
 match s, h with
 | none, h => rw [show r = itemZ from h]; rfl
 | some (.error x), h => rw [h.1]; rfl
 | some (.ok (o, d)), h => obtain ⟨a, c, h1, _⟩ := h; rw [h1]; rfl
structure Its (w : World) (G : Nat) (C : Array Value) (W : List St) : Prop where
 blk : w.heap[G]? = some (.cells C 113 (0, 0))
 size : C.size = W.length * 8
 st : ∀ i s, W[i]? = some s → ∃ r, IR w G r s ∧ ∀ j v, r[j]? = some v → C[i * 8 + j]? = some v
theorem Its.fr {w w' : World} {G : Nat} {C : Array Value} {W : List St} (h : Its w G C W) (f : Fr [] w w') : Its w' G C W :=
 ⟨f.blk h.blk (by simp), h.size, fun i s hs => by
  obtain ⟨r, h1, h2⟩ := h.st i s hs
  exact ⟨r, h1.fr (f.mono (by simp)), h2⟩⟩
theorem Its.set {w : World} {G : Nat} {C : Array Value} {W : List St} (h : Its w G C W) {i : Nat} (hi : i < W.length) {s : St} {r : Array Value} (hr : IR w G r s) : ∃ C', Its (w.setCells G (i * 8) r.toList) G C' (W.set i s) ∧ Fr [G] w (w.setCells G (i * 8) r.toList) := by
 have f : Fr [G] w (w.setCells G (i * 8) r.toList) := Fr.setCells (by simp) _ _ (Fr.refl [G] w)
 obtain ⟨C', h1, h2, h3, h4⟩ := setCells_blk r.toList (i * 8) w C h.blk
 have hrs := hr.size
 refine ⟨C', ⟨h1, by rw [h2, h.size, List.length_set], fun k t hk => ?_⟩, f⟩
 rw [List.getElem?_set] at hk
 split at hk
 ·rename_i hik
  subst hik
  obtain rfl := Option.some.inj hk
  refine ⟨r, hr.fr f, fun j v hv => h4 j v (by rw [Array.getElem?_toList]; exact hv) ?_⟩
  have : j < 8 := by rw [← hrs]; exact (Array.getElem?_eq_some_iff.1 hv).1
  have := h.size
  omega
 ·rename_i hik
  obtain ⟨q, k1, k2⟩ := h.st k t hk
  refine ⟨q, k1.fr f, fun j v hv => ?_⟩
  have : j < 8 := by rw [← k1.size]; exact (Array.getElem?_eq_some_iff.1 hv).1
  rw [h3 _ (by rw [Array.length_toList, hrs]; omega)]
  exact k2 j v hv
theorem Its.done {w : World} {G : Nat} {C : Array Value} {W : List St} (h : Its w G C W) {i : Nat} {s : St} (hs : W[i]? = some s) : C[i * 8]? = some (.bool s.isSome) := by
 obtain ⟨r, h1, h2⟩ := h.st i s hs
 match s, h1 with
 | none, h1 => exact h2 0 _ (by rw [show r = itemZ from h1]; rfl)
 | some (.error x), h1 => exact h2 0 _ (by rw [h1.1]; rfl)
 | some (.ok (o, d)), h1 => obtain ⟨a, c, e, _⟩ := h1; exact h2 0 _ (by rw [e]; rfl)
end Go.Proofs.YtkmpfgpfbmeihaaGreatDoor.pk
namespace Go.Proofs.YtkmpfgpfbmeihaaGreatDoor.pk
open Go Go.RowKit lib bm
theorem rraw_same (k a s o : Int) (c : Int) (d b : ByteArray) (w : World) : (Go.binOp .neq 107 (.agg #[.int .i64 k, .int .i64 a, .int .i64 s, .int .u32 c, .string d, .string b, .int .i64 o]) (.agg #[.int .i64 k, .int .i64 a, .int .i64 s, .int .u32 c, .string d, .string b, .int .i64 o])).run Tryz.prog w = .ok (.bool false) w := by
 have hu := Tryz.underlying107
 have hp : Tryz.prog.stoodInHeld 107 = false := by kernel_rfl
 have hf : Tryz.prog.underlying 107 = some (.struct (Tryz.prog.fieldsOf 107)) := by kernel_rfl
 rw [run_neq_struct, run_equalIn_struct _ _ _ _ _ hf hp]
 unfold Program.fieldsOf
 rw [hu]
 simp [Op.eqFields, go_sem, run_equalIn_int, run_equalIn_string]
theorem rCells_len (l : List Ent) : (rCells l).length = l.length * 7 := flat_len (fun x => (rentV x).toList) 7 (fun _ => rfl) l
theorem rcell {w : World} {a : Option Addr} {l : List Ent} (h : Cs w a (rCells l)) {i : Nat} {x : Ent} (hi : l[i]? = some x) : ∃ g o, a = some ⟨g, o, none⟩ ∧ w.cell? ⟨g, o + i * 7, none⟩ = some (.int .i64 (x.kind : Nat)) ∧ w.cell? ⟨g, o + i * 7 + 1, none⟩ = some (.int .i64 (x.at_ : Nat)) ∧ w.cell? ⟨g, o + i * 7 + 2, none⟩ = some (.int .i64 (x.size : Nat)) ∧
  w.cell? ⟨g, o + i * 7 + 3, none⟩ = some (.int .u32 (x.crc : Nat)) ∧ w.cell? ⟨g, o + i * 7 + 4, none⟩ = some (.string (str x.data)) ∧ w.cell? ⟨g, o + i * 7 + 5, none⟩ = some (.string (str x.base)) ∧ w.cell? ⟨g, o + i * 7 + 6, none⟩ = some (.int .i64 (x.off : Nat)) := by
 have hl := (List.getElem?_eq_some_iff.1 hi).1
 obtain ⟨g, o, ha, hc⟩ := h.at (by rw [rCells_len]; omega)
 have key : ∀ j v, j < 7 → (rentV x).toList[j]? = some v → w.cell? ⟨g, o + i * 7 + j, none⟩ = some v := fun j v hj hv => by
  rw [Nat.add_assoc]
  exact hc _ v ((flat_get (fun x => (rentV x).toList) 7 (fun _ => rfl) l i x j hi hj).trans hv)
 exact ⟨g, o, ha, key 0 _ (by decide) rfl, key 1 _ (by decide) rfl, key 2 _ (by decide) rfl, key 3 _ (by decide) rfl, key 4 _ (by decide) rfl, key 5 _ (by decide) rfl, key 6 _ (by decide) rfl⟩
set_option maxHeartbeats 4000000 in
theorem rsame_any (a b : Option Addr) (ca cb : Nat) (l : List Ent) (w : World) (ha : Cs w a (rCells l)) (hb : Cs w b (rCells l)) (hl : l.length ≤ 1000000) :
  Calls Tryz.prog 23 #[.slice a l.length ca, .slice b l.length cb] w fun e w' => e = .returned (.bool true) ∧ Fr [] w w' := by
 obtain ⟨n, hn⟩ : ∃ n, n = l.length := ⟨_, rfl⟩
 rw [← hn] at hl ⊢
 have H := Lib.hid (And.intro ha (And.intro hb hn))
 clear ha hb hn
 go_enter Tryz.func23, Tryz.ntmps23
 go_wp2
 go_loopg [5] n (fun k s5 wr => ∃ i : Nat, s5 = .int .i64 (i : Nat) ∧ i + k = n ∧ Fr [] w wr)
 case atStart => exact ⟨0, rfl, by omega, Fr.refl _ _⟩
 case round =>
  obtain ⟨i, rfl, hik, hf⟩ := hrel
  have HF := Lib.hid hf
  clear hf
  by_cases hi : i < n
  ·obtain ⟨k, rfl⟩ : ∃ k, gk = k + 1 := ⟨gk - 1, by omega⟩
   obtain ⟨x, hx⟩ : ∃ x, l[i]? = some x := ⟨l[i]'(by rw [← H.out.2.2]; omega), List.getElem?_eq_getElem _⟩
   obtain ⟨g, o, rfl, c0, c1, c2, c3, c4, c5, c6⟩ := rcell (H.out.1.fr HF.out (by simp)) hx
   obtain ⟨g', o', rfl, d0, d1, d2, d3, d4, d5, d6⟩ := rcell (H.out.2.1.fr HF.out (by simp)) hx
   obtain ⟨xk, xa, xs, xc, xd, xb, xo⟩ := x
   simp only at c0 c1 c2 c3 c4 c5 c6 d0 d1 d2 d3 d4 d5 d6
   obtain ⟨sd, hsd⟩ : ∃ sd, sd = str xd := ⟨_, rfl⟩
   obtain ⟨sb, hsb⟩ : ∃ sb, sb = str xb := ⟨_, rfl⟩
   rw [← hsd] at c4 d4
   rw [← hsb] at c5 d5
   have he := rraw_same (xk : Nat) (xa : Nat) (xs : Nat) (xo : Nat) (xc : Nat) sd sb
   clear hx hsd hsb
   go_upto_region 6 with fail
   go_quiet (fail)
   go_wp2
   go_roundg k
   case measure => omega
   case rel => exact ⟨i + 1, rfl, by omega, HF.out.drewsN _⟩
  ·obtain rfl : i = n := by omega
   go_wp2
   go_ret
   exact ⟨rfl, HF.out⟩
end Go.Proofs.YtkmpfgpfbmeihaaGreatDoor.pk
namespace Go.Proofs.YtkmpfgpfbmeihaaGreatDoor.pk
open Go Go.RowKit lib bm
theorem ROver.row {w w' : World} {x : Ent} {kd : Int} {body : List UInt8} {d : Nat} {e : Ending} {G : Nat} (h : ROver w (over x kd body d) e w') (hG : G < w.heap.size) : ∃ r : Array Value, e = .returned (.agg r) ∧ IR w' G r (some (over x kd body d)) ∧ r.all (·.oneCell') = true ∧ Fr [] w w' := by
 obtain ⟨P, hP⟩ : ∃ P, P = over x kd body d := ⟨_, rfl⟩
 have hdp := fun o k (h : P = .ok (o, k)) => (over_deep (hP.symm.trans h)).2
 rw [← hP] at h ⊢
 obtain ⟨f, h⟩ := h
 match P, hdp, h with
 | .error x, _, h => exact ⟨itemE x, h.1, ⟨rfl, h.2⟩, by kernel_rfl, f⟩
 | .ok (o, k), hdp, h =>
  obtain ⟨a, c, he, hr, hn, hl⟩ := h
  exact ⟨itemO o k a c, he, ⟨a, c, rfl, hr, fun y hy => by have := (hn y hy).1; omega, hl, hdp o k rfl⟩, by kernel_rfl, f⟩
def RStep (w : World) (G : Nat) (W : List St) (i : Nat) (T : St) (e : Ending) (w' : World) : Prop := match T with
 | none => e = .returned (.bool false) ∧ Fr [] w w'
 | some s => e = .returned (.bool true) ∧ Fr [G] w w' ∧ ∃ C', Its w' G C' (W.set i (some s))
set_option maxHeartbeats 8000000 in
theorem rstep_any (la : Option Addr) (lc : Nat) (l : List Ent) (G : Nat) (C : Array Value) (W : List St) (i : Nat) (x : Ent) (w : World) (hl : Cs w la (rCells l)) (hI : Its w G C W) (hlen : W.length = l.length) (hfew : l.length ≤ 4096) (hap : Apart l)
  (hx : l[i]? = some x) (hW : W[i]? = some none) (hk : x.kind = 6 ∨ x.kind = 7) (hd : ∀ y ∈ l, y.data.length ≤ 2147483647) :
  Calls Tryz.prog 57 #[.slice la l.length lc, .slice (some ⟨G, 0, none⟩) l.length l.length, .int .i64 (i : Nat)] w (RStep w G W i (try1 l W i x)) := by
 obtain ⟨n, hn⟩ : ∃ n, n = l.length := ⟨_, rfl⟩
 rw [← hn] at hfew ⊢
 have hin : i < n := by rw [hn]; exact (List.getElem?_eq_some_iff.1 hx).1
 obtain ⟨T, hT⟩ : ∃ T, T = try1 l W i x := ⟨_, rfl⟩
 rw [← hT]
 obtain ⟨g, o, rfl, c0, c1, c2, c3, c4, c5, c6⟩ := rcell hl hx
 have H := Lib.hid (And.intro hl (And.intro hI (And.intro hlen (And.intro hn (And.intro hap (And.intro hx (And.intro hW (And.intro hk (And.intro hd hT)))))))))
 clear hl hI hlen hn hap hx hW hk hd hT
 obtain ⟨xk, xa, xs, xc, xd, xb, xo⟩ := x
 simp only at c0 c1 c2 c3 c4 c5 c6
 go_enter Tryz.func57, Tryz.ntmps57
 go_upto_region 2 with (refine wpList_store_row rfl 107 (.tmp 7) (.tmp 12) rfl w.heap.size #[.int .i64 (xk : Nat), .int .i64 (xa : Nat), .int .i64 (xs : Nat), .int .u32 (xc : Nat), .string (str xd), .string (str xb), .int .i64 (xo : Nat)] rfl rfl 107 _ (alloc_at _ _) infoRRaw rfl (by kernel_rfl) ?_)
 clear c0 c1 c2 c3 c4 c5 c6
 generalize hw1 : World.setRow _ _ _ = w1
 obtain ⟨X, hX⟩ : ∃ X, X = w.heap.size := ⟨_, rfl⟩
 rw [← hX] at hw1 ⊢
 have hx1 : w1.heap[X]? = some (.cells #[.int .i64 (xk : Nat), .int .i64 (xa : Nat), .int .i64 (xs : Nat), .int .u32 (xc : Nat), .string (str xd), .string (str xb), .int .i64 (xo : Nat)] 107 (0, 0)) := by rw [← hw1, hX]; exact setRow_heap _ _ _ _ _ _ (alloc_at _ _)
 have f1 : Fr [] w w1 := by rw [← hw1, hX]; exact ((Fr.refl [] w).alloc _).setRow (.inr (Nat.le_refl _)) _
 have hXG : X ≠ G := by have := lt_of_block H.out.2.1.blk; omega
 have HX := Lib.hid (And.intro hx1 (And.intro f1 hXG))
 clear hw1 hx1 f1 hX hXG
 obtain ⟨sb, hsb⟩ : ∃ sb, sb = str xb := ⟨_, rfl⟩
 obtain ⟨sd, hsd⟩ : ∃ sd, sd = str xd := ⟨_, rfl⟩
 have HS := Lib.hid (And.intro hsb hsd)
 clear hsb hsd
 go_wp2
 go_loopg [8] n (fun k s8 wr => ∃ q : Nat, s8 = .int .i64 (q : Nat) ∧ q + k = n ∧ Fr [] w1 wr ∧ ∀ t, t < q → ∀ y s, l[t]? = some y → W[t]? = some s → looks i t ⟨xk, xa, xs, xc, xd, xb, xo⟩ y s = false)
 case atStart => exact ⟨0, rfl, by omega, Fr.refl _ _, fun t ht => by omega⟩
 case round =>
  obtain ⟨q, rfl, hqk, hf, hno⟩ := hrel
  by_cases hqn : q < n
  ·obtain ⟨k, rfl⟩ : ∃ k, gk = k + 1 := ⟨gk - 1, by omega⟩
   obtain ⟨y, hy⟩ : ∃ y, l[q]? = some y := ⟨l[q]'(by rw [← H.out.2.2.2.1]; omega), List.getElem?_eq_getElem _⟩
   obtain ⟨s, hs⟩ : ∃ s, W[q]? = some s := ⟨W[q]'(by rw [H.out.2.2.1, ← H.out.2.2.2.1]; omega), List.getElem?_eq_getElem _⟩
   have fw := HX.out.2.1.trans hf
   have hIw := H.out.2.1.fr fw
   have hxw := hf.blk HX.out.1 (by simp)
   rw [← HS.out.1, ← HS.out.2] at hxw
   have k0 := cell_of hxw 0
   have k1 := cell_of hxw 1
   have k2 := cell_of hxw 2
   have k3 := cell_of hxw 3
   have k4 := cell_of hxw 4
   have k5 := cell_of hxw 5
   have k6 := cell_of hxw 6
   simp only [List.getElem?_toArray, List.getElem?_cons_zero, List.getElem?_cons_succ] at k0 k1 k2 k3 k4 k5 k6
   obtain ⟨g', o', hgo, _, e1, _⟩ := rcell (H.out.1.fr fw (by simp)) hy
   simp only [Option.some.injEq, Addr.mk.injEq, and_true] at hgo
   obtain ⟨rfl, rfl⟩ := hgo
   obtain ⟨ya, hya⟩ : ∃ ya, ya = y.at_ := ⟨_, rfl⟩
   rw [← hya] at e1
   have hnext : ∀ wz, Fr [] wr wz → looks i q ⟨xk, xa, xs, xc, xd, xb, xo⟩ y s = false → ∃ j : Nat, Value.int .i64 ((q : Int) + 1) = .int .i64 (j : Nat) ∧ j + k = n ∧ Fr [] w1 wz ∧ ∀ t, t < j → ∀ y s, l[t]? = some y → W[t]? = some s → looks i t ⟨xk, xa, xs, xc, xd, xb, xo⟩ y s = false := fun wz fz he => by
    refine ⟨q + 1, rfl, by omega, hf.trans fz, fun t ht z u hz hu => ?_⟩
    by_cases htq : t = q
    ·subst htq
     rw [hy] at hz
     rw [hs] at hu
     obtain rfl := Option.some.inj hz
     obtain rfl := Option.some.inj hu
     exact he
    ·exact hno t (by omega) z u hz hu
   have hhit : looks i q ⟨xk, xa, xs, xc, xd, xb, xo⟩ y s = true → T = onto ⟨xk, xa, xs, xc, xd, xb, xo⟩ s := fun he => by
    rw [H.out.2.2.2.2.2.2.2.2.2]
    exact step_hit H.out.2.2.2.2.1 hy hs hno H.out.2.2.1 he
   have HR := Lib.hid (And.intro fw (And.intro hIw (And.intro hs (And.intro hnext (And.intro hhit hya)))))
   clear fw hIw hxw hnext hhit hf hno hy hya
   have hkk : xk = 6 ∨ xk = 7 := H.out.2.2.2.2.2.2.2.1
   rcases hkk with rfl | rfl
   ·have g6 : (((6 : Nat) : Int) == 6) = true := by decide
    have g7 : (((6 : Nat) : Int) == 7) = false := by decide
    by_cases hqi : q < i
    ·by_cases hao : ya = xo
     ·subst hao
      have gao : ((ya : Int) == (ya : Int)) = true := beq_self_eq_true _
      match s, hs, HR with
      | none, hs, HR =>
       have y0 : wr.cell? ⟨G, q * 8, none⟩ = some (.bool false) := by rw [cell_of HR.out.2.1.blk]; exact HR.out.2.1.done hs
       clear hs
       go_upto_region 5 with fail
       go_quiet (fail)
       go_upto_region 10 with fail
       go_quiet (fail)
       go_wp2
       go_roundg k
       case measure => omega
       case rel => exact HR.out.2.2.2.1 _ (Fr.drewN [] wr _) (by simp [looks, idIs])
      | some (.error e), hs, HR =>
       have y0 : wr.cell? ⟨G, q * 8, none⟩ = some (.bool true) := by rw [cell_of HR.out.2.1.blk]; exact HR.out.2.1.done hs
       obtain ⟨r, hr, hc⟩ := HR.out.2.1.st q _ hs
       have y7 : wr.cell? ⟨G, q * 8 + 7, none⟩ = some (.int .i64 (e : Nat)) := by rw [cell_of HR.out.2.1.blk]; exact hc 7 _ (by rw [hr.1]; rfl)
       have ge : ((e : Int) != 0) = true := by have := hr.2; simp; omega
       have hT : T = some (.error e) := HR.out.2.2.2.2.1 (by have := HR.out.2.2.2.2.2; unfold looks; rw [← this]; simp [hqi])
       have he0 := hr.2
       have HT := Lib.hid (And.intro hT he0)
       clear hs hr hc hT he0
       go_upto_region 5 with fail
       go_quiet (fail)
       go_upto_region 7 with fail
       generalize hwz : World.drewN _ _ = wz
       have fz : Fr [] wr wz := by rw [← hwz]; first | exact Fr.drewN [] wr _ | exact (Fr.drewN [] wr _).drewsN _
       have y7 := fz.cell y7 (by simp)
       have hIz := HR.out.2.1.fr fz
       obtain ⟨C', hI', fI⟩ := hIz.set (i := i) (by rw [H.out.2.2.1, ← H.out.2.2.2.1]; exact hin) (s := some (.error e)) (r := itemE e) ⟨rfl, HT.out.2⟩
       have ht : wz.there G (i * 8) 8 := there_of hIz.blk (i * 8) 8 (by rw [hIz.size, H.out.2.2.1, ← H.out.2.2.2.1]; omega)
       have HZ := Lib.hid (And.intro fz (And.intro hI' (And.intro fI ht)))
       clear hwz fz hIz hI' fI ht y0
       go_wp2_with (refine wpList_store_mid rfl 113 (.tmp 58) (.tmp 57) rfl G (i * 8) #[.bool true, .int .i64 0, .slice none 0 0, .string ⟨#[]⟩, .int .i64 0, .int .u32 0, .int .i64 0, .int .i64 (e : Nat)] rfl rfl HZ.out.2.2.2 infoItem (by kernel_rfl) ?_)
       go_ret
       rw [HT.out.1]
       exact ⟨rfl, ((HR.out.1.trans HZ.out.1).mono (by simp)).trans HZ.out.2.2.1, C', HZ.out.2.1⟩
      | some (.ok (ob, d)), hs, HR =>
       have y0 : wr.cell? ⟨G, q * 8, none⟩ = some (.bool true) := by rw [cell_of HR.out.2.1.blk]; exact HR.out.2.1.done hs
       obtain ⟨r, ⟨ba, bc, hr, hrd, hoff, hle, hd5⟩, hc⟩ := HR.out.2.1.st q _ hs
       subst hr
       have y7 : wr.cell? ⟨G, q * 8 + 7, none⟩ = some (.int .i64 0) := by rw [cell_of HR.out.2.1.blk]; exact hc 7 _ rfl
       have ge : ((0 : Int) != 0) = false := by decide
       have hT : T = some (over ⟨6, xa, xs, xc, xd, xb, ya⟩ ob.kind ob.body d) := HR.out.2.2.2.2.1 (by have := HR.out.2.2.2.2.2; unfold looks; rw [← this]; simp [hqi])
       have yk : wr.cell? ⟨G, q * 8 + 1, none⟩ = some (.int .i64 ob.kind) := by rw [cell_of HR.out.2.1.blk]; exact hc 1 _ rfl
       have yb : wr.cell? ⟨G, q * 8 + 2, none⟩ = some (.slice ba ob.body.length bc) := by rw [cell_of HR.out.2.1.blk]; exact hc 2 _ rfl
       have yd : wr.cell? ⟨G, q * 8 + 6, none⟩ = some (.int .i64 (d : Nat)) := by rw [cell_of HR.out.2.1.blk]; exact hc 6 _ rfl
       have hov := fun wz (fz : Fr [] wr wz) => rover_any ⟨6, xa, xs, xc, xd, xb, ya⟩ ob.kind ba bc ob.body d wz (hrd.fr fz) (by omega) (H.out.2.2.2.2.2.2.2.2.1 _ (List.mem_of_getElem? H.out.2.2.2.2.2.1))
       obtain ⟨bl, hbl⟩ : ∃ bl, bl = ob.body.length := ⟨_, rfl⟩
       obtain ⟨kd, hkd⟩ : ∃ kd, kd = ob.kind := ⟨_, rfl⟩
       obtain ⟨P, hP⟩ : ∃ P, P = over ⟨6, xa, xs, xc, xd, xb, ya⟩ ob.kind ob.body d := ⟨_, rfl⟩
       simp only [rentV] at hov
       rw [← hbl, ← hkd, ← HS.out.1, ← HS.out.2] at hov
       rw [← hbl] at yb
       rw [← hkd] at yk
       have hrow : ∀ (wz : World) (e : Ending) (w' : World), ROver wz (over ⟨6, xa, xs, xc, xd, xb, ya⟩ kd ob.body d) e w' → G < wz.heap.size → ∃ r : Array Value, e = .returned (.agg r) ∧ IR w' G r (some P) ∧ r.all (·.oneCell') = true ∧ Fr [] wz w' := fun wz e w' h hG => by
        rw [hkd] at h
        rw [hP]
        exact h.row hG
       have HV := Lib.hid (And.intro hov (And.intro hT (And.intro hP hrow)))
       clear hs hrd hoff hle hd5 hc hT hov hbl hkd hP hrow
       go_upto_region 5 with fail
       go_quiet (fail)
       go_upto_region 8 with fail
       generalize hwz : World.drewN _ _ = wz
       have fz : Fr [] wr wz := by rw [← hwz]; first | exact Fr.drewN [] wr _ | exact (Fr.drewN [] wr _).drewsN _
       have FZ := Lib.hid fz
       have fs : ∀ {v : Value} {a : Addr}, wr.cell? a = some v → ∀ x, (sup [] wz.drew x).cell? a = some v := fun h x => (sup_fr [] wz.drew x).cell (show wz.drew.cell? _ = _ from fz.cell h (by simp)) (by simp)
       have s0 := fs k0
       have s1 := fs k1
       have s2 := fs k2
       have s3 := fs k3
       have s4 := fs k4
       have s5 := fs k5
       have s6 := fs k6
       have t1 := fs yk
       have t2 := fs yb
       have t6 := fs yd
       clear hwz fz fs k0 k1 k2 k3 k4 k5 k6 yk yb yd y0 y7 e1
       refine region_mix 22 [(false, 0), (false, 1), (false, 2), (false, 3), (false, 4), (false, 5), (false, 6), (false, 7), (false, 8), (false, 9), (false, 10), (false, 11), (false, 12), (false, 13), (false, 14), (false, 15), (false, 16), (false, 17), (false, 18), (false, 19), (true, 20), (false, 21)] [] (by kernel_rfl) (by kernel_rfl) (fun _ _ d _ _ h => by cases d <;> exact h) ?_
       simp only [List.map_cons, List.map_nil, List.getD_cons_zero, List.getD_cons_succ, List.drop_succ_cons, List.drop_zero, List.drop_nil]
       refine mix_seg 20 rfl ?_
       simp only [List.take_succ_cons, List.take_zero, List.drop_succ_cons, List.drop_zero, List.map_cons, List.map_nil]
       repeat (go_big_quiet_step (fail))
       refine wpQuiet_nil ?_
       clear s0 s1 s2 s3 s4 s5 s6 t1 t2 t6
       refine mix_eff rfl ?_
       intro XX hXX
       have hGz : G < wz.drew.heap.size := by have h1 := lt_of_block HR.out.2.1.blk; have h2 := FZ.out.size; exact Nat.lt_of_lt_of_le h1 h2
       go_wp2_with (go_at_call 59; refine (HV.out.1 _ (FZ.out.trans (Fr.drew1 [] wz))).mono ?_; rintro e w2 hov2; obtain ⟨r2, rfl, hir, h1, f2⟩ := HV.out.2.2.2 _ _ _ hov2 hGz)
       refine hXX.out _ _ f2 ?_
       clear hXX XX hov2 hGz
       refine mix_seg 1 rfl ?_
       simp only [List.take_succ_cons, List.take_zero, List.drop_succ_cons, List.drop_zero, List.map_cons, List.map_nil]
       repeat (go_big_quiet_step (fail))
       refine wpQuiet_nil ?_
       refine mix_nil ?_
       have fz := (FZ.out.trans (Fr.drew1 [] wz)).trans f2
       have hIz := HR.out.2.1.fr fz
       have hrs := hir.size
       obtain ⟨C', hI', fI⟩ := hIz.set (i := i) (by rw [H.out.2.2.1, ← H.out.2.2.2.1]; exact hin) hir
       have ht : w2.there G (i * 8) r2.size := by rw [hrs]; exact there_of hIz.blk (i * 8) 8 (by rw [hIz.size, H.out.2.2.1, ← H.out.2.2.2.1]; omega)
       have HZ := Lib.hid (And.intro fz (And.intro hI' (And.intro fI (And.intro ht (And.intro hrs h1)))))
       clear fz hIz hI' fI ht hir h1 f2 hrs
       refine wpList_store_mid rfl 113 (.tmp 80) (.tmp 79) rfl G (i * 8) r2 rfl rfl HZ.out.2.2.2.1 (by rw [infoItem, HZ.out.2.2.2.2.1]) HZ.out.2.2.2.2.2 ?_
       go_wp2
       go_ret
       rw [HV.out.2.1, ← HV.out.2.2.1]
       exact ⟨rfl, ((HR.out.1.trans HZ.out.1).mono (by simp)).trans HZ.out.2.2.1, C', HZ.out.2.1⟩
     ·have gao : ((ya : Int) == (xo : Int)) = false := by simp; omega
      have hya := HR.out.2.2.2.2.2
      have hl0 : looks i q ⟨6, xa, xs, xc, xd, xb, xo⟩ y s = false := by
       unfold looks
       rw [← hya]
       simp [hao]
      have HL := Lib.hid hl0
      clear hl0 hya hs hao
      go_upto_region 5 with fail
      go_quiet (fail)
      go_upto_region 10 with fail
      go_quiet (fail)
      go_wp2
      go_roundg k
      case measure => omega
      case rel => exact HR.out.2.2.2.1 _ (Fr.drewN [] wr _) HL.out
    ·have gqi : decide (q < i) = false := by simpa using hqi
     have gqI : decide ((q : Int) < (i : Int)) = false := by simp; omega
     have hl0 : looks i q ⟨6, xa, xs, xc, xd, xb, xo⟩ y s = false := by
      unfold looks
      simp [hqi]
     have HL := Lib.hid hl0
     clear hl0 hs
     go_upto_region 5 with fail
     go_quiet (fail)
     go_upto_region 10 with fail
     go_quiet (fail)
     go_wp2
     go_roundg k
     case measure => omega
     case rel => exact HR.out.2.2.2.1 _ (Fr.drewN [] wr _) HL.out
   ·have g6 : (((7 : Nat) : Int) == 6) = false := by decide
    have g7 : (((7 : Nat) : Int) == 7) = true := by decide
    match s, hs, HR with
    | none, hs, HR =>
     have y0 : wr.cell? ⟨G, q * 8, none⟩ = some (.bool false) := by rw [cell_of HR.out.2.1.blk]; exact HR.out.2.1.done hs
     clear hs
     go_upto_region 5 with fail
     go_quiet (fail)
     go_upto_region 10 with fail
     go_quiet (fail)
     go_wp2
     go_roundg k
     case measure => omega
     case rel => exact HR.out.2.2.2.1 _ (Fr.drewN [] wr _) (by simp [looks, idIs])
    | some (.error e), hs, HR =>
     have y0 : wr.cell? ⟨G, q * 8, none⟩ = some (.bool true) := by rw [cell_of HR.out.2.1.blk]; exact HR.out.2.1.done hs
     obtain ⟨r, hr, hc⟩ := HR.out.2.1.st q _ hs
     have y7 : wr.cell? ⟨G, q * 8 + 7, none⟩ = some (.int .i64 (e : Nat)) := by rw [cell_of HR.out.2.1.blk]; exact hc 7 _ (by rw [hr.1]; rfl)
     have ge : ((e : Int) == 0) = false := by have := hr.2; simp; omega
     clear hs hr hc
     go_upto_region 5 with fail
     go_quiet (fail)
     go_upto_region 10 with fail
     go_quiet (fail)
     go_wp2
     go_roundg k
     case measure => omega
     case rel => exact HR.out.2.2.2.1 _ (Fr.drewN [] wr _) (by simp [looks, idIs])
    | some (.ok (ob, d)), hs, HR =>
     have y0 : wr.cell? ⟨G, q * 8, none⟩ = some (.bool true) := by rw [cell_of HR.out.2.1.blk]; exact HR.out.2.1.done hs
     obtain ⟨r, ⟨ba, bc, hr, hrd, hoff, hle, hd5⟩, hc⟩ := HR.out.2.1.st q _ hs
     subst hr
     obtain ⟨si, hsi⟩ : ∃ si, si = str ob.id := ⟨_, rfl⟩
     have y7 : wr.cell? ⟨G, q * 8 + 7, none⟩ = some (.int .i64 0) := by rw [cell_of HR.out.2.1.blk]; exact hc 7 _ rfl
     have y3 : wr.cell? ⟨G, q * 8 + 1 + 2, none⟩ = some (.string si) := by rw [cell_of HR.out.2.1.blk, hsi]; exact hc 3 _ rfl
     have y3' : wr.cell? ⟨G, q * 8 + 3, none⟩ = some (.string si) := y3
     by_cases hid : ob.id = xb
     ·have gs : (si.toList == sb.toList) = true := by rw [hsi, HS.out.1, hid]; exact beq_self_eq_true _
      have hT : T = some (over ⟨7, xa, xs, xc, xd, xb, xo⟩ ob.kind ob.body d) := HR.out.2.2.2.2.1 (by unfold looks; simp [idIs, hid])
      have yk : wr.cell? ⟨G, q * 8 + 1, none⟩ = some (.int .i64 ob.kind) := by rw [cell_of HR.out.2.1.blk]; exact hc 1 _ rfl
      have yb : wr.cell? ⟨G, q * 8 + 2, none⟩ = some (.slice ba ob.body.length bc) := by rw [cell_of HR.out.2.1.blk]; exact hc 2 _ rfl
      have yd : wr.cell? ⟨G, q * 8 + 6, none⟩ = some (.int .i64 (d : Nat)) := by rw [cell_of HR.out.2.1.blk]; exact hc 6 _ rfl
      have hov := fun wz (fz : Fr [] wr wz) => rover_any ⟨7, xa, xs, xc, xd, xb, xo⟩ ob.kind ba bc ob.body d wz (hrd.fr fz) (by omega) (H.out.2.2.2.2.2.2.2.2.1 _ (List.mem_of_getElem? H.out.2.2.2.2.2.1))
      obtain ⟨bl, hbl⟩ : ∃ bl, bl = ob.body.length := ⟨_, rfl⟩
      obtain ⟨kd, hkd⟩ : ∃ kd, kd = ob.kind := ⟨_, rfl⟩
      obtain ⟨P, hP⟩ : ∃ P, P = over ⟨7, xa, xs, xc, xd, xb, xo⟩ ob.kind ob.body d := ⟨_, rfl⟩
      simp only [rentV] at hov
      rw [← hbl, ← hkd, ← HS.out.1, ← HS.out.2] at hov
      rw [← hbl] at yb
      rw [← hkd] at yk
      have hrow : ∀ (wz : World) (e : Ending) (w' : World), ROver wz (over ⟨7, xa, xs, xc, xd, xb, xo⟩ kd ob.body d) e w' → G < wz.heap.size → ∃ r : Array Value, e = .returned (.agg r) ∧ IR w' G r (some P) ∧ r.all (·.oneCell') = true ∧ Fr [] wz w' := fun wz e w' h hG => by
       rw [hkd] at h
       rw [hP]
       exact h.row hG
      have HV := Lib.hid (And.intro hov (And.intro hT (And.intro hP hrow)))
      clear hs hrd hoff hle hd5 hc hT hov hbl hkd hP hrow hsi hid
      go_upto_region 5 with fail
      go_quiet (fail)
      go_upto_region 10 with fail
      go_quiet (fail)
      go_upto_region 11 with fail
      generalize hwz : World.drewN _ _ = wz
      have fz : Fr [] wr wz := by rw [← hwz]; first | exact Fr.drewN [] wr _ | exact (Fr.drewN [] wr _).drewsN _
      have FZ := Lib.hid fz
      have fs : ∀ {v : Value} {a : Addr}, wr.cell? a = some v → ∀ x, (sup [] wz.drew x).cell? a = some v := fun h x => (sup_fr [] wz.drew x).cell (show wz.drew.cell? _ = _ from fz.cell h (by simp)) (by simp)
      have s0 := fs k0
      have s1 := fs k1
      have s2 := fs k2
      have s3 := fs k3
      have s4 := fs k4
      have s5 := fs k5
      have s6 := fs k6
      have t1 := fs yk
      have t2 := fs yb
      have t6 := fs yd
      clear hwz fz fs k0 k1 k2 k3 k4 k5 k6 yk yb yd y0 y7 e1 y3 y3' gs
      refine region_mix 22 [(false, 0), (false, 1), (false, 2), (false, 3), (false, 4), (false, 5), (false, 6), (false, 7), (false, 8), (false, 9), (false, 10), (false, 11), (false, 12), (false, 13), (false, 14), (false, 15), (false, 16), (false, 17), (false, 18), (false, 19), (true, 20), (false, 21)] [] (by kernel_rfl) (by kernel_rfl) (fun _ _ d _ _ h => by cases d <;> exact h) ?_
      simp only [List.map_cons, List.map_nil, List.getD_cons_zero, List.getD_cons_succ, List.drop_succ_cons, List.drop_zero, List.drop_nil]
      refine mix_seg 20 rfl ?_
      simp only [List.take_succ_cons, List.take_zero, List.drop_succ_cons, List.drop_zero, List.map_cons, List.map_nil]
      repeat (go_big_quiet_step (fail))
      refine wpQuiet_nil ?_
      clear s0 s1 s2 s3 s4 s5 s6 t1 t2 t6
      refine mix_eff rfl ?_
      intro XX hXX
      have hGz : G < wz.drew.heap.size := by have h1 := lt_of_block HR.out.2.1.blk; have h2 := FZ.out.size; exact Nat.lt_of_lt_of_le h1 h2
      go_wp2_with (go_at_call 59; refine (HV.out.1 _ (FZ.out.trans (Fr.drew1 [] wz))).mono ?_; rintro e w2 hov2; obtain ⟨r2, rfl, hir, h1, f2⟩ := HV.out.2.2.2 _ _ _ hov2 hGz)
      refine hXX.out _ _ f2 ?_
      clear hXX XX hov2 hGz
      refine mix_seg 1 rfl ?_
      simp only [List.take_succ_cons, List.take_zero, List.drop_succ_cons, List.drop_zero, List.map_cons, List.map_nil]
      repeat (go_big_quiet_step (fail))
      refine wpQuiet_nil ?_
      refine mix_nil ?_
      have fz := (FZ.out.trans (Fr.drew1 [] wz)).trans f2
      have hIz := HR.out.2.1.fr fz
      have hrs := hir.size
      obtain ⟨C', hI', fI⟩ := hIz.set (i := i) (by rw [H.out.2.2.1, ← H.out.2.2.2.1]; exact hin) hir
      have ht : w2.there G (i * 8) r2.size := by rw [hrs]; exact there_of hIz.blk (i * 8) 8 (by rw [hIz.size, H.out.2.2.1, ← H.out.2.2.2.1]; omega)
      have HZ := Lib.hid (And.intro fz (And.intro hI' (And.intro fI (And.intro ht (And.intro hrs h1)))))
      clear fz hIz hI' fI ht hir h1 f2 hrs
      refine wpList_store_mid rfl 113 (.tmp 131) (.tmp 130) rfl G (i * 8) r2 rfl rfl HZ.out.2.2.2.1 (by rw [infoItem, HZ.out.2.2.2.2.1]) HZ.out.2.2.2.2.2 ?_
      go_wp2
      go_ret
      rw [HV.out.2.1, ← HV.out.2.2.1]
      exact ⟨rfl, ((HR.out.1.trans HZ.out.1).mono (by simp)).trans HZ.out.2.2.1, C', HZ.out.2.1⟩
     ·have gs : (si.toList == sb.toList) = false := by rw [hsi, HS.out.1, str_toList, str_toList]; simpa using hid
      have hl0 : looks i q ⟨7, xa, xs, xc, xd, xb, xo⟩ y (some (.ok (ob, d))) = false := by simp [looks, idIs, hid]
      have HL := Lib.hid hl0
      clear hs hrd hoff hle hd5 hc hl0 hid hsi
      go_upto_region 5 with fail
      go_quiet (fail)
      go_upto_region 10 with fail
      go_quiet (fail)
      go_wp2
      go_roundg k
      case measure => omega
      case rel => exact HR.out.2.2.2.1 _ (Fr.drewN [] wr _) HL.out
  ·obtain rfl : q = n := by omega
   have hm := step_miss (l := l) (W := W) (i := i) (x := ⟨xk, xa, xs, xc, xd, xb, xo⟩) H.out.2.2.1 H.out.2.2.2.2.2.2.2.1 (fun t ht y s hy hs => hno t (by rw [H.out.2.2.2.1]; exact ht) y s hy hs)
   rw [← H.out.2.2.2.2.2.2.2.2.2] at hm
   have HM := Lib.hid (And.intro hm hf)
   clear hm hf hno
   go_wp2
   go_ret
   rw [HM.out.1]
   exact ⟨rfl, HX.out.2.1.trans HM.out.2⟩
end Go.Proofs.YtkmpfgpfbmeihaaGreatDoor.pk
namespace Go.Proofs.YtkmpfgpfbmeihaaGreatDoor.pk
open Go Go.RowKit lib bm
def pV (q : Option Nat) : Value := .pointer (q.map fun b => ⟨b, 0, none⟩)
def pD : Option Nat → DataW Unit
 | none => .nil
 | some b => .lit (.int .i64 (b : Nat))
def pR : Value → Option (DataW Unit × List MemPlace)
 | .pointer none => some (.nil, [])
 | .pointer (some a) => if a = ⟨a.block, 0, none⟩ then some (.lit (.int .i64 (a.block : Nat)), []) else none
 | _ => none
theorem pR_mk (q : Option Nat) : pR (pV q) = some (pD q, []) := by
 cases q with
 | none => rfl
 | some b => simp [pR, pV, pD]
theorem pR_inv {v : Value} {z : DataW Unit × List MemPlace} (h : pR v = some z) : ∃ q, v = pV q ∧ z = (pD q, []) := by
 unfold pR at h
 split at h
 ·exact ⟨none, rfl, (Option.some.inj h).symm⟩
 ·rename_i a
  split at h
  ·rename_i he
   refine ⟨some a.block, ?_, (Option.some.inj h).symm⟩
   unfold pV
   rw [he]
   rfl
  ·cases h
 ·cases h
theorem pD_inj {a b : Option Nat} (h : pD a = pD b) : a = b := by
 cases a with
 | none => cases b with
  | none => rfl
  | some b => cases h
 | some a => cases b with
  | none => cases h
  | some b =>
   simp only [pD, DataW.lit.injEq, Lit.int.injEq, true_and] at h
   rw [Int.ofNat.inj h]
def MapAt (w : World) (b : Nat) : Prop := ∃ es c, w.heap[b]? = some (.map es c)
theorem MapAt.ne {w : World} {b x : Nat} {c : Array Value} {t : TypeId} {f : Nat × Nat} (h : MapAt w b) (hx : w.heap[x]? = some (.cells c t f)) : x ≠ b := by
 rintro rfl
 obtain ⟨es, c, h⟩ := h
 rw [h] at hx
 cases hx
theorem _root_.Go.Proofs.YtkmpfgpfbmeihaaGreatDoor.lib.Cs.frM {w w' : World} {b : Nat} {a : Option Addr} {vs : List Value} (h : Cs w a vs) (hb : MapAt w b) (f : Fr [b] w w') : Cs w' a vs := by
 rcases h with h | ⟨g, o, rfl, h⟩
 ·exact .inl h
 ·refine .inr ⟨g, o, rfl, fun j v hv => ?_⟩
  have hc := h j v hv
  refine f.cell hc ?_
  simp only [List.mem_singleton]
  rintro rfl
  obtain ⟨es, c, hm⟩ := hb
  simp [World.cell?, hm] at hc
theorem _root_.Go.Proofs.YtkmpfgpfbmeihaaGreatDoor.lib.Rd.frM {w w' : World} {b : Nat} {a : Option Addr} {c : Nat} {bs : List UInt8} (h : lib.Rd w a c bs) (hb : MapAt w b) (f : Fr [b] w w') : lib.Rd w' a c bs := ⟨h.cs.frM hb f, h.le, h.max, h.nil⟩
theorem Ents.frM {w w' : World} {b : Nat} {a : Option Addr} {ms : List EM} (h : Ents w a ms) (hb : MapAt w b) (f : Fr [b] w w') : Ents w' a ms := ⟨h.cs.frM hb f, fun m hm => (h.dat m hm).frM hb f⟩
theorem Rb.frM {w w' : World} {b g O S : Nat} {gv tv : Value} {la : Option Addr} {ms : List EM} {C D : Array Value} (h : Rb w g O S gv tv la ms C D) (hb : MapAt w b) (f : Fr [b] w w') : Rb w' g O S gv tv la ms C D :=
 ⟨f.blk h.box (by simp; exact hb.ne h.box), h.ents.frM hb f, f.blk h.ob (by simp; exact hb.ne h.ob), h.oc, f.blk h.sb (by simp; exact hb.ne h.sb), h.sc, h.gO, h.gS, h.OS, h.offl, h.offd, h.few⟩
theorem S1.frM {w w' : World} {b O S : Nat} {C D : Array Value} {i : Nat} {s : St} (h : S1 w O S C D i s) (hb : MapAt w b) (f : Fr [b] w w') : S1 w' O S C D i s := by
 match s, h with
 | none, h => exact h
 | some (.error x), h => exact h
 | some (.ok (o, d)), h =>
  obtain ⟨h0, h1, h2, h3, ba, bc, h4, h5, h6, h7⟩ := h
  exact ⟨h0, h1, h2, h3, ba, bc, h4, h5.frM hb f, h6, h7⟩
theorem Sts.frM {w w' : World} {b O S : Nat} {C D : Array Value} {l : List Ent} {W : List St} (h : Sts w O S C D l W) (hb : MapAt w b) (f : Fr [b] w w') : Sts w' O S C D l W :=
 ⟨h.len, fun i s hs => (h.st i s hs).frM hb f, h.base⟩
def kObj (k : Kn) (a : Option Addr) (c : Nat) : Array Value := #[.int .i64 k.kind, .slice a k.body.length c, .string (str k.id), .int .i64 0, .int .u32 0]
def KB (w : World) (O S p : Nat) (k : Kn) : Prop := p ≠ O ∧ p ≠ S ∧ ∃ a c, w.heap[p]? = some (.cells (kObj k a c) 34 (0, 0)) ∧ lib.Rd w a c k.body ∧ ∀ y ∈ blk a, y ≠ O ∧ y ≠ S
theorem KB.fr {w w' : World} {O S p : Nat} {k : Kn} (h : KB w O S p k) (f : Fr [O, S] w w') : KB w' O S p k := by
 obtain ⟨h1, h2, a, c, h3, h4, h5⟩ := h
 exact ⟨h1, h2, a, c, f.blk h3 (by simp [h1, h2]), h4.frS f (fun x hx => by have := h5 x hx; simp [this]), h5⟩
theorem KB.frM {w w' : World} {b O S p : Nat} {k : Kn} (h : KB w O S p k) (hb : MapAt w b) (f : Fr [b] w w') : KB w' O S p k := by
 obtain ⟨h1, h2, a, c, h3, h4, h5⟩ := h
 exact ⟨h1, h2, a, c, f.blk h3 (by simp; exact hb.ne h3), h4.frM hb f, h5⟩
def KQ (w : World) (O S : Nat) : Option Nat → Option Kn → Prop
 | none, none => True
 | some p, some k => KB w O S p k
 | _, _ => False
theorem KQ.map {w w' : World} {O S : Nat} {q : Option Nat} {r : Option Kn} (h : KQ w O S q r) (m : ∀ p k, KB w O S p k → KB w' O S p k) : KQ w' O S q r := by
 match q, r, h with
 | none, none, _ => trivial
 | some p, some k, h => exact m p k h
theorem str_keyed : Maps.Keyed Tryz.prog 9 := Maps.string_keyed Tryz.underlying9
def Told (w : World) (O S bt N : Nat) (kn : List Kn) : Prop := ∃ D n, n ≤ N ∧ w.ownsMap Tryz.prog 9 pR bt n D ∧ ∀ id, Maps.has D (.string id) = true → ∃ q, D.atKey (.string id) .nil = pD q ∧ KQ w O S q (kfind kn id)
theorem ownsMap_fr {w w' : World} {S : List Nat} {P : Program} {k : TypeId} {R : Value → Option (DataW Unit × List MemPlace)} {b n : Nat} {D : DataW Unit} (h : w.ownsMap P k R b n D) (f : Fr S w w') (hb : b ∉ S) : w'.ownsMap P k R b n D := by
 obtain ⟨es, clock, h1, h2⟩ := h
 exact ⟨es, clock, f.blk h1 hb, h2⟩
theorem Told.at_ {w : World} {O S bt N : Nat} {kn : List Kn} (h : Told w O S bt N kn) : MapAt w bt := by
 obtain ⟨D, n, _, ⟨es, clock, h1, _⟩, _⟩ := h
 exact ⟨es, clock, h1⟩
theorem Told.fr {w w' : World} {O S bt N : Nat} {kn : List Kn} (h : Told w O S bt N kn) (f : Fr [O, S] w w') (hO : bt ≠ O) (hS : bt ≠ S) : Told w' O S bt N kn := by
 obtain ⟨D, n, h1, h2, h3⟩ := h
 refine ⟨D, n, h1, ownsMap_fr h2 f (by simp [hO, hS]), fun id hi => ?_⟩
 obtain ⟨q, k1, k2⟩ := h3 id hi
 exact ⟨q, k1, k2.map fun p k hk => hk.fr f⟩
theorem Told.mono {w : World} {O S bt N N' : Nat} {kn : List Kn} (h : Told w O S bt N kn) (hn : N ≤ N') : Told w O S bt N' kn := by
 obtain ⟨D, n, h1, h2, h3⟩ := h
 exact ⟨D, n, Nat.le_trans h1 hn, h2, h3⟩
theorem Told.put {w w' : World} {O S bt n : Nat} {kn : List Kn} {D : DataW Unit} {id : List UInt8} {q : Option Nat} (hm : Maps.IsMap D) (h3 : ∀ id, Maps.has D (.string id) = true → ∃ q, D.atKey (.string id) .nil = pD q ∧ KQ w O S q (kfind kn id))
  (hb : MapAt w bt) (f : Fr [bt] w w') (h2 : w'.ownsMap Tryz.prog 9 pR bt (n + 1) (D.put (.string id) (pD q))) (hq : KQ w O S q (kfind kn id)) : Told w' O S bt (n + 1) kn := by
 refine ⟨_, _, Nat.le_refl _, h2, fun id' hi => ?_⟩
 by_cases he : id' = id
 ·subst he
  refine ⟨q, Maps.atKey_put_same hm (by simp [WideAt.IsKeyLit]) _ _, hq.map fun p k hk => hk.frM hb f⟩
 ·have hne : Lit.string id' ≠ Lit.string id := by simp [he]
  rw [Maps.has_put_other hne] at hi
  obtain ⟨q', k1, k2⟩ := h3 id' hi
  exact ⟨q', by rw [Maps.atKey_put_other hne]; exact k1, k2.map fun p k hk => hk.frM hb f⟩
def Got (w : World) (kn : List Kn) (id : List UInt8) (e : Ending) (w' : World) : Prop := Fr [] w w' ∧ match kn.find? fun k => k.id == id with
 | none => e = .returned (.tuple #[.int .i64 0, .slice none 0 0, .bool false])
 | some k => ∃ a c, e = .returned (.tuple #[.int .i64 k.kind, .slice a k.body.length c, .bool true]) ∧ lib.Rd w' a c k.body ∧ (∀ y ∈ blk a, w.heap.size ≤ y) ∧ k.body.length ≤ 140737488355200
def Getter (w : World) (T : List Nat) (gv : Value) (kn : List Kn) : Prop :=
 (gv = .nilFunc ∧ kn = []) ∨ ∃ fid cv, gv = .func (.func fid) #[] cv ∧ (∀ args w, (callFunc fid args).run Tryz.prog w = .ok (.enter fid args) w) ∧ ∀ id w', id.length ≤ 40 → Fr T w w' → Calls Tryz.prog fid (#[.string (str id)] ++ cv) w' (Got w' kn id)
theorem Getter.fr {w w' : World} {T : List Nat} {gv : Value} {kn : List Kn} (h : Getter w T gv kn) (f : Fr T w w') : Getter w' T gv kn := by
 rcases h with h | ⟨fid, cv, h1, h2, h3⟩
 ·exact .inl h
 ·exact .inr ⟨fid, cv, h1, h2, fun id w2 hl f2 => h3 id w2 hl (f.trans f2)⟩
theorem tell_of {kn : List Kn} (h : kn.Pairwise fun a b => a.id ≠ b.id) (id : List UInt8) : kfind kn id = match kn.find? fun k => k.id == id with
  | none => none
  | some k => if oid k.kind k.body = id then some k else none := by
 unfold kfind
 induction kn with
 | nil => rfl
 | cons k t ih =>
  rw [List.pairwise_cons] at h
  rw [List.find?_cons, List.find?_cons]
  by_cases he : k.id = id
  ·have e1 : (k.id == id) = true := by simpa using he
   rw [e1]
   by_cases ho : oid k.kind k.body = id
   ·have e2 : (oid k.kind k.body == id) = true := by simpa using ho
    rw [e2]
    simp [ho]
   ·have e2 : (oid k.kind k.body == id) = false := by simpa using ho
    rw [e2]
    simp only [Bool.and_false, if_neg ho]
    rw [List.find?_eq_none]
    intro x hx
    have := h.1 x hx
    simp
    intro hxi
    exact absurd (he.trans hxi.symm) this
  ·have e1 : (k.id == id) = false := by simpa using he
   rw [e1]
   simp only [Bool.false_and]
   exact ih h.2
end Go.Proofs.YtkmpfgpfbmeihaaGreatDoor.pk
namespace Go.Proofs.YtkmpfgpfbmeihaaGreatDoor.pk
open Go Go.RowKit lib bm
theorem und_told : Tryz.prog.underlying 94 = some (.map 9 144) := by kernel_rfl
theorem zero_objp (w : World) : (zeroValue 144).run Tryz.prog w = .ok (.pointer none) w := by kernel_rfl
theorem func_nil (w : World) : (binOp .neq 57 .nilFunc .nilFunc).run Tryz.prog w = .ok (.bool false) w := by kernel_rfl
theorem func_some (fid : FuncId) (cv : Array Value) (w : World) : (binOp .neq 57 (.func (.func fid) #[] cv) .nilFunc).run Tryz.prog w = .ok (.bool true) w := by kernel_rfl
def From (w : World) (O S bt N : Nat) (kn : List Kn) (id : List UInt8) (e : Ending) (w' : World) : Prop := Fr [bt] w w' ∧ Told w' O S bt (N + 1) kn ∧ ∃ q, e = .returned (pV q) ∧ KQ w' O S q (kfind kn id)
set_option maxHeartbeats 8000000 in
theorem from_any (g O S bt N : Nat) (gv : Value) (la : Option Addr) (ms : List EM) (C D : Array Value) (kn : List Kn) (id : List UInt8) (w : World) (h : Rb w g O S gv (.map (some bt)) la ms C D) (ht : Told w O S bt N kn) (hg : Getter w [O, S, bt] gv kn)
  (hd : kn.Pairwise fun a b => a.id ≠ b.id) (hN : N ≤ 100000000) (hid : id.length ≤ 40) (hp : obj.Pw w) :
  Calls Tryz.prog 81 #[.pointer (some ⟨g, 0, none⟩), .string (str id)] w (From w O S bt N kn id) := by
 have b3 := cell_of h.box 3
 have b4 := cell_of h.box 4
 simp only [List.getElem?_toArray, List.getElem?_cons_zero, List.getElem?_cons_succ] at b3 b4
 have hat := ht.at_
 have htold := ht
 obtain ⟨D0, n, hn, hown, hall⟩ := ht
 have hkey : keyOf Tryz.prog 9 (.string (str id)) = some (.string id) := by
  have := WideMaps.keyOf_string_mk (P := Tryz.prog) Tryz.underlying9 (s := str id) (by rw [str_size]; unfold maxLen; omega)
  exact this
 obtain ⟨si, hsi⟩ : ∃ si, si = str id := ⟨_, rfl⟩
 rw [← hsi] at hkey ⊢
 have hO := lt_of_block h.ob
 have hS := lt_of_block h.sb
 have H := Lib.hid (And.intro h (And.intro hat (And.intro htold (And.intro hn (And.intro hown (And.intro hall (And.intro hkey (And.intro hsi (And.intro hd (And.intro hp (And.intro hO hS)))))))))))
 clear h hat htold hn hown hall hkey hsi hO hS
 by_cases hh : Maps.has D0 (.string id) = true
 ·obtain ⟨q, hq, hkq⟩ := H.out.2.2.2.2.2.1 id hh
  have HQ := Lib.hid (And.intro hq hkq)
  have HH := Lib.hid hh
  clear hq hkq hd hp hg hh
  cases q with
  | none =>
   go_enter Tryz.func81, Tryz.ntmps81
   go_wp2_with (at_lookup; refine wpList_lookup_own_ok _ rfl _ _ 94 rfl 9 144 str_keyed und_told pR (zero_objp _) .nil [] rfl bt n D0 rfl H.out.2.2.2.2.1 _ (.string id) rfl H.out.2.2.2.2.2.2.1 ?_; intro v ps hv; rw [HH.out]; obtain ⟨q', rfl, hq'⟩ := pR_inv hv; obtain rfl : q' = none := pD_inj ((congrArg Prod.fst hq').symm.trans HQ.out.1); simp only [pV, Option.map_none]; clear hv hq')
   go_ret
   exact ⟨Fr.refl _ _, H.out.2.2.1.mono (by omega), none, rfl, HQ.out.2⟩
  | some p =>
   go_enter Tryz.func81, Tryz.ntmps81
   go_wp2_with (at_lookup; refine wpList_lookup_own_ok _ rfl _ _ 94 rfl 9 144 str_keyed und_told pR (zero_objp _) .nil [] rfl bt n D0 rfl H.out.2.2.2.2.1 _ (.string id) rfl H.out.2.2.2.2.2.2.1 ?_; intro v ps hv; rw [HH.out]; obtain ⟨q', rfl, hq'⟩ := pR_inv hv; obtain rfl : q' = some p := pD_inj ((congrArg Prod.fst hq').symm.trans HQ.out.1); simp only [pV, Option.map_some]; clear hv hq')
   go_ret
   exact ⟨Fr.refl _ _, H.out.2.2.1.mono (by omega), some p, rfl, HQ.out.2⟩
 ·have hh' : Maps.has D0 (.string id) = false := by simpa using hh
  have HH := Lib.hid hh'
  clear hh hh' hd hp
  rcases hg with ⟨rfl, rfl⟩ | ⟨fid, cv, rfl, eg, hcall⟩
  ·have hfn := func_nil
   go_enter Tryz.func81, Tryz.ntmps81
   go_wp2_with (at_lookup; refine wpList_lookup_own_ok _ rfl _ _ 94 rfl 9 144 str_keyed und_told pR (zero_objp _) .nil [] rfl bt n D0 rfl H.out.2.2.2.2.1 _ (.string id) rfl H.out.2.2.2.2.2.2.1 ?_; intro v ps hv; rw [HH.out]; obtain ⟨q', rfl, hq'⟩ := pR_inv hv; obtain rfl : q' = none := pD_inj ((congrArg Prod.fst hq').symm.trans (Maps.atKey_of_not_has HH.out _)); simp only [pV, Option.map_none]; clear hv hq')
   go_ret
   exact ⟨Fr.refl _ _, H.out.2.2.1.mono (by omega), none, rfl, trivial⟩
  ·have hfn := func_some fid cv
   have HC := Lib.hid (hcall id)
   rw [← H.out.2.2.2.2.2.2.2.1] at HC
   clear hcall
   go_enter Tryz.func81, Tryz.ntmps81
   go_wp2_with (at_lookup; refine wpList_lookup_own_ok _ rfl _ _ 94 rfl 9 144 str_keyed und_told pR (zero_objp _) .nil [] rfl bt n D0 rfl H.out.2.2.2.2.1 _ (.string id) rfl H.out.2.2.2.2.2.2.1 ?_; intro v ps hv; rw [HH.out]; obtain ⟨q', rfl, hq'⟩ := pR_inv hv; obtain rfl : q' = none := pD_inj ((congrArg Prod.fst hq').symm.trans (Maps.atKey_of_not_has HH.out _)); simp only [pV, Option.map_none]; clear hv hq')
   refine (HC.out w hid (Fr.refl _ _)).mono ?_
   rintro e w1 ⟨f1, hres⟩
   have hn := H.out.2.2.2.1
   have htell := tell_of H.out.2.2.2.2.2.2.2.2.1 id
   have hsome : ∀ k, (kn.find? fun k => k.id == id) = some k → k.id = id := fun k hk => by simpa using List.find?_some hk
   have b4 := f1.cell b4 (by simp)
   generalize (kn.find? fun k => k.id == id) = R at hres htell hsome
   have hall1 : ∀ wz, Fr [] w wz → ∀ id, Maps.has D0 (.string id) = true → ∃ q, D0.atKey (.string id) .nil = pD q ∧ KQ wz O S q (kfind kn id) := fun wz fz id hi => by
    obtain ⟨q, k1, k2⟩ := H.out.2.2.2.2.2.1 id hi
    exact ⟨q, k1, k2.map fun p k hk => hk.fr (fz.mono (by simp))⟩
   have hfin : ∀ (wz w4 : World) (q : Option Nat), Fr [] w wz → KQ wz O S q (kfind kn id) → w4.ownsMap Tryz.prog 9 pR bt (n + 1) (D0.put (.string id) (pD q)) → wz.grownBy w4 (some bt) → From w O S bt N kn id (.returned (pV q)) w4 := fun wz w4 q fz hq ho hg => by
    have hat : MapAt wz bt := by
     obtain ⟨es, c, hm⟩ := H.out.2.1
     exact ⟨es, c, fz.blk hm (by simp)⟩
    have f4 : Fr [bt] wz w4 := (Fr.refl [bt] wz).grown hg (fun k e => .inl (by simp only [Option.some.injEq] at e; simp [e]))
    exact ⟨(fz.mono (by simp)).trans f4, (Told.put (H.out.2.2.2.2.1.isMap) (hall1 wz fz) hat f4 ho hq).mono (by omega), q, rfl, hq.map fun p k hk => hk.frM hat f4⟩
   have HF := Lib.hid hfin
   clear hfin hall1 hfn
   match R, hres, htell, hsome with
   | none, hres, htell, _ =>
    subst hres
    have HO := Lib.hid (ownsMap_fr H.out.2.2.2.2.1 f1 (by simp))
    have HZ := Lib.hid (And.intro f1 htell)
    clear f1 htell b3 hsome
    go_wp2_with ((at_mapUpdate; refine wpList_mapUpdate_own _ rfl _ _ _ 94 rfl 9 144 str_keyed und_told pR bt n D0 rfl HO.out (by unfold maxLen; omega) _ _ (.string id) rfl rfl H.out.2.2.2.2.2.2.1 (pD none) [] (pR_mk none) ?_; intro w4 hown4 hg4; have H4 := Lib.hid (And.intro hown4 hg4); clear hown4 hg4))
    go_ret
    exact HF.out w1 w4 none HZ.out.1 (by rw [HZ.out.2]; trivial) H4.out.1 H4.out.2
   | some k, hres, htell, hsome =>
    obtain ⟨ka, kc, rfl, rd, new, hlen⟩ := hres
    have hki := hsome k rfl
    have hidc := obj.id_any k.kind ka kc k.body w1 rd hlen (H.out.2.2.2.2.2.2.2.2.2.1.fr f1)
    obtain ⟨bl, hbl⟩ : ∃ bl, bl = k.body.length := ⟨_, rfl⟩
    obtain ⟨sj, hsj⟩ : ∃ sj, sj = str (oid k.kind k.body) := ⟨_, rfl⟩
    obtain ⟨kd, hkd⟩ : ∃ kd, kd = k.kind := ⟨_, rfl⟩
    rw [← hsj] at hidc
    rw [← hbl, ← hkd] at hidc ⊢
    by_cases ho : oid k.kind k.body = id
    ·have gs : (sj.toList == si.toList) = true := by rw [hsj, H.out.2.2.2.2.2.2.2.1, ho]; exact beq_self_eq_true _
     have HZ := Lib.hid (And.intro f1 (And.intro htell (And.intro hidc (And.intro rd (And.intro new (And.intro hki (And.intro hbl (And.intro hkd ho))))))))
     clear f1 htell b3 hsome hidc rd new hlen hki hbl hsj hkd ho
     go_upto_region 6 with (go_at_call 63; refine HZ.out.2.2.1.mono ?_; rintro e w2 ⟨rfl, f2⟩; have H2 := Lib.hid f2; clear f2)
     clear gs
     obtain ⟨w3, hw3⟩ : ∃ w3, w3 = w2.alloc (Obj.cells #[.int .i64 kd, .slice ka bl kc, .string si, .int .i64 0, .int .u32 0] 34) := ⟨_, rfl⟩
     obtain ⟨p, hp⟩ : ∃ p, p = w2.heap.size := ⟨_, rfl⟩
     rw [← hw3, ← hp]
     have f3 : Fr [] w2 w3 := by rw [hw3]; exact (Fr.refl [] w2).alloc _
     have hb3 : w3.heap[p]? = some (.cells #[.int .i64 kd, .slice ka bl kc, .string si, .int .i64 0, .int .u32 0] 34 (0, 0)) := by rw [hw3, hp]; exact alloc_at w2 _
     have b4 := (H2.out.trans f3).cell b4 (by simp)
     have fz := HZ.out.1.trans (H2.out.trans f3)
     have HO := Lib.hid (ownsMap_fr H.out.2.2.2.2.1 fz (by simp))
     have hkb : KB w3 O S p k := by
      obtain ⟨f1, htell, hidc, rd, new, hki, hbl, hkd, ho⟩ := HZ.out
      have s1 := f1.size
      have s2 := H2.out.size
      have sO := H.out.2.2.2.2.2.2.2.2.2.2.1
      have sS := H.out.2.2.2.2.2.2.2.2.2.2.2
      refine ⟨by omega, by omega, ka, kc, ?_, rd.fr (H2.out.trans f3), fun y hy => ?_⟩
      ·rw [hb3]
       unfold kObj
       rw [← hbl, ← hkd, hki, H.out.2.2.2.2.2.2.2.1]
      ·have := new y hy
       exact ⟨by omega, by omega⟩
     have hq : KQ w3 O S (some p) (kfind kn id) := by
      rw [HZ.out.2.1]
      simp only [if_pos HZ.out.2.2.2.2.2.2.2.2]
      exact hkb
     have HQ := Lib.hid (And.intro fz hq)
     clear fz hq hkb hb3 f3 hw3 hp
     go_wp2_with ((at_mapUpdate; refine wpList_mapUpdate_own _ rfl _ _ _ 94 rfl 9 144 str_keyed und_told pR bt n D0 rfl HO.out (by unfold maxLen; omega) _ _ (.string id) rfl rfl H.out.2.2.2.2.2.2.1 (pD (some p)) [] (pR_mk (some p)) ?_; intro w4 hown4 hg4; have H4 := Lib.hid (And.intro hown4 hg4); clear hown4 hg4))
     go_ret
     exact HF.out w3 w4 (some p) HQ.out.1 HQ.out.2 H4.out.1 H4.out.2
    ·have gs : (sj.toList == si.toList) = false := by rw [hsj, H.out.2.2.2.2.2.2.2.1, str_toList, str_toList]; simpa using ho
     have HZ := Lib.hid (And.intro f1 (And.intro htell (And.intro hidc ho)))
     clear f1 htell b3 hsome hidc rd new hlen hki hbl hsj hkd ho
     go_upto_region 6 with (go_at_call 63; refine HZ.out.2.2.1.mono ?_; rintro e w2 ⟨rfl, f2⟩; have H2 := Lib.hid f2; clear f2)
     clear gs
     have b4 := H2.out.cell b4 (by simp)
     have fz := HZ.out.1.trans H2.out
     have HO := Lib.hid (ownsMap_fr H.out.2.2.2.2.1 fz (by simp))
     have hq : KQ w2 O S none (kfind kn id) := by
      rw [HZ.out.2.1]
      simp only [if_neg HZ.out.2.2.2]
      trivial
     have HQ := Lib.hid (And.intro fz hq)
     clear fz hq
     go_wp2_with ((at_mapUpdate; refine wpList_mapUpdate_own _ rfl _ _ _ 94 rfl 9 144 str_keyed und_told pR bt n D0 rfl HO.out (by unfold maxLen; omega) _ _ (.string id) rfl rfl H.out.2.2.2.2.2.2.1 (pD none) [] (pR_mk none) ?_; intro w4 hown4 hg4; have H4 := Lib.hid (And.intro hown4 hg4); clear hown4 hg4))
     go_ret
     exact HF.out w2 w4 none HQ.out.1 HQ.out.2 H4.out.1 H4.out.2
end Go.Proofs.YtkmpfgpfbmeihaaGreatDoor.pk
namespace Go.Proofs.YtkmpfgpfbmeihaaGreatDoor.pk
open Go Go.RowKit lib bm
theorem undone_range : ∀ W : List St, undone W = ((List.range W.length).map fun i => (match W[i]? with | some none => 1 | _ => 0)).sum
 | [] => rfl
 | none :: t => by
  rw [undone, undone_range t, List.length_cons, List.range_succ_eq_map, List.map_cons, List.map_map, List.sum_cons]
  simp only [List.getElem?_cons_zero, Function.comp_def, List.getElem?_cons_succ]
  omega
 | some x :: t => by
  rw [undone, undone_range t, List.length_cons, List.range_succ_eq_map, List.map_cons, List.map_map, List.sum_cons]
  simp only [List.getElem?_cons_zero, Function.comp_def, List.getElem?_cons_succ]
  omega
def und1 (w : World) (S c o i : Nat) : Nat := match w.cell? ⟨S, i * c + o, none⟩ with
 | some (.bool false) => 1
 | _ => 0
def undM (w : World) (S c n : Nat) : Nat := ((List.range n).map (und1 w S c 0)).sum
theorem undM_eq {w : World} {S c n : Nat} {W : List St} (hl : W.length = n) (h : ∀ i s, W[i]? = some s → w.cell? ⟨S, i * c, none⟩ = some (.bool s.isSome)) : undM w S c n = undone W := by
 rw [undone_range, hl]
 unfold undM
 congr 1
 refine List.map_congr_left fun i hi => ?_
 have hi' : i < W.length := by simp at hi; omega
 have := h i _ (List.getElem?_eq_getElem hi')
 rw [List.getElem?_eq_getElem hi']
 unfold und1
 rw [Nat.add_zero, this]
 cases W[i] with
 | none => rfl
 | some x => rfl
theorem S1.done {w : World} {O S : Nat} {C D : Array Value} {i : Nat} {s : St} (h : S1 w O S C D i s) : D[i * 4]? = some (.bool s.isSome) := by
 match s, h with
 | none, h => exact h.1
 | some (.error x), h => exact h.1
 | some (.ok (o, d)), h => exact h.1
theorem Sts.undM {w : World} {O S : Nat} {C D : Array Value} {l : List Ent} {W : List St} (h : Sts w O S C D l W) (hb : w.heap[S]? = some (.cells D 100 (0, 0))) : undM w S 4 l.length = undone W :=
 undM_eq h.len fun i s hs => by rw [cell_of hb]; exact (h.st i s hs).done
end Go.Proofs.YtkmpfgpfbmeihaaGreatDoor.pk
