/-
  Proved: stemmalaw4.BitsReads returns true and leaves its arguments as they were, for every input. Conditions: none.
-/
import Derived.Test.YtcfhebhbgllphaaAwake4
import Derived.Test.YtcfhebhbgllphaaScript4
import Derived.Test.YtcfhebhbgllphaaRef5
import Derived.Deep.CutBlock
namespace Go.Proofs.Ytcfhebhbgllphaa.bitsReads
open Go Go.RowKit Go.ChangeShapes Go.WideShapes Go.Proofs.Ytcfhebhbgllphaa.lib Go.Proofs.Ytcfhebhbgllphaa.bm Go.Proofs.Ytcfhebhbgllphaa.bits

/-! ### Both readers' calls, whatever is asked -/
def tok (bs : List UInt8) (a : Nat) (n : Int) : Bool := decide (0 ≤ n ∧ n ≤ 32 ∧ a + n ≤ 8 * bs.length)
def tval (bs : List UInt8) (a : Nat) (n : Int) : Nat := if tok bs a n then num bs / 2 ^ a % 2 ^ n.toNat else 0
def tat (bs : List UInt8) (a : Nat) (n : Int) : Nat := if tok bs a n then a + n.toNat else a
theorem take_all (p : Nat) (F : List Nat) (bs : List UInt8) (a : Nat) (n : Int) (w : World) (hR : Rd w p F bs a) :
    Calls Try.prog 10 #[.pointer (some ⟨p, 0, none⟩), .int .i64 n] w fun e w' => e = .returned (.tuple #[.int .u32 (tval bs a n), .bool (tok bs a n)]) ∧ Rd w' p F bs (tat bs a n) ∧ Fr [p] w w' := by
  by_cases h : 0 ≤ n ∧ n ≤ 32 ∧ a + n ≤ 8 * bs.length
  · have e : tok bs a n = true := by simpa [tok] using h
    simp only [tval, tat, e, if_true]
    exact take_good p F bs a n w hR h.1 h.2.1 h.2.2
  · have e : tok bs a n = false := by simpa [tok] using h
    simp only [tval, tat, e]
    exact (take_bad p F bs a n w hR (by omega)).mono fun e w' ⟨h1, h2, h3⟩ => ⟨h1, h2, h3.mono (by simp)⟩
theorem rtake_all (p : Nat) (F : List Nat) (bs : List UInt8) (a : Nat) (n : Int) (w : World) (hR : Rf w p F bs a) :
    Calls Try.prog 14 #[.pointer (some ⟨p, 0, none⟩), .int .i64 n] w fun e w' => e = .returned (.tuple #[.int .u32 (tval bs a n), .bool (tok bs a n)]) ∧ Rf w' p F bs (tat bs a n) ∧ Fr [p] w w' := by
  by_cases h : 0 ≤ n ∧ n ≤ 32 ∧ a + n ≤ 8 * bs.length
  · have e : tok bs a n = true := by simpa [tok] using h
    simp only [tval, tat, e, if_true]
    exact rtake_good p F bs a n w hR h.1 h.2.1 h.2.2
  · have e : tok bs a n = false := by simpa [tok] using h
    simp only [tval, tat, e]
    exact (rtake_bad p F bs a n w hR (by omega)).mono fun e w' ⟨h1, h2, h3⟩ => ⟨h1, h2, h3.mono (by simp)⟩
def bok (bs : List UInt8) (a : Nat) (n : Int) : Bool := decide (0 ≤ n ∧ n ≤ bs.length - ((a + 7) / 8 : Nat))
def bbs (bs : List UInt8) (a : Nat) (n : Int) : List UInt8 := if bok bs a n then (bs.drop ((a + 7) / 8)).take n.toNat else []
def bat (bs : List UInt8) (a : Nat) (n : Int) : Nat := if bok bs a n then (a + 7) / 8 * 8 + 8 * n.toNat else (a + 7) / 8 * 8
def BytesAll (p : Nat) (F : List Nat) (bs : List UInt8) (a : Nat) (n : Int) (w : World) (e : Ending) (w' : World) : Prop :=
  ∃ ao, e = .returned (.tuple #[.slice ao (bbs bs a n).length (bbs bs a n).length, .bool (bok bs a n)]) ∧ Fresh w' w.heap.size 5 ao ((bbs bs a n).map bv) ∧ (∀ x ∈ blk ao, w.heap.size ≤ x) ∧ Rd w' p F bs (bat bs a n) ∧ Fr [p] w w'
theorem bytes_all (p : Nat) (F : List Nat) (bs : List UInt8) (a : Nat) (n : Int) (w : World) (hR : Rd w p F bs a) :
    Calls Try.prog 15 #[.pointer (some ⟨p, 0, none⟩), .int .i64 n] w (BytesAll p F bs a n w) := by
  by_cases h : 0 ≤ n ∧ n ≤ bs.length - ((a + 7) / 8 : Nat)
  · have e : bok bs a n = true := by simpa [bok] using h
    refine (bytes_good p F bs a n w hR h.1 h.2).mono ?_
    rintro e1 w' ⟨ao, rfl, h1, h2, h3, h4, h5⟩
    have hl : (bbs bs a n).length = n.toNat := by simp only [bbs, e, if_true]; simp; omega
    exact ⟨ao, by rw [hl, e], by simpa only [bbs, e, if_true] using h1, h3, by simpa only [bat, e, if_true] using h4, h5⟩
  · have e : bok bs a n = false := by simpa [bok] using h
    refine (bytes_bad p F bs a n w hR (by omega)).mono ?_
    rintro e1 w' ⟨rfl, h4, h5⟩
    have hl : bbs bs a n = [] := by simp [bbs, e]
    exact ⟨none, by rw [hl, e]; rfl, by rw [hl]; exact .inl rfl, by simp [blk], by simpa [bat, e] using h4, h5⟩
def RBytesAll (p : Nat) (F : List Nat) (bs : List UInt8) (a : Nat) (n : Int) (w : World) (e : Ending) (w' : World) : Prop :=
  ∃ ao cap, e = .returned (.tuple #[.slice ao (bbs bs a n).length cap, .bool (bok bs a n)]) ∧ Cs w' ao ((bbs bs a n).map bv) ∧ Rf w' p F bs (bat bs a n) ∧ Fr [p] w w'
theorem rbytes_all (p : Nat) (F : List Nat) (bs : List UInt8) (a : Nat) (n : Int) (w : World) (hR : Rf w p F bs a) :
    Calls Try.prog 16 #[.pointer (some ⟨p, 0, none⟩), .int .i64 n] w (RBytesAll p F bs a n w) := by
  by_cases h : 0 ≤ n ∧ n ≤ bs.length - ((a + 7) / 8 : Nat)
  · have e : bok bs a n = true := by simpa [bok] using h
    refine (rbytes_good p F bs a n w hR h.1 h.2).mono ?_
    rintro e1 w' ⟨ao, cap, rfl, h1, h4, h5, _⟩
    have hl : (bbs bs a n).length = n.toNat := by simp only [bbs, e, if_true]; simp; omega
    exact ⟨ao, cap, by rw [hl, e], by simpa only [bbs, e, if_true] using h1, by simpa only [bat, e, if_true] using h4, h5⟩
  · have e : bok bs a n = false := by simpa [bok] using h
    refine (rbytes_bad p F bs a n w hR (by omega)).mono ?_
    rintro e1 w' ⟨rfl, h4, h5⟩
    have hl : bbs bs a n = [] := by simp [bbs, e]
    exact ⟨none, 0, by rw [hl, e]; rfl, by rw [hl]; exact .inl rfl, by simpa [bat, e] using h4, h5⟩

/-! ### The state of the law's loop -/
structure St (w wr : World) (r : Nat) (G : List Nat) (q : Nat) (K : List Nat) (bs : List UInt8) (a : Nat) : Prop where
  rd : Rd wr r G bs a
  rf : Rf wr q K bs a
  apart : ∀ x ∈ G, x ∉ K
  newG : ∀ x ∈ G, w.heap.size ≤ x
  newK : ∀ x ∈ K, w.heap.size ≤ x
  ltG : ∀ x ∈ G, x < wr.heap.size
  ltK : ∀ x ∈ K, x < wr.heap.size
  fr : Fr [] w wr
theorem rdT_mem {T : TypeId} {w : World} {p : Nat} {F : List Nat} {bs : List UInt8} {a : Nat} (h : RdT T w p F bs a) : p ∈ F := by obtain ⟨_, _, _, _, h, _⟩ := h; rw [h]; simp
theorem St.fr0 {w wr wr' : World} {r q a : Nat} {G K S : List Nat} {bs : List UInt8} (h : St w wr r G q K bs a) (f : Fr S wr wr') (h1 : ∀ x ∈ G, x ∉ S) (h2 : ∀ x ∈ K, x ∉ S) (h3 : ∀ x ∈ S, w.heap.size ≤ x) : St w wr' r G q K bs a :=
  ⟨rd_fr h.rd f h1, rd_fr h.rf f h2, h.apart, h.newG, h.newK, fun x hx => Nat.lt_of_lt_of_le (h.ltG x hx) f.size, fun x hx => Nat.lt_of_lt_of_le (h.ltK x hx) f.size, h.fr.step f fun x hx => .inr (h3 x hx)⟩
/-- Behind a call of the reader and one of the document's. -/
theorem St.both {w w0 w1 w2 : World} {r q a a' : Nat} {G K : List Nat} {bs : List UInt8} (h : St w w0 r G q K bs a) (h1 : Rd w1 r G bs a') (f1 : Fr [r] w0 w1) (h2 : Rf w2 q K bs a') (f2 : Fr [q] w1 w2) : St w w2 r G q K bs a' := by
  have hr := rdT_mem h.rd
  have hq := rdT_mem h.rf
  refine ⟨rd_fr h1 f2 (fun x hx hn => ?_), h2, h.apart, h.newG, h.newK, fun x hx => Nat.lt_of_lt_of_le (h.ltG x hx) (Nat.le_trans f1.size f2.size), fun x hx => Nat.lt_of_lt_of_le (h.ltK x hx) (Nat.le_trans f1.size f2.size), (h.fr.step f1 fun x hx => ?_).step f2 fun x hx => ?_⟩
  · simp at hn; subst hn; exact h.apart _ hx hq
  · simp at hx; subst hx; exact .inr (h.newG _ hr)
  · simp at hx; subst hx; exact .inr (h.newK _ hq)

set_option maxRecDepth 100000 in
set_option maxHeartbeats 2000000 in
theorem walk_in (w : World) (ab as_ : Option Addr) (lenb capb lens caps : Nat) (bs : List UInt8) (B : BytesArg w ab lenb capb bs) (O : OpsArg w as_ lens caps) :
    Calls Try.prog 5 #[.slice ab lenb capb, .slice as_ lens caps] w fun e w' => e = .returned (.bool true) ∧ Below w.heap.size w w' := by
  obtain ⟨hlc, hcm, O⟩ := O
  have hls : lens ≤ 9223372036854775807 := by unfold maxLen at hcm; omega
  obtain rfl := B.length
  have hrd := read_new ab capb bs w B.cs B.le B.nil B.lim
  have Hrd := Lib.hid hrd
  clear hrd
  go_enter Try.func5, Try.ntmps5
  go_upto_region 1 with fail
  go_cut [5] (fun s5 wc => ∃ r G, s5 = .pointer (some ⟨r, 0, none⟩) ∧ Rd wc r G bs 0 ∧ Fr [] w wc ∧ (∀ x ∈ G, w.heap.size ≤ x) ∧ (∀ x ∈ G, x < wc.heap.size))
  case first =>
    go_wp2_with (go_at_call 9; refine Hrd.out.mono ?_; rintro e w1 ⟨r, G, rfl, hR, fr3, hG⟩)
    go_meet
    exact ⟨r, G, rfl, hR, fr3, fun x hx => (hG x hx).1, fun x hx => (hG x hx).2⟩
  case rest =>
  obtain ⟨r, G, rfl, hR, fr1, hG, hGlt⟩ := hcut
  have hbcs : Cs wc ab (bs.map bv) := B.cs.fr fr1 (by simp)
  go_upto_region 2 with fail
  go_cut [6] (fun s6 wz => ∃ q K, s6 = .pointer (some ⟨q, 0, none⟩) ∧ St w wz r G q K bs 0)
  case first =>
    go_wp2_with (refine wpList_append sliceU8 rfl _ _ rfl (.slice (some ⟨wc.heap.size, 0, none⟩) 0 0) 0 [] [wc.heap.size] rfl rfl ⟨rfl, .inr ⟨wc.heap.size, 0, #[], rfl, Nat.zero_le _, alloc_at _ _, Nat.le_refl _, Nat.zero_le _, rfl, rfl⟩⟩ ab bs.length capb (bs.map bv) rfl B.le B.nil (hbcs.fr ((Fr.refl [] wc).alloc _) (by simp)) (by simp) (bv_one bs) (by have := B.lim; omega) (by have := B.lim; unfold maxLen; omega) ?_; intro ao1 cap1 w1 A1; simp only [Nat.zero_add, List.nil_append] at A1)
    go_meet
    have fr2 : Fr [] wc w1 := ((Fr.refl [] wc).alloc _).step A1.fr (by simp)
    have fr3 : Fr [] wc (w1.alloc (.cells #[.slice ao1 bs.length cap1, .int .i64 0] 43)) := fr2.alloc _
    have hsz := fr1.size
    have hb : ∀ x ∈ blk ao1, wc.heap.size ≤ x ∧ x < w1.heap.size := fun x hx => ⟨by have := A1.at_ x hx; simp at this; omega, A1.lt x hx⟩
    have hK : ∀ x ∈ w1.heap.size :: blk ao1, wc.heap.size ≤ x := by
      intro x hx
      rcases List.mem_cons.1 hx with rfl | hx
      · exact fr2.size
      · exact (hb x hx).1
    refine ⟨w1.heap.size, _, rfl, rd_fr hR fr3 (by simp), ⟨ao1, cap1, alloc_at _ _, (cs_of_owns A1.own).fr ((Fr.refl [] w1).alloc _) (by simp), rfl, fun h => ?_, B.lim, by omega, A1.le, A1.max, A1.nil⟩, fun x hx h => ?_, hG, fun x hx => ?_, fun x hx => Nat.lt_of_lt_of_le (hGlt x hx) fr3.size, fun x hx => ?_, fr1.trans fr3⟩
    · have := (hb _ h).2
      omega
    · have := hK x h
      have := hGlt x hx
      omega
    · have := hK x hx
      omega
    · rw [World.size_alloc]
      rcases List.mem_cons.1 hx with rfl | hx
      · omega
      · have := (hb x hx).2
        omega
  case rest =>
  obtain ⟨q, K, rfl, S⟩ := hcut
  clear hR hbcs hGlt
  go_upto_region 3 with fail
  go_cut [31] (fun s wz => s = .bool false ∧ St w wz r G q K bs 0)
  case first =>
    have HS := Lib.hid S
    clear S
    go_wp2_with (go_at_call 12; refine (awake_any _).mono ?_; rintro e w' ⟨rfl, f7⟩)
    go_meet
    exact ⟨by rfl, HS.out.fr0 f7 (by simp) (by simp) (by simp)⟩
  case rest =>
  clear S
  obtain ⟨rfl, S⟩ := hcut
  have HS := Lib.hid S
  clear S
  go_wp2
  go_loopg [7] (min lens 60) (fun k s7 wr => ∃ (i a : Nat), i + k = min lens 60 ∧ s7 = .int .i64 i ∧ St w wr r G q K bs a)
  case atStart => exact ⟨0, 0, by omega, rfl, HS.out⟩
  case round =>
    obtain ⟨i, a, hik, rfl, S⟩ := hrel
    by_cases hin : i < min lens 60
    · have hi1 : i < lens := by omega
      have hi2 : i < 60 := by omega
      obtain ⟨g, o, rfl, hcell⟩ := O.resolve_left (by omega)
      obtain ⟨k, n, v, ad, dl, dc, ds, c0, c1, c2, c3, _⟩ := hcell i hi1
      have c0 := S.fr.cell c0 (by simp)
      have c1 := S.fr.cell c1 (by simp)
      have c2 := S.fr.cell c2 (by simp)
      have c3 := S.fr.cell c3 (by simp)
      clear hcell
      rename_i c0' c1' c2' c3'
      clear c0' c1' c2' c3'
      go_upto_region 8 with fail
      go_cut [8] (fun s8 wz => ∃ p, s8 = .pointer (some ⟨p, 0, none⟩) ∧ wz.heap[p]? = some (.cells #[.int .i64 k, .int .i64 n, .int .u32 v, .slice ad dl dc] 45 (0, 0)) ∧ St w wz r G q K bs a ∧ w.heap.size ≤ p ∧ p ∉ G ∧ p ∉ K)
      case first =>
        have HS := Lib.hid S
        clear S
        go_wp2
        go_meet
        refine ⟨wr.heap.size, rfl, alloc_at _ _, HS.out.fr0 ((Fr.refl [] wr).alloc _) (by simp) (by simp) (by simp), HS.out.fr.size, fun h => ?_, fun h => ?_⟩
        · have := HS.out.ltG _ h
          omega
        · have := HS.out.ltK _ h
          omega
      case rest =>
      clear S c0 c1 c2 c3
      obtain ⟨p, rfl, hp, S, hpn, hpG, hpK⟩ := hcut
      have c0 := cell_of hp 0
      have c1 := cell_of hp 1
      simp only [List.getElem?_toArray, List.getElem?_cons_zero, List.getElem?_cons_succ] at c0 c1
      have Hp := Lib.hid hp
      have HS := Lib.hid S
      clear hp S
      go_upto_block 2 with fail
      go_cut [9] (fun s9 wz => s9 = .bool true ∧ ∃ a', St w wz r G q K bs a')
      case first =>
        by_cases hk0 : k = 0
        · subst hk0
          go_upto_region 14 with fail
          go_cut [10, 11] (fun s10 s11 wz => s10 = .int .u32 (tval bs a n) ∧ s11 = .bool (tok bs a n) ∧ Rd wz r G bs (tat bs a n) ∧ Fr [r] wc wz ∧ wz.cell? ⟨p, 1, none⟩ = some (.int .i64 n))
          case first =>
            go_wp2_with (go_at_call 10; refine (take_all r G bs a n _ HS.out.rd).mono ?_; rintro e w' ⟨rfl, hR1, f1⟩)
            go_meet
            exact ⟨rfl, rfl, hR1, f1, f1.cell c1 (by simp; rintro rfl; exact hpG (rdT_mem HS.out.rd))⟩
          case rest =>
          clear c0 c1
          obtain ⟨rfl, rfl, hR1, f1, c1⟩ := hcut
          have hf1 : Rf wc q K bs a := rd_fr HS.out.rf f1 (fun x hx => by simp; rintro rfl; exact HS.out.apart _ (rdT_mem HS.out.rd) hx)
          go_upto_region 15 with fail
          go_cut [12, 13] (fun s12 s13 wz => s12 = .int .u32 (tval bs a n) ∧ s13 = .bool (tok bs a n) ∧ St w wz r G q K bs (tat bs a n))
          case first =>
            go_wp2_with (go_at_call 14; refine (rtake_all q K bs a n _ hf1).mono ?_; rintro e w' ⟨rfl, hR2, f2⟩)
            go_meet
            exact ⟨rfl, rfl, HS.out.both hR1 f1 hR2 f2⟩
          case rest =>
          clear c1 hf1
          obtain ⟨rfl, rfl, S⟩ := hcut
          have HS2 := Lib.hid S
          clear S hR1
          go_wp2
          all_goals go_meet
          all_goals exact ⟨by simp, _, HS2.out⟩
        · by_cases hk1 : k = 1
          · subst hk1
            obtain ⟨B0, hB0⟩ : ∃ B, B = wc.heap.size := ⟨_, rfl⟩
            have HB0 := Lib.hid hB0
            clear hB0 hk0
            obtain ⟨L, hL⟩ : ∃ L, L = (bbs bs a n).length := ⟨_, rfl⟩
            have HL := Lib.hid hL
            clear hL
            go_upto_region 18 with fail
            go_cut [14, 15] (fun s14 s15 wz => ∃ ao, s14 = .slice ao L L ∧ s15 = .bool (bok bs a n) ∧ Fresh wz B0 5 ao ((bbs bs a n).map bv) ∧ (∀ x ∈ blk ao, B0 ≤ x) ∧ Rd wz r G bs (bat bs a n) ∧ Fr [r] wc wz ∧ wz.cell? ⟨p, 1, none⟩ = some (.int .i64 n))
            case first =>
              go_wp2_with (go_at_call 15; refine (bytes_all r G bs a n _ HS.out.rd).mono ?_; rintro e w' ⟨ao, rfl, g1, b1, hR1, f1⟩)
              go_meet
              rw [HB0.out, HL.out]
              exact ⟨ao, rfl, rfl, g1, b1, hR1, f1, f1.cell c1 (by simp; rintro rfl; exact hpG (rdT_mem HS.out.rd))⟩
            case rest =>
            clear c0 c1
            obtain ⟨ao, rfl, rfl, g1, b1, hR1, f1, c1⟩ := hcut
            have hf1 : Rf wc q K bs a := rd_fr HS.out.rf f1 (fun x hx => by simp; rintro rfl; exact HS.out.apart _ (rdT_mem HS.out.rd) hx)
            go_upto_region 19 with fail
            go_cut [16, 17] (fun s16 s17 wz => ∃ ao2 cap2, s16 = .slice ao2 L cap2 ∧ s17 = .bool (bok bs a n) ∧ Fresh wz B0 5 ao ((bbs bs a n).map bv) ∧ Cs wz ao2 ((bbs bs a n).map bv) ∧ St w wz r G q K bs (bat bs a n))
            case first =>
              go_wp2_with (go_at_call 16; refine (rbytes_all q K bs a n _ hf1).mono ?_; rintro e w' ⟨ao2, cap2, rfl, g2, hR2, f2⟩)
              go_meet
              rw [HL.out]
              refine ⟨ao2, cap2, rfl, rfl, g1.fr f2 (fun x hx h => ?_), g2, HS.out.both hR1 f1 hR2 f2⟩
              simp at h
              have h3 := HS.out.ltK _ (rdT_mem HS.out.rf)
              have h4 := b1 x.block (by simp [hx, blk])
              rw [HB0.out] at h4
              omega
            case rest =>
            clear c1 hf1 g1 hR1
            obtain ⟨ao2, cap2, rfl, rfl, g1, g2, S⟩ := hcut
            have HS2 := Lib.hid S
            have cv1 := run_conv wc Try.underlying24 Try.underlying5 Try.underlying9 HL.out.symm g1.cs
            have cv2 := run_conv wc Try.underlying24 Try.underlying5 Try.underlying9 HL.out.symm g2
            have hst := str_toList (bbs bs a n)
            have G1 := Lib.hid g1
            clear S g1 g2
            go_upto_region 20 with fail
            go_cut [9] (fun s9 wz => s9 = .bool true ∧ wc = wz)
            case first =>
              go_wp2
              all_goals go_meet
              all_goals exact ⟨by simp, rfl⟩
            case rest =>
            obtain ⟨rfl, rfl⟩ := hcut
            clear cv1 cv2 hst
            have hlim : L ≤ 140737488351232 := by
              have h1 : (bbs bs a n).length ≤ bs.length := by unfold bbs; split <;> simp; omega
              have := B.lim
              have := HL.out
              omega
            have hinv : L = 0 ∨ ∃ g cur, ao = some ⟨g, 0, none⟩ ∧ B0 ≤ g ∧ wc.heap[g]? = some (.cells cur 5 (0, 0)) ∧ ∀ j, j < L → ∃ b : Int, cur[j]? = some (.int .u8 b) := by
              rcases G1.out with h | ⟨g, cur, h1, h2, h3, h4⟩
              · left
                rw [HL.out]
                simpa using h
              · right
                refine ⟨g, cur, h1, h2, h3, fun j hj => ?_⟩
                have h5 : j < (bbs bs a n).length := by rw [← HL.out]; exact hj
                refine ⟨((bbs bs a n)[j]).toNat, ?_⟩
                have h6 : cur.toList[j]? = (cur.toList.take ((bbs bs a n).map bv).length)[j]? := by rw [List.getElem?_take, if_pos (by simpa using h5)]
                rw [← Array.getElem?_toList, h6, h4]
                simp [h5, bv]
            have Hinv := Lib.hid hinv
            clear hinv
            go_wp2
            go_loopg [18] L (fun k s18 wr => ∃ j, j + k = L ∧ s18 = .int .i64 j ∧ St w wr r G q K bs (bat bs a n) ∧ (L = 0 ∨ ∃ g cur, ao = some ⟨g, 0, none⟩ ∧ B0 ≤ g ∧ wr.heap[g]? = some (.cells cur 5 (0, 0)) ∧ ∀ j, j < L → ∃ b : Int, cur[j]? = some (.int .u8 b)))
            case atStart => exact ⟨0, by omega, rfl, HS2.out, Hinv.out⟩
            case round =>
              obtain ⟨j, hj, rfl, S, hI⟩ := hrel
              by_cases hjL : j < L
              · obtain ⟨g, cur, rfl, hg, hb, hc⟩ := hI.resolve_left (by omega)
                obtain ⟨b, hbj⟩ := hc j hjL
                have e0 := cell_of hb j
                have ef := frozen_of hb j
                rw [hbj] at e0
                have HS3 := Lib.hid S
                have Hb := Lib.hid hb
                have Hc := Lib.hid hc
                clear hb hc hbj S hI
                go_wp2
                go_roundg (L - (j + 1))
                case measure => omega
                case rel =>
                  refine ⟨j + 1, by omega, by go_num, HS3.out.fr0 (Fr.setCell (Fr.refl [g] _) (by simp) _) (fun x hx h => ?_) (fun x hx h => ?_) (fun x hx => ?_), .inr ⟨g, _, rfl, hg, setCell_of Hb.out _, fun j' hj' => ?_⟩⟩
                  · simp at h; subst h
                    have := HS.out.ltG _ hx
                    rw [← HB0.out] at this; omega
                  · simp at h; subst h
                    have := HS.out.ltK _ hx
                    rw [← HB0.out] at this; omega
                  · simp at hx; subst hx
                    have := HS.out.fr.size
                    rw [← HB0.out] at this; omega
                  · obtain ⟨b', hb'⟩ := Hc.out j' hj'
                    rw [Array.getElem?_setIfInBounds]
                    split
                    · rename_i h
                      subst h
                      have := (Array.getElem?_eq_some_iff.1 hb').1
                      rw [if_pos this]
                      exact ⟨_, rfl⟩
                    · exact ⟨b', hb'⟩
              · have HS3 := Lib.hid S
                clear S hI
                go_wp2
                all_goals go_meet
                all_goals exact ⟨rfl, _, HS3.out⟩
          · have hk0' : (k == 0) = false := by simpa using hk0
            have hk1' : (k == 1) = false := by simpa using hk1
            clear hk0 hk1
            go_upto_region 11 with fail
            go_cut [] (fun wz => Rd wz r G bs ((a + 7) / 8 * 8) ∧ Fr [r] wc wz)
            case first =>
              go_wp2_with (go_at_call 17; refine (align_any r G bs a _ HS.out.rd).mono ?_; rintro e w' ⟨rfl, hR1, f1⟩)
              go_meet
              exact ⟨hR1, f1⟩
            case rest =>
            obtain ⟨hR1, f1⟩ := hcut
            have hf1 : Rf wc q K bs a := rd_fr HS.out.rf f1 (fun x hx => by simp; rintro rfl; exact HS.out.apart _ (rdT_mem HS.out.rd) hx)
            clear c0 c1
            go_wp2_with (go_at_call 18; refine (ralign_any q K bs a _ hf1).mono ?_; rintro e w' ⟨rfl, hR2, f2⟩)
            go_meet
            exact ⟨rfl, _, HS.out.both hR1 f1 hR2 f2⟩
      case rest =>
      clear c0 c1
      obtain ⟨rfl, a', S⟩ := hcut
      have HS2 := Lib.hid S
      clear S
      go_wp2_with (first | (go_at_call 11; refine (used_any r G bs a' _ HS2.out.rd).mono ?_; rintro e w' ⟨rfl, rfl⟩) | (go_at_call 19; refine (rused_any q K bs a' _ HS2.out.rf).mono ?_; rintro e w' ⟨rfl, rfl⟩))
      go_roundg (min lens 60 - (i + 1))
      case measure => omega
      case rel => exact ⟨i + 1, a', by omega, by go_num, HS2.out⟩
    · have HS2 := Lib.hid S
      clear S
      by_cases hi1 : i < lens
      · obtain rfl : i = 60 := by omega
        go_wp2
        go_ret
        exact ⟨rfl, below_of_fr HS2.out.fr⟩
      · go_wp2
        go_ret
        exact ⟨rfl, below_of_fr HS2.out.fr⟩

/-- From the arguments as they are read to the walk. -/
theorem walk {H : Type} {enc : TypeId × Value → H} (W : World) {base : Nat} (v0 : Value) (d0 : DataW H) (p0 : List MemPlace) (v1 : Value) (d1 : DataW H) (p1 : List MemPlace)
    (o0 : Value.okWide Try.prog W .any base 24 v0) (h0 : DataW.Trod enc Try.prog W 0 (fun _ => true) true 24 v0 d0 p0)
    (o1 : Value.okWide Try.prog W .any base 40 v1) (h1 : DataW.Trod enc Try.prog W 0 (fun _ => true) true 40 v1 d1 p1)
    (hz : (DataW.weightsEach Try.prog [24, 40] [d0, d1]).all (· ≤ reachBytes) = true) :
    Calls Try.prog 5 #[v0, v1] W fun e W' => e = .returned (.bool true) ∧ Below W.heap.size W W' := by
  obtain ⟨ab, lenb, capb, rfl⟩ := okWide_slice Try.underlying24 o0
  obtain ⟨as_, lens, caps, rfl⟩ := okWide_slice Try.underlying40 o1
  obtain ⟨bs, B⟩ := bytes_arg Try.underlying24 Try.underlying5 cellsU8 bytesU8 h0 (light_each hz (j := 0) rfl rfl)
  exact walk_in W ab as_ lenb capb lens caps bs B (ops_arg h1 (light_each hz (j := 1) rfl rfl))

/-! ### The row -/
theorem own : ownKnob Try.prog.godebug = none := by kernel_rfl
theorem laidOut : laidOutB Try.prog = true := by kernel_rfl
set_option maxRecDepth 100000 in
theorem lifted (os : Os) (started : os.Started) (H : Type) (enc : TypeId × Value → H) :
    ReturnsInHanded {} Try.checked os 5 .any (Rows.bitsReadsSpec.pre6 enc Try.prog Try.f5 Rows.bitsReadsRow.domain false) (Rows.bitsReadsSpec.post enc Try.prog Try.f5 false true false false) := by
  refine returnsInHanded_of_change_sized (C := Try.checked) own started (by kernel_rfl) Try.func5
    (ChangeSpec.witness6 (enc := enc) (C := Try.checked) false ⟨#[], #[.slice none 0 0, .slice none 0 0], []⟩ 8 (by kernel_rfl) (by kernel_rfl) (by kernel_rfl) (by kernel_rfl)) ?_
  intro W base args ds gs before hval hW _ hsz _
  have hW' := hW
  obtain ⟨p, q, hA0, hV, rfl, hfz, hnd⟩ := hW'
  have hA : DataW.TrodAll enc Try.prog W 0 (fun _ => true) true Try.f5.params.toList args.toList ds p := hA0
  rw [Try.params5] at hA hval
  obtain ⟨v0, vs0, d0, ds0, p0, q0, hargs, rfl, rfl, h0, r0⟩ := trodAll_cons hA
  obtain ⟨v1, vs1, d1, ds1, p1, q1, rfl, rfl, rfl, h1, r1⟩ := trodAll_cons r0
  obtain ⟨rfl, rfl, rfl⟩ := trodAll_nil r1
  obtain rfl : args = #[v0, v1] := by cases args; simp_all
  obtain ⟨rfl, rfl⟩ := trodVars_none hV
  have hz : (DataW.weightsEach Try.prog [24, 40] [d0, d1]).all (· ≤ reachBytes) = true := hsz
  refine law_of_calls (s := Rows.bitsReadsSpec) laidOut (by kernel_rfl) rfl rfl Try.underlying4 hW (fun gs _ h2 => by subst h2; rfl) ?_
  exact walk W v0 d0 p0 v1 d1 p1 (hval 0 24 v0 rfl rfl) (h0) (hval 1 40 v1 rfl rfl) (h1) hz

theorem over : Rows.bitsReadsRow.holds Try.pinned (OpenSpec.ofChange Rows.bitsReadsSpec) :=
  OpenClaim.holds_of_wide 5 Try.f5 rfl rfl rfl rfl rfl rfl rfl ⟨rfl, rfl, rfl, rfl, rfl⟩ rfl rfl rfl rfl rfl (by kernel_rfl) Try.func5 (by kernel_rfl)
    (of_decide_eq_true (by kernel_rfl)) (by unfold Func.isWrapper; first | (rw [if_pos (by decide +kernel)]; kernel_rfl) | (rw [if_neg (by decide +kernel)]; exact ⟨rfl, rfl⟩))
    (fun os started H enc _ => lifted os started H enc)

theorem proved : Rows.BitsReadsSaid := over

end Go.Proofs.Ytcfhebhbgllphaa.bitsReads
