/-
  Proved: stemmalaw2.NetCounts returns true and leaves its arguments as they were, for every input. Conditions: none.
-/
import Derived.Test.YtmoiahgbenaihaaNetCountsLaw
import Derived.Test.YtmoiahgbenaihaaArgs
import Derived.Test.YtmoiahgbenaihaaBitsOps
import Derived.OwnWalk
namespace Go.Proofs.Ytmoiahgbenaihaa.netCounts
open Go Go.RowKit Go.ChangeShapes Go.WideShapes Go.Proofs.Ytmoiahgbenaihaa.lib Go.Proofs.Ytmoiahgbenaihaa.bm Go.Proofs.Ytmoiahgbenaihaa.net

theorem sliceInt : SliceTy Try.prog 22 3 (.int .i64 0) 1 8 := SliceTy.of Try.underlying22 (by kernel_rfl) rfl (by decide)
theorem cs_two (w : World) (x y : Nat) (hx : x < 256) (hy : y < 256) : Cs (w.alloc (.cells #[.int .u8 x, .int .u8 y] 5)) (some ⟨w.heap.size, 0, none⟩) ([UInt8.ofNat x, UInt8.ofNat y].map bv) :=
  .inr ⟨w.heap.size, 0, rfl, fun j u hj => by
    have e : ∀ z : Nat, z < 256 → bv (UInt8.ofNat z) = .int .u8 z := fun z hz => by
      unfold bv
      rw [UInt8.toNat_ofNat']
      exact int_eq (by omega)
    simp only [List.map_cons, List.map_nil, e x hx, e y hy] at hj
    rw [cell_of (alloc_at w _)]
    simpa using hj⟩
theorem bv_nat (z : Nat) (h : z < 256) : bv (UInt8.ofNat z) = .int .u8 z := by
  unfold bv
  rw [UInt8.toNat_ofNat']
  exact int_eq (by omega)
/-- What the sending of number i leaves. -/
def SentOne (w wr wz : World) (p : Nat) (F : List Nat) (l : List Gr) (i n : Nat) : Prop :=
  ∃ F' g, Nt wz p F' 64 200 0 (l ++ [g]) ∧ Fr F wr wz ∧ (∀ x ∈ F', x ∈ F ∨ wr.heap.size ≤ x) ∧ g.src = (i : Int) ∧ Good n g

set_option maxRecDepth 100000 in
set_option maxHeartbeats 2000000 in
theorem walk_in (w : World) (n0 : Int) (a1 a2 : Option Addr) (len1 cap1 len2 cap2 : Nat) (xs ys : List Int) (A1 : IntsArg .i64 w a1 len1 cap1 xs) (A2 : IntsArg .i64 w a2 len2 cap2 ys) :
    Calls Try.prog 5 #[.int .i64 n0, .slice a1 len1 cap1, .slice a2 len2 cap2] w fun e w' => e = .returned (.bool true) ∧ Below w.heap.size w w' := by
  have hm1 : len1 ≤ 9223372036854775807 := by have := A1.le; have := A1.max; unfold maxLen at *; omega
  have hm2 : len2 ≤ 9223372036854775807 := by have := A2.le; have := A2.max; unfold maxLen at *; omega
  obtain ⟨n, en, hn⟩ : ∃ n : Nat, bits .and .i64 n0 31 = n ∧ n ≤ 31 := ⟨(n0 % 32).toNat, by rw [and31]; omega, by omega⟩
  obtain ⟨iu, hiu⟩ := sliceInt.info
  have IU := Lib.hid hiu
  clear hiu
  go_enter Try.func5, Try.ntmps5
  go_upto_region 1 with fail
  go_cut [0] (fun s0 wc => s0 = .int .i64 n ∧ w = wc)
  case first =>
    go_wp2
    go_meet
    exact ⟨by rfl, rfl⟩
  case rest =>
  obtain ⟨rfl, rfl⟩ := hcut
  clear en
  go_upto_region 2 with fail
  go_cut [7, 8] (fun s7 s8 wc => s8 = .int .i64 0 ∧ ∃ p F, s7 = .pointer (some ⟨p, 0, none⟩) ∧ New w wc p F 64 200 0 [])
  case first =>
    go_wp2_with (go_at_call 6; refine (new_good 64 200 _ (by omega) (by omega) (by omega) (by omega)).mono ?_; rintro e w1 ⟨p, rfl, h1, fr1, hp⟩)
    go_meet
    exact ⟨rfl, p, _, rfl, h1, fr1, fun x hx => by simp at hx; omega⟩
  case rest =>
  obtain ⟨rfl, p, F, rfl, h⟩ := hcut
  go_upto_region 5 with fail
  go_cut [9] (fun s9 wz => ∃ c, s9 = .slice (some ⟨c, 0, none⟩) 32 32 ∧ Co w wz p F c n [])
  case first =>
    have H := Lib.hid h
    clear h
    go_wp2_with (refine wpList_make_full _ rfl _ _ _ rfl 0 3 iu (.int .i64 0) 1 Try.underlying22 IU.out.1 IU.out.2.1 IU.out.2.2.1 .i64 .i64 32 32 32 rfl rfl rfl rfl (by rw [IU.out.2.2.2]; decide) (by decide) (Nat.zero_le _) ?_; intro w1 own1 gr1)
    go_meet
    have f1 : Fr [] wc w1 := (Fr.refl [] wc).grown gr1 (by simp)
    rw [← row_nil] at own1
    exact ⟨wc.heap.size, rfl, H.out.fr f1 (by simp) (by simp), own1, H.out.2.1.size, fun hx => by have := nt_lt H.out.1 _ hx; omega, by simp⟩
  case rest =>
  clear h
  obtain ⟨c, rfl, h⟩ := hcut
  have H := Lib.hid h
  clear h
  go_upto_block 0 with fail
  go_cut [] (fun wz => ∃ F l, l.length = n ∧ Co w wz p F c n l)
  case first =>
    go_wp2
    go_loopg [10] n (fun k s10 wr => ∃ i, i + k = n ∧ s10 = .int .i64 i ∧ ∃ F l, l.length = i ∧ Co w wr p F c n l)
    case atStart => exact ⟨0, by omega, rfl, F, [], rfl, H.out⟩
    case round =>
      obtain ⟨i, hik, rfl, F, l, hl, h⟩ := hrel
      have Hr := Lib.hid h
      have hnt := nt_fr h.net.1 ((Fr.refl [] wr).alloc (.cells #[.int .u8 i, .int .u8 (3 * (i : Int))] 5)) (by simp)
      clear h
      by_cases hin : i < n
      · have hcs := cs_two wr i (3 * i) (by omega) (by omega)
        rw [show ((3 * i : Nat) : Int) = 3 * (i : Int) from by omega] at hcs
        have w1 : (i : Int) % 256 = i := by omega
        have w2 : (3 * (i : Int)) % 256 = 3 * (i : Int) := by omega
        go_upto_region 9 with fail
        go_cut [53] (fun s53 wz => s53 = .bool false ∧ SentOne w wr wz p F l i n)
        case first =>
          go_wp2_with (go_at_call 8; refine (send_good p F 64 200 0 l i (i + 1) (some ⟨wr.heap.size, 0, none⟩) 2 [UInt8.ofNat i, UInt8.ofNat (3 * i)] _ hnt (by omega) (by omega) (by simp) (by omega) hcs (by simp) (by simp)).mono ?_; rintro e w1 ⟨rfl, F1, a, c1, h1, fr1, hF1⟩)
          go_meet
          have hsz : (wr.alloc (.cells #[.int .u8 i, .int .u8 (3 * (i : Int))] 5)).heap.size = wr.heap.size + 1 := World.size_alloc _ _
          refine ⟨rfl, F1, _, h1, (((Fr.refl [] wr).alloc _).mono (by simp)).trans fr1, fun x hx => ?_, rfl, i, by omega, rfl, rfl, rfl⟩
          rcases hF1 x hx with h | h
          · exact .inl h
          · right; omega
        case rest =>
        obtain ⟨rfl, F1, g, h1, fr1, hF1, hg, hgood⟩ := hcut
        have h := Hr.out
        have own1 := ownsRow_fr h.own fr1 (fun k hk => by simp [Value.ownBlock] at hk; subst hk; exact h.far)
        have cc := own1.cellAt i (by omega)
        rw [row_at l i (by omega)] at cc
        have zc := own1.frozenAt i
        have hcl := cnt_le l i
        have hturn := h.turn h1 fr1 hF1 i (.int .i64 ((cnt l i : Int) + 1)) (row_more l g i (by omega) hg) (fun y hy => by
          rcases List.mem_append.1 hy with hy | hy
          · exact h.good y hy
          · obtain rfl := List.mem_singleton.1 hy
            exact hgood)
        have HT := Lib.hid hturn
        clear hturn h own1 h1 fr1 hF1 hnt hcs w1 w2
        go_wp2
        go_roundg (n - (i + 1))
        case measure => omega
        case rel => exact ⟨i + 1, by omega, by go_num, F1, l ++ [g], by simp [hl], HT.out⟩
      · obtain rfl : i = n := by omega
        go_wp2
        go_meet
        exact ⟨F, l, hl, Hr.out⟩
  case rest =>
  clear H
  obtain ⟨F, l, hl, h⟩ := hcut
  have H := Lib.hid h
  clear h
  go_upto_block 2 with fail
  go_cut [] (fun wz => ∃ F l, l.length ≤ n + 20 ∧ Co w wz p F c n l)
  case first =>
    go_wp2
    go_loopg [11] (min len1 20) (fun k s11 wr => ∃ i, i + k = min len1 20 ∧ s11 = .int .i64 i ∧ ∃ F l, l.length = n + i ∧ Co w wr p F c n l)
    case atStart => exact ⟨0, by omega, rfl, F, l, by omega, H.out⟩
    case round =>
      clear H hl
      obtain ⟨i, hik, rfl, F, l, hl, h⟩ := hrel
      have Hr := Lib.hid h
      have hnt := h.net.1
      have hfr := h.net.2.1
      by_cases hin : i < min len1 20 ∧ 0 < n
      · have hi1 : i < len1 := by omega
        have hi2 : i < 20 := by omega
        have hn0 : 0 < n := hin.2
        obtain ⟨g, o, rfl, hc⟩ := A1.cs.at (by rw [List.length_map, A1.length]; omega)
        have cx := hc i (.int .i64 (xs.getD i 0)) (by simp [List.getD, A1.length, hi1])
        have cx := hfr.cell cx (by simp)
        obtain ⟨t, ht⟩ : ∃ t, t = xs.getD i 0 := ⟨_, rfl⟩
        rw [← ht] at cx
        obtain ⟨L, hL⟩ : ∃ L, l.length = L := ⟨_, rfl⟩
        have hLpos : 0 < L := by omega
        obtain ⟨k, hk, ek⟩ := place t L hLpos
        have hb1 : -(L : Int) < t.tmod L := by have := Int.lt_tmod_of_pos t (show (0 : Int) < L by omega); omega
        have hb2 : t.tmod L < (L : Int) := Int.tmod_lt_of_pos t (by omega)
        have hlen := len_any p F 64 200 0 l
        rw [hL] at hlen
        clear ht hc h
        go_upto_region 15 with fail
        go_cut [12] (fun s12 wz => s12 = .int .i64 k ∧ Fr [] wr wz)
        case first =>
          go_quiet (exact Calls.quiet_of_same (hlen _ (nt_fr hnt ((Fr.refl [] _).drewsN _) (by simp))))
          go_wp2
          go_meet
          exact ⟨by first | rfl | exact int_eq ek, (Fr.refl _ _).drewsN _⟩
        case rest =>
        obtain ⟨rfl, f15⟩ := hcut
        have h := Hr.out
        have hc1 : Co w wc p F c n l := ⟨h.net.fr f15 (by simp) (by simp), ownsRow_fr h.own f15 (by simp), h.new, h.far, h.good⟩
        have hk' : k < l.length := by omega
        have hat := at_good p F 64 200 0 l k wc hc1.net.1 hk'
        have hgood := hc1.good l[k] (List.getElem_mem hk')
        have H1 := Lib.hid hc1
        clear cx hc1 h Hr hlen hb1 hb2 ek hnt
        generalize hx : l[k] = x at hat hgood
        obtain ⟨j, hj, hsrc, hdst, hbs⟩ := hgood
        have Hx := Lib.hid hx
        clear hx
        go_upto_region 16 with fail
        go_cut [13, 16] (fun s13 s16 wz => s13 = .int .i64 j ∧ s16 = .bool true ∧ Co w wz p F c n l)
        case first =>
          go_wp2_with (go_at_call 17; refine hat.mono ?_; rintro e w1 ⟨ao, rfl, f1, b1, fr1⟩)
          go_meet
          have h := H1.out
          exact ⟨by first | rfl | exact int_eq hsrc, rfl, h.net.fr fr1 (by simp) (by simp), ownsRow_fr h.own fr1 (by simp), h.new, h.far, h.good⟩
        case rest =>
        clear H1 hat
        obtain ⟨rfl, rfl, h⟩ := hcut
        have htw := twice_good p F 64 200 0 l k wc h.net.1 hk' (by omega)
        rw [Hx.out] at htw
        have H2 := Lib.hid h
        have Hs := Lib.hid (And.intro hsrc (show Good n x from ⟨j, hj, hsrc, hdst, hbs⟩))
        clear h hsrc hdst hbs Hx
        have hjn : decide ((n : Int) ≤ j) = false := by simp; omega
        go_upto_region 17 with fail
        go_cut [111] (fun s111 wz => s111 = .bool false ∧ Doubled p F 64 200 0 l x wc (.returned (.bool true)) wz)
        case first =>
          go_wp2_with (go_at_call 15; refine htw.mono ?_; rintro e w1 ⟨rfl, hd⟩)
          go_meet
          exact ⟨by first | rfl | exact bool_eq (by simp; omega), rfl, hd⟩
        case rest =>
        obtain ⟨rfl, _, F1, h1, fr1, hF1⟩ := hcut
        have h := H2.out
        have own1 := ownsRow_fr h.own fr1 (fun k hk => by simp [Value.ownBlock] at hk; subst hk; exact h.far)
        have cc := own1.cellAt j (by omega)
        rw [row_at l j (by omega)] at cc
        have zc := own1.frozenAt j
        have hcl := cnt_le l j
        have hturn := h.turn h1 fr1 hF1 j (.int .i64 ((cnt l j : Int) + 1)) (row_more l x j (by omega) Hs.out.1) (fun y hy => by
          rcases List.mem_append.1 hy with hy | hy
          · exact h.good y hy
          · obtain rfl := List.mem_singleton.1 hy
            exact Hs.out.2)
        have HT := Lib.hid hturn
        clear hturn h own1 h1 fr1 hF1 htw
        go_wp2
        go_roundg (min len1 20 - (i + 1))
        case measure => omega
        case rel => exact ⟨i + 1, by omega, by go_num, F1, l ++ [x], by simp; omega, HT.out⟩
      · have hl3 : l.length ≤ n + 20 := by omega
        clear h hnt hfr hl
        by_cases hi1 : i < len1
        · by_cases hi2 : i < 20
          · obtain rfl : n = 0 := by omega
            clear hin
            go_wp2
            go_meet
            exact ⟨F, l, hl3, Hr.out⟩
          · obtain rfl : i = 20 := by omega
            clear hin
            go_wp2
            go_meet
            exact ⟨F, l, hl3, Hr.out⟩
        · clear hin
          go_wp2
          go_meet
          exact ⟨F, l, hl3, Hr.out⟩
  case rest =>
  clear H hl
  obtain ⟨F, l, hl, h⟩ := hcut
  have H := Lib.hid h
  clear h
  go_upto_block 4 with fail
  go_cut [] (fun wz => ∃ F, Co w wz p F c n [])
  case first =>
    go_wp2
    go_loopg [17] l.length (fun k s17 wr => ∃ (i : Nat) (F : List Nat) (l : List Gr), l.length = k ∧ i + k ≤ 60 ∧ s17 = .int .i64 i ∧ Co w wr p F c n l)
    case atStart => exact ⟨0, F, l, rfl, by omega, rfl, H.out⟩
    case round =>
      clear H hl
      obtain ⟨i, F, l, hl, hik, rfl, h⟩ := hrel
      have Hr := Lib.hid h
      have hnt := h.net.1
      have hfr := h.net.2.1
      clear h
      by_cases hpos : 0 < gk
      · obtain ⟨L, hL⟩ : ∃ L, l.length = L := ⟨_, rfl⟩
        have hLpos : 0 < L := by omega
        have hlen := len_any p F 64 200 0 l
        rw [hL] at hlen
        have HL := Lib.hid hL
        have Hl := Lib.hid hl
        clear hL hl
        go_upto_region 23 with (go_at_call 7; refine (hlen _ hnt).mono ?_; rintro e w9 ⟨rfl, hw⟩; obtain rfl : wr = w9 := hw.symm)
        go_upto_if 126 with fail
        go_cut [18] (fun s18 wz => ∃ k : Nat, s18 = .int .i64 k ∧ k < L ∧ Fr [] wr wz)
        case first =>
          by_cases hi2 : i < len2
          · obtain ⟨g, o, rfl, hc⟩ := A2.cs.at (by rw [List.length_map, A2.length]; omega)
            have cx := hc i (.int .i64 (ys.getD i 0)) (by simp [List.getD, A2.length, hi2])
            have cx := hfr.cell cx (by simp)
            obtain ⟨t, ht⟩ : ∃ t, t = ys.getD i 0 := ⟨_, rfl⟩
            rw [← ht] at cx
            obtain ⟨k, hk, ek⟩ := place t L hLpos
            have hb1 : -(L : Int) < t.tmod L := by have := Int.lt_tmod_of_pos t (show (0 : Int) < L by omega); omega
            have hb2 : t.tmod L < (L : Int) := Int.tmod_lt_of_pos t (by omega)
            have hLm : L ≤ 60 := by have := Hl.out; have := HL.out; omega
            clear ht hc
            go_upto_region 25 with fail
            go_quiet (exact Calls.quiet_of_same (hlen _ (nt_fr hnt ((Fr.refl [] _).drewsN _) (by simp))))
            go_wp2
            go_meet
            exact ⟨k, by first | rfl | exact int_eq ek, hk, (Fr.refl _ _).drewsN _⟩
          · go_wp2
            go_meet
            exact ⟨0, by first | rfl | exact int_eq rfl, hLpos, Fr.refl _ _⟩
        case rest =>
        obtain ⟨k, rfl, hkL, f25⟩ := hcut
        have h := Hr.out
        have hc1 : Co w wc p F c n l := ⟨h.net.fr f25 (by simp) (by simp), ownsRow_fr h.own f25 (by simp), h.new, h.far, h.good⟩
        have hk' : k < l.length := by rw [HL.out]; exact hkL
        have htk := take_good p F 64 200 0 l k wc hc1.net.1 hk'
        have hgood := hc1.good l[k] (List.getElem_mem hk')
        have H1 := Lib.hid hc1
        clear hc1 h Hr hlen hnt hfr
        generalize hx : l[k] = x at htk hgood
        obtain ⟨j, hj, hsrc, hdst, hbs⟩ := hgood
        have Hx := Lib.hid hx
        have Hs := Lib.hid hsrc
        clear hx
        have hbl : x.bs.length = 2 := by rw [hbs]; rfl
        go_upto_region 26 with fail
        go_cut [19, 20, 21, 22] (fun s19 s20 s21 s22 wz => s19 = .int .i64 j ∧ s20 = .int .i64 ((j : Int) + 1) ∧ s22 = .bool true ∧ ∃ F' b o, s21 = .slice (some ⟨b, o, none⟩) 2 2 ∧ wz.cell? ⟨b, o, none⟩ = some (.int .u8 j) ∧ wz.cell? ⟨b, o + 1, none⟩ = some (.int .u8 (3 * (j : Int))) ∧ Nt wz p F' 64 200 0 (l.eraseIdx k) ∧ Fr F wc wz ∧ ∀ x ∈ F', x ∈ F)
        case first =>
          go_wp2_with (go_at_call 9; refine htk.mono ?_; rintro e w1 ⟨ao, F1, rfl, fr0, b1, n1, f1, hF1⟩)
          go_meet
          have cs := fr0.cs
          rw [hbs] at cs
          obtain ⟨g, o, rfl, hc⟩ := cs.at (by simp)
          refine ⟨by first | rfl | exact int_eq hsrc, by first | rfl | exact int_eq hdst, rfl, F1, g, o, by first | rfl | (rw [hbl]), ?_, ?_, n1, f1, hF1⟩
          · have := hc 0 (bv (UInt8.ofNat j)) rfl
            rw [Nat.add_zero] at this
            rw [this, bv_nat j (by omega)]
          · have := hc 1 (bv (UInt8.ofNat (3 * j))) rfl
            rw [this, bv_nat (3 * j) (by omega)]
            exact congrArg some (int_eq (by omega))
        case rest =>
        obtain ⟨rfl, rfl, rfl, F1, b, o, rfl, c0, c1, n1, f1, hF1⟩ := hcut
        have h := H1.out
        have hee : l[k].src = j := by rw [Hx.out]; exact Hs.out
        have own1 := ownsRow_fr h.own f1 (fun k hk => by simp [Value.ownBlock] at hk; subst hk; exact h.far)
        have cc := own1.cellAt j (by omega)
        rw [row_at l j (by omega)] at cc
        have zc := own1.frozenAt j
        have hcl := cnt_le l j
        have hturn := h.turn n1 f1 (fun x hx => .inl (hF1 x hx)) j (.int .i64 ((cnt l j : Int) - 1)) (row_less l k hk' j (by omega) hee) (fun y hy => h.good y (List.mem_of_mem_eraseIdx hy))
        have HT := Lib.hid hturn
        have hll : l.length ≤ 60 := by have := Hl.out; omega
        have w1 : (j : Int) % 256 = j := by omega
        have w2 : (3 * (j : Int)) % 256 = 3 * (j : Int) := by omega
        have w3 : decide ((n : Int) ≤ j) = false := by simp; omega
        have hlast : (l.eraseIdx k).length = gk - 1 := by rw [List.length_eraseIdx, if_pos hk', Hl.out]
        clear hturn h own1 n1 f1 hF1 htk H1 hsrc hdst hbs hee
        go_wp2
        go_roundg (gk - 1)
        case measure => omega
        case rel => exact ⟨i + 1, F1, l.eraseIdx k, hlast, by omega, by go_num, HT.out⟩
      · obtain rfl : gk = 0 := by omega
        obtain rfl : l = [] := List.eq_nil_of_length_eq_zero hl
        clear hl hfr
        go_wp2_with (go_at_call 7; refine (len_any p F 64 200 0 [] _ hnt).mono ?_; rintro e w1 ⟨rfl, rfl⟩)
        go_meet
        exact ⟨F, Hr.out⟩
  case rest =>
  clear H hl
  obtain ⟨F, h⟩ := hcut
  have H := Lib.hid h
  clear h
  go_wp2
  go_loopg [23] 32 (fun k s23 wr => ∃ j, j + k = 32 ∧ s23 = .int .i64 j ∧ wc = wr)
  case atStart => exact ⟨0, by omega, rfl, rfl⟩
  case round =>
    obtain ⟨j, hj, rfl, rfl⟩ := hrel
    by_cases hj2 : j < 32
    · have cc := H.out.own.cellAt j (by omega)
      rw [row_at [] j hj2] at cc
      have cc : wc.cell? ⟨c, j, none⟩ = some (.int .i64 0) := cc
      go_wp2
      go_roundg (32 - (j + 1))
      case measure => omega
      case rel => exact ⟨j + 1, by omega, by go_num, rfl⟩
    · obtain rfl : j = 32 := by omega
      go_wp2_with (go_at_call 11; refine (awake_any _).mono ?_; rintro e w' ⟨rfl, f7⟩)
      go_ret
      exact ⟨rfl, below_of_fr (H.out.net.2.1.trans f7)⟩
/-- From the arguments as they are read to the walk. -/
theorem walk {H : Type} {enc : TypeId × Value → H} (W : World) {base : Nat} (v0 : Value) (d0 : DataW H) (p0 : List MemPlace) (v1 : Value) (d1 : DataW H) (p1 : List MemPlace) (v2 : Value) (d2 : DataW H) (p2 : List MemPlace)
    (o0 : Value.okWide Try.prog W .any base 3 v0) (h0 : DataW.Trod enc Try.prog W 0 (fun _ => true) true 3 v0 d0 p0)
    (o1 : Value.okWide Try.prog W .any base 22 v1) (h1 : DataW.Trod enc Try.prog W 0 (fun _ => true) true 22 v1 d1 p1)
    (o2 : Value.okWide Try.prog W .any base 22 v2) (h2 : DataW.Trod enc Try.prog W 0 (fun _ => true) true 22 v2 d2 p2)
    (hz : (DataW.weightsEach Try.prog [3, 22, 22] [d0, d1, d2]).all (· ≤ reachBytes) = true) :
    Calls Try.prog 5 #[v0, v1, v2] W fun e W' => e = .returned (.bool true) ∧ Below W.heap.size W W' := by
  obtain ⟨x0, rfl, rfl, rfl, wx0⟩ := open_int Try.underlying3 o0 h0
  obtain ⟨a1, len1, cap1, rfl⟩ := okWide_slice Try.underlying22 o1
  obtain ⟨xs1, sp1, A1, hsp1, hd1⟩ := ints_arg Try.underlying22 Try.underlying3 (by kernel_rfl) h1
  obtain ⟨a2, len2, cap2, rfl⟩ := okWide_slice Try.underlying22 o2
  obtain ⟨xs2, sp2, A2, hsp2, hd2⟩ := ints_arg Try.underlying22 Try.underlying3 (by kernel_rfl) h2
  exact walk_in W x0 a1 a2 len1 cap1 len2 cap2 xs1 xs2 A1 A2

/-! ### The row -/
theorem own : ownKnob Try.prog.godebug = none := by kernel_rfl
theorem laidOut : laidOutB Try.prog = true := by kernel_rfl
set_option maxRecDepth 100000 in
theorem lifted (os : Os) (started : os.Started) (H : Type) (enc : TypeId × Value → H) :
    ReturnsInHanded {} Try.checked os 5 .any (Rows.netCountsSpec.pre6 enc Try.prog Try.f5 Rows.netCountsRow.domain false) (Rows.netCountsSpec.post enc Try.prog Try.f5 false true false false) := by
  refine returnsInHanded_of_change_sized (C := Try.checked) own started (by kernel_rfl) Try.func5
    (ChangeSpec.witness6 (enc := enc) (C := Try.checked) false ⟨#[], #[.int .i64 0, .slice none 0 0, .slice none 0 0], []⟩ 8 (by kernel_rfl) (by kernel_rfl) (by kernel_rfl) (by kernel_rfl)) ?_
  intro W base args ds gs before hval hW _ hsz _
  have hW' := hW
  obtain ⟨p, q, hA0, hV, rfl, hfz, hnd⟩ := hW'
  have hA : DataW.TrodAll enc Try.prog W 0 (fun _ => true) true Try.f5.params.toList args.toList ds p := hA0
  rw [Try.params5] at hA hval
  obtain ⟨v0, vs0, d0, ds0, p0, q0, hargs, rfl, rfl, h0, r0⟩ := trodAll_cons hA
  obtain ⟨v1, vs1, d1, ds1, p1, q1, rfl, rfl, rfl, h1, r1⟩ := trodAll_cons r0
  obtain ⟨v2, vs2, d2, ds2, p2, q2, rfl, rfl, rfl, h2, r2⟩ := trodAll_cons r1
  obtain ⟨rfl, rfl, rfl⟩ := trodAll_nil r2
  obtain rfl : args = #[v0, v1, v2] := by cases args; simp_all
  obtain ⟨rfl, rfl⟩ := trodVars_none hV
  have hz : (DataW.weightsEach Try.prog [3, 22, 22] [d0, d1, d2]).all (· ≤ reachBytes) = true := hsz
  refine law_of_calls (s := Rows.netCountsSpec) laidOut (by kernel_rfl) rfl rfl Try.underlying4 hW (fun gs _ h2 => by subst h2; rfl) ?_
  exact walk W v0 d0 p0 v1 d1 p1 v2 d2 p2 (hval 0 3 v0 rfl rfl) (h0) (hval 1 22 v1 rfl rfl) (h1) (hval 2 22 v2 rfl rfl) (h2) hz

theorem over : Rows.netCountsRow.holds Try.pinned (OpenSpec.ofChange Rows.netCountsSpec) :=
  OpenClaim.holds_of_wide 5 Try.f5 rfl rfl rfl rfl rfl rfl rfl ⟨rfl, rfl, rfl, rfl, rfl⟩ rfl rfl rfl rfl rfl (by kernel_rfl) Try.func5 (by kernel_rfl)
    (of_decide_eq_true (by kernel_rfl)) (by unfold Func.isWrapper; first | (rw [if_pos (by decide +kernel)]; kernel_rfl) | (rw [if_neg (by decide +kernel)]; exact ⟨rfl, rfl⟩))
    (fun os started H enc _ => lifted os started H enc)

theorem proved : Rows.NetCountsSaid := over
end Go.Proofs.Ytmoiahgbenaihaa.netCounts
