/-
  Whatever two ints come in, stemmalaw10.DeltaCopies answers true and changes nothing: a copy's place and length may be of any bytes, and a length of nought is 65,536.
-/
import Derived.Test.YtoplgcikcanagaaDeltaSmall
import Derived.OwnWalk
import Derived.Laws.OwnMore
namespace Go.Proofs.Ytoplgcikcanagaa.deltaCopies
open Go Go.RowKit Go.ChangeShapes Go.WideShapes Go.Proofs.Ytoplgcikcanagaa.lib Go.Proofs.Ytoplgcikcanagaa.bm Go.Proofs.Ytoplgcikcanagaa.delta

/-! ### The plain law -/
def six (p n : Nat) : List UInt8 := [183, UInt8.ofNat (p % 256), UInt8.ofNat (p / 256 % 256), UInt8.ofNat (p / 65536 % 256), UInt8.ofNat (n % 256), UInt8.ofNat (n / 256 % 256)]
theorem pl_six (p n : Nat) (hp : p < 131072) (hn : n < 65536) : pl 55 7 0 0 0 (six p n).tail = some (p, if n = 0 then 65536 else n, []) := by
  have b0 := u8_nat (n := p % 256) (by omega)
  have b1 := u8_nat (n := p / 256 % 256) (by omega)
  have b2 := u8_nat (n := p / 65536 % 256) (by omega)
  have b3 := u8_nat (n := n % 256) (by omega)
  have b4 := u8_nat (n := n / 256 % 256) (by omega)
  show pl 55 7 0 0 0 [_, _, _, _, _] = _
  rw [pl_cons (by decide), if_pos (by decide), pl_cons (by decide), if_pos (by decide), pl_cons (by decide), if_pos (by decide), pl_skip (by decide), pl_cons (by decide), if_neg (by decide), pl_cons (by decide), if_neg (by decide), pl_skip (by decide), pl, b0, b1, b2, b3, b4]
  have e1 : 0 + p % 256 * 256 ^ 0 + p / 256 % 256 * 256 ^ (0 + 1) + p / 65536 % 256 * 256 ^ (0 + 1 + 1) = p := by
    simp only [show 256 ^ 0 = 1 from rfl, show 256 ^ (0 + 1) = 256 from rfl, show 256 ^ (0 + 1 + 1) = 65536 from rfl]
    omega
  have e2 : 0 + n % 256 * 256 ^ (0 + 1 + 1 + 1 + 1 - 4) + n / 256 % 256 * 256 ^ (0 + 1 + 1 + 1 + 1 + 1 - 4) = n := by
    simp only [show 256 ^ (0 + 1 + 1 + 1 + 1 - 4) = 1 from rfl, show 256 ^ (0 + 1 + 1 + 1 + 1 + 1 - 4) = 256 from rfl]
    omega
  rw [e1, e2]
/-- What comes of the delta. -/
theorem apply_six (base : List UInt8) (hb : base.length = 70000) (p n s : Nat) (hp : p < 131072) (hn : n < 65536) (hs : s = if n = 0 then 65536 else n) (bound : Int) :
    delta.apply base (numb 70000 ++ (numb s ++ six p n)) bound = if bound.toNat < s then ([], 5) else if 70000 < p ∨ 70000 - p < s then ([], 3) else ((base.drop p).take s, 0) := by
  have hs2 : s ≤ 65536 := by rw [hs]; split <;> omega
  have hpl := pl_six p n hp hn
  rw [← hs] at hpl
  have hz := sizes_numb 70000 s (by decide) (by omega) (six p n)
  unfold delta.apply
  rw [hz]
  simp only [ne_eq, not_true_eq_false, if_false, hb]
  by_cases h1 : bound.toNat < s
  · rw [if_pos h1, if_pos h1]
  · rw [if_neg h1, if_neg h1]
    have e : six p n = 183 :: (six p n).tail := rfl
    show app base s (5 + 1) (six p n) [] = _
    rw [e, app_cons, if_pos (by decide)]
    rw [show (183 : UInt8).toNat - 128 = 55 from by decide, hpl]
    simp only [List.nil_append, List.length_nil, Nat.sub_zero, hb]
    by_cases h2 : 70000 < p ∨ 70000 - p < s
    · rw [if_pos (by omega), if_pos h2]
    · rw [if_neg (by omega), if_neg h2, app_nil, if_neg (by rw [List.length_take, List.length_drop, hb]; omega)]

/-! ### A row that is made and filled -/
theorem made_zero (n : Nat) : (madeCells (Value.int .u8 0).cells (n * 1)).toList = (List.replicate n (0 : UInt8)).map bv := by
  have e : (Value.int .u8 0).cells = #[.int .u8 0] := rfl
  rw [e, toList_madeCells_one, Nat.mul_one, List.map_replicate]
  rfl
theorem blk_full {w : World} {e : TypeId} {g n : Nat} {xs : List Value} (h : w.ownsRow 0 e 1 (.slice (some ⟨g, 0, none⟩) n n) n xs) : ∃ cur, w.heap[g]? = some (.cells cur e (0, 0)) ∧ cur.toList = xs := by
  rcases h.2 with ⟨h1, h2⟩ | ⟨g', cap, cur, h1, hb, hg, hn, hm, hs, ht⟩
  · cases h1
  · simp only [Value.slice.injEq, Option.some.injEq, Addr.mk.injEq] at h1
    obtain ⟨⟨rfl, _⟩, _, rfl⟩ := h1
    refine ⟨cur, hg, ?_⟩
    rw [← ht, List.take_of_length_le (by simp; omega)]
/-- The base, as far as it is filled: any bytes. -/
def Filled (w wr : World) (g : Nat) (bs : List UInt8) : Prop := bs.length = 70000 ∧ (∃ cur, wr.heap[g]? = some (.cells cur 5 (0, 0)) ∧ cur.toList = bs.map bv) ∧ Fr [] w wr
theorem Filled.set {w wr : World} {g : Nat} {bs : List UInt8} (h : Filled w wr g bs) (hg : w.heap.size ≤ g) (i : Nat) (v : Int) : ∃ bs', Filled w (wr.setCell ⟨g, i, none⟩ (.int .u8 (v % 256))) g bs' := by
  obtain ⟨h1, ⟨cur, h2, h3⟩, h4⟩ := h
  refine ⟨bs.set i (UInt8.ofNat (v % 256).toNat), by rw [List.length_set, h1], ⟨_, setCell_of h2 _, ?_⟩, h4.step ((Fr.refl [g] wr).setCell (by simp) _) fun x hx => .inr (by simp at hx; omega)⟩
  rw [Array.toList_setIfInBounds, h3, List.map_set]
  congr 1
  unfold bv
  rw [u8_nat (by omega)]
  exact int_eq (by omega)
theorem Filled.rd {w wr : World} {g : Nat} {bs : List UInt8} (h : Filled w wr g bs) : Rd wr (some ⟨g, 0, none⟩) 70000 bs := by
  obtain ⟨h1, ⟨cur, h2, h3⟩, h4⟩ := h
  refine ⟨.inr ⟨g, 0, rfl, fun j v hv => ?_⟩, by omega, by decide, fun h => by cases h⟩
  rw [cell_of h2, Nat.zero_add, ← Array.getElem?_toList, h3]
  exact hv
theorem Filled.at {w wr : World} {g : Nat} {bs : List UInt8} (h : Filled w wr g bs) (i : Nat) (hi : i < 70000) : (∃ x, wr.cell? ⟨g, i, none⟩ = some x) ∧ wr.frozen? ⟨g, i, none⟩ = false := by
  obtain ⟨h1, ⟨cur, h2, h3⟩, h4⟩ := h
  refine ⟨⟨bv (bs[i]'(by omega)), ?_⟩, frozen_of h2 i⟩
  rw [cell_of h2, ← Array.getElem?_toList, h3]
  simp [show i < bs.length by omega]
theorem six_cells (p n : Nat) (hp : p < 131072) (hn : n < 65536) : (six p n).map bv = [.int .u8 183, .int .u8 ((p : Int) % 256), .int .u8 ((p : Int) / 256 % 256), .int .u8 ((p : Int) / 65536), .int .u8 ((n : Int) % 256), .int .u8 ((n : Int) / 256)] := by
  have b0 := u8_nat (n := p % 256) (by omega)
  have b1 := u8_nat (n := p / 256 % 256) (by omega)
  have b2 := u8_nat (n := p / 65536 % 256) (by omega)
  have b3 := u8_nat (n := n % 256) (by omega)
  have b4 := u8_nat (n := n / 256 % 256) (by omega)
  unfold six
  simp only [List.map_cons, List.map_nil, bv, b0, b1, b2, b3, b4]
  rw [show ((p % 256 : Nat) : Int) = (p : Int) % 256 from by omega, show ((p / 256 % 256 : Nat) : Int) = (p : Int) / 256 % 256 from by omega, show ((p / 65536 % 256 : Nat) : Int) = (p : Int) / 65536 from by omega, show ((n % 256 : Nat) : Int) = (n : Int) % 256 from by omega, show ((n / 256 % 256 : Nat) : Int) = (n : Int) / 256 from by omega]
  rfl
set_option maxRecDepth 100000 in
set_option maxHeartbeats 8000000 in
theorem walk_in (W : World) (p n : Int) : Calls Try.prog 3 #[.int .i64 p, .int .i64 n] W fun e W' => e = .returned (.bool true) ∧ Below W.heap.size W W' := by
  obtain ⟨i0, hi0, hz0, hz1, hz2⟩ := info_parts (show (Try.prog.info? 5).map (fun i => (i.zero, i.size, i.bytes)) = some (some (.int .u8 0), 1, 1) from by kernel_rfl)
  have HI := Lib.hid (And.intro hi0 (And.intro hz0 (And.intro hz1 hz2)))
  obtain ⟨N, hN⟩ : ∃ N : Nat, N = 70000 := ⟨_, rfl⟩
  have hN2 : N ≤ 100000 := by omega
  have HN := Lib.hid hN
  clear hi0 hz0 hz1 hz2 hN
  go_enter Try.func3, Try.ntmps3
  go_upto_region 2 with (refine wpList_make_full W rfl _ _ 22 rfl 0 5 i0 (.int .u8 0) 1 Try.underlying22 HI.out.1 HI.out.2.1 HI.out.2.2.1 .i64 .i64 70000 70000 N rfl rfl (by rw [HN.out]; rfl) (by rw [HN.out]; rfl) (by rw [HI.out.2.2.2]; omega) (by unfold maxLen; omega) (Nat.zero_le _) ?_; intro w1 own1 grow1; have H1 := Lib.hid (And.intro own1 grow1); clear own1 grow1)
  go_upto_block 0 with fail
  generalize hg : W.heap.size = g at *
  have HG := Lib.hid hg
  clear hg
  go_cut [6, 16] from 17 to 28 (fun s6 s16 wz => ∃ bs, Filled W wz g bs)
  case first =>
    go_wp2
    go_loopg [6, 16] N (fun k s6 s16 wr => ∃ i, i + k = N ∧ s16 = .int .i64 (i : Nat) ∧ ∃ bs, Filled W wr g bs)
    case atStart =>
      obtain ⟨cur, hc1, hc2⟩ := blk_full H1.out.1
      refine ⟨0, by omega, rfl, List.replicate 70000 0, by rw [List.length_replicate], ⟨cur, hc1, ?_⟩, (Fr.refl [] W).grown H1.out.2 (by simp)⟩
      rw [hc2]
      rw [HN.out]
      exact made_zero 70000
    case round =>
      obtain ⟨i, hi, rfl, bs, hb⟩ := hrel
      have H := Lib.hid hb
      have HK := Lib.hid hi
      clear hb hi
      by_cases hlt : i < N
      · obtain ⟨⟨x, hc⟩, hf⟩ := H.out.at i (by have := HN.out; omega)
        have hset := H.out.set (by rw [HG.out]; exact Nat.le_refl _) i
        have HS := Lib.hid hset
        clear hset
        go_wp2
        go_roundg (N - (i + 1))
        case measure => have := HK.out; omega
        case rel => exact ⟨i + 1, by have := HK.out; omega, by go_num, HS.out _⟩
      · go_wp2
        go_meet
        exact ⟨bs, H.out⟩
  case rest =>
  obtain ⟨bs, hb⟩ := hcut
  have H := Lib.hid hb
  clear hb H1
  obtain ⟨pa, hpa⟩ : ∃ pa, pa = (p % 131072).toNat := ⟨_, rfl⟩
  obtain ⟨na, hna⟩ : ∃ na, na = (n % 65536).toNat := ⟨_, rfl⟩
  have hp : bits .and .i64 p 131071 = (pa : Int) := (i64_mask p 17 (by decide)).trans (by omega)
  have hn : bits .and .i64 n 65535 = (na : Int) := (i64_mask n 16 (by decide)).trans (by omega)
  have hp1 : pa < 131072 := by omega
  have hn1 : na < 65536 := by omega
  clear hpa hna
  obtain ⟨s, hs⟩ : ∃ s, s = if na = 0 then 65536 else na := ⟨_, rfl⟩
  have hs1 : 1 ≤ s ∧ s ≤ 65536 := by rw [hs]; split <;> omega
  have HSS := Lib.hid hs
  clear hs
  go_upto_region 8 with fail
  clear hp hn
  go_upto_if 34 with fail
  go_cut [7] from 32 to 35 (fun s7 wz => s7 = .int .i64 (s : Nat) ∧ wc = wz)
  case first =>
    by_cases hz : na = 0
    · have e := HSS.out
      rw [if_pos hz] at e
      subst hz
      go_wp2
      go_meet
      exact ⟨by rw [e]; rfl, rfl⟩
    · have e := HSS.out
      rw [if_neg hz] at e
      subst e
      have hb : ((s : Int) == 0) = false := by simp; omega
      clear HSS
      go_wp2
      go_meet
      exact ⟨rfl, rfl⟩
  case rest =>
  obtain ⟨rfl, rfl⟩ := hcut
  obtain ⟨b1, hb1⟩ : ∃ b, b = numb 70000 := ⟨_, rfl⟩
  obtain ⟨b2, hb2⟩ : ∃ b, b = numb s := ⟨_, rfl⟩
  have hN1 : ∀ w, Calls Try.prog 8 #[.int .i64 70000] w (NewBytes w b1) := fun w => by rw [hb1]; exact number_all 70000 w (by decide)
  have hN2' : ∀ w, Calls Try.prog 8 #[.int .i64 (s : Nat)] w (NewBytes w b2) := fun w => by
    have := number_all (s : Int) w (by omega)
    rw [Int.toNat_natCast, ← hb2] at this
    exact this
  unfold NewBytes at hN1 hN2'
  obtain ⟨L1, hL1⟩ : ∃ L, L = b1.length := ⟨_, rfl⟩
  obtain ⟨L2, hL2⟩ : ∃ L, L = b2.length := ⟨_, rfl⟩
  have hl1 := numb_le 8 70000 (by decide)
  have hl2 := numb_le 8 s (Nat.lt_of_le_of_lt hs1.2 (by decide))
  have hl3 := numb_pos s
  rw [← hb1, ← hL1] at hl1
  rw [← hb2, ← hL2] at hl2 hl3
  have HC := Lib.hid (And.intro hN1 (And.intro hN2' (And.intro (And.intro hb1 hb2) (And.intro hL1 hL2))))
  clear hN1 hN2' hb1 hb2 hL1 hL2
  have tok1 : True := trivial
  go_upto_region 12 with (first | (go_at_call 8; have _t := tok1; refine (HC.out.1 _).mono ?_; rintro e w1 ⟨a1, rfl, r1, _, f1⟩; rw [← HC.out.2.2.2.1] at r1 ⊢; have H1 := Lib.hid (And.intro r1 f1); clear r1 f1; clear tok1 _t) | (go_at_call 8; refine (HC.out.2.1 _).mono ?_; rintro e w2 ⟨a2, rfl, r2, _, f2⟩; rw [← HC.out.2.2.2.2] at r2 ⊢; have H2 := Lib.hid (And.intro r2 f2); clear r2 f2) | (refine wpList_append_full sliceU8 rfl _ _ rfl a1 L1 L1 (b1.map bv) rfl (H1.out.1.fr H2.out.2).cs (by rw [List.length_map, ← HC.out.2.2.2.1, Nat.mul_one]) (Nat.le_refl _) H1.out.1.nil a2 L2 L2 (b2.map bv) rfl H2.out.1.cs (by rw [List.length_map, ← HC.out.2.2.2.2, Nat.mul_one]) (by omega) (by omega) (by unfold maxLen; omega) ?_; intro c3 w3 A3; have H3 := Lib.hid A3; clear A3))
  have hg2 := (H1.out.2.trans H2.out.2).size
  generalize w2.heap.size = g2 at *
  obtain ⟨T, hT⟩ : ∃ T, T = [g2] := ⟨_, rfl⟩
  have fA : Fr [] w3 (w3.alloc (.cells #[.int .u8 183, .int .u8 ((pa : Int) % 256), .int .u8 ((pa : Int) / 256 % 256), .int .u8 ((pa : Int) / 65536), .int .u8 ((na : Int) % 256), .int .u8 ((na : Int) / 256)] 5)) := (Fr.refl [] w3).alloc _
  have ownA := ownsRow_fr H3.out.own fA (by simp)
  have cA : Cs (w3.alloc (.cells #[.int .u8 183, .int .u8 ((pa : Int) % 256), .int .u8 ((pa : Int) / 256 % 256), .int .u8 ((pa : Int) / 65536), .int .u8 ((na : Int) % 256), .int .u8 ((na : Int) / 256)] 5)) (some ⟨w3.heap.size, 0, none⟩) ((six pa na).map bv) := by
    rw [six_cells pa na hp1 hn1]
    exact .inr ⟨w3.heap.size, 0, rfl, fun j u hj => by rw [cell_of (alloc_at w3 _), Nat.zero_add]; simpa using hj⟩
  have HA := Lib.hid (And.intro ownA (And.intro cA (And.intro fA hT)))
  clear ownA cA fA hT
  go_upto_region 13 with (refine wpList_append sliceU8 rfl _ _ rfl (.slice (some ⟨g2, 0, none⟩) (L1 + L2) c3) (L1 + L2) (b1.map bv ++ b2.map bv) T rfl HA.out.2.2.2.symm HA.out.1 (some ⟨w3.heap.size, 0, none⟩) 6 6 ((six pa na).map bv) rfl (by decide) (by simp) HA.out.2.1 (by rfl) (bv_one _) (by omega) (by unfold maxLen; omega) ?_; intro a5 c5 w5 A5; have H5 := Lib.hid A5; clear A5)
  have F5 : Fr [] wc w5 := (((H1.out.2.trans H2.out.2).trans H3.out.fr).trans HA.out.2.2.1).step H5.out.fr (fun y hy => .inr (by rw [HA.out.2.2.2] at hy; simp at hy; omega))
  have hbl : bs.length = N := by rw [H.out.1, HN.out]
  have rb : Rd w5 (some ⟨g, 0, none⟩) N bs := by
    have := H.out.rd.fr F5
    rwa [← HN.out] at this
  have rdd : Rd w5 a5 c5 (b1 ++ (b2 ++ six pa na)) ∧ (b1 ++ (b2 ++ six pa na)).length = L1 + L2 + 6 := by
    have h := H5.out.own
    rw [← List.map_append, ← List.map_append, List.append_assoc] at h
    exact rd_of_owns h
  have hap : ∀ (bound : Int) (x : List UInt8 × Nat), delta.apply bs (b1 ++ (b2 ++ six pa na)) bound = x → ∀ w, Fr [] w5 w → Calls Try.prog 9 #[.slice (some ⟨g, 0, none⟩) N N, .slice a5 (L1 + L2 + 6) c5, .int .i64 bound] w fun e w' =>
      ∃ a, e = .returned (.tuple #[.slice a x.1.length x.1.length, .int .i64 x.2]) ∧ Rd w' a x.1.length x.1 ∧ Fr [] w w' := fun bound x hx w f => by
    have := apply_all (some ⟨g, 0, none⟩) a5 N c5 bs _ bound w (rb.fr f) (rdd.1.fr f)
    rw [hbl, rdd.2] at this
    refine this.mono fun e w' h => ?_
    unfold Applied at h
    rw [hx] at h
    obtain ⟨a, h1, h2, _, h3⟩ := h
    exact ⟨a, h1, h2, h3⟩
  have hx : ∀ bound : Int, delta.apply bs (b1 ++ (b2 ++ six pa na)) bound = if bound.toNat < s then ([], 5) else if 70000 < pa ∨ 70000 - pa < s then ([], 3) else ((bs.drop pa).take s, 0) := fun bound => by
    rw [HC.out.2.2.1.1, HC.out.2.2.1.2]
    exact apply_six bs H.out.1 pa na s hp1 hn1 HSS.out bound
  have HP := Lib.hid (And.intro hap (And.intro hx (And.intro rb (H.out.2.2.trans F5))))
  clear hap hx rb F5 rdd HA H5 H3 H2 H1 hg2
  by_cases hbad : 70000 < pa ∨ 70000 - pa < s
  · have hA := HP.out.1 70000 ([], 3) (by rw [HP.out.2.1, if_neg (by simp; omega), if_pos hbad]) w5 (Fr.refl _ _)
    have HX := Lib.hid hA
    clear hA
    by_cases hb1 : 70000 < pa
    · have d1 : decide ((70000 : Int) < pa) = true := by simp; omega
      clear hbad
      go_wp2_with (first | (go_at_call 9; refine HX.out.mono ?_; rintro e w6 ⟨a6, rfl, _, f6⟩) | (go_at_call 10; refine (awake_any _).mono ?_; rintro e9 w9 ⟨rfl, f9⟩))
      go_ret
      exact ⟨by first | rfl | simp, below_of_fr ((HP.out.2.2.2.trans f6).trans f9)⟩
    · have d1 : decide ((70000 : Int) < pa) = false := by simp; omega
      have d2 : decide ((70000 : Int) - pa < s) = true := by simp; omega
      clear hbad
      go_wp2_with (first | (go_at_call 9; refine HX.out.mono ?_; rintro e w6 ⟨a6, rfl, _, f6⟩) | (go_at_call 10; refine (awake_any _).mono ?_; rintro e9 w9 ⟨rfl, f9⟩))
      go_ret
      exact ⟨by first | rfl | simp, below_of_fr ((HP.out.2.2.2.trans f6).trans f9)⟩
  · have hpa : pa + s ≤ 70000 := by omega
    have hA := HP.out.1 70000 ((bs.drop pa).take s, 0) (by rw [HP.out.2.1, if_neg (by simp; omega), if_neg hbad]) w5 (Fr.refl _ _)
    have hA2 := fun w f => HP.out.1 ((s : Int) - 1) ([], 5) (by rw [HP.out.2.1, if_pos (by omega)]) w f
    have hol : ((bs.drop pa).take s).length = s := by rw [List.length_take, List.length_drop, hbl, HN.out]; omega
    simp only [hol] at hA
    have HX := Lib.hid (And.intro hA (And.intro hA2 hol))
    have d1 : decide ((70000 : Int) < pa) = false := by simp; omega
    have d2 : decide ((70000 : Int) - pa < s) = false := by simp; omega
    have hN3 : 70000 ≤ N := by rw [HN.out]; exact Nat.le_refl _
    have hsl := fun w => lib.run_slice_lh sliceU8 pa s (some ⟨g, 0, none⟩) N N (pa : Int) ((pa : Int) + (s : Int)) rfl rfl (by omega) w
    have HSL := Lib.hid hsl
    clear hbad hA hA2 hol hsl
    have tok2 : True := trivial
    go_upto_region 17 with (first | (go_at_call 9; have _t := tok2; refine HX.out.1.mono ?_; rintro e w6 ⟨a6, rfl, r6, f6⟩; have H6 := Lib.hid (And.intro r6 f6); clear r6 f6; clear _t tok2) | (go_at_call 9; refine (HX.out.2.1 _ H6.out.2).mono ?_; rintro e w7 ⟨a7, rfl, _, f7⟩; have H7 := Lib.hid f7; clear f7))
    obtain ⟨z, hz⟩ : ∃ z, z = str ((bs.drop pa).take s) := ⟨_, rfl⟩
    have F7 : Fr [] w5 w7.drew := (H6.out.2.trans H7.out).trans (Fr.drew1 [] _)
    have cv1 : ∀ x cap, (convert 22 9 (.slice a6 s cap)).run Try.prog (sup [] w7.drew x) = .ok (.string z) (sup [] w7.drew x) := by
      rw [hz]
      exact run_conv_sup [] w7.drew Try.underlying22 Try.underlying5 Try.underlying9 HX.out.2.2 (H6.out.1.cs.fr (H7.out.trans (Fr.drew1 [] _)) (by simp)) (by simp)
    have cv2 : ∀ x cap, (convert 22 9 (.slice (cutAt (some ⟨g, 0, none⟩) N pa) s cap)).run Try.prog (sup [] w7.drew x) = .ok (.string z) (sup [] w7.drew x) := by
      rw [hz]
      exact run_conv_sup [] w7.drew Try.underlying22 Try.underlying5 Try.underlying9 HX.out.2.2 ((HP.out.2.2.1.fr F7).mid pa s (by rw [H.out.1]; omega)).cs (by simp)
    have hsl := HSL.out
    have HF := Lib.hid (HP.out.2.2.2.trans (H6.out.2.trans H7.out))
    clear hz F7
    refine region_mix 22 [(false, 0), (false, 1), (false, 2), (false, 3), (false, 4), (false, 5), (false, 6), (false, 7), (false, 8), (false, 9), (false, 10), (false, 11), (false, 12), (false, 13), (false, 14), (false, 15), (false, 16), (false, 17), (false, 18), (true, 19), (false, 20), (false, 21)] [] (by kernel_rfl) (by kernel_rfl) (fun _ _ d _ _ h => by cases d <;> exact h) ?_
    simp only [List.map_cons, List.map_nil, List.getD_cons_zero, List.getD_cons_succ, List.drop_succ_cons, List.drop_zero, List.drop_nil]
    refine mix_seg 19 rfl ?_
    simp only [List.take_succ_cons, List.take_zero, List.drop_succ_cons, List.drop_zero, List.map_cons, List.map_nil]
    repeat (go_big_quiet_step (fail))
    refine wpQuiet_nil ?_
    clear cv1 cv2 hsl
    refine mix_eff rfl ?_
    intro X hX
    go_wp2_with (go_at_call 10; refine (awake_any _).mono ?_; rintro e9 w9 ⟨rfl, f9⟩)
    refine hX.out _ _ f9 ?_
    clear hX X
    refine mix_seg 2 rfl ?_
    simp only [List.take_succ_cons, List.take_zero, List.drop_succ_cons, List.drop_zero, List.map_cons, List.map_nil]
    repeat (go_big_quiet_step (fail))
    refine wpQuiet_nil ?_
    refine mix_nil ?_
    go_wp2
    go_ret
    exact ⟨by first | rfl | simp, below_of_fr ((HF.out.trans (Fr.drew1 [] w7)).trans f9)⟩

/-- From the arguments as they are read to the walk. -/
theorem walk {H : Type} {enc : TypeId × Value → H} (W : World) {base : Nat} (v0 : Value) (d0 : DataW H) (p0 : List MemPlace) (v1 : Value) (d1 : DataW H) (p1 : List MemPlace)
    (o0 : Value.okWide Try.prog W .any base 3 v0) (h0 : DataW.Trod enc Try.prog W 0 (fun _ => true) true 3 v0 d0 p0)
    (o1 : Value.okWide Try.prog W .any base 3 v1) (h1 : DataW.Trod enc Try.prog W 0 (fun _ => true) true 3 v1 d1 p1)
    (hz : (DataW.weightsEach Try.prog [3, 3] [d0, d1]).all (· ≤ reachBytes) = true) :
    Calls Try.prog 3 #[v0, v1] W fun e W' => e = .returned (.bool true) ∧ Below W.heap.size W W' := by
  obtain ⟨x0, rfl, rfl, rfl, wx0⟩ := open_int Try.underlying3 o0 h0
  obtain ⟨x1, rfl, rfl, rfl, wx1⟩ := open_int Try.underlying3 o1 h1
  exact walk_in W x0 x1

/-! ### The row -/
theorem own : ownKnob Try.prog.godebug = none := by kernel_rfl
theorem laidOut : laidOutB Try.prog = true := by kernel_rfl
set_option maxRecDepth 100000 in
theorem lifted (os : Os) (started : os.Started) (H : Type) (enc : TypeId × Value → H) :
    ReturnsInHanded {} Try.checked os 3 .any (Rows.deltaCopiesSpec.pre6 enc Try.prog Try.f3 Rows.deltaCopiesRow.domain false) (Rows.deltaCopiesSpec.post enc Try.prog Try.f3 false true false false) := by
  refine returnsInHanded_of_change_sized (C := Try.checked) own started (by kernel_rfl) Try.func3
    (ChangeSpec.witness6 (enc := enc) (C := Try.checked) false ⟨#[], #[.int .i64 0, .int .i64 0], []⟩ 8 (by kernel_rfl) (by kernel_rfl) (by kernel_rfl) (by kernel_rfl)) ?_
  intro W base args ds gs before hval hW _ hsz _
  have hW' := hW
  obtain ⟨p, q, hA0, hV, rfl, hfz, hnd⟩ := hW'
  have hA : DataW.TrodAll enc Try.prog W 0 (fun _ => true) true Try.f3.params.toList args.toList ds p := hA0
  rw [Try.params3] at hA hval
  obtain ⟨v0, vs0, d0, ds0, p0, q0, hargs, rfl, rfl, h0, r0⟩ := trodAll_cons hA
  obtain ⟨v1, vs1, d1, ds1, p1, q1, rfl, rfl, rfl, h1, r1⟩ := trodAll_cons r0
  obtain ⟨rfl, rfl, rfl⟩ := trodAll_nil r1
  obtain rfl : args = #[v0, v1] := by cases args; simp_all
  obtain ⟨rfl, rfl⟩ := trodVars_none hV
  have hz : (DataW.weightsEach Try.prog [3, 3] [d0, d1]).all (· ≤ reachBytes) = true := hsz
  refine law_of_calls (s := Rows.deltaCopiesSpec) laidOut (by kernel_rfl) rfl rfl Try.underlying4 hW (fun gs _ h2 => by subst h2; rfl) ?_
  exact walk W v0 d0 p0 v1 d1 p1 (hval 0 3 v0 rfl rfl) (h0) (hval 1 3 v1 rfl rfl) (h1) hz

theorem over : Rows.deltaCopiesRow.holds Try.pinned (OpenSpec.ofChange Rows.deltaCopiesSpec) :=
  OpenClaim.holds_of_wide 3 Try.f3 rfl rfl rfl rfl rfl rfl rfl ⟨rfl, rfl, rfl, rfl, rfl⟩ rfl rfl rfl rfl rfl (by kernel_rfl) Try.func3 (by kernel_rfl)
    (of_decide_eq_true (by kernel_rfl)) (by unfold Func.isWrapper; first | (rw [if_pos (by decide +kernel)]; kernel_rfl) | (rw [if_neg (by decide +kernel)]; exact ⟨rfl, rfl⟩))
    (fun os started H enc _ => lifted os started H enc)

theorem proved : Rows.DeltaCopiesSaid := over
end Go.Proofs.Ytoplgcikcanagaa.deltaCopies
