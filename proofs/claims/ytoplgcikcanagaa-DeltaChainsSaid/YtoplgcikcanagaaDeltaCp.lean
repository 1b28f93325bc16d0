/-
  delta.maker: copy.
-/
import Derived.Test.YtoplgcikcanagaaDeltaMk
namespace Go.Proofs.Ytoplgcikcanagaa.delta
open Go Go.RowKit Go.Proofs.Ytoplgcikcanagaa.lib Go.Proofs.Ytoplgcikcanagaa.bm

/-- The bytes of a copy, as far as they are gathered. -/
structure Ar (w wr : World) (a : Option Addr) (c : Nat) (bs : List UInt8) : Prop where
  own : Own wr 5 a c (bs.map bv)
  fr : Fr [] w wr
  new : ∀ y ∈ blk a, w.heap.size ≤ y
theorem ar_nil (w : World) : Ar w w none 0 [] := ⟨Own.nil _ _, Fr.refl _ _, by simp [blk]⟩
theorem Ar.more {w wr w1 w2 : World} {a a2 : Option Addr} {c c2 : Nat} {bs news : List UInt8} (h : Ar w wr a c bs) (f : Fr [] wr w1) (A : OwnMore w1 w2 5 a a2 c2 (bs.map bv ++ news.map bv)) : Ar w w2 a2 c2 (bs ++ news) := by
  refine ⟨by rw [List.map_append]; exact A.own, (h.fr.trans f).step A.fr fun y hy => .inr (h.new y hy), fun y hy => ?_⟩
  rcases A.at_ y hy with k | k
  · exact h.new y k
  · have := (h.fr.trans f).size
    omega
theorem or_bit (x i : Nat) (hx : x < 2 ^ i) (hi : i < 7) : bits .or .u8 ((128 + x : Nat) : Int) ((2 ^ i : Nat) : Int) = ((128 + (x + 2 ^ i) : Nat) : Int) := by
  have h : ∀ i : Fin 7, ∀ x : Fin 128, x.1 < 2 ^ i.1 → bits .or .u8 ((128 + x.1 : Nat) : Int) ((2 ^ i.1 : Nat) : Int) = ((128 + (x.1 + 2 ^ i.1) : Nat) : Int) := by decide +kernel
  have h64 : 2 ^ i ≤ 2 ^ 6 := Nat.pow_le_pow_right (by decide) (by omega)
  have e : 2 ^ 6 = 64 := by decide
  exact h ⟨i, hi⟩ ⟨x, by omega⟩ hx
theorem cbyte_lo (p K i : Nat) (hi : i < 4) : (p : Int) / 2 ^ (8 * i) % 256 = (cbyte p K i : Int) := by
  unfold cbyte
  have e : ((2 : Int) ^ (8 * i)) = ((256 ^ i : Nat) : Int) := by rw [show (256 : Nat) ^ i = 2 ^ (8 * i) from by rw [Nat.pow_mul], Int.natCast_pow]; rfl
  rw [if_pos hi, e, Int.natCast_emod, Int.natCast_ediv]
  rfl
theorem kbyte_lo (K i : Nat) : (K : Int) / 2 ^ (8 * i) % 256 = ((K / 256 ^ i % 256 : Nat) : Int) := by
  have e : ((2 : Int) ^ (8 * i)) = ((256 ^ i : Nat) : Int) := by rw [show (256 : Nat) ^ i = 2 ^ (8 * i) from by rw [Nat.pow_mul], Int.natCast_pow]; rfl
  rw [e, Int.natCast_emod, Int.natCast_ediv]
  rfl
theorem or_bit' (x i : Nat) (hx : x < 2 ^ i) (hi : i < 7) : bits .or .u8 (128 + (x : Int)) (2 ^ i % 256) = ((128 + (x + 2 ^ i) : Nat) : Int) := by
  rw [← or_bit x i hx hi]
  have h64 : 2 ^ i ≤ 2 ^ 6 := Nat.pow_le_pow_right (by decide) (by omega)
  have e : (2 : Nat) ^ 6 = 64 := by decide
  have e2 : (2 : Int) ^ i % 256 = ((2 ^ i : Nat) : Int) := by
    have : (2 : Int) ^ i = ((2 ^ i : Nat) : Int) := by rw [Int.natCast_pow]; rfl
    rw [this]
    omega
  rw [e2, show (128 : Int) + (x : Int) = ((128 + x : Nat) : Int) from by omega]
theorem opOf_succ (p k i : Nat) : opOf p k (i + 1) = opOf p k i + bit (cbyte p k i) * 2 ^ i := rfl
theorem argsOf_succ (p k i : Nat) : argsOf p k (i + 1) = argsOf p k i ++ nz (cbyte p k i) := rfl
theorem or_bit16 (x i : Nat) (hx : x < 2 ^ (4 + i)) (hi : i < 3) : bits .or .u8 (128 + (x : Int)) (16 * 2 ^ i % 256) = ((128 + (x + 2 ^ (4 + i)) : Nat) : Int) := by
  rw [← or_bit' x (4 + i) hx (by omega), Int.pow_add]
  rfl
set_option maxRecDepth 100000 in
set_option maxHeartbeats 8000000 in
theorem copy_all (S0 : List Nat) (w W : World) (q p n : Nat) (oa wa : Option Addr) (oc wq : Nat) (out wait : List UInt8) (h : Mk S0 w W q oa oc out wa wq wait) (hlim : out.length + 2 * wait.length + 8 * n ≤ 1099511627776) (hp : p + n ≤ 4294967295) :
    Calls Try.prog 20 #[.pointer (some ⟨q, 0, none⟩), .int .i64 (p : Nat), .int .i64 (n : Nat)] W fun e W' => e = .returned (.tuple #[]) ∧ ∃ oa' oc' wa' wc', Mk S0 w W' q oa' oc' (out ++ lits wait.length wait ++ cops n p n) wa' wc' [] := by
  have hfl := flush_all S0 w W q oa wa oc wq out wait h (by omega)
  have hll := lits_len wait.length wait
  obtain ⟨o1, ho1⟩ : ∃ o1, o1 = out ++ lits wait.length wait := ⟨_, rfl⟩
  have hol : o1.length + 8 * n ≤ 1099511627776 + 127 := by rw [ho1, List.length_append]; omega
  rw [← ho1] at hfl ⊢
  obtain ⟨R, hR⟩ : ∃ R, o1 ++ cops n p n = R := ⟨_, rfl⟩
  rw [hR]
  have H0 := Lib.hid (And.intro hfl hR)
  clear hfl hll ho1 hR h hlim
  go_enter Try.func20, Try.ntmps20
  go_upto_block 0 with (go_at_call 23; refine H0.out.1.mono ?_; rintro e w1 ⟨rfl, a1, c1, a2, c2, m1⟩; have H1 := Lib.hid m1; clear m1)
  go_wp2
  go_loopg [1, 2, 6, 7, 8, 9, 10, 11, 12] n (fun k s1 s2 s6 s7 s8 s9 s10 s11 s12 wr => ∃ p m oa oc out wa wq, s1 = .int .i64 (p : Nat) ∧ s2 = .int .i64 (m : Nat) ∧ Mk S0 w wr q oa oc out wa wq [] ∧ out ++ cops k p m = R ∧ m ≤ k ∧ p + m ≤ 4294967295 ∧ out.length + 8 * m ≤ 1099511627776 + 127)
  case atStart => exact ⟨p, n, a1, c1, o1, a2, c2, rfl, rfl, H1.out, H0.out.2, Nat.le_refl _, hp, hol⟩
  case round =>
    obtain ⟨p, m, oa, oc, out, wa, wq, rfl, rfl, h, hr, hk, hpm, hb⟩ := hrel
    obtain ⟨wo, rfl⟩ : ∃ wo : World, wo = wr := ⟨_, rfl⟩
    have H := Lib.hid h
    clear h H0 H1
    by_cases hm : 0 < m
    · obtain ⟨k, rfl⟩ : ∃ k, gk = k + 1 := ⟨gk - 1, by omega⟩
      rw [cops_step (by omega)] at hr
      obtain ⟨K, hK⟩ : ∃ K, K = min m 65536 := ⟨_, rfl⟩
      have hK1 : (K : Int) = if (65536 : Int) < (m : Int) then 65536 else (m : Int) := by rw [hK]; split <;> omega
      have hK2 : 1 ≤ K ∧ K ≤ 65536 ∧ K ≤ m := by omega
      rw [← hK] at hr
      have HK := Lib.hid (And.intro hK1 hr)
      clear hK hK1 hr
      go_upto_block 2 with (refine wpList_min2 (K : Int) rfl _ _ _ rfl (m : Int) 65536 rfl rfl HK.out.1 ?_)
      go_cut [7, 8, 9, 10] from 19 to 38 (fun s7 s8 s9 s10 wz => ∃ a c, s7 = .int .u8 ((128 + opOf p K 4 : Nat) : Int) ∧ s8 = .slice a (argsOf p K 4).length c ∧ Ar wo wz a c (argsOf p K 4))
      case first =>
        go_wp2
        go_loopg [7, 8, 9, 10, 19] 4 (fun kk s7 s8 s9 s10 s19 w2 => ∃ i a c, i + kk = 4 ∧ s19 = .int .i64 (i : Nat) ∧ s7 = .int .u8 ((128 + opOf p K i : Nat) : Int) ∧ s8 = .slice a (argsOf p K i).length c ∧ Ar wo w2 a c (argsOf p K i))
        case atStart => exact ⟨0, none, 0, rfl, rfl, rfl, rfl, ar_nil wo⟩
        case round =>
          obtain ⟨i, a, c, hi, rfl, rfl, rfl, ha⟩ := hrel
          have HA := Lib.hid ha
          obtain ⟨k1, k2, k3⟩ := ha.own.shape
          rw [List.length_map] at k1
          clear ha
          by_cases hi4 : i < 4
          · obtain ⟨cb, hcb⟩ : ∃ cb, cb = cbyte p K i := ⟨_, rfl⟩
            have hcv : (p : Int) / 2 ^ (8 * i) % 256 = (cb : Int) := by rw [hcb]; exact cbyte_lo p K i hi4
            have hcl : cb < 256 := by rw [hcb]; exact cbyte_lt p K i
            have hop := opOf_lt p K i
            have HCB := Lib.hid (And.intro hcb hop)
            clear hcb hop
            have tN := HCB.out.2
            obtain ⟨ov, hov⟩ : ∃ ov, ov = opOf p K i := ⟨_, rfl⟩
            rw [← hov] at tN ⊢
            have HOV := Lib.hid (And.intro hov tN)
            clear hov tN
            obtain ⟨wi, rfl⟩ : ∃ wi : World, wi = wr := ⟨_, rfl⟩
            go_upto_region 7 with fail
            go_cut [10] from 20 to 27 (fun s10 wz => s10 = .int .u8 (cb : Int) ∧ wi = wz)
            case first =>
              go_wp2
              go_meet
              exact ⟨by first | rfl | exact int_eq hcv, rfl⟩
            case rest =>
            obtain ⟨rfl, rfl⟩ := hcut
            clear hcv
            by_cases hc0 : cb = 0
            · have e0 : bit (cbyte p K i) = 0 := by rw [← HCB.out.1, hc0]; rfl
              have e1 : nz (cbyte p K i) = [] := by rw [← HCB.out.1, hc0]; rfl
              have HE := Lib.hid (And.intro e0 e1)
              subst hc0
              clear e0 e1
              go_wp2
              go_roundg (4 - (i + 1))
              case measure => omega
              case rel =>
                refine ⟨i + 1, a, c, by omega, by go_num, ?_, ?_, ?_⟩
                · rw [HOV.out.1]; simp only [opOf, HE.out.1, Nat.zero_mul, Nat.add_zero]
                · simp only [argsOf, HE.out.2, List.append_nil]
                · simp only [argsOf, HE.out.2, List.append_nil]; exact HA.out
            · have b1 : ((cb : Int) == 0) = false := by simp; omega
              have b2 : ((cb : Int) != 0) = true := by simp; omega
              have e0 : bit (cbyte p K i) = 1 := by rw [← HCB.out.1]; unfold bit; rw [if_neg hc0]
              have e1 : nz (cbyte p K i) = [UInt8.ofNat cb] := by rw [← HCB.out.1]; unfold nz; rw [if_neg hc0]
              have f1 : Fr [] wi (wi.alloc (.cells #[.int .u8 (cb : Int)] 5)) := (Fr.refl [] wi).alloc _
              have hcs : Cs (wi.alloc (.cells #[.int .u8 (cb : Int)] 5)) (some ⟨wi.heap.size, 0, none⟩) (([UInt8.ofNat cb] : List UInt8).map bv) := cs_one _ _ _ 5 (by rw [alloc_at]; unfold bv; rw [u8_nat hcl])
              have HE := Lib.hid (And.intro e0 (And.intro e1 (And.intro f1 hcs)))
              have ha4 := argsOf_le p K i
              clear e0 e1 f1 hcs
              go_wp2_with (refine wpList_append_mid sliceU8 rfl _ _ rfl a (argsOf p K i).length c ((argsOf p K i).map bv) rfl (HA.out.own.fr HE.out.2.2.1 (by simp)) (by rw [List.length_map]) (some ⟨wi.heap.size, 0, none⟩) 1 1 (([UInt8.ofNat cb] : List UInt8).map bv) rfl (by decide) (by simp) HE.out.2.2.2 (by rfl) (bv_one _) (by omega) (by unfold maxLen; omega) ?_; intro a2 c2 w3 A3; have H3 := Lib.hid A3; clear A3)
              go_roundg (4 - (i + 1))
              case measure => omega
              case rel =>
                refine ⟨i + 1, a2, c2, by omega, by go_num, ?_, ?_, ?_⟩
                · rw [HOV.out.1]
                  simp only [opOf, HE.out.1, Nat.one_mul]
                  have := or_bit' (opOf p K i) i (by rw [← HOV.out.1]; exact HOV.out.2) (by omega)
                  exact int_eq (by first | exact this | (simp only [Nat.cast_add] at *; exact this))
                · simp only [argsOf, HE.out.2.1, List.length_append]; rfl
                · simp only [argsOf, HE.out.2.1]; exact HA.out.more HE.out.2.2.1 H3.out
          · obtain rfl : i = 4 := by omega
            go_wp2
            go_meet
            exact ⟨a, c, rfl, rfl, HA.out⟩
      case rest =>
      obtain ⟨a, c, rfl, rfl, ha⟩ := hcut
      obtain ⟨wx, rfl⟩ : ∃ wx : World, wx = wc := ⟨_, rfl⟩
      have HA4 := Lib.hid ha
      clear ha
      go_upto_block 4 with fail
      go_cut [7, 8, 11, 12] from 38 to 61 (fun s7 s8 s11 s12 wz => ∃ a c, s7 = .int .u8 ((128 + opOf p K 7 : Nat) : Int) ∧ s8 = .slice a (argsOf p K 7).length c ∧ Ar wo wz a c (argsOf p K 7))
      case first =>
        go_wp2
        go_loopg [7, 8, 11, 12, 38] 3 (fun kk s7 s8 s11 s12 s38 w2 => ∃ i a c, i + kk = 3 ∧ s38 = .int .i64 (i : Nat) ∧ s7 = .int .u8 ((128 + opOf p K (4 + i) : Nat) : Int) ∧ s8 = .slice a (argsOf p K (4 + i)).length c ∧ Ar wo w2 a c (argsOf p K (4 + i)))
        case atStart => exact ⟨0, a, c, rfl, rfl, rfl, rfl, HA4.out⟩
        case round =>
          obtain ⟨i, a, c, hi, rfl, rfl, rfl, ha⟩ := hrel
          have HA := Lib.hid ha
          obtain ⟨k1, k2, k3⟩ := ha.own.shape
          rw [List.length_map] at k1
          clear ha
          by_cases hi3 : i < 3
          · obtain ⟨cb, hcb⟩ : ∃ cb, cb = K / 256 ^ i % 256 := ⟨_, rfl⟩
            have hcv : (K : Int) / 2 ^ (8 * i) % 256 = (cb : Int) := by rw [hcb]; exact kbyte_lo K i
            have hcl : cb < 256 := by rw [hcb]; omega
            have hop := opOf_lt p K (4 + i)
            have hcy : cbyte p K (4 + i) = if K = 65536 then 0 else cb := by unfold cbyte; rw [if_neg (by omega), hcb, Nat.add_sub_cancel_left]
            have HCB := Lib.hid (And.intro hcy hop)
            have tN := hop
            clear hcb hop hcy
            obtain ⟨ov, hov⟩ : ∃ ov, ov = opOf p K (4 + i) := ⟨_, rfl⟩
            rw [← hov] at tN ⊢
            have HOV := Lib.hid (And.intro hov tN)
            clear hov tN
            obtain ⟨wi, rfl⟩ : ∃ wi : World, wi = wr := ⟨_, rfl⟩
            go_upto_region 15 with fail
            go_cut [12] from 39 to 46 (fun s12 wz => s12 = .int .u8 (cb : Int) ∧ wi = wz)
            case first =>
              go_wp2
              go_meet
              exact ⟨by first | rfl | exact int_eq hcv, rfl⟩
            case rest =>
            obtain ⟨rfl, rfl⟩ := hcut
            clear hcv
            by_cases hc0 : cbyte p K (4 + i) = 0
            · have e0 : bit (cbyte p K (4 + i)) = 0 := by rw [hc0]; rfl
              have e1 : nz (cbyte p K (4 + i)) = [] := by rw [hc0]; rfl
              have HE := Lib.hid (And.intro e0 e1)
              have hcase : cb = 0 ∨ K = 65536 := by
                have h := HCB.out.1
                rw [hc0] at h
                by_cases hK : K = 65536
                · exact .inr hK
                · rw [if_neg hK] at h; exact .inl h.symm
              clear e0 e1 hc0
              by_cases hcb0 : cb = 0
              · subst hcb0
                clear hcase
                go_wp2
                go_roundg (3 - (i + 1))
                case measure => omega
                case rel =>
                  refine ⟨i + 1, a, c, by omega, by go_num, ?_, ?_, ?_⟩
                  · rw [HOV.out.1, show 4 + (i + 1) = (4 + i) + 1 from rfl, opOf_succ, HE.out.1, Nat.zero_mul, Nat.add_zero]
                  · rw [show 4 + (i + 1) = (4 + i) + 1 from rfl, argsOf_succ, HE.out.2, List.append_nil]
                  · rw [show 4 + (i + 1) = (4 + i) + 1 from rfl, argsOf_succ, HE.out.2, List.append_nil]; exact HA.out
              · have b1 : ((cb : Int) == 0) = false := by simp; omega
                have b2 : ((cb : Int) != 0) = true := by simp; omega
                have b3 : decide ((K : Int) < 65536) = false := by simp; omega
                clear hcase
                go_wp2
                go_roundg (3 - (i + 1))
                case measure => omega
                case rel =>
                  refine ⟨i + 1, a, c, by omega, by go_num, ?_, ?_, ?_⟩
                  · rw [HOV.out.1, show 4 + (i + 1) = (4 + i) + 1 from rfl, opOf_succ, HE.out.1, Nat.zero_mul, Nat.add_zero]
                  · rw [show 4 + (i + 1) = (4 + i) + 1 from rfl, argsOf_succ, HE.out.2, List.append_nil]
                  · rw [show 4 + (i + 1) = (4 + i) + 1 from rfl, argsOf_succ, HE.out.2, List.append_nil]; exact HA.out
            · have hcase : cbyte p K (4 + i) = cb ∧ K ≠ 65536 := by
                have h := HCB.out.1
                by_cases hK : K = 65536
                · rw [if_pos hK] at h; exact absurd h hc0
                · rw [if_neg hK] at h; exact ⟨h, hK⟩
              obtain ⟨hcc, hKK⟩ := hcase
              rw [hcc] at hc0
              have b1 : ((cb : Int) == 0) = false := by simp; omega
              have b2 : ((cb : Int) != 0) = true := by simp; omega
              have b3 : decide ((K : Int) < 65536) = true := by simp; omega
              have e0 : bit (cbyte p K (4 + i)) = 1 := by rw [hcc]; unfold bit; rw [if_neg hc0]
              have e1 : nz (cbyte p K (4 + i)) = [UInt8.ofNat cb] := by rw [hcc]; unfold nz; rw [if_neg hc0]
              have f1 : Fr [] wi (wi.alloc (.cells #[.int .u8 (cb : Int)] 5)) := (Fr.refl [] wi).alloc _
              have hcs : Cs (wi.alloc (.cells #[.int .u8 (cb : Int)] 5)) (some ⟨wi.heap.size, 0, none⟩) (([UInt8.ofNat cb] : List UInt8).map bv) := cs_one _ _ _ 5 (by rw [alloc_at]; unfold bv; rw [u8_nat hcl])
              have HE := Lib.hid (And.intro e0 (And.intro e1 (And.intro f1 hcs)))
              have ha4 := argsOf_le p K (4 + i)
              clear e0 e1 f1 hcs hcc hKK
              go_wp2_with (refine wpList_append_mid sliceU8 rfl _ _ rfl a (argsOf p K (4 + i)).length c ((argsOf p K (4 + i)).map bv) rfl (HA.out.own.fr HE.out.2.2.1 (by simp)) (by rw [List.length_map]) (some ⟨wi.heap.size, 0, none⟩) 1 1 (([UInt8.ofNat cb] : List UInt8).map bv) rfl (by decide) (by simp) HE.out.2.2.2 (by rfl) (bv_one _) (by omega) (by unfold maxLen; omega) ?_; intro a2 c2 w3 A3; have H3 := Lib.hid A3; clear A3)
              go_roundg (3 - (i + 1))
              case measure => omega
              case rel =>
                refine ⟨i + 1, a2, c2, by omega, by go_num, ?_, ?_, ?_⟩
                · rw [HOV.out.1, show 4 + (i + 1) = (4 + i) + 1 from rfl, opOf_succ, HE.out.1, Nat.one_mul]
                  have := or_bit16 (opOf p K (4 + i)) i (by rw [← HOV.out.1]; exact HOV.out.2) hi3
                  exact int_eq this
                · rw [show 4 + (i + 1) = (4 + i) + 1 from rfl, argsOf_succ, HE.out.2.1, List.length_append]; rfl
                · rw [show 4 + (i + 1) = (4 + i) + 1 from rfl, argsOf_succ, HE.out.2.1]; exact HA.out.more HE.out.2.2.1 H3.out
          · obtain rfl : i = 3 := by omega
            go_wp2
            go_meet
            exact ⟨a, c, rfl, rfl, HA.out⟩
      case rest =>
      obtain ⟨a, c, rfl, rfl, ha⟩ := hcut
      have hal := argsOf_le p K 7
      have hoq := opOf_lt p K 7
      have e128 : 2 ^ 7 = 128 := by decide
      have hmk := H.out.fr0 ha.fr
      have hc0 := cell_of hmk.blk 0
      have hc1 := cell_of hmk.blk 1
      have hz0 := frozen_of hmk.blk 0
      simp only [List.getElem?_toArray, List.getElem?_cons_zero, List.getElem?_cons_succ] at hc0 hc1
      have HM := Lib.hid hmk
      have HAr := Lib.hid ha
      clear hmk ha HA4
      obtain ⟨ob, hob⟩ : ∃ ob, ob = 128 + opOf p K 7 := ⟨_, rfl⟩
      rw [← hob]
      have hob2 : ob < 256 := by omega
      have HO := Lib.hid hob
      clear hob hoq
      have f1 : Fr [] wc (wc.alloc (.cells #[.int .u8 (ob : Int)] 5)) := (Fr.refl [] wc).alloc _
      have hcs : Cs (wc.alloc (.cells #[.int .u8 (ob : Int)] 5)) (some ⟨wc.heap.size, 0, none⟩) (([UInt8.ofNat ob] : List UInt8).map bv) := cs_one _ _ _ 5 (by rw [alloc_at]; unfold bv; rw [u8_nat hob2])
      have hdis : ∀ y ∈ blk a, y ∉ blk oa := fun y hy e => by
        have h1 := HAr.out.new y hy
        have h2 := H.out.o.lt y e
        omega
      have F1 := Lib.hid (And.intro f1 (And.intro hcs hdis))
      obtain ⟨L, hL⟩ : ∃ L, L = (argsOf p K 7).length := ⟨_, rfl⟩
      rw [← hL] at hal ⊢
      have HLL := Lib.hid hL
      obtain ⟨k1, _, k3⟩ := HAr.out.own.shape
      rw [List.length_map, ← hL] at k1
      clear f1 hcs hdis hL
      go_wp2_with (first | (refine wpList_append_mid sliceU8 rfl _ _ rfl oa out.length oc (out.map bv) rfl (HM.out.o.fr F1.out.1 (by simp)) (by rw [List.length_map]) (some ⟨wc.heap.size, 0, none⟩) 1 1 (([UInt8.ofNat ob] : List UInt8).map bv) rfl (by decide) (by simp) F1.out.2.1 (by rfl) (bv_one _) (by omega) (by unfold maxLen; omega) ?_; intro a2 c2 w2 A2; have H2 := Lib.hid A2; clear A2) | (refine wpList_append_mid sliceU8 rfl _ _ rfl a2 (out.length + 1) c2 (out.map bv ++ ([UInt8.ofNat ob] : List UInt8).map bv) rfl H2.out.own (by simp) a L c ((argsOf p K 7).map bv) rfl k1 k3 (((HAr.out.own.fr F1.out.1 (by simp)).fr H2.out.fr F1.out.2.2).cs) (by rw [List.length_map, HLL.out]) (bv_one _) (by omega) (by unfold maxLen; omega) ?_; intro a3 c3 w3 A3; have H3 := Lib.hid (H2.out.two A3); clear A3; have hbq := H3.out.fr.blk (F1.out.1.blk HM.out.blk (by simp)) HM.out.qo; have d0 := cell_of hbq 0; have z9 := frozen_of hbq 0; simp only [List.getElem?_toArray, List.getElem?_cons_zero] at d0; clear hbq))
      go_roundg k
      case measure => omega
      case rel =>
        have hcop : cop p K = UInt8.ofNat ob :: argsOf p K 7 := by rw [HO.out]; rfl
        have hlen : out.length + (cop p K).length = out.length + 1 + L := by rw [hcop, List.length_cons, HLL.out]; omega
        have m1 := HM.out.out1 (news := cop p K) (n := out.length + 1 + L) F1.out.1 (by rw [hcop]; simpa using H3.out) hlen
        refine ⟨p + K, m - K, a3, c3, out ++ cop p K, wa, wq, by go_num, int_eq (by omega), m1, by rw [List.append_assoc]; exact HK.out.2, by omega, by omega, ?_⟩
        rw [List.length_append, show (cop p K).length = 1 + L from by omega]
        omega
    · obtain rfl : m = 0 := by omega
      rw [cops_zero, List.append_nil] at hr
      have HR := Lib.hid hr
      clear hr
      go_wp2
      go_end0
      rw [← HR.out]
      exact ⟨rfl, oa, oc, wa, wq, H.out⟩
end Go.Proofs.Ytoplgcikcanagaa.delta
