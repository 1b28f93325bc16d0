/-
  Proved: stemmalaw4.BitsBack returns true and leaves its arguments as they were, for every input. Conditions: none.
-/
import Derived.Test.YtcfhebhbgllphaaAwake4
import Derived.Test.YtcfhebhbgllphaaArgs
import Derived.Test.YtcfhebhbgllphaaOps
namespace Go.Proofs.Ytcfhebhbgllphaa.bitsBack
open Go Go.RowKit Go.ChangeShapes Go.WideShapes Go.Proofs.Ytcfhebhbgllphaa.lib Go.Proofs.Ytcfhebhbgllphaa.bm Go.Proofs.Ytcfhebhbgllphaa.bits

/-! ### The plain law -/
def LL (ks : Nat → Nat) : Nat → Nat
  | 0 => 0
  | i + 1 => LL ks i + ks i
def MM (vs ks : Nat → Nat) : Nat → Nat
  | 0 => 0
  | i + 1 => MM vs ks i + 2 ^ LL ks i * (vs i % 2 ^ ks i)
theorem LL_le (ks : Nat → Nat) (h : ∀ i, ks i ≤ 31) : ∀ i, LL ks i ≤ 31 * i
  | 0 => by simp [LL]
  | i + 1 => by have := LL_le ks h i; have := h i; simp only [LL]; omega
theorem LL_mono (ks : Nat → Nat) (i d : Nat) : LL ks i ≤ LL ks (i + d) := by
  induction d with
  | zero => exact Nat.le_refl _
  | succ d ih => rw [← Nat.add_assoc, LL]; omega
theorem MM_lt (vs ks : Nat → Nat) : ∀ i, MM vs ks i < 2 ^ LL ks i
  | 0 => by simp [MM, LL]
  | i + 1 => by simp only [MM, LL]; exact put_lt _ _ _ _ (MM_lt vs ks i)
theorem MM_tail (vs ks : Nat → Nat) (i d : Nat) : ∃ T, MM vs ks (i + d) = MM vs ks i + 2 ^ LL ks i * T := by
  induction d with
  | zero => exact ⟨0, by simp⟩
  | succ d ih =>
    obtain ⟨T, hT⟩ := ih
    have hl := LL_mono ks i d
    refine ⟨T + 2 ^ (LL ks (i + d) - LL ks i) * (vs (i + d) % 2 ^ ks (i + d)), ?_⟩
    rw [← Nat.add_assoc, MM, hT, Nat.mul_add, ← Nat.mul_assoc, ← Nat.pow_add, show LL ks i + (LL ks (i + d) - LL ks i) = LL ks (i + d) from by omega, Nat.add_assoc]
theorem MM_take (vs ks : Nat → Nat) (i n : Nat) (h : i < n) : MM vs ks n / 2 ^ LL ks i % 2 ^ ks i = vs i % 2 ^ ks i := by
  obtain ⟨T, hT⟩ := MM_tail vs ks (i + 1) (n - (i + 1))
  rw [show i + 1 + (n - (i + 1)) = n from by omega] at hT
  rw [hT, MM, LL, Nat.pow_add, Nat.add_assoc, Nat.mul_assoc, ← Nat.mul_add, Nat.add_mul_div_left _ _ (Nat.two_pow_pos _), Nat.div_eq_of_lt (MM_lt vs ks i), Nat.zero_add,
    Nat.add_mul_mod_self_left, Nat.mod_mod]

/-! ### The walk -/
def kw (ys : List Int) (i : Nat) : Nat := (ys.getD i 0 % 32).toNat
def vw (xs : List Int) (i : Nat) : Nat := (xs.getD i 0).toNat
theorem kw_le (ys : List Int) (i : Nat) : kw ys i ≤ 31 := by unfold kw; omega
theorem kw_eq (ys : List Int) (i : Nat) : bits .and .i64 (ys.getD i 0) 31 = (kw ys i : Int) := by rw [and31]; unfold kw; omega

set_option maxRecDepth 100000 in
set_option maxHeartbeats 1000000 in
theorem walk_in (w : World) (a0 a1 : Option Addr) (len0 cap0 len1 cap1 : Nat) (xs ys : List Int) (A0 : IntsArg .u32 w a0 len0 cap0 xs) (A1 : IntsArg .i64 w a1 len1 cap1 ys) :
    Calls Try.prog 3 #[.slice a0 len0 cap0, .slice a1 len1 cap1] w fun e w' => e = .returned (.bool true) ∧ Below w.heap.size w w' := by
  have hm0 : len0 ≤ 9223372036854775807 := by have := A0.le; have := A0.max; unfold maxLen at *; omega
  have hm1 : len1 ≤ 9223372036854775807 := by have := A1.le; have := A1.max; unfold maxLen at *; omega
  obtain ⟨n, hn, hn60, hn0, hn1⟩ : ∃ n, n = min (min len0 len1) 60 ∧ n ≤ 60 ∧ n ≤ len0 ∧ n ≤ len1 := ⟨_, rfl, by omega, by omega, by omega⟩
  have Hn := Lib.hid hn
  clear hn
  have z1 := wr_new w
  go_enter Try.func3, Try.ntmps3
  go_upto_region 2 with fail
  go_cut [6] (fun s6 wc => s6 = .int .i64 n ∧ Wr wc w.heap.size [w.heap.size] 0 0 ∧ Fr [] w wc)
  case first =>
    have Z1 := Lib.hid z1
    clear z1
    go_wp2_with (refine wpList_min3 (n : Int) rfl _ _ _ _ rfl _ _ _ rfl rfl rfl (by have := Hn.out; omega) ?_)
    go_meet
    exact ⟨rfl, Z1.out, (Fr.refl _ _).alloc _⟩
  case rest =>
  obtain ⟨rfl, hW, fr0⟩ := hcut
  clear z1
  have HW := Lib.hid hW
  clear hW
  go_wp2
  go_loopg [7, 8] n (fun k s7 s8 wr => ∃ i F, i + k = n ∧ s8 = .int .i64 i ∧ s7 = .int .i64 (LL (kw ys) i) ∧ Wr wr w.heap.size F (MM (vw xs) (kw ys) i) (LL (kw ys) i) ∧ Fr [] w wr ∧ ∀ x ∈ F, w.heap.size ≤ x)
  case atStart => exact ⟨0, [w.heap.size], by omega, rfl, rfl, HW.out, fr0, by simp⟩
  case round =>
    obtain ⟨i, F, hik, rfl, rfl, hW, fr1, hF⟩ := hrel
    have hL := LL_le (kw ys) (kw_le ys) i
    by_cases hin : i < n
    · obtain ⟨g0, o0, rfl, hc0⟩ := A0.cs.at (by rw [List.length_map, A0.length]; omega)
      obtain ⟨g1, o1, rfl, hc1⟩ := A1.cs.at (by rw [List.length_map, A1.length]; omega)
      have d0 : wr.cell? ⟨g0, o0 + i, none⟩ = some (.int .u32 (xs.getD i 0)) := fr1.cell (hc0 i _ (by have := A0.length; simp [List.getD, show i < xs.length by omega])) (by simp)
      have d1 : wr.cell? ⟨g1, o1 + i, none⟩ = some (.int .i64 (ys.getD i 0)) := fr1.cell (hc1 i _ (by have := A1.length; simp [List.getD, show i < ys.length by omega])) (by simp)
      have hx : 0 ≤ xs.getD i 0 ∧ xs.getD i 0 < 4294967296 := by
        have := wf_u32 (A0.wf (xs.getD i 0) (by have := A0.length; simp [List.getD, show i < xs.length by omega]))
        omega
      have hk := kw_eq ys i
      have hk31 := kw_le ys i
      generalize hX : xs.getD i 0 = X at *
      generalize hY : ys.getD i 0 = Y at *
      have HX := Lib.hid hX
      have HK := Lib.hid hk
      clear hc0 hc1 hX hY hk
      go_upto_region 7 with fail
      go_cut [9] (fun s9 wc => s9 = .int .i64 (kw ys i) ∧ wr = wc)
      case first =>
        go_wp2
        go_meet
        exact ⟨int_eq HK.out, rfl⟩
      case rest =>
      obtain ⟨rfl, rfl⟩ := hcut
      have hx0 := hx.1
      have hx1 := hx.2
      go_wp2_with (go_at_call 7; refine (put_int w.heap.size F _ _ X _ _ hW hx0 hx1 (by omega)).mono ?_; rintro e w' ⟨rfl, fr2, F1, hw1, hF1⟩)
      go_roundg (n - (i + 1))
      case measure => omega
      case rel =>
        refine ⟨i + 1, F1, by omega, by go_num, by simp only [LL]; go_num, ?_, fr1.step fr2 (fun x hx => .inr (hF x hx)), fun x hx => ?_⟩
        · simp only [LL, MM]
          have e : vw xs i = X.toNat := by unfold vw; rw [HX.out]
          rw [e]
          rw [Int.toNat_natCast, Nat.min_eq_left (by omega)] at hw1
          exact hw1
        · rcases hF1 x hx with h | h
          · exact hF x h
          · have := fr1.size; omega
    · obtain rfl : i = n := by omega
      obtain ⟨L, hLe⟩ : ∃ L, L = LL (kw ys) i := ⟨_, rfl⟩
      obtain ⟨M, hMe⟩ : ∃ M, M = MM (vw xs) (kw ys) i := ⟨_, rfl⟩
      rw [← hLe] at hL hW ⊢
      rw [← hMe] at hW
      have HL := Lib.hid hLe
      have HM := Lib.hid hMe
      have hML := wr_M hW
      clear hLe hMe
      go_upto_region 10 with fail
      go_cut [10] (fun s10 wc => ∃ ao cap, s10 = .slice ao ((L + 7) / 8) cap ∧ Cs wc ao ((dig ((L + 7) / 8) M).map bv) ∧ (L + 7) / 8 ≤ cap ∧ (ao = none → cap = 0) ∧ Fr [] w wc)
      case first =>
        go_wp2_with (go_at_call 8; refine (wbytes_any w.heap.size F M L _ hW (by omega)).mono ?_; rintro e w1 ⟨ao, rfl, g1, n1, b1, fr2⟩)
        go_meet
        exact ⟨ao, _, rfl, g1.cs, Nat.le_refl _, n1, fr1.trans fr2⟩
      case rest =>
      obtain ⟨ao, cap, rfl, hcs, hcap, hnone, fr2⟩ := hcut
      have hdl : (dig ((L + 7) / 8) M).length = (L + 7) / 8 := dig_length _ _
      have Hdl := Lib.hid hdl
      clear hdl
      go_upto_region 11 with fail
      go_cut [11] (fun s11 wc => ∃ r G, s11 = .pointer (some ⟨r, 0, none⟩) ∧ Rd wc r G (dig ((L + 7) / 8) M) 0 ∧ Fr [] w wc ∧ ∀ x ∈ G, w.heap.size ≤ x)
      case first =>
        have hrd := read_any ao cap (dig ((L + 7) / 8) M) wc hcs (by rw [Hdl.out]; exact hcap) hnone (by rw [Hdl.out]; omega)
        rw [Hdl.out] at hrd
        have Hrd := Lib.hid hrd
        clear hrd
        go_wp2_with (go_at_call 9; refine Hrd.out.mono ?_; rintro e w1 ⟨r, G, rfl, hR, fr3, hG⟩)
        go_meet
        exact ⟨r, G, rfl, hR, fr2.trans fr3, fun x hx => by have := hG x hx; have := fr2.size; omega⟩
      case rest =>
      obtain ⟨r, G, rfl, hR, fr3, hG⟩ := hcut
      clear hcs
      have hrG : r ∈ G := by obtain ⟨_, _, _, _, h, _⟩ := hR; rw [h]; simp
      have hrw := hG r hrG
      have HR := Lib.hid hR
      clear hR
      have hMn : num (dig ((L + 7) / 8) M) = M := num_dig_lt _ _ (lt_up hML (by omega))
      have HMn := Lib.hid hMn
      clear hMn
      go_wp2
      go_loopg [12] i (fun k s12 wr => ∃ j, j + k = i ∧ s12 = .int .i64 j ∧ Rd wr r G (dig ((L + 7) / 8) M) (LL (kw ys) j) ∧ Fr [] w wr)
      case atStart => exact ⟨0, by omega, rfl, HR.out, fr3⟩
      case round =>
        obtain ⟨j, hji, rfl, hR, fr4⟩ := hrel
        by_cases hj : j < i
        · obtain ⟨g0, o0, rfl, hc0⟩ := A0.cs.at (by rw [List.length_map, A0.length]; omega)
          obtain ⟨g1, o1, rfl, hc1⟩ := A1.cs.at (by rw [List.length_map, A1.length]; omega)
          have d0 : wr.cell? ⟨g0, o0 + j, none⟩ = some (.int .u32 (xs.getD j 0)) := fr4.cell (hc0 j _ (by have := A0.length; simp [List.getD, show j < xs.length by omega])) (by simp)
          have d1 : wr.cell? ⟨g1, o1 + j, none⟩ = some (.int .i64 (ys.getD j 0)) := fr4.cell (hc1 j _ (by have := A1.length; simp [List.getD, show j < ys.length by omega])) (by simp)
          have hx : 0 ≤ xs.getD j 0 ∧ xs.getD j 0 < 4294967296 := by
            have := wf_u32 (A0.wf (xs.getD j 0) (by have := A0.length; simp [List.getD, show j < xs.length by omega]))
            omega
          have hk := kw_eq ys j
          have hk31 := kw_le ys j
          have hvX : vw xs j = (xs.getD j 0).toNat := rfl
          have hLj : LL (kw ys) (j + 1) ≤ L := by
            have h1 := LL_mono (kw ys) (j + 1) (i - (j + 1))
            rw [show j + 1 + (i - (j + 1)) = i from by omega, ← HL.out] at h1
            exact h1
          simp only [LL] at hLj
          generalize hX : xs.getD j 0 = X at *
          generalize hY : ys.getD j 0 = Y at *
          obtain ⟨X, rfl⟩ := Int.eq_ofNat_of_zero_le hx.1
          have hX2 : X < 4294967296 := by omega
          have HK := Lib.hid hk
          have HV := Lib.hid hvX
          have D0 := Lib.hid d0
          clear hc0 hc1 hX hY hk hvX hx d0
          go_upto_region 17 with fail
          go_cut [13] (fun s13 wc => s13 = .int .i64 (kw ys j) ∧ wr = wc)
          case first =>
            go_wp2
            go_meet
            exact ⟨int_eq HK.out, rfl⟩
          case rest =>
          obtain ⟨rfl, rfl⟩ := hcut
          have HR := Lib.hid hR
          clear hR d1
          obtain ⟨k, hk⟩ : ∃ k, kw ys j = k := ⟨_, rfl⟩
          rw [hk] at hk31 hLj ⊢
          have hmt := MM_take (vw xs) (kw ys) j i hj
          rw [hk, ← HM.out, HV.out, Int.toNat_natCast] at hmt
          have Hmt := Lib.hid hmt
          have Hk := Lib.hid hk
          clear hmt hk
          obtain ⟨at_, hat⟩ : ∃ a, LL (kw ys) j = a := ⟨_, rfl⟩
          have hR := HR.out
          rw [hat] at hR hLj
          have htk := take_good r G (dig ((L + 7) / 8) M) at_ k wr hR (by omega) (by omega) (by rw [Hdl.out]; omega)
          rw [HMn.out, Int.toNat_natCast, show M / 2 ^ at_ % 2 ^ k = X % 2 ^ k from by rw [← hat]; exact Hmt.out] at htk
          have Htk := Lib.hid htk
          have Hat := Lib.hid hat
          clear htk hat hR
          go_upto_region 18 with fail
          go_cut [14, 15] (fun s14 s15 wc => s14 = .int .u32 (X % 2 ^ k : Nat) ∧ s15 = .bool true ∧ Rd wc r G (dig ((L + 7) / 8) M) (at_ + k) ∧ Fr [] w wc ∧ wc.cell? ⟨g0, o0 + j, none⟩ = some (.int .u32 X))
          case first =>
            go_wp2_with (go_at_call 10; refine Htk.out.mono ?_; rintro e w1 ⟨rfl, hR1, fr5⟩)
            go_meet
            have hlt := World.block_lt_of_cell? wr _ D0.out
            exact ⟨rfl, rfl, hR1, fr4.step fr5 (fun x hx => by simp at hx; subst hx; exact .inr hrw), fr5.cell D0.out (by
              simp
              rintro rfl
              have h5 := A0.lt g0 (by simp [blk]) (by have := A0.le; omega)
              omega)⟩
          case rest =>
          obtain ⟨rfl, rfl, hR1, fr5, d0⟩ := hcut
          have hmask := u32_mask X k hX2 (by omega)
          have Hmask := Lib.hid hmask
          clear hmask
          go_upto_region 19 with fail
          go_cut [82] (fun s82 wc => s82 = .bool false ∧ Rd wc r G (dig ((L + 7) / 8) M) (at_ + k) ∧ Fr [] w wc)
          case first =>
            have HR1 := Lib.hid hR1
            clear hR1
            go_quiet (fail)
            go_wp2
            go_meet
            refine ⟨bool_eq ?_, rd_fr HR1.out (Fr.drewN [] _ _) (by simp), fr5.drewsN _⟩
            have e : ((X % 2 ^ k : Nat) : Int) = (X : Int) % 2 ^ k := by rw [Int.natCast_emod, cast_pow]
            rw [Hmask.out, e]
            simp
          case rest =>
          obtain ⟨rfl, hR2, fr6⟩ := hcut
          go_wp2
          go_roundg (i - (j + 1))
          case measure => omega
          case rel =>
            refine ⟨j + 1, by omega, by go_num, ?_, fr6⟩
            simp only [LL]
            rw [Hat.out, Hk.out]
            exact hR2
        · obtain rfl : j = i := by omega
          rw [← HL.out] at hR
          go_wp2_with (first | (go_at_call 11; refine (used_any r G _ _ _ hR).mono ?_; rintro e w' ⟨rfl, rfl⟩) | (go_at_call 12; refine (awake_any _).mono ?_; rintro e w' ⟨rfl, fr7⟩))
          go_ret
          exact ⟨rfl, below_of_fr (fr4.trans fr7)⟩

/-- From the arguments as they are read to the walk. -/
theorem walk {H : Type} {enc : TypeId × Value → H} (W : World) {base : Nat} (v0 : Value) (d0 : DataW H) (p0 : List MemPlace) (v1 : Value) (d1 : DataW H) (p1 : List MemPlace)
    (o0 : Value.okWide Try.prog W .any base 22 v0) (h0 : DataW.Trod enc Try.prog W 0 (fun _ => true) true 22 v0 d0 p0)
    (o1 : Value.okWide Try.prog W .any base 23 v1) (h1 : DataW.Trod enc Try.prog W 0 (fun _ => true) true 23 v1 d1 p1)
    (hz : (DataW.weightsEach Try.prog [22, 23] [d0, d1]).all (· ≤ reachBytes) = true) :
    Calls Try.prog 3 #[v0, v1] W fun e W' => e = .returned (.bool true) ∧ Below W.heap.size W W' := by
  obtain ⟨a0, len0, cap0, rfl⟩ := okWide_slice Try.underlying22 o0
  obtain ⟨a1, len1, cap1, rfl⟩ := okWide_slice Try.underlying23 o1
  obtain ⟨xs, _, A0, _⟩ := ints_arg Try.underlying22 Try.underlying29 (by kernel_rfl) h0
  obtain ⟨ys, _, A1, _⟩ := ints_arg Try.underlying23 Try.underlying3 (by kernel_rfl) h1
  exact walk_in W a0 a1 len0 cap0 len1 cap1 xs ys A0 A1

/-! ### The row -/
theorem own : ownKnob Try.prog.godebug = none := by kernel_rfl
theorem laidOut : laidOutB Try.prog = true := by kernel_rfl
set_option maxRecDepth 100000 in
theorem lifted (os : Os) (started : os.Started) (H : Type) (enc : TypeId × Value → H) :
    ReturnsInHanded {} Try.checked os 3 .any (Rows.bitsBackSpec.pre6 enc Try.prog Try.f3 Rows.bitsBackRow.domain false) (Rows.bitsBackSpec.post enc Try.prog Try.f3 false true false false) := by
  refine returnsInHanded_of_change_sized (C := Try.checked) own started (by kernel_rfl) Try.func3
    (ChangeSpec.witness6 (enc := enc) (C := Try.checked) false ⟨#[], #[.slice none 0 0, .slice none 0 0], []⟩ 8 (by kernel_rfl) (by kernel_rfl) (by kernel_rfl) (by kernel_rfl)) ?_
  intro W base args ds gs before hval hW _ hsz _
  have hW' := hW
  obtain ⟨p, q, hA0, hV, rfl, hfz, hnd⟩ := hW'
  have hA : DataW.TrodAll enc Try.prog W 0 (fun _ => true) true Try.f3.params.toList args.toList ds p := hA0
  rw [Try.params3] at hA hval
  obtain ⟨v0, vs0, d0, ds0, p0, q0, hargs, rfl, rfl, h0, r0⟩ := trodAll_cons hA
  obtain ⟨v1, vs1, d1, ds1, p1, q1, rfl, rfl, rfl, h1, r1⟩ := trodAll_cons r0
  obtain ⟨rfl, rfl, rfl⟩ := trodAll_nil r1
  obtain rfl : args = #[v0, v1] := by cases args; simp_all
  obtain ⟨rfl, rfl⟩ := trodVars_none hV
  have hz : (DataW.weightsEach Try.prog [22, 23] [d0, d1]).all (· ≤ reachBytes) = true := hsz
  refine law_of_calls (s := Rows.bitsBackSpec) laidOut (by kernel_rfl) rfl rfl Try.underlying4 hW (fun gs _ h2 => by subst h2; rfl) ?_
  exact walk W v0 d0 p0 v1 d1 p1 (hval 0 22 v0 rfl rfl) (h0) (hval 1 23 v1 rfl rfl) (h1) hz

theorem over : Rows.bitsBackRow.holds Try.pinned (OpenSpec.ofChange Rows.bitsBackSpec) :=
  OpenClaim.holds_of_wide 3 Try.f3 rfl rfl rfl rfl rfl rfl rfl ⟨rfl, rfl, rfl, rfl, rfl⟩ rfl rfl rfl rfl rfl (by kernel_rfl) Try.func3 (by kernel_rfl)
    (of_decide_eq_true (by kernel_rfl)) (by unfold Func.isWrapper; first | (rw [if_pos (by decide +kernel)]; kernel_rfl) | (rw [if_neg (by decide +kernel)]; exact ⟨rfl, rfl⟩))
    (fun os started H enc _ => lifted os started H enc)

theorem proved : Rows.BitsBackSaid := over

end Go.Proofs.Ytcfhebhbgllphaa.bitsBack
