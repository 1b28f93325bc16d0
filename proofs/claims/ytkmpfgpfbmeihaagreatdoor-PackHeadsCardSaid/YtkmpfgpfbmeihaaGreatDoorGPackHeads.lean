/-
  Whatever kind, size and offset come in, stemmalaw11.PackHeads answers true and changes nothing that was there.
-/
import Derived.Test.YtkmpfgpfbmeihaaGreatDoorG3
import Derived.Test.YtkmpfgpfbmeihaaGreatDoorCards
import Derived.Test.YtkmpfgpfbmeihaaGreatDoorTie
import Derived.ProofKit
import Derived.Lay
import Derived.LaidOnce
import Derived.LaidLaws
import Derived.SevenTiedAt
set_option linter.unusedVariables false
set_option linter.unusedSimpArgs false
namespace Go.Proofs.YtkmpfgpfbmeihaaGreatDoor.packHeads
open Go Go.RowKit Go.Proofs.YtkmpfgpfbmeihaaGreatDoor.lib Go.Proofs.YtkmpfgpfbmeihaaGreatDoor.bm Go.Proofs.YtkmpfgpfbmeihaaGreatDoor.pk

theorem vat_le (l : List UInt8) : ∀ i, vat l i < 2 * 256 ^ i
  | 0 => by simp [vat]
  | i + 1 => by
    have := vat_le l i
    have h0 : 0 < 256 ^ i := Nat.pow_pos (by decide)
    unfold vat
    rw [Nat.pow_succ]
    split <;> omega
theorem vat_small (l : List UInt8) {i : Nat} (h : i ≤ 5) : vat l i ≤ 2199023255552 := by
  have := vat_le l i
  have h2 : 256 ^ i ≤ 256 ^ 5 := Nat.pow_le_pow_right (by decide) h
  have h3 : 256 ^ 5 = 1099511627776 := by decide
  omega
theorem and127u (b : UInt8) : bits .and .u8 ((b.toNat : Nat) : Int) 127 = ((b.toNat % 128 : Nat) : Int) := by
  have h : ∀ x : Fin 256, bits .and .u8 (x.1 : Int) 127 = ((x.1 % 128 : Nat) : Int) := by decide +kernel
  exact h ⟨b.toNat, UInt8.toNat_lt b⟩
set_option maxRecDepth 100000 in
set_option maxHeartbeats 8000000 in
theorem walk_bad (W : World) (kind size n : Int) (hb : kind < 1 ∨ (¬ kind < 1 ∧ 7 < kind) ∨ (¬ kind < 1 ∧ ¬ 7 < kind ∧ size < 0) ∨ (¬ kind < 1 ∧ ¬ 7 < kind ∧ ¬ size < 0 ∧ 2147483647 < size) ∨ (¬ kind < 1 ∧ ¬ 7 < kind ∧ ¬ size < 0 ∧ ¬ 2147483647 < size ∧ n < 1) ∨ (¬ kind < 1 ∧ ¬ 7 < kind ∧ ¬ size < 0 ∧ ¬ 2147483647 < size ∧ ¬ n < 1 ∧ 1073741824 < n)) :
    Calls Tryz.prog 3 #[.int .i64 kind, .int .i64 size, .int .i64 n] W fun e W' => e = .returned (.bool true) ∧ Fr [] W W' := by
  rcases hb with h1 | ⟨h1, h2⟩ | ⟨h1, h2, h3⟩ | ⟨h1, h2, h3, h4⟩ | ⟨h1, h2, h3, h4, h5⟩ | ⟨h1, h2, h3, h4, h5, h6⟩
  all_goals
    go_enter Tryz.func3, Tryz.ntmps3
    go_wp2_with (go_at_call 8; refine (awake_any _).mono ?_; rintro e9 w9 ⟨rfl, f9⟩)
    go_ret
    exact ⟨rfl, f9⟩
set_option maxRecDepth 100000 in
set_option maxHeartbeats 8000000 in
theorem walk_good (W : World) (kind size n : Nat) (h1 : 1 ≤ kind) (h2 : kind ≤ 7) (h4 : size ≤ 2147483647) (h5 : 1 ≤ n) (h6 : n ≤ 1073741824) :
    Calls Tryz.prog 3 #[.int .i64 (kind : Nat), .int .i64 (size : Nat), .int .i64 (n : Nat)] W fun e W' => e = .returned (.bool true) ∧ Fr [] W W' := by
  have hb := back_any n W (by omega)
  have hh := fun w' => head_any kind size w' h2 (by omega)
  have hr := fun w' => rhead_any kind size w' h2 (by omega)
  unfold NewBytes at hb hh
  unfold NewRow at hr
  have hm := fun i (hi : i < (bk n).length) => bk_mark n hi
  have hv := bk_val n
  have hl5 := bk_len h6
  obtain ⟨bs, hbs⟩ : ∃ bs, bs = (bk n).reverse := ⟨_, rfl⟩
  obtain ⟨L, hL⟩ : ∃ L, L = bs.length := ⟨_, rfl⟩
  have hLk : (bk n).length = L := by rw [hL, hbs, List.length_reverse]
  rw [← hbs] at hb hm hv
  rw [hLk] at hm hv hl5
  rw [← hL] at hb
  obtain ⟨hd', hdd⟩ : ∃ x, x = hd kind size := ⟨_, rfl⟩
  rw [← hdd] at hh hr
  obtain ⟨D, hD⟩ : ∃ D, D = hd'.length := ⟨_, rfl⟩
  rw [← hD] at hh hr
  have H0 := Lib.hid (And.intro hb (And.intro hh (And.intro hr (And.intro hm (And.intro hv (And.intro hL hD))))))
  clear hb hh hr hm hv hL hD hbs hLk hdd
  go_enter Tryz.func3, Tryz.ntmps3
  go_upto_region 4 with (go_at_call 9; refine H0.out.1.mono ?_; rintro e w1 ⟨a, rfl, rd1, nb1, f1⟩)
  have H1 := Lib.hid (And.intro rd1 f1)
  clear rd1 f1 nb1
  go_wp2
  go_loopg [8, 9] L (fun k s8 s9 wr => ∃ i v : Nat, s8 = .int .i64 (v : Nat) ∧ s9 = .int .i64 (i : Nat) ∧ i + k = L ∧ v = vat bs i ∧ Fr [] w1 wr)
  case atStart => exact ⟨0, 0, rfl, rfl, by omega, rfl, Fr.refl _ _⟩
  case round =>
    obtain ⟨i, v, rfl, rfl, hik, hv, hf⟩ := hrel
    have hvb : v ≤ 2199023255552 := by rw [hv]; exact vat_small bs (by omega)
    have HV := Lib.hid (And.intro hv hf)
    clear hv hf
    by_cases hi : i < L
    · obtain ⟨k, rfl⟩ : ∃ k, gk = k + 1 := ⟨gk - 1, by omega⟩
      have hbl : i < bs.length := by rw [← H0.out.2.2.2.2.2.1]; exact hi
      obtain ⟨g, o, rfl, hc⟩ := (H1.out.1.fr HV.out.2).at hbl
      obtain ⟨b, hb⟩ : ∃ b, b = bs[i]?.getD 0 := ⟨_, rfl⟩
      rw [show bs[i] = bs[i]?.getD 0 by rw [List.getElem?_eq_getElem hbl]; rfl, ← hb] at hc
      have hmk := H0.out.2.2.2.1 i hi
      rw [← hb] at hmk
      have e7 := and127u b
      have hvs : vat bs (i + 1) = (if i = 0 then 0 else (v + 1) * 128) + b.toNat % 128 := by rw [hb, HV.out.1]; rfl
      have HB := Lib.hid hvs
      have hx := UInt8.toNat_lt b
      generalize b.toNat = x at *
      obtain ⟨y, hy⟩ : ∃ y, y = x % 128 := ⟨_, rfl⟩
      have hy7 : y ≤ 127 := by omega
      rw [← hy] at e7
      have HY := Lib.hid hy
      clear hb hvs hy hbl
      have HM := Lib.hid hmk
      clear hmk
      by_cases hi2 : i + 1 < L
      · have hx1 : 128 ≤ x := HM.out.2 hi2
        have d1 : decide (128 ≤ (x : Int)) = true := by simp; omega
        have d2 : decide ((i : Int) + 1 < (L : Int)) = true := by simp; omega
        by_cases hi0 : 0 < i
        · go_wp2
          go_roundg k
          case measure => omega
          case rel => exact ⟨i + 1, (v + 1) * 128 + y, by go_num, by go_num, by omega, by rw [HB.out, if_neg (by omega), HY.out], HV.out.2⟩
        · obtain rfl : i = 0 := by omega
          simp only [Nat.add_zero] at hc
          obtain rfl : v = 0 := HV.out.1
          have d3 : decide (1 < (L : Int)) = true := by simp; omega
          go_wp2
          go_roundg k
          case measure => omega
          case rel => exact ⟨1, y, by go_num, by go_num, by omega, by rw [HB.out, HY.out]; simp, HV.out.2⟩
      · have hx1 : ¬ 128 ≤ x := fun h' => hi2 (HM.out.1 h')
        have d1 : decide (128 ≤ (x : Int)) = false := by simp; omega
        have d2 : decide ((i : Int) + 1 < (L : Int)) = false := by simp; omega
        by_cases hi0 : 0 < i
        · go_wp2
          go_roundg k
          case measure => omega
          case rel => exact ⟨i + 1, (v + 1) * 128 + y, by go_num, by go_num, by omega, by rw [HB.out, if_neg (by omega), HY.out], HV.out.2⟩
        · obtain rfl : i = 0 := by omega
          simp only [Nat.add_zero] at hc
          obtain rfl : v = 0 := HV.out.1
          have d3 : decide (1 < (L : Int)) = false := by simp; omega
          go_wp2
          go_roundg k
          case measure => omega
          case rel => exact ⟨1, y, by go_num, by go_num, by omega, by rw [HB.out, HY.out]; simp, HV.out.2⟩
    · obtain rfl : i = L := by omega
      have hvn : v = n := by rw [HV.out.1]; exact H0.out.2.2.2.2.1
      have HN := Lib.hid (H1.out.2.trans HV.out.2)
      subst hvn
      clear HV
      obtain ⟨z, hz⟩ : ∃ z, z = str hd' := ⟨_, rfl⟩
      have hzz : (z == z) = true := by rw [hz, str_beq]; exact beq_self_eq_true _
      have HZ := Lib.hid (And.intro hz hzz)
      clear hz hzz
      go_upto_region 13 with fail
      refine region_mix 20 [(false, 0), (false, 1), (false, 4), (false, 5), (true, 2), (false, 3), (true, 6), (false, 7), (false, 8), (false, 9), (false, 10), (false, 11), (false, 12), (false, 13), (false, 14), (false, 15), (false, 16), (false, 17), (false, 18), (false, 19)] [] (by kernel_rfl) (by kernel_rfl) (fun _ _ d _ _ h => by cases d <;> exact h) ?_
      simp only [List.map_cons, List.map_nil, List.getD_cons_zero, List.getD_cons_succ, List.drop_succ_cons, List.drop_zero, List.drop_nil]
      refine mix_seg 4 rfl ?_
      simp only [List.take_succ_cons, List.take_zero, List.drop_succ_cons, List.drop_zero, List.map_cons, List.map_nil]
      repeat (go_big_quiet_step (fail))
      refine wpQuiet_nil ?_
      refine mix_eff rfl ?_
      intro X hX
      go_wp2_with (go_at_call 10; refine (H0.out.2.1 _).mono ?_; rintro e5 w5 ⟨a5, rfl, r5, _, f5⟩)
      refine hX.out _ _ f5 ?_
      clear hX X
      have cv : ∀ x cap, (convert 23 9 (.slice a5 D cap)).run Tryz.prog (sup [] w5 x) = .ok (.string z) (sup [] w5 x) := by rw [HZ.out.1, H0.out.2.2.2.2.2.2]; exact run_conv_sup [] w5 Tryz.underlying23 Tryz.underlying5 Tryz.underlying9 rfl r5.cs (by simp)
      have H5 := Lib.hid f5
      clear r5 f5
      refine mix_seg 1 rfl ?_
      simp only [List.take_succ_cons, List.take_zero, List.drop_succ_cons, List.drop_zero, List.map_cons, List.map_nil]
      repeat (go_big_quiet_step (fail))
      refine wpQuiet_nil ?_
      clear cv
      refine mix_eff rfl ?_
      intro X hX
      go_wp2_with (go_at_call 11; refine (H0.out.2.2.1 _).mono ?_; rintro e6 w6 ⟨a6, c6, rfl, r6, _, f6⟩)
      refine hX.out _ _ f6 ?_
      clear hX X
      have cv : ∀ x cap, (convert 23 9 (.slice a6 D cap)).run Tryz.prog (sup [] w6 x) = .ok (.string z) (sup [] w6 x) := by rw [HZ.out.1, H0.out.2.2.2.2.2.2]; exact run_conv_sup [] w6 Tryz.underlying23 Tryz.underlying5 Tryz.underlying9 rfl r6.cs (by simp)
      have H6 := Lib.hid (HN.out.trans ((Fr.drew1 [] wr).trans (H5.out.trans f6)))
      have hzz := HZ.out.2
      clear r6 f6 H5
      refine mix_seg 13 rfl ?_
      simp only [List.take_succ_cons, List.take_zero, List.drop_succ_cons, List.drop_zero, List.map_cons, List.map_nil]
      repeat (go_big_quiet_step (fail))
      refine wpQuiet_nil ?_
      clear cv
      refine mix_nil ?_
      go_wp2_with (go_at_call 8; refine (awake_any _).mono ?_; rintro e9 w9 ⟨rfl, f9⟩)
      go_ret
      exact ⟨rfl, H6.out.trans f9⟩
def kindok (k s n : Int) : Prop := 1 ≤ k ∧ k ≤ 7 ∧ 0 ≤ s ∧ s ≤ 2147483647 ∧ 1 ≤ n ∧ n ≤ 1073741824
open Go.ChangeShapes Go.WideShapes
set_option maxRecDepth 100000 in
/-- From the arguments as they are read to the walk. -/
theorem walk {H : Type} {enc : TypeId × Value → H} (W : World) {base : Nat} (v0 : Value) (d0 : DataW H) (p0 : List MemPlace) (v1 : Value) (d1 : DataW H) (p1 : List MemPlace) (v2 : Value) (d2 : DataW H) (p2 : List MemPlace)
    (o0 : Value.okWide Tryz.prog W .any base 3 v0) (h0 : DataW.Trod enc Tryz.prog W 0 (fun _ => true) true 3 v0 d0 p0)
    (o1 : Value.okWide Tryz.prog W .any base 3 v1) (h1 : DataW.Trod enc Tryz.prog W 0 (fun _ => true) true 3 v1 d1 p1)
    (o2 : Value.okWide Tryz.prog W .any base 3 v2) (h2 : DataW.Trod enc Tryz.prog W 0 (fun _ => true) true 3 v2 d2 p2)
    (hz : (DataW.weightsEach Tryz.prog [3, 3, 3] [d0, d1, d2]).all (· ≤ reachBytes) = true) :
    Calls Tryz.prog 3 #[v0, v1, v2] W fun e W' => e = .returned (.bool true) ∧ Below W.heap.size W W' := by
  obtain ⟨x0, rfl, rfl, rfl, wx0⟩ := open_int Tryz.underlying3 o0 h0
  obtain ⟨x1, rfl, rfl, rfl, wx1⟩ := open_int Tryz.underlying3 o1 h1
  obtain ⟨x2, rfl, rfl, rfl, wx2⟩ := open_int Tryz.underlying3 o2 h2
  refine Calls.mono (R := fun e W' => e = .returned (.bool true) ∧ Fr [] W W') ?_ (fun e W' h => ⟨h.1, below_of_fr h.2⟩)
  by_cases g : kindok x0 x1 x2
  · obtain ⟨g1, g2, g3, g4, g5, g6⟩ := g
    have := walk_good W x0.toNat x1.toNat x2.toNat (by omega) (by omega) (by omega) (by omega) (by omega)
    rwa [show ((x0.toNat : Nat) : Int) = x0 by omega, show ((x1.toNat : Nat) : Int) = x1 by omega, show ((x2.toNat : Nat) : Int) = x2 by omega] at this
  · exact walk_bad W x0 x1 x2 (by unfold kindok at g; omega)

/-! ### The row -/
theorem own : ownKnob Tryz.prog.godebug = none := by kernel_rfl
theorem laidOut : laidOutB Tryz.prog = true := by kernel_rfl
set_option maxRecDepth 100000 in
theorem lifted (os : Os) (started : os.Started) (H : Type) (enc : TypeId × Value → H) :
    ReturnsInHanded {} Tryz.checked os 3 .any (fun w args => (Rows.packHeadsSpec.pre enc Tryz.prog Tryz.f3 [] false w args ∧ laidMetH Tryz.prog Rows.packHeadsRow.laid w) ∧ sizedMet enc Tryz.prog Tryz.f3 (OpenSpec.ofChange Rows.packHeadsSpec) false w args) (Rows.packHeadsSpec.post enc Tryz.prog Tryz.f3 false true false false) := by
  refine returnsInHanded_of_change_and (C := Tryz.checked) (X := fun w _ => laidMetH Tryz.prog Rows.packHeadsRow.laid w) (fun _ _ _ hh h => h.of_heap hh) own started (by kernel_rfl) Tryz.func3
    (ChangeSpec.witness_shaped (enc := enc) (C := Tryz.checked) (os := os) (X := fun w _ => laidMetH Tryz.prog Rows.packHeadsRow.laid w) false (World.laidAll Tryz.prog os Rows.packHeadsRow.laid) #[.int .i64 0, .int .i64 0, .int .i64 0] 8 (World.laidAll_os _ _ _)
      (World.shaped_of_ZipB (by kernel_rfl) (by kernel_rfl)) (by kernel_rfl) (by kernel_rfl) (by kernel_rfl)
      (by rw [MakeChecks.laidMetH_plain _ _ _ (by kernel_rfl)]; exact laidMet_laidAll _ (by kernel_rfl) (by kernel_rfl))) ?_
  intro W base args ds gs before hval hW _ hsz hL _
  have hW' := hW
  obtain ⟨p, q, hA0, hV, rfl, hfz, hnd⟩ := hW'
  have hA : DataW.TrodAll enc Tryz.prog W 0 (fun _ => true) true Tryz.f3.params.toList args.toList ds p := hA0
  rw [Tryz.params3] at hA hval
  obtain ⟨v0, vs0, d0, ds0, p0, q0, hargs, rfl, rfl, h0, r0⟩ := trodAll_cons hA
  obtain ⟨v1, vs1, d1, ds1, p1, q1, rfl, rfl, rfl, h1, r1⟩ := trodAll_cons r0
  obtain ⟨v2, vs2, d2, ds2, p2, q2, rfl, rfl, rfl, h2, r2⟩ := trodAll_cons r1
  obtain ⟨rfl, rfl, rfl⟩ := trodAll_nil r2
  obtain rfl : args = #[v0, v1, v2] := by cases args; simp_all
  obtain ⟨rfl, rfl⟩ := trodVars_none hV
  have hz : (DataW.weightsEach Tryz.prog [3, 3, 3] [d0, d1, d2]).all (· ≤ reachBytes) = true := hsz
  refine law_of_calls (s := Rows.packHeadsSpec) laidOut (by kernel_rfl) rfl rfl Tryz.underlying4 hW (fun gs _ h2 => by subst h2; rfl) ?_
  exact walk W v0 d0 p0 v1 d1 p1 v2 d2 p2 (hval 0 3 v0 rfl rfl) (h0) (hval 1 3 v1 rfl rfl) (h1) (hval 2 3 v2 rfl rfl) (h2) hz

theorem over : Rows.packHeadsRow.holds Tryz.pinned (OpenSpec.ofChange Rows.packHeadsSpec) :=
  OpenClaim.holds_of_wide 3 Tryz.f3 rfl rfl rfl rfl rfl rfl rfl ⟨rfl, rfl, rfl, rfl, rfl⟩ rfl rfl rfl rfl rfl (by kernel_rfl) Tryz.func3 (by kernel_rfl)
    (of_decide_eq_true (by kernel_rfl)) (by unfold Func.isWrapper; first | (rw [if_pos (by decide +kernel)]; kernel_rfl) | (rw [if_neg (by decide +kernel)]; exact ⟨rfl, rfl⟩))
    (fun os started H enc _ => lifted os started H enc)

theorem proved : Rows.PackHeadsCardSaid :=
  Claim7.holds_tied_plain_at .later [] [.data, .data, .data] true (true, "d0d861efebdc674cd34ba13b4887dc8f133837954f0c3d7577248866046ebc0d") true
    over (fun _ h => by cases h) (by kernel_rfl) (fun _ h => by cases h) packHeads_row_tie rfl ⟨rfl, rfl⟩ (by kernel_rfl) rfl
    (fun f fn hf hfn => by
      obtain rfl : f = 3 := Option.some.inj ((show Tryz.prog.funcNamed "stemma/stemmalaw11.PackHeads" = some 3 by kernel_rfl).symm.trans hf) |>.symm
      obtain rfl : fn = Tryz.f3 := (Option.some.inj (Tryz.func3.symm.trans hfn)).symm
      exact ⟨by kernel_rfl, fun j t ht => by
        rw [Tryz.params3] at ht
        have hm : t ∈ [3, 3, 3] := by simpa using Array.mem_of_getElem? ht
        have hall : ([3, 3, 3].all fun u => !Tryz.prog.wantsStandIn u) = true := by kernel_rfl
        exact (show Tryz.prog.wantsStandIn t = false by simpa using List.all_eq_true.1 hall t hm)⟩)
    (by kernel_rfl)
end Go.Proofs.YtkmpfgpfbmeihaaGreatDoor.packHeads
