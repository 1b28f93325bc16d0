/-
  Whatever two ints come in, stemmalaw10.DeltaNumbers answers true and changes nothing: numbers are written as the document says, and read as they were.
-/
import Derived.Test.YtoplgcikcanagaaDeltaRef
namespace Go.Proofs.Ytoplgcikcanagaa.deltaNumbers
open Go Go.RowKit Go.ChangeShapes Go.WideShapes Go.Proofs.Ytoplgcikcanagaa.lib Go.Proofs.Ytoplgcikcanagaa.bm Go.Proofs.Ytoplgcikcanagaa.delta

theorem sizes_two (n m : Nat) (hn : n ≤ 2147483647) (hm : m ≤ 2147483647) : delta.sizes (numb n ++ numb m) = (n, m, [], 0) := by
  have := sizes_numb n m hn hm []
  rwa [List.append_nil] at this
set_option maxRecDepth 100000 in
set_option maxHeartbeats 4000000 in
theorem walk_in (W : World) (n m : Int) (hn : -9223372036854775808 ≤ n ∧ n ≤ 9223372036854775807) (hm : -9223372036854775808 ≤ m ∧ m ≤ 9223372036854775807) :
    Calls Try.prog 4 #[.int .i64 n, .int .i64 m] W fun e W' => e = .returned (.bool true) ∧ Below W.heap.size W W' := by
  have hN := fun w => number_all n w hn.2
  have hM := fun w => number_all m w hm.2
  have hD := fun w => dnumber_all n w hn.2
  have hln := numb_le 8 n.toNat (Nat.lt_of_le_of_lt (show n.toNat ≤ 9223372036854775807 by omega) (by decide))
  have hlm := numb_le 8 m.toNat (Nat.lt_of_le_of_lt (show m.toNat ≤ 9223372036854775807 by omega) (by decide))
  have hpm := numb_pos m.toNat
  have htwo := fun (h : n.toNat ≤ 2147483647) (h' : m.toNat ≤ 2147483647) => sizes_two n.toNat m.toNat h h'
  unfold NewBytes at hN hM
  unfold NewRoom at hD
  generalize numb n.toNat = bn at *
  generalize numb m.toNat = bm at *
  have HC := Lib.hid (And.intro hN (And.intro hM (And.intro hD htwo)))
  clear hN hM hD htwo
  obtain ⟨L1, hL1⟩ : ∃ L, L = bn.length := ⟨_, rfl⟩
  obtain ⟨L2, hL2⟩ : ∃ L, L = bm.length := ⟨_, rfl⟩
  have HL := Lib.hid (And.intro hL1 hL2)
  rw [← hL1] at hln
  rw [← hL2] at hlm hpm
  clear hL1 hL2
  have tok1 : True := trivial
  go_enter Try.func4, Try.ntmps4
  go_upto_region 2 with (first | (go_at_call 8; have _t := tok1; refine (HC.out.1 _).mono ?_; rintro e w1 ⟨a1, rfl, r1, _, f1⟩; rw [← HL.out.1] at r1 ⊢; have H1 := Lib.hid (And.intro r1 f1); clear r1 f1; clear tok1 _t) | (go_at_call 8; refine (HC.out.2.1 _).mono ?_; rintro e w2 ⟨a2, rfl, r2, _, f2⟩; rw [← HL.out.2] at r2 ⊢; have H2 := Lib.hid (And.intro r2 f2); clear r2 f2) | (refine wpList_append_full sliceU8 rfl _ _ rfl a1 L1 L1 (bn.map bv) rfl (H1.out.1.fr H2.out.2).cs (by rw [List.length_map, ← HL.out.1, Nat.mul_one]) (Nat.le_refl _) H1.out.1.nil a2 L2 L2 (bm.map bv) rfl H2.out.1.cs (by rw [List.length_map, ← HL.out.2, Nat.mul_one]) (by omega) (by omega) (by unfold maxLen; omega) ?_; intro c3 w3 A3; have H3 := Lib.hid A3; clear A3))
  generalize w2.heap.size = g at *
  have hrd : Rd w3 (some ⟨g, 0, none⟩) c3 (bn ++ bm) ∧ (bn ++ bm).length = L1 + L2 := by
    have h := H3.out.own
    rw [← List.map_append] at h
    exact rd_of_owns h
  have hsz := fun w (f : Fr [] w3 w) => dsizes_all (some ⟨g, 0, none⟩) c3 (bn ++ bm) w (hrd.1.fr f)
  have hds := fun w (f : Fr [] w3 w) => drsizes_all (some ⟨g, 0, none⟩) c3 (bn ++ bm) w (hrd.1.fr f) (by rw [hrd.2]; omega)
  rw [hrd.2] at hsz hds
  unfold DSized at hds
  have HT := Lib.hid HC.out.2.2.2
  have htwo := HC.out.2.2.2
  generalize delta.sizes (bn ++ bm) = X at *
  obtain ⟨x, y, r, e⟩ := X
  simp only at hsz hds
  have HS := Lib.hid (And.intro hsz (And.intro hds (H1.out.2.trans (H2.out.2.trans H3.out.fr))))
  have HTW := Lib.hid htwo
  clear hsz hds hrd htwo HT
  go_upto_region 3 with (go_at_call 11; refine (HS.out.1 _ (Fr.refl _ _)).mono ?_; rintro e1 w4 ⟨rfl, f4⟩; have H4 := Lib.hid f4; clear f4)
  obtain ⟨z, hz⟩ : ∃ z, z = str bn := ⟨_, rfl⟩
  have HZ := Lib.hid hz
  clear hz
  refine region_mix 7 [(false, 0), (false, 3), (true, 1), (false, 2), (true, 4), (false, 5), (false, 6)] [] (by kernel_rfl) (by kernel_rfl) (fun _ _ d _ _ h => by cases d <;> exact h) ?_
  simp only [List.map_cons, List.map_nil, List.getD_cons_zero, List.getD_cons_succ, List.drop_succ_cons, List.drop_zero, List.drop_nil]
  refine mix_seg 2 rfl ?_
  simp only [List.take_succ_cons, List.take_zero, List.drop_succ_cons, List.drop_zero, List.map_cons, List.map_nil]
  repeat (go_big_quiet_step (fail))
  refine wpQuiet_nil ?_
  refine mix_eff rfl ?_
  intro X hX
  go_wp2_with (go_at_call 8; refine (HC.out.1 _).mono ?_; rintro e5 w5 ⟨a5, rfl, r5, _, f5⟩)
  refine hX.out _ _ f5 ?_
  clear hX X
  have cv : ∀ x cap, (convert 22 9 (.slice a5 bn.length cap)).run Try.prog (sup [] w5 x) = .ok (.string z) (sup [] w5 x) := by rw [HZ.out]; exact run_conv_sup [] w5 Try.underlying22 Try.underlying5 Try.underlying9 rfl r5.cs (by simp)
  have H5 := Lib.hid f5
  clear r5 f5
  refine mix_seg 1 rfl ?_
  simp only [List.take_succ_cons, List.take_zero, List.drop_succ_cons, List.drop_zero, List.map_cons, List.map_nil]
  repeat (go_big_quiet_step (fail))
  refine wpQuiet_nil ?_
  clear cv
  refine mix_eff rfl ?_
  intro X hX
  go_wp2_with (go_at_call 12; refine (HC.out.2.2.1 _).mono ?_; rintro e6 w6 ⟨a6, c6, rfl, r6, f6⟩)
  refine hX.out _ _ f6 ?_
  clear hX X
  have cv : ∀ x cap, (convert 22 9 (.slice a6 bn.length cap)).run Try.prog (sup [] w6 x) = .ok (.string z) (sup [] w6 x) := by rw [HZ.out]; exact run_conv_sup [] w6 Try.underlying22 Try.underlying5 Try.underlying9 rfl r6.cs (by simp)
  have H6 := Lib.hid (H4.out.trans ((Fr.drew1 [] w4).trans (H5.out.trans f6)))
  clear r6 f6 H5
  refine mix_seg 2 rfl ?_
  simp only [List.take_succ_cons, List.take_zero, List.drop_succ_cons, List.drop_zero, List.map_cons, List.map_nil]
  repeat (go_big_quiet_step (fail))
  refine wpQuiet_nil ?_
  clear cv
  refine mix_nil ?_
  by_cases hin : (0 ≤ n ∧ 0 ≤ m) ∧ n < 2147483648 ∧ m < 2147483648
  · have hXe := HTW.out (by omega) (by omega)
    simp only [Prod.mk.injEq] at hXe
    obtain ⟨rfl, rfl, _, rfl⟩ := hXe
    have e1 : ((n.toNat : Nat) : Int) = n := by omega
    have e2 : ((m.toNat : Nat) : Int) = m := by omega
    rw [e1, e2]
    obtain ⟨⟨i1, i2⟩, i3, i4⟩ := hin
    clear e1 e2
    go_wp2_with (go_at_call 10; refine (awake_any _).mono ?_; rintro e9 w9 ⟨rfl, f9⟩)
    go_ret
    exact ⟨by first | rfl | simp, below_of_fr ((HS.out.2.2.trans H6.out).trans f9)⟩
  · go_upto_region 5 with fail
    go_cut [41] from 28 to 42 (fun s41 wz => s41 = .bool false ∧ w6 = wz)
    case first =>
      by_cases j1 : 0 ≤ n
      · have d1 : decide ((0 : Int) ≤ n) = true := by simpa using j1
        by_cases j2 : 0 ≤ m
        · have d2 : decide ((0 : Int) ≤ m) = true := by simpa using j2
          by_cases j3 : n < 2147483648
          · have d3 : decide (n < 2147483648) = true := by simpa using j3
            have d4 : decide (m < 2147483648) = false := by simp; omega
            clear hin
            go_wp2
            go_meet
            exact ⟨rfl, rfl⟩
          · have d3 : decide (n < 2147483648) = false := by simp; omega
            clear hin
            go_wp2
            go_meet
            exact ⟨rfl, rfl⟩
        · have d2 : decide ((0 : Int) ≤ m) = false := by simp; omega
          clear hin
          go_wp2
          go_meet
          exact ⟨rfl, rfl⟩
      · have d1 : decide ((0 : Int) ≤ n) = false := by simp; omega
        clear hin
        go_wp2
        go_meet
        exact ⟨rfl, rfl⟩
    case rest =>
    obtain ⟨rfl, rfl⟩ := hcut
    clear hin
    go_wp2_with (first | (go_at_call 13; refine (HS.out.2.1 _ H6.out).mono ?_; rintro e7 w7 ⟨u7, rfl, _, _, f7⟩; have H7 := Lib.hid (H6.out.trans f7); clear f7) | (go_at_call 10; refine (awake_any _).mono ?_; rintro e9 w9 ⟨rfl, f9⟩))
    go_ret
    exact ⟨by first | rfl | simp, below_of_fr ((HS.out.2.2.trans (H7.out.trans ((Fr.refl [] w7).alloc _))).trans f9)⟩
/-- From the arguments as they are read to the walk. -/
theorem walk {H : Type} {enc : TypeId × Value → H} (W : World) {base : Nat} (v0 : Value) (d0 : DataW H) (p0 : List MemPlace) (v1 : Value) (d1 : DataW H) (p1 : List MemPlace)
    (o0 : Value.okWide Try.prog W .any base 3 v0) (h0 : DataW.Trod enc Try.prog W 0 (fun _ => true) true 3 v0 d0 p0)
    (o1 : Value.okWide Try.prog W .any base 3 v1) (h1 : DataW.Trod enc Try.prog W 0 (fun _ => true) true 3 v1 d1 p1)
    (hz : (DataW.weightsEach Try.prog [3, 3] [d0, d1]).all (· ≤ reachBytes) = true) :
    Calls Try.prog 4 #[v0, v1] W fun e W' => e = .returned (.bool true) ∧ Below W.heap.size W W' := by
  obtain ⟨x0, rfl, rfl, rfl, wx0⟩ := open_int Try.underlying3 o0 h0
  obtain ⟨x1, rfl, rfl, rfl, wx1⟩ := open_int Try.underlying3 o1 h1
  exact walk_in W x0 x1 (wf_i64 wx0) (wf_i64 wx1)

/-! ### The row -/
theorem own : ownKnob Try.prog.godebug = none := by kernel_rfl
theorem laidOut : laidOutB Try.prog = true := by kernel_rfl
set_option maxRecDepth 100000 in
theorem lifted (os : Os) (started : os.Started) (H : Type) (enc : TypeId × Value → H) :
    ReturnsInHanded {} Try.checked os 4 .any (Rows.deltaNumbersSpec.pre6 enc Try.prog Try.f4 Rows.deltaNumbersRow.domain false) (Rows.deltaNumbersSpec.post enc Try.prog Try.f4 false true false false) := by
  refine returnsInHanded_of_change_sized (C := Try.checked) own started (by kernel_rfl) Try.func4
    (ChangeSpec.witness6 (enc := enc) (C := Try.checked) false ⟨#[], #[.int .i64 0, .int .i64 0], []⟩ 8 (by kernel_rfl) (by kernel_rfl) (by kernel_rfl) (by kernel_rfl)) ?_
  intro W base args ds gs before hval hW _ hsz _
  have hW' := hW
  obtain ⟨p, q, hA0, hV, rfl, hfz, hnd⟩ := hW'
  have hA : DataW.TrodAll enc Try.prog W 0 (fun _ => true) true Try.f4.params.toList args.toList ds p := hA0
  rw [Try.params4] at hA hval
  obtain ⟨v0, vs0, d0, ds0, p0, q0, hargs, rfl, rfl, h0, r0⟩ := trodAll_cons hA
  obtain ⟨v1, vs1, d1, ds1, p1, q1, rfl, rfl, rfl, h1, r1⟩ := trodAll_cons r0
  obtain ⟨rfl, rfl, rfl⟩ := trodAll_nil r1
  obtain rfl : args = #[v0, v1] := by cases args; simp_all
  obtain ⟨rfl, rfl⟩ := trodVars_none hV
  have hz : (DataW.weightsEach Try.prog [3, 3] [d0, d1]).all (· ≤ reachBytes) = true := hsz
  refine law_of_calls (s := Rows.deltaNumbersSpec) laidOut (by kernel_rfl) rfl rfl Try.underlying4 hW (fun gs _ h2 => by subst h2; rfl) ?_
  exact walk W v0 d0 p0 v1 d1 p1 (hval 0 3 v0 rfl rfl) (h0) (hval 1 3 v1 rfl rfl) (h1) hz

theorem over : Rows.deltaNumbersRow.holds Try.pinned (OpenSpec.ofChange Rows.deltaNumbersSpec) :=
  OpenClaim.holds_of_wide 4 Try.f4 rfl rfl rfl rfl rfl rfl rfl ⟨rfl, rfl, rfl, rfl, rfl⟩ rfl rfl rfl rfl rfl (by kernel_rfl) Try.func4 (by kernel_rfl)
    (of_decide_eq_true (by kernel_rfl)) (by unfold Func.isWrapper; first | (rw [if_pos (by decide +kernel)]; kernel_rfl) | (rw [if_neg (by decide +kernel)]; exact ⟨rfl, rfl⟩))
    (fun os started H enc _ => lifted os started H enc)

theorem proved : Rows.DeltaNumbersSaid := over
end Go.Proofs.Ytoplgcikcanagaa.deltaNumbers
