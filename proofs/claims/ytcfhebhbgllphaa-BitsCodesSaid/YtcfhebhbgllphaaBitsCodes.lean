/-
  Proved: stemmalaw4.BitsCodes returns true and leaves its arguments as they were, for every input. Conditions: none.
-/
import Derived.Test.YtcfhebhbgllphaaAwake4
import Derived.Test.YtcfhebhbgllphaaArgs
import Derived.Test.YtcfhebhbgllphaaMix
namespace Go.Proofs.Ytcfhebhbgllphaa.bitsCodes
open Go Go.RowKit Go.ChangeShapes Go.WideShapes Go.Proofs.Ytcfhebhbgllphaa.lib Go.Proofs.Ytcfhebhbgllphaa.bm Go.Proofs.Ytcfhebhbgllphaa.bits

theorem apart_step {w : World} {Fa Fb Fa' : List Nat} (hd : ∀ x ∈ Fa, x ∉ Fb) (hF : ∀ y ∈ Fa', y ∈ Fa ∨ w.heap.size ≤ y) (hlt : ∀ x ∈ Fb, x < w.heap.size) : ∀ x ∈ Fa', x ∉ Fb := by
  intro x hx hb
  rcases hF x hx with h | h
  · exact hd x h hb
  · have := hlt x hb; omega
theorem new_step {w0 w : World} {F F' : List Nat} (h0 : ∀ x ∈ F, w0.heap.size ≤ x) (hF : ∀ y ∈ F', y ∈ F ∨ w.heap.size ≤ y) (hs : w0.heap.size ≤ w.heap.size) : ∀ x ∈ F', w0.heap.size ≤ x := by
  intro x hx
  rcases hF x hx with h | h
  · exact h0 x h
  · omega

/-- Two writers that lie apart, both new. -/
def Two (w w' : World) (pa pb : Nat) (Ma La Mb Lb : Nat) : Prop :=
  ∃ Fa Fb, Wr w' pa Fa Ma La ∧ Wr w' pb Fb Mb Lb ∧ (∀ x ∈ Fa, x ∉ Fb) ∧ (∀ x ∈ Fa, w.heap.size ≤ x) ∧ (∀ x ∈ Fb, w.heap.size ≤ x) ∧ Fr [] w w'
theorem Two.a {w w' w'' : World} {pa pb Mb Lb Ma' La' : Nat} {Fa Fb : List Nat} (hb : Wr w' pb Fb Mb Lb) (hd : ∀ x ∈ Fa, x ∉ Fb) (ha0 : ∀ x ∈ Fa, w.heap.size ≤ x) (hb0 : ∀ x ∈ Fb, w.heap.size ≤ x) (fr : Fr [] w w')
    (fr2 : Fr Fa w' w'') (h : ∃ F', Wr w'' pa F' Ma' La' ∧ ∀ y ∈ F', y ∈ Fa ∨ w'.heap.size ≤ y) : Two w w'' pa pb Ma' La' Mb Lb := by
  obtain ⟨F', hw, hF⟩ := h
  exact ⟨F', Fb, hw, wr_fr hb fr2 (fun x hx h => hd x h hx), apart_step hd hF (wr_lt hb), new_step ha0 hF fr.size, hb0, fr.step fr2 (fun x hx => .inr (ha0 x hx))⟩
theorem Two.b {w w' w'' : World} {pa pb Ma La Mb' Lb' : Nat} {Fa Fb : List Nat} (ha : Wr w' pa Fa Ma La) (hd : ∀ x ∈ Fa, x ∉ Fb) (ha0 : ∀ x ∈ Fa, w.heap.size ≤ x) (hb0 : ∀ x ∈ Fb, w.heap.size ≤ x) (fr : Fr [] w w')
    (fr2 : Fr Fb w' w'') (h : ∃ F', Wr w'' pb F' Mb' Lb' ∧ ∀ y ∈ F', y ∈ Fb ∨ w'.heap.size ≤ y) : Two w w'' pa pb Ma La Mb' Lb' := by
  obtain ⟨F', hw, hF⟩ := h
  refine ⟨Fa, F', wr_fr ha fr2 hd, hw, fun x hx h => ?_, ha0, new_step hb0 hF fr.size, fr.step fr2 (fun x hx => .inr (hb0 x hx))⟩
  rcases hF x h with h1 | h1
  · exact hd x hx h1
  · have := wr_lt ha x hx; omega

set_option maxRecDepth 100000 in
set_option maxHeartbeats 1000000 in
theorem walk_in (w : World) (v : Nat) (n lead : Int) (hv : v < 4294967296) (hn : -9223372036854775808 ≤ n ∧ n ≤ 9223372036854775807) (hl : -9223372036854775808 ≤ lead ∧ lead ≤ 9223372036854775807) :
    Calls Try.prog 4 #[.int .u32 v, .int .i64 n, .int .i64 lead] w fun e w' => e = .returned (.bool true) ∧ Below w.heap.size w w' := by
  obtain ⟨m, hm, hm32⟩ : ∃ m : Nat, (n.tmod 33 + 33) % 33 = (m : Int) ∧ m ≤ 32 := ⟨((n.tmod 33 + 33) % 33).toNat, by omega, by omega⟩
  obtain ⟨l, hle, hl8⟩ : ∃ l : Nat, lead % 8 = (l : Int) ∧ l ≤ 7 := ⟨(lead % 8).toNat, by omega, by omega⟩
  have h7 := and7 lead
  rw [hle] at h7
  have ht : -33 < n.tmod 33 ∧ n.tmod 33 < 33 := ⟨by have := Int.lt_tmod_of_pos n (show (0 : Int) < 33 by decide); omega, Int.tmod_lt_of_pos n (by decide)⟩
  have Hm := Lib.hid hm
  have H7 := Lib.hid h7
  clear hm hle h7
  have hn1 := hn.1
  have hn2 := hn.2
  go_enter Try.func4, Try.ntmps4
  go_upto_region 1 with fail
  go_cut [1, 2] (fun s1 s2 wc => s1 = .int .i64 m ∧ s2 = .int .i64 l ∧ w = wc)
  case first =>
    go_wp2
    go_meet
    exact ⟨int_eq Hm.out, int_eq H7.out, rfl⟩
  case rest =>
  obtain ⟨rfl, rfl, rfl⟩ := hcut
  have z0 := wr_new w
  have z1 := wr_new (w.alloc (.cells #[.slice none 0 0, .int .u64 0, .int .i64 0] 27))
  have Z0 := Lib.hid z0
  have Z1 := Lib.hid z1
  clear z0 z1
  go_upto_region 2 with fail
  go_cut [7, 8] (fun s7 s8 wc => ∃ pa pb, s7 = .pointer (some ⟨pa, 0, none⟩) ∧ s8 = .pointer (some ⟨pb, 0, none⟩) ∧ Two w wc pa pb 0 0 0 0)
  case first =>
    go_wp2
    go_meet
    refine ⟨w.heap.size, w.heap.size + 1, rfl, by simp, [w.heap.size], _, wr_fr Z0.out ((Fr.refl [] _).alloc _) (by simp), by simpa using Z1.out, by simp, by simp, by simp, ((Fr.refl _ _).alloc _).alloc _⟩
  case rest =>
  obtain ⟨pa, pb, rfl, rfl, Fa, Fb, ha, hb, hd, ha0, hb0, fr1⟩ := hcut
  clear Z0 Z1
  go_upto_region 3 with fail
  go_cut [] (fun wc => Two w wc pa pb (85 % 2 ^ l) l 0 0)
  case first =>
    go_wp2_with (go_at_call 7; refine (put_int pa Fa _ _ _ _ _ ha (by omega) (by omega) (by omega)).mono ?_; rintro e w' ⟨rfl, fr2, hw⟩)
    go_meet
    rw [Int.toNat_natCast, Nat.min_eq_left (by omega)] at hw
    exact Two.a hb hd ha0 hb0 fr1 fr2 (by simpa using hw)
  case rest =>
  obtain ⟨Fa, Fb, ha, hb, hd, ha0, hb0, fr1⟩ := hcut
  go_upto_region 4 with fail
  go_cut [] (fun wc => Two w wc pa pb (85 % 2 ^ l) l (85 % 2 ^ l) l)
  case first =>
    go_wp2_with (go_at_call 7; refine (put_int pb Fb _ _ _ _ _ hb (by omega) (by omega) (by omega)).mono ?_; rintro e w' ⟨rfl, fr2, hw⟩)
    go_meet
    rw [Int.toNat_natCast, Nat.min_eq_left (by omega)] at hw
    exact Two.b ha hd ha0 hb0 fr1 fr2 (by simpa using hw)
  case rest =>
  obtain ⟨Fa, Fb, ha, hb, hd, ha0, hb0, fr1⟩ := hcut
  go_upto_region 5 with fail
  go_cut [] (fun wc => Two w wc pa pb (85 % 2 ^ l + 2 ^ l * revTo v m m) (l + m) (85 % 2 ^ l) l)
  case first =>
    go_wp2_with (go_at_call 13; refine (code_any pa Fa _ _ v _ _ ha hv (by omega)).mono ?_; rintro e w' ⟨rfl, fr2, hw⟩)
    go_meet
    rw [Int.toNat_natCast, Nat.min_eq_left (by omega)] at hw
    exact Two.a hb hd ha0 hb0 fr1 fr2 hw
  case rest =>
  obtain ⟨Fa, Fb, ha, hb, hd, ha0, hb0, fr1⟩ := hcut
  go_wp2
  go_loopg [9, 10] m (fun k s9 s10 wr => ∃ j, j + k = m ∧ s10 = .int .i64 j ∧ s9 = .int .u32 (turned v j) ∧ wc = wr)
  case atStart => exact ⟨0, by omega, rfl, rfl, rfl⟩
  case round =>
    obtain ⟨j, hj, rfl, rfl, rfl⟩ := hrel
    by_cases hjm : j < m
    · have hst := turn_step v j hv (by omega)
      have Hst := Lib.hid hst
      clear hst ha hb
      go_wp2
      go_roundg (m - (j + 1))
      case measure => omega
      case rel => exact ⟨j + 1, by omega, by go_num, int_eq Hst.out, rfl⟩
    · obtain rfl : j = m := by omega
      have htl := turned_lt v j
      have h32 := pow_le j 32 (by omega)
      rw [p32] at h32
      have ht32 : turned v j < 4294967296 := by omega
      have HT := Lib.hid htl
      clear h32 htl
      go_upto_region 11 with fail
      go_cut [] (fun wz => Two w wz pa pb (85 % 2 ^ l + 2 ^ l * revTo v j j) (l + j) (85 % 2 ^ l + 2 ^ l * revTo v j j) (l + j))
      case first =>
        go_wp2_with (go_at_call 7; refine (put_int pb Fb _ _ _ _ _ hb (by omega) (by omega) (by omega)).mono ?_; rintro e w' ⟨rfl, fr2, hw⟩)
        go_meet
        rw [Int.toNat_natCast, Int.toNat_natCast, Nat.min_eq_left (by omega), Nat.mod_eq_of_lt HT.out, turned_eq] at hw
        exact Two.b ha hd ha0 hb0 fr1 fr2 hw
      case rest =>
      obtain ⟨Fa, Fb, ha, hb, hd, ha0, hb0, fr1⟩ := hcut
      obtain ⟨M, hM⟩ : ∃ M, M = 85 % 2 ^ l + 2 ^ l * revTo v j j := ⟨_, rfl⟩
      rw [← hM] at ha hb
      obtain ⟨bs, hbs⟩ : ∃ bs, bs = dig ((l + j + 7) / 8) M := ⟨_, rfl⟩
      have hbl : bs.length = (l + j + 7) / 8 := by rw [hbs, dig_length]
      have A := wbytes_any pa Fa M (l + j)
      have B := wbytes_any pb Fb M (l + j)
      unfold BytesPost at A B
      rw [← hbs] at A B
      have HA := Lib.hid A
      have HB := Lib.hid B
      have Hbl := Lib.hid hbl
      clear hM A B hbs hbl ht32 HT
      go_upto_region 12 with fail
      have ha1 : Wr wc.drew pa Fa M (l + j) := wr_fr ha (Fr.drew1 [] _) (by simp)
      have hb1 : Wr wc.drew pb Fb M (l + j) := wr_fr hb (Fr.drew1 [] _) (by simp)
      have fr2 : Fr [] w wc.drew := fr1.drew
      clear ha hb fr1
      have hlm : l + j ≤ 562949953421200 := by omega
      refine region_mix 19 [(true, 0), (false, 1), (true, 2), (false, 3), (false, 4), (false, 5), (false, 8), (false, 9), (false, 10), (false, 11), (false, 12), (true, 6), (false, 7), (false, 13), (false, 14), (false, 15), (true, 16), (false, 17), (false, 18)] [] (by kernel_rfl) (by kernel_rfl) (fun _ _ d _ _ h => by cases d <;> exact h) ?_
      simp only [List.map_cons, List.map_nil, List.getD_cons_zero, List.getD_cons_succ, List.drop_succ_cons, List.drop_zero, List.drop_nil]
      refine mix_eff rfl ?_
      intro K hK
      go_wp2_with (go_at_call 8; refine (HA.out wc.drew ha1 hlm).mono ?_; rintro e w1 ⟨a1, rfl, g1, n1, b1, f1⟩)
      refine hK.out _ _ f1 ?_
      clear hK K
      have ha2 : Wr w1 pa Fa M (l + j) := wr_fr ha1 f1 (by simp)
      have hb2 : Wr w1 pb Fb M (l + j) := wr_fr hb1 f1 (by simp)
      have fr3 := fr2.trans f1
      have cv1 := run_conv_sup [] w1 Try.underlying24 Try.underlying5 Try.underlying9 Hbl.out g1.cs (by simp)
      refine mix_seg 1 rfl ?_
      simp only [List.take_succ_cons, List.take_zero, List.drop_succ_cons, List.drop_zero, List.map_cons, List.map_nil]
      repeat (go_big_quiet_step (fail))
      refine wpQuiet_nil ?_
      refine mix_eff rfl ?_
      intro K hK
      go_wp2_with (go_at_call 8; refine (HB.out w1 hb2 hlm).mono ?_; rintro e w2 ⟨a2, rfl, g2, n2, b2, f2⟩)
      refine hK.out _ _ f2 ?_
      clear hK K cv1
      have ha3 : Wr w2 pa Fa M (l + j) := wr_fr ha2 f2 (by simp)
      have fr4 := fr3.trans f2
      have cv2 := run_conv_sup [] w2 Try.underlying24 Try.underlying5 Try.underlying9 Hbl.out g2.cs (by simp)
      have hst := str_toList bs
      refine mix_seg 8 rfl ?_
      simp only [List.take_succ_cons, List.take_zero, List.drop_succ_cons, List.drop_zero, List.map_cons, List.map_nil]
      repeat (go_big_quiet_step (fail))
      refine wpQuiet_nil ?_
      clear cv2
      refine mix_eff rfl ?_
      intro K hK
      go_wp2_with (go_at_call 8; refine (HA.out w2 ha3 hlm).mono ?_; rintro e w3 ⟨a3, rfl, g3, n3, b3, f3⟩)
      refine hK.out _ _ f3 ?_
      clear hK K
      have fr5 := fr4.trans f3
      refine mix_seg 4 rfl ?_
      simp only [List.take_succ_cons, List.take_zero, List.drop_succ_cons, List.drop_zero, List.map_cons, List.map_nil]
      repeat (go_big_quiet_step (fail))
      refine wpQuiet_nil ?_
      refine mix_eff rfl ?_
      intro K hK
      go_wp2_with (go_at_call 12; refine (awake_any w3).mono ?_; rintro e w4 ⟨rfl, f4⟩)
      refine hK.out _ _ f4 ?_
      clear hK K
      refine mix_seg 2 rfl ?_
      simp only [List.take_succ_cons, List.take_zero, List.drop_succ_cons, List.drop_zero, List.map_cons, List.map_nil]
      repeat (go_big_quiet_step (fail))
      refine wpQuiet_nil ?_
      refine mix_nil ?_
      go_wp2
      go_ret
      exact ⟨rfl, below_of_fr (fr5.trans f4)⟩

/-- From the arguments as they are read to the walk. -/
theorem walk {H : Type} {enc : TypeId × Value → H} (W : World) {base : Nat} (v0 : Value) (d0 : DataW H) (p0 : List MemPlace) (v1 : Value) (d1 : DataW H) (p1 : List MemPlace) (v2 : Value) (d2 : DataW H) (p2 : List MemPlace)
    (o0 : Value.okWide Try.prog W .any base 29 v0) (h0 : DataW.Trod enc Try.prog W 0 (fun _ => true) true 29 v0 d0 p0)
    (o1 : Value.okWide Try.prog W .any base 3 v1) (h1 : DataW.Trod enc Try.prog W 0 (fun _ => true) true 3 v1 d1 p1)
    (o2 : Value.okWide Try.prog W .any base 3 v2) (h2 : DataW.Trod enc Try.prog W 0 (fun _ => true) true 3 v2 d2 p2)
    (hz : (DataW.weightsEach Try.prog [29, 3, 3] [d0, d1, d2]).all (· ≤ reachBytes) = true) :
    Calls Try.prog 4 #[v0, v1, v2] W fun e W' => e = .returned (.bool true) ∧ Below W.heap.size W W' := by
  obtain ⟨x0, rfl, rfl, rfl, wx0⟩ := open_int Try.underlying29 o0 h0
  obtain ⟨x1, rfl, rfl, rfl, wx1⟩ := open_int Try.underlying3 o1 h1
  obtain ⟨x2, rfl, rfl, rfl, wx2⟩ := open_int Try.underlying3 o2 h2
  obtain ⟨v, rfl⟩ := Int.eq_ofNat_of_zero_le (wf_u32 wx0).1
  exact walk_in W v x1 x2 (by have := (wf_u32 wx0).2; omega) (wf_i64 wx1) (wf_i64 wx2)

/-! ### The row -/
theorem own : ownKnob Try.prog.godebug = none := by kernel_rfl
theorem laidOut : laidOutB Try.prog = true := by kernel_rfl
set_option maxRecDepth 100000 in
theorem lifted (os : Os) (started : os.Started) (H : Type) (enc : TypeId × Value → H) :
    ReturnsInHanded {} Try.checked os 4 .any (Rows.bitsCodesSpec.pre6 enc Try.prog Try.f4 Rows.bitsCodesRow.domain false) (Rows.bitsCodesSpec.post enc Try.prog Try.f4 false true false false) := by
  refine returnsInHanded_of_change_sized (C := Try.checked) own started (by kernel_rfl) Try.func4
    (ChangeSpec.witness6 (enc := enc) (C := Try.checked) false ⟨#[], #[.int .u32 0, .int .i64 0, .int .i64 0], []⟩ 8 (by kernel_rfl) (by kernel_rfl) (by kernel_rfl) (by kernel_rfl)) ?_
  intro W base args ds gs before hval hW _ hsz _
  have hW' := hW
  obtain ⟨p, q, hA0, hV, rfl, hfz, hnd⟩ := hW'
  have hA : DataW.TrodAll enc Try.prog W 0 (fun _ => true) true Try.f4.params.toList args.toList ds p := hA0
  rw [Try.params4] at hA hval
  obtain ⟨v0, vs0, d0, ds0, p0, q0, hargs, rfl, rfl, h0, r0⟩ := trodAll_cons hA
  obtain ⟨v1, vs1, d1, ds1, p1, q1, rfl, rfl, rfl, h1, r1⟩ := trodAll_cons r0
  obtain ⟨v2, vs2, d2, ds2, p2, q2, rfl, rfl, rfl, h2, r2⟩ := trodAll_cons r1
  obtain ⟨rfl, rfl, rfl⟩ := trodAll_nil r2
  obtain rfl : args = #[v0, v1, v2] := by cases args; simp_all
  obtain ⟨rfl, rfl⟩ := trodVars_none hV
  have hz : (DataW.weightsEach Try.prog [29, 3, 3] [d0, d1, d2]).all (· ≤ reachBytes) = true := hsz
  refine law_of_calls (s := Rows.bitsCodesSpec) laidOut (by kernel_rfl) rfl rfl Try.underlying4 hW (fun gs _ h2 => by subst h2; rfl) ?_
  exact walk W v0 d0 p0 v1 d1 p1 v2 d2 p2 (hval 0 29 v0 rfl rfl) (h0) (hval 1 3 v1 rfl rfl) (h1) (hval 2 3 v2 rfl rfl) (h2) hz

theorem over : Rows.bitsCodesRow.holds Try.pinned (OpenSpec.ofChange Rows.bitsCodesSpec) :=
  OpenClaim.holds_of_wide 4 Try.f4 rfl rfl rfl rfl rfl rfl rfl ⟨rfl, rfl, rfl, rfl, rfl⟩ rfl rfl rfl rfl rfl (by kernel_rfl) Try.func4 (by kernel_rfl)
    (of_decide_eq_true (by kernel_rfl)) (by unfold Func.isWrapper; first | (rw [if_pos (by decide +kernel)]; kernel_rfl) | (rw [if_neg (by decide +kernel)]; exact ⟨rfl, rfl⟩))
    (fun os started H enc _ => lifted os started H enc)

theorem proved : Rows.BitsCodesSaid := over

end Go.Proofs.Ytcfhebhbgllphaa.bitsCodes
