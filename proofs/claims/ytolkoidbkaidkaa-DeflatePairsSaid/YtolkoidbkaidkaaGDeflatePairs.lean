/-
  Whatever bytes come in, stemmalaw7.DeflatePairs answers true and changes nothing that was there: a text twice in a row costs little more than once, and is read as it was.
-/
import Derived.Test.YtolkoidbkaidkaaG8
import Derived.ProofKit
set_option linter.unusedVariables false
set_option linter.unusedSimpArgs false
namespace Go.Proofs.Ytolkoidbkaidkaa.deflatePairs
open Go Go.RowKit Go.Proofs.Ytolkoidbkaidkaa.lib Go.Proofs.Ytolkoidbkaidkaa.bm Go.Proofs.Ytolkoidbkaidkaa.mat Go.Proofs.Ytolkoidbkaidkaa.defl Go.Proofs.Ytolkoidbkaidkaa.inf Go.Proofs.Ytolkoidbkaidkaa.trip

theorem mcs_at {w : World} {g o : Nat} {l : List Mt} (h : ∀ j v, (mcells l)[j]? = some v → w.cell? ⟨g, o + j, none⟩ = some v) {i : Nat} (hi : i < l.length) :
    w.cell? ⟨g, o + i * 3, none⟩ = some (.int .i64 (l[i].1 : Nat)) ∧ w.cell? ⟨g, o + i * 3 + 1, none⟩ = some (.int .i64 (l[i].2.1 : Nat)) := by
  obtain ⟨h0, h1, h2⟩ := mcells_at l i hi
  exact ⟨h _ _ h0, by rw [Nat.add_assoc]; exact h _ _ h1⟩
set_option maxRecDepth 100000 in
set_option maxHeartbeats 8000000 in
theorem walk_in (W : World) (a : Option Addr) (L cap : Nat) (b : List UInt8) (hB : BytesArg W a L cap b) :
    Calls Try.prog 4 #[.slice a L cap] W fun e W' => e = .returned (.bool true) ∧ Below W.heap.size W W' := by
  have hrd := Rd.of_arg hB
  have hle := hB.le
  have hL := hB.length
  clear hB
  by_cases hsm : L < 100
  · have d0 : decide ((L : Int) < 100) = true := by simp; omega
    go_enter Try.func4, Try.ntmps4
    go_wp2_with (go_at_call 6; refine (awake_any _).mono ?_; rintro e9 w9 ⟨rfl, f9⟩)
    go_ret
    exact ⟨rfl, below_of_fr f9⟩
  · have d0 : decide ((L : Int) < 100) = false := by simp; omega
    by_cases hbig : 5000 < L
    · have d1 : decide ((5000 : Int) < L) = true := by simp; omega
      go_enter Try.func4, Try.ntmps4
      go_wp2_with (go_at_call 6; refine (awake_any _).mono ?_; rintro e9 w9 ⟨rfl, f9⟩)
      go_ret
      exact ⟨rfl, below_of_fr f9⟩
    · have d1 : decide ((5000 : Int) < L) = false := by simp; omega
      have HB := Lib.hid (And.intro hrd hL)
      clear hrd hL
      have hlt : L ≤ 5000 := by omega
      go_enter Try.func4, Try.ntmps4
      go_upto_region 3 with fail
      clear d0 d1
      go_upto_region 4 with (first
        | (at_builtin; refine wpList_append bits.sliceU8 rfl _ _ rfl (.slice (some ⟨W.heap.size, 0, none⟩) 0 0) 0 [] [W.heap.size] rfl rfl ⟨rfl, .inr ⟨W.heap.size, 0, #[], rfl, Nat.zero_le _, alloc_at _ _, Nat.le_refl _, Nat.zero_le _, rfl, rfl⟩⟩ a L cap (b.map bv) rfl hle HB.out.1.nil (HB.out.1.cs.fr ((Fr.refl [] W).alloc _) (by simp)) (by rw [List.length_map, HB.out.2]; omega) (bits.bv_one b) (by omega) (by unfold maxLen; omega) ?_; intro ao1 cap1 w1 A1; simp only [Nat.zero_add, List.nil_append] at A1; have K1 := Lib.hid A1; clear A1)
        | (at_builtin; refine wpList_append bits.sliceU8 rfl _ _ rfl (.slice ao1 L cap1) L (b.map bv) (blk ao1) rfl (own_blk ao1 L cap1) K1.out.own a L cap (b.map bv) rfl hle HB.out.1.nil (HB.out.1.cs.fr (((Fr.refl [] W).alloc _).step K1.out.fr (by simp)) (by simp)) (by rw [List.length_map, HB.out.2]; omega) (bits.bv_one b) (by omega) (by unfold maxLen; omega) ?_; intro ao2 cap2 w2 A2; have K2 := Lib.hid A2; clear A2))
      obtain ⟨two, htwo⟩ : ∃ two, two = b ++ b := ⟨_, rfl⟩
      obtain ⟨T, hT⟩ : ∃ T, T = L + L := ⟨_, rfl⟩
      obtain ⟨h1, h2⟩ := rd_of_owns (bs := two) (a := ao2) (len := T) (cap := cap2) (by rw [htwo, List.map_append, hT]; exact K2.out.own)
      have f2 : Fr [] W w2 := ((((Fr.refl [] W).alloc _).step K1.out.fr (by simp)).step K2.out.fr (fun x hx => .inr (by
        rcases K1.out.at_ x hx with k | k
        · simp at k; omega
        · rw [k, World.size_alloc]; omega)))
      have low2 : ∀ x ∈ blk ao2, x < w2.heap.size := K2.out.lt
      have hT2 : T ≤ 10000 := by omega
      have hcT : T ≤ cap2 := by rw [hT]; exact K2.out.le
      rw [← hT]
      have hraw := raw_more ao2 cap2 two 2 w2 h1 (by omega) (by decide) low2
      rw [h2] at hraw
      have HT := Lib.hid (And.intro h1 (And.intro h2 (And.intro f2 (And.intro hraw low2))))
      clear h1 h2 f2 low2 hraw htwo hT K1 K2
      go_upto_region 5 with (go_at_call 8; refine HT.out.2.2.2.1.mono ?_; rintro e w3 ⟨r, hres, ar, rfl, rd3, nb3, f3⟩)
      obtain ⟨N, hN⟩ : ∃ N, N = r.length := ⟨_, rfl⟩
      have hNT : N ≤ T + 5 := by
        obtain ⟨bf, _, _, h3⟩ := hres
        have h4 := (h3 (by decide)).2.2
        have h5 := plain_le two
        rw [HT.out.2.1] at h5
        rw [hN]
        omega
      have htr := raw_trip hres (by decide) [] T (by rw [HT.out.2.1]; exact Nat.le_refl _)
      rw [List.append_nil] at htr
      have hinf := inf.raw_any ar r.length r T w3 rd3 (by rw [← hN]; omega) (by omega)
      rw [htr] at hinf
      rw [← hN] at hinf rd3 ⊢
      have H3 := Lib.hid (And.intro rd3 (And.intro hN (And.intro f3 hinf)))
      clear rd3 nb3 f3 hinf htr hN hres
      go_upto_region 6 with (go_at_call 9; refine H3.out.2.2.2.mono ?_; rintro e w4 (⟨c4, hm4, _, _, rfl, _⟩ | ⟨o4, u4, a4, hm4, rfl, rd4, nb4, f4⟩); (cases hm4); (simp only [Except.ok.injEq, Prod.mk.injEq] at hm4; obtain ⟨rfl, rfl⟩ := hm4))
      have r24 : lib.Rd w4 ao2 cap2 two := HT.out.1.fr (H3.out.2.2.1.trans f4)
      have hmt := matches_any two ao2 cap2 32768 w4 r24 (by rw [HT.out.2.1]; omega)
      have hch := matches_chain two 32768
      unfold MatchesNew at hmt
      rw [HT.out.2.1] at hmt rd4 ⊢
      generalize matches_ two 32768 = l at hmt hch
      obtain ⟨M, hM⟩ : ∃ M, M = l.length := ⟨_, rfl⟩
      rw [← hM] at hmt
      have hMx : M ≤ 10000 := by
        have := hch.len (Nat.zero_le _)
        rw [HT.out.2.1] at this
        omega
      have H4 := Lib.hid (And.intro rd4 (And.intro f4 (And.intro hmt (And.intro hch hM))))
      clear rd4 f4 nb4 hmt hch hM r24
      go_upto_region 7 with (go_at_call 7; refine H4.out.2.2.1.mono ?_; rintro e w5 ⟨al, rfl, cs5, no5, lw5, f5⟩; have H5 := Lib.hid (And.intro cs5 (And.intro no5 f5)); clear cs5 no5 lw5 f5)
      go_wp2
      go_loopg [9, 10] M (fun k s9 s10 wr => ∃ i e : Nat, s10 = .int .i64 (i : Nat) ∧ s9 = .int .i64 (e : Nat) ∧ i + k = M ∧ e ≤ 10000 ∧ (∀ x, l[i]? = some x → e ≤ x.1) ∧ Fr [] w5 wr)
      case atStart => exact ⟨0, 0, rfl, rfl, by omega, Nat.zero_le _, fun x _ => Nat.zero_le _, Fr.refl _ _⟩
      case round =>
        obtain ⟨i, e, rfl, rfl, hik, heL, he, hf⟩ := hrel
        have HW := Lib.hid hf
        clear hf
        by_cases hi : i < M
        · obtain ⟨k, rfl⟩ : ∃ k, gk = k + 1 := ⟨gk - 1, by omega⟩
          have hil : i < l.length := by rw [← H4.out.2.2.2.2]; exact hi
          obtain ⟨g, o, rfl, hc⟩ := (H5.out.1.fr HW.out (by simp)).at (by rw [mcells_length]; omega)
          obtain ⟨c0, c1⟩ := mcs_at hc hil
          obtain ⟨x1, x2, x3, x4, x5, x6, x7, x8⟩ := H4.out.2.2.2.1.at (i := i) (x := l[i]) (List.getElem?_eq_getElem hil)
          have hend := he l[i] (List.getElem?_eq_getElem hil)
          have hnext : ∀ x, l[i + 1]? = some x → l[i].1 + l[i].2.1 ≤ x.1 := fun x hx => chain_order H4.out.2.2.2.1 i _ x (List.getElem?_eq_getElem hil) hx
          rw [HT.out.2.1] at x6
          clear x1 x2 x3 x4 x5 x7 x8 hc
          generalize l[i].1 = A at *
          generalize l[i].2.1 = Q at *
          have HX := Lib.hid (And.intro hnext x6)
          clear hnext he
          have d1 : decide (A < e) = false := by simp; omega
          go_upto_region 13 with fail
          go_quiet (fail)
          go_wp2
          go_roundg k
          case measure => omega
          case rel =>
            have := HX.out.2
            exact ⟨i + 1, A + Q, by go_num, by go_num, by omega, by omega, HX.out.1, HW.out.trans (Fr.drewN _ _ _)⟩
        · obtain rfl : i = M := by omega
          have cv1 := run_conv wr Try.underlying22 Try.underlying5 Try.underlying9 HT.out.2.1 ((H4.out.1.fr H5.out.2.2).fr HW.out).cs
          have cv2 := run_conv wr Try.underlying22 Try.underlying5 Try.underlying9 HT.out.2.1 ((HT.out.1.fr (H3.out.2.2.1.trans H4.out.2.1)).fr (H5.out.2.2.trans HW.out)).cs
          have d1 : decide ((N : Int) ≤ (T : Int) + 5) = true := by simp; omega
          have HF := Lib.hid (HT.out.2.2.1.trans (H3.out.2.2.1.trans (H4.out.2.1.trans (H5.out.2.2.trans HW.out))))
          clear he
          go_wp2_with (go_at_call 6; refine (awake_any _).mono ?_; rintro e9 w9 ⟨rfl, f9⟩)
          go_ret
          exact ⟨rfl, below_of_fr (HF.out.trans f9)⟩

open Go.ChangeShapes Go.WideShapes
theorem cellsU8 : Try.prog.cellsOf 5 = 1 := by kernel_rfl
theorem bytesU8 : Try.prog.bytesOf 5 = 1 := by kernel_rfl
set_option maxRecDepth 100000 in
/-- From the arguments as they are read to the walk. -/
theorem walk {H : Type} {enc : TypeId × Value → H} (W : World) {base : Nat} (v0 : Value) (d0 : DataW H) (p0 : List MemPlace)
    (o0 : Value.okWide Try.prog W .any base 22 v0) (h0 : DataW.Trod enc Try.prog W 0 (fun _ => true) true 22 v0 d0 p0)
    (hz : (DataW.weightsEach Try.prog [22] [d0]).all (· ≤ reachBytes) = true) :
    Calls Try.prog 4 #[v0] W fun e W' => e = .returned (.bool true) ∧ Below W.heap.size W W' := by
  obtain ⟨a, len, cap, rfl⟩ := okWide_slice Try.underlying22 o0
  obtain ⟨bs, B, _⟩ := bytes_arg Try.underlying22 Try.underlying5 cellsU8 bytesU8 h0 (light_each hz (j := 0) rfl rfl)
  exact walk_in W a len cap bs B

/-! ### The row -/
theorem own : ownKnob Try.prog.godebug = none := by kernel_rfl
theorem laidOut : laidOutB Try.prog = true := by kernel_rfl
set_option maxRecDepth 100000 in
theorem lifted (os : Os) (started : os.Started) (H : Type) (enc : TypeId × Value → H) :
    ReturnsInHanded {} Try.checked os 4 .any (Rows.deflatePairsSpec.pre6 enc Try.prog Try.f4 Rows.deflatePairsRow.domain false) (Rows.deflatePairsSpec.post enc Try.prog Try.f4 false true false false) := by
  refine returnsInHanded_of_change_sized (C := Try.checked) own started (by kernel_rfl) Try.func4
    (ChangeSpec.witness6 (enc := enc) (C := Try.checked) false ⟨#[], #[.slice none 0 0], []⟩ 8 (by kernel_rfl) (by kernel_rfl) (by kernel_rfl) (by kernel_rfl)) ?_
  intro W base args ds gs before hval hW _ hsz _
  have hW' := hW
  obtain ⟨p, q, hA0, hV, rfl, hfz, hnd⟩ := hW'
  have hA : DataW.TrodAll enc Try.prog W 0 (fun _ => true) true Try.f4.params.toList args.toList ds p := hA0
  rw [Try.params4] at hA hval
  obtain ⟨v0, vs0, d0, ds0, p0, q0, hargs, rfl, rfl, h0, r0⟩ := trodAll_cons hA
  obtain ⟨rfl, rfl, rfl⟩ := trodAll_nil r0
  obtain rfl : args = #[v0] := by cases args; simp_all
  obtain ⟨rfl, rfl⟩ := trodVars_none hV
  have hz : (DataW.weightsEach Try.prog [22] [d0]).all (· ≤ reachBytes) = true := hsz
  refine law_of_calls (s := Rows.deflatePairsSpec) laidOut (by kernel_rfl) rfl rfl Try.underlying4 hW (fun gs _ h2 => by subst h2; rfl) ?_
  exact walk W v0 d0 p0 (hval 0 22 v0 rfl rfl) (h0) hz

theorem over : Rows.deflatePairsRow.holds Try.pinned (OpenSpec.ofChange Rows.deflatePairsSpec) :=
  OpenClaim.holds_of_wide 4 Try.f4 rfl rfl rfl rfl rfl rfl rfl ⟨rfl, rfl, rfl, rfl, rfl⟩ rfl rfl rfl rfl rfl (by kernel_rfl) Try.func4 (by kernel_rfl)
    (of_decide_eq_true (by kernel_rfl)) (by unfold Func.isWrapper; first | (rw [if_pos (by decide +kernel)]; kernel_rfl) | (rw [if_neg (by decide +kernel)]; exact ⟨rfl, rfl⟩))
    (fun os started H enc _ => lifted os started H enc)

theorem proved : Rows.DeflatePairsSaid := over
end Go.Proofs.Ytolkoidbkaidkaa.deflatePairs
