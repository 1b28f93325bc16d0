/-
  Whatever bytes and level come in, stemmalaw7.DeflateBack answers true and changes nothing that was there: what was made smaller is made whole again, all of it and nothing behind, at every level, by the document's own reading too.
-/
import Derived.Test.YtolkoidbkaidkaaGreatG10
import Derived.ProofKit
set_option linter.unusedVariables false
set_option linter.unusedSimpArgs false
namespace Go.Proofs.YtolkoidbkaidkaaGreat.deflateBack
open Go Go.RowKit Go.Proofs.YtolkoidbkaidkaaGreat.lib Go.Proofs.YtolkoidbkaidkaaGreat.bm Go.Proofs.YtolkoidbkaidkaaGreat.defl Go.Proofs.YtolkoidbkaidkaaGreat.inf Go.Proofs.YtolkoidbkaidkaaGreat.trip

set_option maxRecDepth 100000 in
set_option maxHeartbeats 8000000 in
theorem walk_in (W : World) (a : Option Addr) (L cap : Nat) (b : List UInt8) (level : Int) (hB : BytesArg W a L cap b) (hlow : ∀ x ∈ blk a, x < W.heap.size) :
    Calls Tryz.prog 3 #[.slice a L cap, .int .i64 level] W fun e W' => e = .returned (.bool true) ∧ Below W.heap.size W W' := by
  have hrd := Rd.of_arg hB
  have hle := hB.le
  have hL := hB.length
  clear hB
  by_cases hbig : 20000 < L
  · have d1 : decide ((20000 : Int) < L) = true := by simp; omega
    go_enter Tryz.func3, Tryz.ntmps3
    go_wp2_with (go_at_call 4; refine (awake_any _).mono ?_; rintro e9 w9 ⟨rfl, f9⟩)
    go_ret
    exact ⟨rfl, below_of_fr f9⟩
  · have d1 : decide ((20000 : Int) < L) = false := by simp; omega
    have hraw := raw_rt a cap b level W hrd (by omega) hlow
    rw [hL] at hraw
    have HB := Lib.hid (And.intro hrd (And.intro hL (And.intro hlow hraw)))
    clear hrd hL hlow hraw
    have hlt : L ≤ 20000 := by omega
    go_enter Tryz.func3, Tryz.ntmps3
    go_upto_region 4 with (go_at_call 5; refine HB.out.2.2.2.mono ?_; rintro e w1 ⟨r, hr, ar, rfl, rd1, nb1, f1⟩)
    clear d1
    obtain ⟨N, hN⟩ : ∃ N, N = r.length := ⟨_, rfl⟩
    have hNb : N ≤ 10000000 := by rw [hN]; exact hr.1
    rw [← hN] at rd1 ⊢
    have H1 := Lib.hid (And.intro rd1 (And.intro hr (And.intro f1 (And.intro hN nb1))))
    clear rd1 hr f1 hN nb1
    have hi1 := fun (w' : World) (a' : Option Addr) (c' : Nat) (h : lib.Rd w' a' c' (r ++ [1, 2])) => inf.raw_any a' c' (r ++ [1, 2]) L w' h (by rw [List.length_append, ← H1.out.2.2.2.1]; simp; omega) (by omega)
    have ht1 : iraw (r ++ [1, 2]) L = .ok (b, N) := by rw [H1.out.2.2.2.1]; exact H1.out.2.1.2 [1, 2] L (by rw [HB.out.2.1]; exact Nat.le_refl _)
    rw [ht1] at hi1
    obtain ⟨N2, hN2⟩ : ∃ N2, N2 = (r ++ [1, 2]).length := ⟨_, rfl⟩
    have hN3 : N2 = N + 2 := by rw [hN2, List.length_append, H1.out.2.2.2.1]; rfl
    rw [← hN2] at hi1
    have HI := Lib.hid (And.intro hi1 (And.intro hN2 hN3))
    clear hi1 ht1 hN2 hN3
    go_upto_region 5 with (first
      | (at_builtin; refine wpList_append bits.sliceU8 rfl _ _ rfl (.slice (some ⟨w1.heap.size, 0, none⟩) 0 0) 0 [] [w1.heap.size] rfl rfl ⟨rfl, .inr ⟨w1.heap.size, 0, #[], rfl, Nat.zero_le _, alloc_at _ _, Nat.le_refl _, Nat.zero_le _, rfl, rfl⟩⟩ ar N N (r.map bv) rfl (Nat.le_refl _) H1.out.1.nil (H1.out.1.cs.fr ((Fr.refl [] w1).alloc _) (by simp)) (by rw [List.length_map, ← H1.out.2.2.2.1]; omega) (bits.bv_one r) (by omega) (by unfold maxLen; omega) ?_; intro ao1 cap1 w2 A1; simp only [Nat.zero_add, List.nil_append] at A1; have K1 := Lib.hid A1; clear A1)
      | (at_builtin; refine wpList_append bits.sliceU8 rfl _ _ rfl (.slice ao1 N cap1) N (r.map bv) (blk ao1) rfl (own_blk ao1 N cap1) (ownsRow_fr K1.out.own ((Fr.refl [] w2).alloc _) (by simp)) (some ⟨w2.heap.size, 0, none⟩) 2 2 [bv 1, bv 2] (by first | rfl | simp [bv]) (Nat.le_refl _) (fun h => by cases h) (cs_new w2 _ _ _) rfl (by intro u hu; simp only [List.mem_cons, List.not_mem_nil, or_false] at hu; rcases hu with h | h <;> (rw [h]; rfl)) (by omega) (by unfold maxLen; omega) ?_; intro ao2 cap2 w3 A2; have K2 := Lib.hid A2; clear A2; rw [← HI.out.2.2])
      | (go_at_call 6; refine (HI.out.1 w3 ao2 cap2 (by have h3 := (rd_of_owns (bs := r ++ [1, 2]) (a := ao2) (len := N2) (cap := cap2) (by rw [List.map_append, HI.out.2.2]; exact K2.out.own)).1; exact h3)).mono ?_; rintro e w4 (⟨c4, hm4, _, _, rfl, _⟩ | ⟨o4, u4, a4, hm4, rfl, rd4, nb4, f4⟩); (cases hm4); (simp only [Except.ok.injEq, Prod.mk.injEq] at hm4; obtain ⟨rfl, rfl⟩ := hm4)))
    rw [HB.out.2.1] at rd4 ⊢
    have f3 : Fr [] w1 w3 := (((((Fr.refl [] w1).alloc _).step K1.out.fr (by simp)).alloc _).step K2.out.fr (fun x hx => .inr (by
        rcases K1.out.at_ x hx with k | k
        · simp at k; omega
        · rw [k, World.size_alloc]; omega)))
    have HB4 := HB.out.1.fr (H1.out.2.2.1.trans (f3.trans f4))
    have hr0 := inf.rraw_any ar N r L w4 (H1.out.1.fr (f3.trans f4)) (by rw [← H1.out.2.2.2.1]; omega) (by omega) (fun x hx => Nat.lt_of_lt_of_le (H1.out.2.2.2.2 x hx).2 (f3.trans f4).size)
    have ht2 : iraw r L = .ok (b, N) := by rw [H1.out.2.2.2.1, ← H1.out.2.1.2 [] L (by rw [HB.out.2.1]; exact Nat.le_refl _), List.append_nil]
    rw [ht2, ← H1.out.2.2.2.1] at hr0
    have H4 := Lib.hid (And.intro rd4 (And.intro HB4 (And.intro (H1.out.2.2.1.trans (f3.trans f4)) hr0)))
    clear rd4 nb4 f4 HB4 hr0 ht2 f3 K1 K2 HI
    go_upto_region 6 with (go_at_call 7; refine H4.out.2.2.2.mono ?_; rintro e w5 ⟨f5, ⟨c5, hm5, _, _, rfl⟩ | ⟨o5, u5, a5, cap5, hm5, rfl, rd5, nb5⟩⟩; (cases hm5); (simp only [Except.ok.injEq, Prod.mk.injEq] at hm5; obtain ⟨rfl, rfl⟩ := hm5))
    rw [HB.out.2.1]
    obtain ⟨Q, w6, hQ, hw6, f6, q6⟩ : ∃ Q w6, Q = w5.heap.size ∧ w6 = w5.alloc (.cells #[.slice a5 L cap5, .int .i64 (N : Nat), .int .i64 0] 29) ∧ Fr [] w5 w6 ∧ w6.heap[Q]? = some (.cells #[.slice a5 L cap5, .int .i64 (N : Nat), .int .i64 0] 29 (0, 0)) := ⟨_, _, rfl, rfl, (Fr.refl [] w5).alloc _, alloc_at w5 _⟩
    rw [← hw6, ← hQ]
    clear hQ hw6
    have hz0 := zlib_rt a cap b level w6 (H4.out.2.1.fr (f5.trans f6)) (by rw [HB.out.2.1]; omega) (fun x hx => Nat.lt_of_lt_of_le (HB.out.2.2.1 x hx) (H4.out.2.2.1.trans (f5.trans f6)).size)
    rw [HB.out.2.1] at hz0
    have H5 := Lib.hid (And.intro (H4.out.1.fr (f5.trans f6)) (And.intro (rd5.fr f6) (And.intro (H4.out.2.2.1.trans (f5.trans f6)) (And.intro q6 hz0))))
    clear f5 f6 rd5 nb5 q6 hz0
    go_upto_region 7 with (go_at_call 8; refine H5.out.2.2.2.2.mono ?_; rintro e w7 ⟨r2, hr2, az, rfl, rd7, nb7, f7⟩)
    obtain ⟨Y, hY⟩ : ∃ Y, Y = (zlibOf level r2 b).length := ⟨_, rfl⟩
    have hYb : Y ≤ 10000006 := by
      rw [hY]
      have h1 := hr2.1
      have h2 : (zlibOf level r2 b).length = r2.length + 6 := by unfold zlibOf; simp [sums.be4_length]
      omega
    have ht7 := zlib_trip (level := level) hr2 [] L (by rw [HB.out.2.1]; exact Nat.le_refl _)
    rw [List.append_nil] at ht7
    have hz7 := inf.zlib_any az Y (zlibOf level r2 b) L w7 (by rw [hY]; exact rd7) (by rw [← hY]; omega) (by omega)
    rw [ht7, ← hY] at hz7
    rw [← hY]
    have H7 := Lib.hid (And.intro f7 hz7)
    clear rd7 nb7 f7 ht7 hz7 hY hr2
    go_upto_region 8 with (go_at_call 9; refine H7.out.2.mono ?_; rintro e w8 (⟨c8, hm8, _, _, rfl, _⟩ | ⟨o8, u8, a8, hm8, rfl, rd8, nb8, f8⟩); (cases hm8); (simp only [Except.ok.injEq, Prod.mk.injEq] at hm8; obtain ⟨rfl, rfl⟩ := hm8))
    rw [HB.out.2.1]
    have g8 : Fr [] w6 w8 := H7.out.1.trans f8
    have cv1 := run_conv w8 Tryz.underlying22 Tryz.underlying5 Tryz.underlying9 HB.out.2.1 (HB.out.1.fr (H5.out.2.2.1.trans g8)).cs
    have cv2 := run_conv w8 Tryz.underlying22 Tryz.underlying5 Tryz.underlying9 HB.out.2.1 (H5.out.1.fr g8).cs
    have cv3 := run_conv w8 Tryz.underlying22 Tryz.underlying5 Tryz.underlying9 HB.out.2.1 (H5.out.2.1.fr g8).cs
    have cv4 := run_conv w8 Tryz.underlying22 Tryz.underlying5 Tryz.underlying9 HB.out.2.1 rd8.cs
    have qb := g8.blk H5.out.2.2.2.1 (by simp)
    have q0 : w8.cell? ⟨Q, 0, none⟩ = some (.slice a5 L cap5) := by rw [cell_of qb]; rfl
    have q1 : w8.cell? ⟨Q, 1, none⟩ = some (.int .i64 (N : Nat)) := by rw [cell_of qb]; rfl
    have q2 : w8.cell? ⟨Q, 2, none⟩ = some (.int .i64 0) := by rw [cell_of qb]; rfl
    have HF := Lib.hid (H5.out.2.2.1.trans g8)
    clear qb g8 rd8 nb8 f8
    go_wp2_with (go_at_call 4; refine (awake_any _).mono ?_; rintro e9 w9 ⟨rfl, f9⟩)
    go_ret
    exact ⟨rfl, below_of_fr (HF.out.trans f9)⟩
open Go.ChangeShapes Go.WideShapes
theorem cellsU8 : Tryz.prog.cellsOf 5 = 1 := by kernel_rfl
theorem bytesU8 : Tryz.prog.bytesOf 5 = 1 := by kernel_rfl
set_option maxRecDepth 100000 in
/-- From the arguments as they are read to the walk. -/
theorem walk {H : Type} {enc : TypeId × Value → H} (W : World) {base : Nat} (v0 : Value) (d0 : DataW H) (p0 : List MemPlace) (v1 : Value) (d1 : DataW H) (p1 : List MemPlace)
    (o0 : Value.okWide Tryz.prog W .any base 22 v0) (h0 : DataW.Trod enc Tryz.prog W 0 (fun _ => true) true 22 v0 d0 p0)
    (o1 : Value.okWide Tryz.prog W .any base 3 v1) (h1 : DataW.Trod enc Tryz.prog W 0 (fun _ => true) true 3 v1 d1 p1)
    (hz : (DataW.weightsEach Tryz.prog [22, 3] [d0, d1]).all (· ≤ reachBytes) = true) :
    Calls Tryz.prog 3 #[v0, v1] W fun e W' => e = .returned (.bool true) ∧ Below W.heap.size W W' := by
  obtain ⟨x1, rfl, rfl, rfl, wx1⟩ := open_int Tryz.underlying3 o1 h1
  obtain ⟨a, len, cap, rfl⟩ := okWide_slice Tryz.underlying22 o0
  obtain ⟨bs, B, _⟩ := bytes_arg Tryz.underlying22 Tryz.underlying5 cellsU8 bytesU8 h0 (light_each hz (j := 0) rfl rfl)
  exact walk_in W a len cap bs x1 B (okWide_low Tryz.underlying22 o0)

/-! ### The row -/
theorem own : ownKnob Tryz.prog.godebug = none := by kernel_rfl
theorem laidOut : laidOutB Tryz.prog = true := by kernel_rfl
set_option maxRecDepth 100000 in
theorem lifted (os : Os) (started : os.Started) (H : Type) (enc : TypeId × Value → H) :
    ReturnsInHanded {} Tryz.checked os 3 .any (Rows.deflateBackSpec.pre6 enc Tryz.prog Tryz.f3 Rows.deflateBackRow.domain false) (Rows.deflateBackSpec.post enc Tryz.prog Tryz.f3 false true false false) := by
  refine returnsInHanded_of_change_sized (C := Tryz.checked) own started (by kernel_rfl) Tryz.func3
    (ChangeSpec.witness6 (enc := enc) (C := Tryz.checked) false ⟨#[], #[.slice none 0 0, .int .i64 0], []⟩ 8 (by kernel_rfl) (by kernel_rfl) (by kernel_rfl) (by kernel_rfl)) ?_
  intro W base args ds gs before hval hW _ hsz _
  have hW' := hW
  obtain ⟨p, q, hA0, hV, rfl, hfz, hnd⟩ := hW'
  have hA : DataW.TrodAll enc Tryz.prog W 0 (fun _ => true) true Tryz.f3.params.toList args.toList ds p := hA0
  rw [Tryz.params3] at hA hval
  obtain ⟨v0, vs0, d0, ds0, p0, q0, hargs, rfl, rfl, h0, r0⟩ := trodAll_cons hA
  obtain ⟨v1, vs1, d1, ds1, p1, q1, rfl, rfl, rfl, h1, r1⟩ := trodAll_cons r0
  obtain ⟨rfl, rfl, rfl⟩ := trodAll_nil r1
  obtain rfl : args = #[v0, v1] := by cases args; simp_all
  obtain ⟨rfl, rfl⟩ := trodVars_none hV
  have hz : (DataW.weightsEach Tryz.prog [22, 3] [d0, d1]).all (· ≤ reachBytes) = true := hsz
  refine law_of_calls (s := Rows.deflateBackSpec) laidOut (by kernel_rfl) rfl rfl Tryz.underlying4 hW (fun gs _ h2 => by subst h2; rfl) ?_
  exact walk W v0 d0 p0 v1 d1 p1 (hval 0 22 v0 rfl rfl) (h0) (hval 1 3 v1 rfl rfl) (h1) hz

theorem over : Rows.deflateBackRow.holds Tryz.pinned (OpenSpec.ofChange Rows.deflateBackSpec) :=
  OpenClaim.holds_of_wide 3 Tryz.f3 rfl rfl rfl rfl rfl rfl rfl ⟨rfl, rfl, rfl, rfl, rfl⟩ rfl rfl rfl rfl rfl (by kernel_rfl) Tryz.func3 (by kernel_rfl)
    (of_decide_eq_true (by kernel_rfl)) (by unfold Func.isWrapper; first | (rw [if_pos (by decide +kernel)]; kernel_rfl) | (rw [if_neg (by decide +kernel)]; exact ⟨rfl, rfl⟩))
    (fun os started H enc _ => lifted os started H enc)

theorem proved : Rows.DeflateBackSaid := over
end Go.Proofs.YtolkoidbkaidkaaGreat.deflateBack
