/-
  DeltaPieces.
-/
import Derived.Test.YtoplgcikcanagaaDeltaMake
import Derived.Test.YtoplgcikcanagaaDeltaSmall
import Derived.Test.YtoplgcikcanagaaDeltaApp
import Derived.Test.YtoplgcikcanagaaBitsInt
import Derived.Test.YtoplgcikcanagaaArgs2
import Derived.HandedShaped
import Derived.ProofKit
namespace Go.Proofs.Ytoplgcikcanagaa.deltaPieces
open Go Go.RowKit Go.Proofs.Ytoplgcikcanagaa.lib Go.Proofs.Ytoplgcikcanagaa.bm Go.Proofs.Ytoplgcikcanagaa.delta

/-- The base, doubled some times: any bytes. -/
structure Al (W wr : World) (a : Option Addr) (c : Nat) (bs : List UInt8) : Prop where
  own : Own wr 5 a c (bs.map bv)
  fr : Fr [] W wr
  new : ∀ y ∈ blk a, W.heap.size ≤ y
  lim : bs.length ≤ 140737488351232
theorem Al.more {W wr w1 w2 : World} {a a2 : Option Addr} {c c2 : Nat} {bs cs : List UInt8} (h : Al W wr a c bs) (f : Fr [] wr w1) (A : OwnMore w1 w2 5 a a2 c2 (bs.map bv ++ cs.map bv)) (hl : bs.length + cs.length ≤ 140737488351232) : Al W w2 a2 c2 (bs ++ cs) := by
  refine ⟨by rw [List.map_append]; exact A.own, (h.fr.trans f).step A.fr fun y hy => .inr (h.new y hy), fun y hy => ?_, by rw [List.length_append]; exact hl⟩
  rcases A.at_ y hy with k | k
  · exact h.new y k
  · have := (h.fr.trans f).size
    omega
set_option maxRecDepth 100000 in
set_option maxHeartbeats 8000000 in
theorem walk_in (W : World) (a : Option Addr) (len cap : Nat) (base : List UInt8) (from_ n times : Int) (h : BytesArg W a len cap base) (m : Int) (hm : W.cell? ⟨0, 0, none⟩ = some (.int .i64 m)) :
    Calls Try.prog 6 #[.slice a len cap, .int .i64 from_, .int .i64 n, .int .i64 times] W fun e W' => e = .returned (.bool true) ∧ Below W.heap.size W W' := by
  have h1 := h.le
  have h2 := h.max
  have h3 := h.lim
  have h4 := h.nil
  have hlen := h.length
  unfold maxLen at h2
  obtain ⟨t, ht⟩ : ∃ t, t = (times % 8).toNat := ⟨_, rfl⟩
  have hand : bits .and .i64 times 7 = (t : Int) := (and7 times).trans (by omega)
  have ht8 : t < 8 := by omega
  have H := Lib.hid (And.intro (Rd.of_arg h) (And.intro hm hlen))
  have f0 : Fr [] W (W.alloc (.cells #[] 5)) := (Fr.refl [] W).alloc _
  have o0 : Own (W.alloc (.cells #[] 5)) 5 (some ⟨W.heap.size, 0, none⟩) 0 [] := .inr ⟨W.heap.size, 0, #[], rfl, alloc_at W _, Nat.zero_le _, Nat.zero_le _, Nat.zero_le _, rfl⟩
  have H0 := Lib.hid (And.intro f0 o0)
  clear h ht hm hlen f0 o0
  go_enter Try.func6, Try.ntmps6
  go_upto_region 2 with (refine wpList_append_mid sliceU8 rfl _ _ rfl (some ⟨W.heap.size, 0, none⟩) 0 0 [] rfl H0.out.2 rfl a len cap (base.map bv) rfl h1 h4 (H.out.1.fr H0.out.1).cs (by rw [List.length_map]; exact H.out.2.2) (bv_one _) (by omega) (by unfold maxLen; omega) ?_; intro a1 c1 w1 A1; have H1 := Lib.hid A1; clear A1)
  have hal : Al W w1 a1 c1 base := by
    have A := H1.out
    rw [List.nil_append] at A
    refine ⟨A.own, H0.out.1.step A.fr fun y hy => .inr (by simp [blk] at hy; omega), fun y hy => ?_, by rw [H.out.2.2]; exact h3⟩
    rcases A.at_ y hy with k | k
    · simp [blk] at k; omega
    · have := H0.out.1.size; omega
  have HA := Lib.hid hal
  clear hal H0 H1
  go_upto_block 0 with fail
  clear hand
  go_cut [9, 10] from 20 to 32 (fun s9 s10 wz => ∃ a c bs, s9 = .slice a bs.length c ∧ Al W wz a c bs)
  case first =>
    go_wp2
    go_loopg [9, 10] 8 (fun k s9 s10 wr => ∃ (i : Nat) (a : Option Addr) (c : Nat) (bs : List UInt8), s9 = .slice a bs.length c ∧ s10 = .int .i64 (i : Nat) ∧ Al W wr a c bs ∧ i ≤ k ∧ i ≤ 8)
    case atStart => exact ⟨t, a1, c1, base, by rw [H.out.2.2], rfl, HA.out, by omega, by omega⟩
    case round =>
      obtain ⟨i, a3, c3, bs, rfl, rfl, hal, hik, hi8⟩ := hrel
      obtain ⟨wo, rfl⟩ : ∃ wo : World, wo = wr := ⟨_, rfl⟩
      obtain ⟨o1, o2, o3⟩ := hal.own.shape
      rw [List.length_map] at o1
      obtain ⟨N, hN⟩ : ∃ N, N = bs.length := ⟨_, rfl⟩
      have hlim := hal.lim
      rw [← hN] at hlim o1 ⊢
      have HB := Lib.hid (And.intro hal hN)
      clear hal hN HA
      by_cases hi0 : 0 < i
      · by_cases hN7 : N < 70000
        · have b1 : decide ((N : Int) < 70000) = true := by simp; omega
          obtain ⟨j, rfl⟩ : ∃ j, i = j + 1 := ⟨i - 1, by omega⟩
          go_wp2_with (refine wpList_append_mid sliceU8 rfl _ _ rfl a3 N c3 (bs.map bv) rfl HB.out.1.own (by rw [List.length_map]; exact HB.out.2.symm) a3 N c3 (bs.map bv) rfl o1 o3 HB.out.1.own.cs (by rw [List.length_map]; exact HB.out.2.symm) (bv_one _) (by omega) (by unfold maxLen; omega) ?_; intro a4 c4 w4 A4; have H4 := Lib.hid A4; clear A4)
          go_roundg (gk - 1)
          case measure => omega
          case rel => exact ⟨j, a4, c4, bs ++ bs, by rw [List.length_append, HB.out.2], by go_num, HB.out.1.more (Fr.refl _ _) H4.out (by rw [← HB.out.2]; omega), by omega, by omega⟩
        · have b1 : decide ((N : Int) < 70000) = false := by simp; omega
          go_wp2
          go_meet
          exact ⟨a3, c3, bs, by rw [HB.out.2], HB.out.1⟩
      · obtain rfl : i = 0 := by omega
        go_wp2
        go_meet
        exact ⟨a3, c3, bs, by rw [HB.out.2], HB.out.1⟩
  case rest =>
  obtain ⟨a3, c3, bs, rfl, hal⟩ := hcut
  obtain ⟨w5, rfl⟩ : ∃ w5 : World, w5 = wc := ⟨_, rfl⟩
  obtain ⟨o1, o2, o3⟩ := hal.own.shape
  rw [List.length_map] at o1
  obtain ⟨N, hN⟩ : ∃ N, N = bs.length := ⟨_, rfl⟩
  have hlim := hal.lim
  rw [← hN] at hlim o1 ⊢
  have HB := Lib.hid (And.intro hal hN)
  clear hal hN HA
  by_cases hs : N < 64
  · have b1 : decide ((N : Int) < 64) = true := by simp; omega
    go_wp2_with (go_at_call 10; refine (awake_any _).mono ?_; rintro e9 w9 ⟨rfl, f9⟩)
    go_ret
    exact ⟨rfl, below_of_fr (HB.out.1.fr.trans f9)⟩
  by_cases hs2 : 150000 < N
  · have b1 : decide ((N : Int) < 64) = false := by simp; omega
    have b2 : decide ((150000 : Int) < N) = true := by simp; omega
    go_wp2_with (go_at_call 10; refine (awake_any _).mono ?_; rintro e9 w9 ⟨rfl, f9⟩)
    go_ret
    exact ⟨rfl, below_of_fr (HB.out.1.fr.trans f9)⟩
  have b1 : decide ((N : Int) < 64) = false := by simp; omega
  have b2 : decide ((150000 : Int) < N) = false := by simp; omega
  obtain ⟨M, hM⟩ : ∃ M, M = N - 63 := ⟨_, rfl⟩
  obtain ⟨n1, hn1⟩ : ∃ n1 : Nat, n1 = 64 + ((n.tmod (M : Int) + M) % M).toNat := ⟨_, rfl⟩
  have hn2 : 64 + (n.tmod ((N : Int) - 63) + (N : Int) - 63) % ((N : Int) - 63) = (n1 : Int) ∧ 64 ≤ n1 ∧ n1 ≤ N ∧ -(M : Int) < n.tmod ((N : Int) - 63) ∧ n.tmod ((N : Int) - 63) < M := by
    have e : (N : Int) - 63 = (M : Int) := by omega
    rw [show n.tmod ((N : Int) - 63) + (N : Int) - 63 = n.tmod ((N : Int) - 63) + ((N : Int) - 63) from by omega, e, hn1]
    have hM0 : (0 : Int) < M := by omega
    have k1 := Int.lt_tmod_of_pos n hM0
    have k2 := Int.tmod_lt_of_pos n hM0
    have k3 := Int.emod_nonneg (n.tmod (M : Int) + M) (show (M : Int) ≠ 0 by omega)
    have k4 := Int.emod_lt_of_pos (n.tmod (M : Int) + M) hM0
    omega
  obtain ⟨K, hK⟩ : ∃ K, K = N - n1 + 1 := ⟨_, rfl⟩
  obtain ⟨f1, hf1⟩ : ∃ f1 : Nat, f1 = ((from_.tmod (K : Int) + K) % K).toNat := ⟨_, rfl⟩
  have hf2 : (from_.tmod ((N : Int) - n1 + 1) + (N : Int) - n1 + 1) % ((N : Int) - n1 + 1) = (f1 : Int) ∧ f1 + n1 ≤ N ∧ -(K : Int) < from_.tmod ((N : Int) - n1 + 1) ∧ from_.tmod ((N : Int) - n1 + 1) < K := by
    have e : (N : Int) - n1 + 1 = (K : Int) := by omega
    rw [show from_.tmod ((N : Int) - n1 + 1) + (N : Int) - n1 + 1 = from_.tmod ((N : Int) - n1 + 1) + ((N : Int) - n1 + 1) from by omega, e, hf1]
    have hK0 : (0 : Int) < K := by omega
    have k1 := Int.lt_tmod_of_pos from_ hK0
    have k2 := Int.tmod_lt_of_pos from_ hK0
    have k3 := Int.emod_nonneg (from_.tmod (K : Int) + K) (show (K : Int) ≠ 0 by omega)
    have k4 := Int.emod_lt_of_pos (from_.tmod (K : Int) + K) hK0
    omega
  have HN := Lib.hid (And.intro hn1 (And.intro hM (And.intro hf1 hK)))
  clear hn1 hf1
  have hne : ¬ ((N : Int) - 63 = 0) := by omega
  have hne2 : ¬ ((N : Int) - n1 + 1 = 0) := by omega
  obtain ⟨hna, hnb, hnc, hnd, hnf⟩ := hn2
  obtain ⟨hfa, hfb, hfc, hfd⟩ := hf2
  go_upto_region 10 with fail
  rw [hfa]
  clear hna hnd hnf hfa hfc hfd hne hne2 b1 b2
  obtain ⟨txt, htxt⟩ : ∃ txt, txt = (bs.drop f1).take n1 := ⟨_, rfl⟩
  have htl : txt.length = n1 := by rw [htxt, List.length_take, List.length_drop, ← HB.out.2]; omega
  have hrt : Rd w5 (cutAt a3 c3 f1) (c3 - f1) txt := by rw [htxt]; exact HB.out.1.own.rd.mid f1 n1 (by rw [← HB.out.2]; exact hfb)
  have hoc : Occ bs txt f1 := ⟨by rw [htl, ← HB.out.2]; exact hfb, by rw [htl, htxt]⟩
  have hmk : Calls Try.prog 14 #[.slice a3 N c3, .slice (cutAt a3 c3 f1) n1 (c3 - f1)] w5 (MadeNew bs txt w5) := by
    have := make_all a3 (cutAt a3 c3 f1) c3 (c3 - f1) bs txt m w5 HB.out.1.own.rd hrt (by rw [← HB.out.2]; omega) (by rw [htl]; omega) (HB.out.1.fr.cell H.out.2.1 (by simp))
    rwa [← HB.out.2, htl] at this
  unfold MadeNew NewBytes at hmk
  have HT := Lib.hid (And.intro hmk (And.intro htl (And.intro hrt hoc)))
  clear hmk htl hrt hoc htxt
  have hsl := fun w => lib.run_slice_lh sliceU8 f1 n1 a3 N c3 (f1 : Int) ((f1 : Int) + (n1 : Int)) rfl rfl (by omega) w
  go_upto_region 12 with (first | (refine wpList_slice_lh sliceU8 f1 n1 rfl _ _ rfl a3 N c3 _ _ rfl rfl rfl rfl rfl (by omega) (by omega) ?_) | (go_at_call 14; refine HT.out.1.mono ?_; rintro e w6 ⟨d, hmd, a6, rfl, r6, _, f6⟩))
  obtain ⟨ins, hd, hru, _, hil⟩ := hmd
  have hil := hil ⟨f1, HT.out.2.2.2⟩
  rw [HT.out.2.1] at hil
  have hap : delta.apply bs d (n1 : Int) = (txt, 0) := by
    rw [hd]
    exact apply_runs bs ins txt (by rw [← HB.out.2]; omega) (by rw [HT.out.2.1]; omega) hru (n1 : Int) (by rw [HT.out.2.1]; exact Int.le_refl _)
  obtain ⟨dl, hdl⟩ : ∃ dl, dl = d.length := ⟨_, rfl⟩
  have hdb : dl ≤ 24 + 8 * (n1 / 65536) := by
    have k1 := numb_le 2 bs.length (by rw [← HB.out.2]; exact Nat.lt_of_le_of_lt (show N ≤ 150000 by omega) (by decide))
    have k2 := numb_le 2 txt.length (by rw [HT.out.2.1]; exact Nat.lt_of_le_of_lt (show n1 ≤ 150000 by omega) (by decide))
    rw [hdl, hd, List.length_append, List.length_append]
    omega
  have hAp : Calls Try.prog 9 #[.slice a3 N c3, .slice a6 dl dl, .int .i64 (n1 : Nat)] w6 fun e w' => ∃ a, e = .returned (.tuple #[.slice a n1 n1, .int .i64 0]) ∧ Rd w' a n1 txt ∧ Fr [] w6 w' := by
    have := apply_all a3 a6 c3 d.length bs d (n1 : Int) w6 (HB.out.1.own.rd.fr f6) r6
    rw [← HB.out.2, ← hdl] at this
    refine this.mono fun e w' hx => ?_
    unfold Applied at hx
    rw [hap] at hx
    obtain ⟨a7, h1, h2, h3, h4⟩ := hx
    simp only [HT.out.2.1] at h1 h2
    exact ⟨a7, h1, h2, h4⟩
  rw [← hdl]
  have HA := Lib.hid (And.intro hAp f6)
  clear hAp f6 r6 hap hdl hd hru hil hsl
  go_upto_region 13 with (go_at_call 9; refine HA.out.1.mono ?_; rintro e w7 ⟨a7, rfl, r7, f7⟩)
  obtain ⟨z, hz⟩ : ∃ z, z = str txt := ⟨_, rfl⟩
  have cv1 : ∀ cap, (convert 22 9 (.slice a7 n1 cap)).run Try.prog w7 = .ok (.string z) w7 := by rw [hz]; exact run_conv w7 Try.underlying22 Try.underlying5 Try.underlying9 HT.out.2.1 r7.cs
  have cv2 : ∀ cap, (convert 22 9 (.slice (cutAt a3 c3 f1) n1 cap)).run Try.prog w7 = .ok (.string z) w7 := by rw [hz]; exact run_conv w7 Try.underlying22 Try.underlying5 Try.underlying9 HT.out.2.1 (HT.out.2.2.1.fr (HA.out.2.trans f7)).cs
  have HF := Lib.hid ((HB.out.1.fr.trans HA.out.2).trans f7)
  clear hz r7 f7
  go_wp2_with (go_at_call 10; refine (awake_any _).mono ?_; rintro e9 w9 ⟨rfl, f9⟩)
  go_ret
  exact ⟨by first | rfl | simp, below_of_fr (HF.out.trans f9)⟩

open Go.ChangeShapes Go.WideShapes
theorem cellsU8 : Try.prog.cellsOf 5 = 1 := by kernel_rfl
theorem bytesU8 : Try.prog.bytesOf 5 = 1 := by kernel_rfl
/-- From the arguments as they are read to the walk. -/
theorem walk {H : Type} {enc : TypeId × Value → H} (W : World) {base : Nat} (v0 : Value) (d0 : DataW H) (p0 : List MemPlace) (v1 : Value) (d1 : DataW H) (p1 : List MemPlace) (v2 : Value) (d2 : DataW H) (p2 : List MemPlace) (v3 : Value) (d3 : DataW H) (p3 : List MemPlace)
    (o0 : Value.okWide Try.prog W .any base 22 v0) (h0 : DataW.Trod enc Try.prog W 0 (fun _ => true) true 22 v0 d0 p0)
    (o1 : Value.okWide Try.prog W .any base 3 v1) (h1 : DataW.Trod enc Try.prog W 0 (fun _ => true) true 3 v1 d1 p1)
    (o2 : Value.okWide Try.prog W .any base 3 v2) (h2 : DataW.Trod enc Try.prog W 0 (fun _ => true) true 3 v2 d2 p2)
    (o3 : Value.okWide Try.prog W .any base 3 v3) (h3 : DataW.Trod enc Try.prog W 0 (fun _ => true) true 3 v3 d3 p3)
    (hz : (DataW.weightsEach Try.prog [22, 3, 3, 3] [d0, d1, d2, d3]).all (· ≤ reachBytes) = true) (m : Int) (hm : W.cell? ⟨0, 0, none⟩ = some (.int .i64 m)) :
    Calls Try.prog 6 #[v0, v1, v2, v3] W fun e W' => e = .returned (.bool true) ∧ Below W.heap.size W W' := by
  obtain ⟨x1, rfl, rfl, rfl, wx1⟩ := open_int Try.underlying3 o1 h1
  obtain ⟨x2, rfl, rfl, rfl, wx2⟩ := open_int Try.underlying3 o2 h2
  obtain ⟨x3, rfl, rfl, rfl, wx3⟩ := open_int Try.underlying3 o3 h3
  obtain ⟨a, len, cap, rfl⟩ := okWide_slice Try.underlying22 o0
  obtain ⟨bs, B, _⟩ := bytes_arg Try.underlying22 Try.underlying5 cellsU8 bytesU8 h0 (light_each hz (j := 0) rfl rfl)
  exact walk_in W a len cap bs x1 x2 x3 B m hm

/-! ### The row -/
theorem own : ownKnob Try.prog.godebug = none := by kernel_rfl
theorem laidOut : laidOutB Try.prog = true := by kernel_rfl
set_option maxRecDepth 100000 in
theorem lifted (os : Os) (started : os.Started) (H : Type) (enc : TypeId × Value → H) :
    ReturnsInHanded {} Try.checked os 6 .any (Rows.deltaPiecesSpec.pre6 enc Try.prog Try.f6 Rows.deltaPiecesRow.domain false) (Rows.deltaPiecesSpec.post enc Try.prog Try.f6 false true false false) := by
  refine returnsInHanded_of_change_shaped (C := Try.checked) own started (by kernel_rfl) Try.func6
    (ChangeSpec.witness6 (enc := enc) (C := Try.checked) false ⟨#[], #[.slice none 0 0, .int .i64 0, .int .i64 0, .int .i64 0], []⟩ 8 (by kernel_rfl) (by kernel_rfl) (by kernel_rfl) (by kernel_rfl)) ?_
  intro W base args ds gs before hval hW _ hsz hsh _
  obtain ⟨m, hm⟩ := Try.laysM185.s1_3 W hsh
  have hW' := hW
  obtain ⟨p, q, hA0, hV, rfl, hfz, hnd⟩ := hW'
  have hA : DataW.TrodAll enc Try.prog W 0 (fun _ => true) true Try.f6.params.toList args.toList ds p := hA0
  rw [Try.params6] at hA hval
  obtain ⟨v0, vs0, d0, ds0, p0, q0, hargs, rfl, rfl, h0, r0⟩ := trodAll_cons hA
  obtain ⟨v1, vs1, d1, ds1, p1, q1, rfl, rfl, rfl, h1, r1⟩ := trodAll_cons r0
  obtain ⟨v2, vs2, d2, ds2, p2, q2, rfl, rfl, rfl, h2, r2⟩ := trodAll_cons r1
  obtain ⟨v3, vs3, d3, ds3, p3, q3, rfl, rfl, rfl, h3, r3⟩ := trodAll_cons r2
  obtain ⟨rfl, rfl, rfl⟩ := trodAll_nil r3
  obtain rfl : args = #[v0, v1, v2, v3] := by cases args; simp_all
  obtain ⟨rfl, rfl⟩ := trodVars_none hV
  have hz : (DataW.weightsEach Try.prog [22, 3, 3, 3] [d0, d1, d2, d3]).all (· ≤ reachBytes) = true := hsz
  refine law_of_calls (s := Rows.deltaPiecesSpec) laidOut (by kernel_rfl) rfl rfl Try.underlying4 hW (fun gs _ h2 => by subst h2; rfl) ?_
  exact walk W v0 d0 p0 v1 d1 p1 v2 d2 p2 v3 d3 p3 (hval 0 22 v0 rfl rfl) (h0) (hval 1 3 v1 rfl rfl) (h1) (hval 2 3 v2 rfl rfl) (h2) (hval 3 3 v3 rfl rfl) (h3) hz m hm

theorem over : Rows.deltaPiecesRow.holds Try.pinned (OpenSpec.ofChange Rows.deltaPiecesSpec) :=
  OpenClaim.holds_of_wide 6 Try.f6 rfl rfl rfl rfl rfl rfl rfl ⟨rfl, rfl, rfl, rfl, rfl⟩ rfl rfl rfl rfl rfl (by kernel_rfl) Try.func6 (by kernel_rfl)
    (of_decide_eq_true (by kernel_rfl)) (by unfold Func.isWrapper; first | (rw [if_pos (by decide +kernel)]; kernel_rfl) | (rw [if_neg (by decide +kernel)]; exact ⟨rfl, rfl⟩))
    (fun os started H enc _ => lifted os started H enc)

theorem proved : Rows.DeltaPiecesSaid := over
end Go.Proofs.Ytoplgcikcanagaa.deltaPieces
