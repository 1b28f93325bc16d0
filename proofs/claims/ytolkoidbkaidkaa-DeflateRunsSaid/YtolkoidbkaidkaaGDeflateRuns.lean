/-
  Whatever byte and number come in, stemmalaw7.DeflateRuns answers true and changes nothing that was there: a text of one byte becomes very small, and nearly all of it lies in matches.
-/
import Derived.Test.YtolkoidbkaidkaaG8
import Derived.ProofKit
set_option linter.unusedVariables false
set_option linter.unusedSimpArgs false
namespace Go.Proofs.Ytolkoidbkaidkaa.deflateRuns
open Go Go.RowKit Go.Proofs.Ytolkoidbkaidkaa.lib Go.Proofs.Ytolkoidbkaidkaa.bm Go.Proofs.Ytolkoidbkaidkaa.mat Go.Proofs.Ytolkoidbkaidkaa.defl Go.Proofs.Ytolkoidbkaidkaa.inf Go.Proofs.Ytolkoidbkaidkaa.trip

theorem mcs_at {w : World} {g o : Nat} {l : List Mt} (h : ∀ j v, (mcells l)[j]? = some v → w.cell? ⟨g, o + j, none⟩ = some v) {i : Nat} (hi : i < l.length) :
    w.cell? ⟨g, o + i * 3, none⟩ = some (.int .i64 (l[i].1 : Nat)) ∧ w.cell? ⟨g, o + i * 3 + 1, none⟩ = some (.int .i64 (l[i].2.1 : Nat)) := by
  obtain ⟨h0, h1, h2⟩ := mcells_at l i hi
  exact ⟨h _ _ h0, by rw [Nat.add_assoc]; exact h _ _ h1⟩
theorem make_u8 (n : Nat) (h : n ≤ 1000000) : ∃ Z : Array Value, Z.size = n ∧ ∀ w : World, (Instr.makeSlice 22 (.int .i64 (n : Nat)) (.int .i64 (n : Nat))).run Try.prog w = .ok (.slice (some ⟨w.heap.size, 0, none⟩) n n) (w.alloc (.cells Z 5)) := by
  obtain ⟨hu, ⟨i, hi, hz, hs, hb⟩, _, _⟩ := bits.sliceU8
  refine ⟨madeCells (Value.int .u8 0).cells n, size_madeCells _ _, fun w => ?_⟩
  have := run_make (P := Try.prog) w 22 5 i (.int .u8 0) Try.underlying22 hi hz .i64 .i64 (n : Nat) (n : Nat) (by omega) (Int.le_refl _) (by rw [hb]; omega) (by omega)
  rw [hs, Int.toNat_natCast, Nat.mul_one] at this
  exact this
/-- The first i cells of the block are the byte. -/
def Row (w : World) (P n i : Nat) (c : UInt8) : Prop := ∃ Z, w.heap[P]? = some (.cells Z 5 (0, 0)) ∧ Z.size = n ∧ ∀ s, s < i → Z[s]? = some (bv c)
theorem Row.at {w : World} {P n i : Nat} {c : UInt8} (h : Row w P n i c) (hi : i < n) : (∃ v, w.cell? ⟨P, i, none⟩ = some v) ∧ w.frozen? ⟨P, i, none⟩ = false := by
  obtain ⟨Z, h1, h2, _⟩ := h
  refine ⟨⟨Z[i]'(by omega), ?_⟩, frozen_of h1 i⟩
  rw [cell_of h1, Array.getElem?_eq_getElem (by omega)]
theorem Row.set {w : World} {P n i : Nat} {c : UInt8} (h : Row w P n i c) (hi : i < n) : Row (w.setCell ⟨P, i, none⟩ (bv c)) P n (i + 1) c := by
  obtain ⟨Z, h1, h2, h3⟩ := h
  refine ⟨_, setCell_of (o := i) h1 (bv c), by rw [Array.size_setIfInBounds]; exact h2, fun s hs => ?_⟩
  rw [Array.getElem?_setIfInBounds]
  by_cases e : i = s
  · rw [if_pos e, if_pos (by omega)]
  · rw [if_neg e]
    exact h3 s (by omega)
theorem Row.rd {w : World} {P n : Nat} {c : UInt8} (h : Row w P n n c) (hn : n ≤ 1000000) : lib.Rd w (some ⟨P, 0, none⟩) n (List.replicate n c) := by
  obtain ⟨Z, h1, h2, h3⟩ := h
  refine ⟨.inr ⟨P, 0, rfl, fun j v hv => ?_⟩, by rw [List.length_replicate]; exact Nat.le_refl _, by unfold maxLen; omega, fun h => by cases h⟩
  rw [Nat.zero_add, cell_of h1]
  rw [List.map_replicate, List.getElem?_replicate] at hv
  split at hv
  · rename_i hj
    rw [h3 j hj, ← hv]
  · cases hv
theorem sumlen_step {l : List Mt} {j : Nat} (h : j < l.length) : sumlen (l.take (j + 1)) = sumlen (l.take j) + l[j].2.1 := by
  unfold sumlen
  rw [List.take_add_one, List.getElem?_eq_getElem h, List.map_append, List.sum_append]
  simp only [Option.toList_some, List.map_cons, List.map_nil, List.sum_cons, List.sum_nil, Nat.add_zero]
theorem sumlen_le (l : List Mt) (j : Nat) : sumlen (l.take j) ≤ sumlen l := by
  conv => rhs; rw [← List.take_append_drop j l]
  unfold sumlen
  rw [List.map_append, List.sum_append]
  exact Nat.le_add_right _ _
set_option maxRecDepth 100000 in
set_option maxHeartbeats 8000000 in
theorem walk_in (W : World) (c : UInt8) (x : Int) :
    Calls Try.prog 5 #[.int .u8 (c.toNat : Nat), .int .i64 x] W fun e W' => e = .returned (.bool true) ∧ Below W.heap.size W W' := by
  by_cases hneg : x < 0
  · have d0 : decide (x < 0) = true := by simpa using hneg
    go_enter Try.func5, Try.ntmps5
    go_wp2_with (go_at_call 6; refine (awake_any _).mono ?_; rintro e9 w9 ⟨rfl, f9⟩)
    go_ret
    exact ⟨rfl, below_of_fr f9⟩
  · obtain ⟨n, rfl⟩ : ∃ n : Nat, x = (n : Int) := ⟨x.toNat, by omega⟩
    by_cases hbig : 100000 < n
    · have d1 : decide ((100000 : Int) < n) = true := by simp; omega
      clear hneg
      go_enter Try.func5, Try.ntmps5
      go_wp2_with (go_at_call 6; refine (awake_any _).mono ?_; rintro e9 w9 ⟨rfl, f9⟩)
      go_ret
      exact ⟨rfl, below_of_fr f9⟩
    · have d1 : decide ((100000 : Int) < n) = false := by simp; omega
      have hn : n ≤ 100000 := by omega
      clear hneg hbig
      obtain ⟨Z, hZ, hmk⟩ := make_u8 n (by omega)
      go_enter Try.func5, Try.ntmps5
      go_upto_region 4 with fail
      clear d1 hmk
      obtain ⟨P, hP⟩ : ∃ P, P = W.heap.size := ⟨_, rfl⟩
      obtain ⟨w1, hw1⟩ : ∃ w1, w1 = W.alloc (.cells Z 5) := ⟨_, rfl⟩
      have hrow : Row w1 P n 0 c := ⟨Z, by rw [hw1, hP]; exact alloc_at W _, hZ, fun s hs => by omega⟩
      have f1 : Fr [] W w1 := by rw [hw1]; exact (Fr.refl [] W).alloc _
      rw [← hw1, ← hP]
      have H1 := Lib.hid (And.intro hrow (And.intro f1 hP))
      clear hrow f1 hP hw1 hZ
      go_wp2
      go_loopg [6] n (fun k s6 wr => ∃ i : Nat, s6 = .int .i64 (i : Nat) ∧ i + k = n ∧ Row wr P n i c ∧ Fr [] W wr)
      case atStart => exact ⟨0, rfl, by omega, H1.out.1, H1.out.2.1⟩
      case round =>
        obtain ⟨i, rfl, hik, hrow, hf⟩ := hrel
        by_cases hi : i < n
        · obtain ⟨k, rfl⟩ : ∃ k, gk = k + 1 := ⟨gk - 1, by omega⟩
          obtain ⟨⟨v, hc⟩, hfz⟩ := hrow.at hi
          have hset := hrow.set hi
          have HR := Lib.hid (And.intro hset hf)
          clear hrow hset hf
          go_wp2
          go_roundg k
          case measure => omega
          case rel =>
            refine ⟨i + 1, by go_num, by omega, HR.out.1, HR.out.2.setCell (.inr ?_) _⟩
            rw [H1.out.2.2]
            exact Nat.le_refl _
        · obtain rfl : i = n := by omega
          have hrd := hrow.rd (by omega)
          have hll : (List.replicate i c).length = i := List.length_replicate
          have low : ∀ x ∈ blk (some (⟨P, 0, none⟩ : Addr)), x < wr.heap.size := fun x hx => by
            obtain ⟨Z, hz, _⟩ := hrow
            simp only [blk, List.mem_singleton] at hx
            rw [hx]
            exact lt_of_block hz
          have hraw := raw_more (some ⟨P, 0, none⟩) i (List.replicate i c) 2 wr hrd (by omega) (by decide) low
          rw [hll] at hraw
          have HR := Lib.hid (And.intro hrd (And.intro hf (And.intro hraw hll)))
          clear hrow hf hrd low hraw hll hik hi
          go_upto_region 9 with (go_at_call 8; refine HR.out.2.2.1.mono ?_; rintro e w3 ⟨r, hres, ar, rfl, rd3, nb3, f3⟩)
          obtain ⟨N, hN⟩ : ∃ N, N = r.length := ⟨_, rfl⟩
          have hNT : N ≤ 40 + i / 50 := by
            obtain ⟨bf, h1, _, h3⟩ := hres
            have h4 := (h3 (by decide)).2.1
            have h5 := rep_fixed h1
            omega
          have htr := raw_trip hres (by decide) [] i (by rw [HR.out.2.2.2]; exact Nat.le_refl _)
          rw [List.append_nil] at htr
          have hinf := inf.raw_any ar r.length r i w3 rd3 (by omega) (by omega)
          rw [htr] at hinf
          rw [← hN] at hinf rd3 ⊢
          have H3 := Lib.hid (And.intro rd3 (And.intro hN (And.intro f3 hinf)))
          clear rd3 nb3 f3 hinf htr hN hres
          go_upto_region 10 with (go_at_call 9; refine H3.out.2.2.2.mono ?_; rintro e w4 (⟨c4, hm4, _, _, rfl, _⟩ | ⟨o4, u4, a4, hm4, rfl, rd4, nb4, f4⟩); (cases hm4); (simp only [Except.ok.injEq, Prod.mk.injEq] at hm4; obtain ⟨rfl, rfl⟩ := hm4))
          have cv1 := run_conv w4 Try.underlying22 Try.underlying5 Try.underlying9 HR.out.2.2.2 rd4.cs
          have cv2 := run_conv w4 Try.underlying22 Try.underlying5 Try.underlying9 HR.out.2.2.2 (HR.out.1.fr (H3.out.2.2.1.trans f4)).cs
          rw [HR.out.2.2.2] at rd4
          have hmt := matches_any (List.replicate i c) (some ⟨P, 0, none⟩) i 32768 w4 (HR.out.1.fr (H3.out.2.2.1.trans f4)) (by rw [HR.out.2.2.2]; omega)
          obtain ⟨_, hs1, hs2⟩ := rep_all i c
          have hMx := (matches_chain (List.replicate i c) 32768).len (Nat.zero_le _)
          unfold MatchesNew at hmt
          rw [HR.out.2.2.2] at hmt hMx
          generalize matches_ (List.replicate i c) 32768 = l at hmt hs1 hs2 hMx
          obtain ⟨M, hM⟩ : ∃ M, M = l.length := ⟨_, rfl⟩
          rw [← hM] at hmt
          have d1 : decide ((40 : Int) + (i : Int) / 50 < (N : Int)) = false := by simp; omega
          have H4 := Lib.hid (And.intro f4 (And.intro hmt (And.intro hs1 (And.intro hs2 hM))))
          clear rd4 nb4 f4 hmt hs1 hs2 hM
          go_upto_region 14 with (go_at_call 7; refine H4.out.2.1.mono ?_; rintro e w5 ⟨al, rfl, cs5, no5, lw5, f5⟩; have H5 := Lib.hid (And.intro cs5 (And.intro no5 f5)); clear cs5 no5 lw5 f5)
          clear cv1 cv2 d1
          go_wp2
          go_loopg [11, 13] M (fun k s11 s13 wq => ∃ j : Nat, s13 = .int .i64 (j : Nat) ∧ s11 = .int .i64 (sumlen (l.take j) : Nat) ∧ j + k = M ∧ Fr [] w5 wq)
          case atStart => exact ⟨0, rfl, rfl, by omega, Fr.refl _ _⟩
          case round =>
            obtain ⟨j, rfl, rfl, hjk, hf⟩ := hrel
            have HW := Lib.hid hf
            clear hf
            have hsl := sumlen_le l j
            have hs1 := H4.out.2.2.1
            by_cases hj : j < M
            · obtain ⟨k, rfl⟩ : ∃ k, gk = k + 1 := ⟨gk - 1, by omega⟩
              have hjl : j < l.length := by rw [← H4.out.2.2.2.2]; exact hj
              obtain ⟨g, o, rfl, hc⟩ := (H5.out.1.fr HW.out (by simp)).at (by rw [mcells_length]; omega)
              obtain ⟨_, c1⟩ := mcs_at hc hjl
              have hst := sumlen_step hjl
              have hsl2 := sumlen_le l (j + 1)
              clear hc
              generalize l[j].2.1 = Q at *
              have HX := Lib.hid hst
              rw [hst] at hsl2
              clear hst
              generalize sumlen (l.take j) = A at *
              go_wp2
              go_roundg k
              case measure => omega
              case rel => exact ⟨j + 1, by go_num, by rw [HX.out]; go_num, by omega, HW.out⟩
            · obtain rfl : j = M := by omega
              have he : sumlen (l.take j) = sumlen l := by rw [H4.out.2.2.2.2, List.take_length]
              rw [he] at hsl ⊢
              have hs2 := H4.out.2.2.2.1
              generalize sumlen l = A at *
              have HF := Lib.hid (HR.out.2.1.trans (H3.out.2.2.1.trans (H4.out.1.trans (H5.out.2.2.trans HW.out))))
              by_cases h4 : i < 4
              · have d2 : decide ((i : Int) < 4) = true := by simp; omega
                clear hs2 hsl he
                go_wp2_with (go_at_call 6; refine (awake_any _).mono ?_; rintro e9 w9 ⟨rfl, f9⟩)
                go_ret
                exact ⟨rfl, below_of_fr (HF.out.trans f9)⟩
              · have d2 : decide ((i : Int) < 4) = false := by simp; omega
                have d3 : decide ((i : Int) - (A : Int) ≤ 260) = true := by
                  have := hs2 (by omega)
                  simp
                  omega
                clear hs2 hsl he
                go_wp2_with (go_at_call 6; refine (awake_any _).mono ?_; rintro e9 w9 ⟨rfl, f9⟩)
                go_ret
                exact ⟨rfl, below_of_fr (HF.out.trans f9)⟩

open Go.ChangeShapes Go.WideShapes
set_option maxRecDepth 100000 in
/-- From the arguments as they are read to the walk. -/
theorem walk {H : Type} {enc : TypeId × Value → H} (W : World) {base : Nat} (v0 : Value) (d0 : DataW H) (p0 : List MemPlace) (v1 : Value) (d1 : DataW H) (p1 : List MemPlace)
    (o0 : Value.okWide Try.prog W .any base 5 v0) (h0 : DataW.Trod enc Try.prog W 0 (fun _ => true) true 5 v0 d0 p0)
    (o1 : Value.okWide Try.prog W .any base 3 v1) (h1 : DataW.Trod enc Try.prog W 0 (fun _ => true) true 3 v1 d1 p1)
    (hz : (DataW.weightsEach Try.prog [5, 3] [d0, d1]).all (· ≤ reachBytes) = true) :
    Calls Try.prog 5 #[v0, v1] W fun e W' => e = .returned (.bool true) ∧ Below W.heap.size W W' := by
  obtain ⟨x0, rfl, rfl, rfl, wx0⟩ := open_int Try.underlying5 o0 h0
  obtain ⟨x1, rfl, rfl, rfl, wx1⟩ := open_int Try.underlying3 o1 h1
  have hx : ∃ c : UInt8, x0 = (c.toNat : Int) := ⟨UInt8.ofNat x0.toNat, by
    have h : 0 ≤ x0 ∧ x0 ≤ 255 := by simpa [Lit.wf, IntKind.min, IntKind.max, IntKind.signed, IntKind.bits] using wx0
    rw [UInt8.toNat_ofNat']
    omega⟩
  obtain ⟨c, rfl⟩ := hx
  exact walk_in W c x1

/-! ### The row -/
theorem own : ownKnob Try.prog.godebug = none := by kernel_rfl
theorem laidOut : laidOutB Try.prog = true := by kernel_rfl
set_option maxRecDepth 100000 in
theorem lifted (os : Os) (started : os.Started) (H : Type) (enc : TypeId × Value → H) :
    ReturnsInHanded {} Try.checked os 5 .any (Rows.deflateRunsSpec.pre6 enc Try.prog Try.f5 Rows.deflateRunsRow.domain false) (Rows.deflateRunsSpec.post enc Try.prog Try.f5 false true false false) := by
  refine returnsInHanded_of_change_sized (C := Try.checked) own started (by kernel_rfl) Try.func5
    (ChangeSpec.witness6 (enc := enc) (C := Try.checked) false ⟨#[], #[.int .u8 0, .int .i64 0], []⟩ 8 (by kernel_rfl) (by kernel_rfl) (by kernel_rfl) (by kernel_rfl)) ?_
  intro W base args ds gs before hval hW _ hsz _
  have hW' := hW
  obtain ⟨p, q, hA0, hV, rfl, hfz, hnd⟩ := hW'
  have hA : DataW.TrodAll enc Try.prog W 0 (fun _ => true) true Try.f5.params.toList args.toList ds p := hA0
  rw [Try.params5] at hA hval
  obtain ⟨v0, vs0, d0, ds0, p0, q0, hargs, rfl, rfl, h0, r0⟩ := trodAll_cons hA
  obtain ⟨v1, vs1, d1, ds1, p1, q1, rfl, rfl, rfl, h1, r1⟩ := trodAll_cons r0
  obtain ⟨rfl, rfl, rfl⟩ := trodAll_nil r1
  obtain rfl : args = #[v0, v1] := by cases args; simp_all
  obtain ⟨rfl, rfl⟩ := trodVars_none hV
  have hz : (DataW.weightsEach Try.prog [5, 3] [d0, d1]).all (· ≤ reachBytes) = true := hsz
  refine law_of_calls (s := Rows.deflateRunsSpec) laidOut (by kernel_rfl) rfl rfl Try.underlying4 hW (fun gs _ h2 => by subst h2; rfl) ?_
  exact walk W v0 d0 p0 v1 d1 p1 (hval 0 5 v0 rfl rfl) (h0) (hval 1 3 v1 rfl rfl) (h1) hz

theorem over : Rows.deflateRunsRow.holds Try.pinned (OpenSpec.ofChange Rows.deflateRunsSpec) :=
  OpenClaim.holds_of_wide 5 Try.f5 rfl rfl rfl rfl rfl rfl rfl ⟨rfl, rfl, rfl, rfl, rfl⟩ rfl rfl rfl rfl rfl (by kernel_rfl) Try.func5 (by kernel_rfl)
    (of_decide_eq_true (by kernel_rfl)) (by unfold Func.isWrapper; first | (rw [if_pos (by decide +kernel)]; kernel_rfl) | (rw [if_neg (by decide +kernel)]; exact ⟨rfl, rfl⟩))
    (fun os started H enc _ => lifted os started H enc)

theorem proved : Rows.DeflateRunsSaid := over
end Go.Proofs.Ytolkoidbkaidkaa.deflateRuns
