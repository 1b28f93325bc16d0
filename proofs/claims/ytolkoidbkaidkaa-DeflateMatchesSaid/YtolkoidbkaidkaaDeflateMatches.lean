/-
  Whatever bytes and reach come in, stemmalaw7.DeflateMatches answers true and changes nothing that was there: each match is a piece that stands further ahead, byte by byte, no two overlap, none is too long or too far.
-/
import Derived.Test.YtolkoidbkaidkaaMatM
import Derived.Test.YtolkoidbkaidkaaAwake7
import Derived.Test.YtolkoidbkaidkaaArgs2
import Derived.ProofKit
namespace Go.Proofs.Ytolkoidbkaidkaa.deflateMatches
open Go Go.RowKit Go.Proofs.Ytolkoidbkaidkaa.lib Go.Proofs.Ytolkoidbkaidkaa.bm Go.Proofs.Ytolkoidbkaidkaa.mat Go.Proofs.Ytolkoidbkaidkaa.defl

theorem mcs_at {w : World} {g o : Nat} {l : List Mt} (h : ∀ j v, (mcells l)[j]? = some v → w.cell? ⟨g, o + j, none⟩ = some v) {i : Nat} (hi : i < l.length) :
    w.cell? ⟨g, o + i * 3, none⟩ = some (.int .i64 (l[i].1 : Nat)) ∧ w.cell? ⟨g, o + i * 3 + 1, none⟩ = some (.int .i64 (l[i].2.1 : Nat)) ∧ w.cell? ⟨g, o + i * 3 + 2, none⟩ = some (.int .i64 (l[i].2.2 : Nat)) := by
  obtain ⟨h0, h1, h2⟩ := mcells_at l i hi
  exact ⟨h _ _ h0, by rw [Nat.add_assoc]; exact h _ _ h1, by rw [Nat.add_assoc]; exact h _ _ h2⟩
set_option maxRecDepth 100000 in
set_option maxHeartbeats 8000000 in
theorem walk_in (W : World) (a : Option Addr) (L cap : Nat) (b : List UInt8) (reach : Int) (hB : BytesArg W a L cap b) :
    Calls Try.prog 3 #[.slice a L cap, .int .i64 reach] W fun e W' => e = .returned (.bool true) ∧ Below W.heap.size W W' := by
  have hrd := Rd.of_arg hB
  have hlim := hB.lim
  have hle := hB.le
  have hL := hB.length
  clear hB
  by_cases hbig : 20000 < L
  · have d0 : decide ((20000 : Int) < L) = true := by simp; omega
    go_enter Try.func3, Try.ntmps3
    go_wp2_with (go_at_call 6; refine (awake_any _).mono ?_; rintro e9 w9 ⟨rfl, f9⟩)
    go_ret
    exact ⟨rfl, below_of_fr f9⟩
  · have d0 : decide ((20000 : Int) < L) = false := by simp; omega
    have hm := matches_any b a cap reach W hrd (by omega)
    rw [hL] at hm
    unfold MatchesNew at hm
    have hch := matches_chain b reach
    have hll := hch.len (Nat.zero_le _)
    rw [hL] at hll
    have hneg : reach ≤ 0 → matches_ b reach = [] := fun h => by unfold matches_; rw [if_neg (by omega)]
    generalize matches_ b reach = l at hm hch hneg hll
    obtain ⟨N, hN⟩ : ∃ N, N = l.length := ⟨_, rfl⟩
    rw [← hN] at hm hll
    have H := Lib.hid (And.intro hm (And.intro hch (And.intro hN (And.intro hrd (And.intro hL hneg)))))
    clear hm hch hN hrd hL hneg
    go_enter Try.func3, Try.ntmps3
    go_upto_block 0 with (go_at_call 7; refine H.out.1.mono ?_; rintro e w1 ⟨ao, rfl, cs1, no1, f1⟩)
    have H1 := Lib.hid (And.intro cs1 (And.intro no1 f1))
    clear cs1 no1 f1
    go_wp2
    go_loopg [6, 7] N (fun k s6 s7 wr => ∃ i e : Nat, s7 = .int .i64 (i : Nat) ∧ s6 = .int .i64 (e : Nat) ∧ i + k = N ∧ e ≤ L ∧ (e = if i = 0 then 0 else ((l[i - 1]?).map fun x => x.1 + x.2.1).getD 0) ∧ Fr [] w1 wr)
    case atStart => exact ⟨0, 0, rfl, rfl, by omega, Nat.zero_le _, rfl, Fr.refl _ _⟩
    case round =>
      obtain ⟨i, e, rfl, rfl, hik, heL, he, hf⟩ := hrel
      have HE := Lib.hid (And.intro he hf)
      clear he hf
      by_cases hi : i < N
      · obtain ⟨k, rfl⟩ : ∃ k, gk = k + 1 := ⟨gk - 1, by omega⟩
        have hil : i < l.length := by rw [← H.out.2.2.1]; exact hi
        obtain ⟨g, o, rfl, hc⟩ := (H1.out.1.fr HE.out.2 (by simp)).at (by rw [mcells_length]; omega)
        obtain ⟨c0, c1, c2⟩ := mcs_at hc hil
        obtain ⟨x1, x2, x3, x4, x5, x6, x7, x8⟩ := H.out.2.1.at (i := i) (x := l[i]) (List.getElem?_eq_getElem hil)
        have hend : e ≤ l[i].1 := by
          have := HE.out.1
          split at x8
          · rename_i h0
            rw [if_pos h0] at this
            omega
          · rename_i h0
            obtain ⟨y, hy, hy2⟩ := x8
            rw [if_neg h0, hy] at this
            simp only [Option.map_some, Option.getD_some] at this
            omega
        have hnext : ((l[i + 1 - 1]?).map fun x => x.1 + x.2.1).getD 0 = l[i].1 + l[i].2.1 := by rw [Nat.add_sub_cancel, List.getElem?_eq_getElem hil]; rfl
        have hbL := H.out.2.2.2.2.1
        rw [hbL] at x6
        clear x8 hc
        generalize l[i].1 = A at *
        generalize l[i].2.1 = M at *
        generalize l[i].2.2 = D at *
        have HX := Lib.hid (And.intro x7 (And.intro hnext (And.intro hbL x4)))
        have hDr : (D : Int) ≤ reach := by
          by_cases h0 : 0 < reach
          · omega
          · have := H.out.2.2.2.2.2 (by omega)
            rw [this] at hil
            simp at hil
        have hD3 : D ≤ 32768 := by omega
        clear x7 hnext hbL x4 hil
        have d1 : decide (A < e) = false := by simp; omega
        have d2 : decide ((M : Int) < 3) = false := by simp; omega
        have d3 : decide ((258 : Int) < M) = false := by simp; omega
        have d4 : decide ((D : Int) < 1) = false := by simp; omega
        have d5 : decide (reach < (D : Int)) = false := by simp; omega
        have d6 : decide ((32768 : Int) < D) = false := by simp; omega
        have d7 : decide (A < D) = false := by simp; omega
        have d8 : decide ((L : Int) - A < M) = false := by simp; omega
        go_upto_region 11 with fail
        clear d1 d2 d3 d4 d5 d6 d7 d8 c0 c1 c2
        obtain ⟨P, hP⟩ : ∃ P, P = wr.heap.size := ⟨_, rfl⟩
        have hb2 := alloc_at wr (.cells #[.int .i64 (A : Nat), .int .i64 (M : Nat), .int .i64 (D : Nat)] 27)
        have f2 : Fr [] wr (wr.alloc (.cells #[.int .i64 (A : Nat), .int .i64 (M : Nat), .int .i64 (D : Nat)] 27)) := (Fr.refl [] wr).alloc _
        rw [← hP] at hb2 ⊢
        generalize (wr.alloc (.cells #[.int .i64 (A : Nat), .int .i64 (M : Nat), .int .i64 (D : Nat)] 27)) = w2 at *
        have H2 := Lib.hid (And.intro hb2 f2)
        obtain ⟨wo, rfl⟩ : ∃ wo : World, wo = wr := ⟨_, rfl⟩
        clear hb2 f2 hP
        go_wp2
        go_loopg [9] M (fun k s9 wz => ∃ j : Nat, s9 = .int .i64 (j : Nat) ∧ j + k = M ∧ Fr [] w2 wz)
        case atStart => exact ⟨0, rfl, by omega, Fr.refl _ _⟩
        case round =>
          obtain ⟨j, rfl, hj, hf⟩ := hrel
          have hb3 := hf.blk H2.out.1 (by simp)
          have c0 := cell_of hb3 0
          have c1 := cell_of hb3 1
          have c2 := cell_of hb3 2
          simp only [List.getElem?_toArray, List.getElem?_cons_zero, List.getElem?_cons_succ] at c0 c1 c2
          have HF := Lib.hid hf
          clear hf hb3
          by_cases hjM : j < M
          · obtain ⟨k2, rfl⟩ : ∃ k2, gk = k2 + 1 := ⟨gk - 1, by omega⟩
            obtain ⟨m1, hm1⟩ : ∃ m1, m1 = A + j := ⟨_, rfl⟩
            obtain ⟨m2, hm2⟩ : ∃ m2, m2 = m1 - D := ⟨_, rfl⟩
            have e1 : (A : Int) + (j : Int) = (m1 : Int) := by omega
            have w1' : IntKind.i64.wrap ((A : Int) + (j : Int)) = (m1 : Int) := by rw [IntKind.wrap_i64]; omega
            have e2 : (m1 : Int) - (D : Int) = (m2 : Int) := by omega
            have w2' : IntKind.i64.wrap ((m1 : Int) - (D : Int)) = (m2 : Int) := by rw [IntKind.wrap_i64]; omega
            have hl1 : m1 < b.length := by rw [HX.out.2.2.1]; omega
            have hl2 : m2 < b.length := by rw [HX.out.2.2.1]; omega
            have fW : Fr [] W wr := H1.out.2.2.trans (HE.out.2.trans (H2.out.2.trans HF.out))
            obtain ⟨g1, o1, ra, X1⟩ := (H.out.2.2.2.1.fr fW).at hl1
            obtain ⟨g2, o2, rb, X2⟩ := (H.out.2.2.2.1.fr fW).at hl2
            have rb' := rb
            rw [ra] at rb'
            simp only [Option.some.injEq, Addr.mk.injEq, and_true] at rb'
            obtain ⟨rfl, rfl⟩ := rb'
            have heq := HX.out.1 j hjM
            rw [← hm1, ← hm2, List.getElem?_eq_getElem hl1, List.getElem?_eq_getElem hl2] at heq
            rw [← Option.some.inj heq] at X2
            have i1 : (m1 : Int) < (L : Int) := by omega
            have i2 : (m2 : Int) < (L : Int) := by omega
            generalize b[m1].toNat = y at *
            have hyy : ((y : Int) != (y : Int)) = false := by simp
            subst ra
            have HM2 := Lib.hid (And.intro e1 (And.intro hm1 hm2))
            clear heq rb fW hl1 hl2 hm1 hm2
            go_upto_region 14 with fail
            go_quiet (fail)
            clear X1 X2 w1' w2' c0 c1 c2 e1 e2
            go_wp2
            go_roundg k2
            case measure => omega
            case rel => exact ⟨j + 1, by go_num, by omega, HF.out.trans (Fr.drewN _ _ _)⟩
          · obtain rfl : j = M := by omega
            obtain rfl : gk = 0 := by omega
            go_wp2
            go_roundg k
            case measure => omega
            case rel =>
              refine ⟨i + 1, A + j, by go_num, by go_num, by omega, by omega, ?_, HE.out.2.trans (H2.out.2.trans HF.out)⟩
              rw [if_neg (by omega)]
              exact HX.out.2.1.symm
      · obtain rfl : i = N := by omega
        have HF := Lib.hid (H1.out.2.2.trans HE.out.2)
        by_cases h0 : 0 < reach
        · have d1 : decide ((0 : Int) < reach) = true := by simpa using h0
          go_wp2_with (go_at_call 6; refine (awake_any _).mono ?_; rintro e9 w9 ⟨rfl, f9⟩)
          go_ret
          exact ⟨rfl, below_of_fr (HF.out.trans f9)⟩
        · have d1 : decide ((0 : Int) < reach) = false := by simpa using h0
          have hl0 := H.out.2.2.2.2.2 (by omega)
          have hN0 := H.out.2.2.1
          rw [hl0] at hN0
          simp only [List.length_nil] at hN0
          subst hN0
          go_wp2_with (go_at_call 6; refine (awake_any _).mono ?_; rintro e9 w9 ⟨rfl, f9⟩)
          go_ret
          exact ⟨rfl, below_of_fr (HF.out.trans f9)⟩

open Go.ChangeShapes Go.WideShapes
theorem cellsU8 : Try.prog.cellsOf 5 = 1 := by kernel_rfl
theorem bytesU8 : Try.prog.bytesOf 5 = 1 := by kernel_rfl
set_option maxRecDepth 100000 in
/-- From the arguments as they are read to the walk. -/
theorem walk {H : Type} {enc : TypeId × Value → H} (W : World) {base : Nat} (v0 : Value) (d0 : DataW H) (p0 : List MemPlace) (v1 : Value) (d1 : DataW H) (p1 : List MemPlace)
    (o0 : Value.okWide Try.prog W .any base 22 v0) (h0 : DataW.Trod enc Try.prog W 0 (fun _ => true) true 22 v0 d0 p0)
    (o1 : Value.okWide Try.prog W .any base 3 v1) (h1 : DataW.Trod enc Try.prog W 0 (fun _ => true) true 3 v1 d1 p1)
    (hz : (DataW.weightsEach Try.prog [22, 3] [d0, d1]).all (· ≤ reachBytes) = true) :
    Calls Try.prog 3 #[v0, v1] W fun e W' => e = .returned (.bool true) ∧ Below W.heap.size W W' := by
  obtain ⟨x1, rfl, rfl, rfl, wx1⟩ := open_int Try.underlying3 o1 h1
  obtain ⟨a, len, cap, rfl⟩ := okWide_slice Try.underlying22 o0
  obtain ⟨bs, B, _⟩ := bytes_arg Try.underlying22 Try.underlying5 cellsU8 bytesU8 h0 (light_each hz (j := 0) rfl rfl)
  exact walk_in W a len cap bs x1 B

/-! ### The row -/
theorem own : ownKnob Try.prog.godebug = none := by kernel_rfl
theorem laidOut : laidOutB Try.prog = true := by kernel_rfl
set_option maxRecDepth 100000 in
theorem lifted (os : Os) (started : os.Started) (H : Type) (enc : TypeId × Value → H) :
    ReturnsInHanded {} Try.checked os 3 .any (Rows.deflateMatchesSpec.pre6 enc Try.prog Try.f3 Rows.deflateMatchesRow.domain false) (Rows.deflateMatchesSpec.post enc Try.prog Try.f3 false true false false) := by
  refine returnsInHanded_of_change_sized (C := Try.checked) own started (by kernel_rfl) Try.func3
    (ChangeSpec.witness6 (enc := enc) (C := Try.checked) false ⟨#[], #[.slice none 0 0, .int .i64 0], []⟩ 8 (by kernel_rfl) (by kernel_rfl) (by kernel_rfl) (by kernel_rfl)) ?_
  intro W base args ds gs before hval hW _ hsz _
  have hW' := hW
  obtain ⟨p, q, hA0, hV, rfl, hfz, hnd⟩ := hW'
  have hA : DataW.TrodAll enc Try.prog W 0 (fun _ => true) true Try.f3.params.toList args.toList ds p := hA0
  rw [Try.params3] at hA hval
  obtain ⟨v0, vs0, d0, ds0, p0, q0, hargs, rfl, rfl, h0, r0⟩ := trodAll_cons hA
  obtain ⟨v1, vs1, d1, ds1, p1, q1, rfl, rfl, rfl, h1, r1⟩ := trodAll_cons r0
  obtain ⟨rfl, rfl, rfl⟩ := trodAll_nil r1
  obtain rfl : args = #[v0, v1] := by cases args; simp_all
  obtain ⟨rfl, rfl⟩ := trodVars_none hV
  have hz : (DataW.weightsEach Try.prog [22, 3] [d0, d1]).all (· ≤ reachBytes) = true := hsz
  refine law_of_calls (s := Rows.deflateMatchesSpec) laidOut (by kernel_rfl) rfl rfl Try.underlying4 hW (fun gs _ h2 => by subst h2; rfl) ?_
  exact walk W v0 d0 p0 v1 d1 p1 (hval 0 22 v0 rfl rfl) (h0) (hval 1 3 v1 rfl rfl) (h1) hz

theorem over : Rows.deflateMatchesRow.holds Try.pinned (OpenSpec.ofChange Rows.deflateMatchesSpec) :=
  OpenClaim.holds_of_wide 3 Try.f3 rfl rfl rfl rfl rfl rfl rfl ⟨rfl, rfl, rfl, rfl, rfl⟩ rfl rfl rfl rfl rfl (by kernel_rfl) Try.func3 (by kernel_rfl)
    (of_decide_eq_true (by kernel_rfl)) (by unfold Func.isWrapper; first | (rw [if_pos (by decide +kernel)]; kernel_rfl) | (rw [if_neg (by decide +kernel)]; exact ⟨rfl, rfl⟩))
    (fun os started H enc _ => lifted os started H enc)

theorem proved : Rows.DeflateMatchesSaid := over
end Go.Proofs.Ytolkoidbkaidkaa.deflateMatches
