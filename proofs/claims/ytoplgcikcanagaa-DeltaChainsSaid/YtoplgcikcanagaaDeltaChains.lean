/-
  Whatever texts come in, stemmalaw10.DeltaChains answers true and changes nothing that was there: deltas made one on the other lead from the first text to the last.
-/
import Derived.Test.YtoplgcikcanagaaDeltaMake
import Derived.Test.YtoplgcikcanagaaDeltaSmall
import Derived.Test.YtoplgcikcanagaaDeltaApp
import Derived.Test.YtoplgcikcanagaaRowsArg
import Derived.Test.YtoplgcikcanagaaBitsInt
import Derived.Test.YtoplgcikcanagaaArgs2
import Derived.HandedShaped
import Derived.ProofKit
namespace Go.Proofs.Ytoplgcikcanagaa.deltaChains
open Go Go.RowKit Go.Proofs.Ytoplgcikcanagaa.lib Go.Proofs.Ytoplgcikcanagaa.bm Go.Proofs.Ytoplgcikcanagaa.delta

/-- The text ahead of the i-th; nothing ahead of the first. -/
def prev (l : List Rv) (i : Nat) : List UInt8 := if i = 0 then [] else ((l[i - 1]?).map Rv.bs).getD []
theorem prev_succ (l : List Rv) (i : Nat) (h : i < l.length) : prev l (i + 1) = l[i].bs := by
  unfold prev
  rw [if_neg (by omega), Nat.add_sub_cancel, List.getElem?_eq_getElem h]
  rfl
theorem prev_pos (l : List Rv) (i : Nat) (h0 : 0 < i) (h : i - 1 < l.length) : prev l i = l[i - 1].bs := by
  unfold prev
  rw [if_neg (by omega), List.getElem?_eq_getElem h]
  rfl
set_option maxRecDepth 100000 in
set_option maxHeartbeats 8000000 in
theorem walk_in (W : World) (a : Option Addr) (cap : Nat) (l : List Rv) (h : RowsOf W a cap l) (m : Int) (hm : W.cell? ⟨0, 0, none⟩ = some (.int .i64 m)) :
    Calls Try.prog 7 #[.slice a l.length cap] W fun e W' => e = .returned (.bool true) ∧ Below W.heap.size W W' := by
  have hle := h.le
  have hmax := h.max
  unfold maxLen at hmax
  obtain ⟨L, hL⟩ : ∃ L, L = l.length := ⟨_, rfl⟩
  rw [← hL] at hle ⊢
  have H := Lib.hid (And.intro h (And.intro hm hL))
  clear h hm hL
  go_enter Try.func7, Try.ntmps7
  go_upto_block 0 with fail
  go_wp2
  go_loopg [3, 4] 10 (fun k s3 s4 wr => ∃ (i : Nat) (ao : Option Addr) (c n : Nat) (now : List UInt8), s3 = .slice ao n c ∧ s4 = .int .i64 (i : Nat) ∧ n = now.length ∧ i + k = 10 ∧ i ≤ L ∧ now = prev l i ∧ now.length ≤ 3000 ∧ Rd wr ao c now ∧ Fr [] W wr)
  case atStart => exact ⟨0, none, 0, 0, [], rfl, rfl, rfl, rfl, Nat.zero_le _, rfl, Nat.zero_le _, Rd.none _, Fr.refl _ _⟩
  case round =>
    obtain ⟨i, ao, c, n, now, rfl, rfl, hn, hik, hil, hnow, hn3, hrd, hf⟩ := hrel
    rw [← hn] at hn3
    have HN := Lib.hid (And.intro hrd (And.intro hf (And.intro hnow hn)))
    clear hrd hf hnow hn
    by_cases hiL : i < L
    · by_cases hi10 : i < 10
      · obtain ⟨k, rfl⟩ : ∃ k, gk = k + 1 := ⟨gk - 1, by omega⟩
        have hiL' : i < l.length := by rw [← H.out.2.2]; exact hiL
        obtain ⟨g, o, rfl, hc00, hr0⟩ := H.out.1.at hiL'
        have hc0 := HN.out.2.1.cell hc00 (by simp)
        have hr0 := hr0
        obtain ⟨b, tn, cb, txt, hb⟩ : ∃ (b : Option Addr) (tn cb : Nat) (txt : List UInt8), l[i].ao = b ∧ l[i].bs.length = tn ∧ l[i].cap = cb ∧ l[i].bs = txt := ⟨_, _, _, _, rfl, rfl, rfl, rfl⟩
        have htn : txt.length = tn := by rw [← hb.2.2.2, hb.2.1]
        rw [hb.1, hb.2.2.1, hb.2.2.2] at hr0
        rw [hb.1, hb.2.1, hb.2.2.1] at hc0 hc00
        have HC := Lib.hid hc00
        clear hc00
        have hrl := hr0.le
        rw [htn] at hrl
        have hrm := hr0.max
        unfold maxLen at hrm
        have HX := Lib.hid (And.intro hr0 (And.intro hb htn))
        clear hr0 hb htn
        have b10 : decide (i < L) = true := by simpa using hiL
        by_cases hbig : 3000 < tn
        · have b1 : decide ((3000 : Int) < tn) = true := by simp; omega
          go_wp2_with (go_at_call 10; refine (awake_any _).mono ?_; rintro e9 w9 ⟨rfl, f9⟩)
          go_ret
          exact ⟨rfl, below_of_fr (HN.out.2.1.trans f9)⟩
        · have b1 : decide ((3000 : Int) < tn) = false := by simp; omega
          go_upto_if 31 with fail
          go_cut [5] from 30 to 37 (fun s5 wz => ∃ af cf, s5 = .slice af n cf ∧ Rd wz af cf now ∧ Fr [] wr wz)
          case first =>
            by_cases h0 : i = 0
            · subst h0
              have e0 : now = [] := by rw [HN.out.2.2.1]; rfl
              have en : n = 0 := by rw [HN.out.2.2.2, e0]; rfl
              subst en
              have f1 := (Fr.refl [] wr).alloc (.cells #[] 5)
              go_wp2
              go_meet
              exact ⟨_, 0, rfl, by rw [e0]; exact ⟨.inl rfl, Nat.le_refl _, Nat.zero_le _, fun h => by cases h⟩, f1⟩
            · have hj : i - 1 < l.length := by omega
              have hpv := prev_pos l i (by omega) hj
              obtain ⟨g', o', e, hc1, hr1⟩ := (H.out.1.fr HN.out.2.1).at hj
              simp only [Option.some.injEq, Addr.mk.injEq, and_true] at e
              obtain ⟨rfl, rfl⟩ := e
              rw [← hpv, ← HN.out.2.2.1] at hc1 hr1
              rw [← HN.out.2.2.2] at hc1
              obtain ⟨af, haf⟩ : ∃ af, af = l[i - 1].ao := ⟨_, rfl⟩
              obtain ⟨cf, hcf⟩ : ∃ cf, cf = l[i - 1].cap := ⟨_, rfl⟩
              rw [← haf, ← hcf] at hc1 hr1
              have hc1 := (Fr.refl [] _).alloc (.cells #[] 5) |>.cell hc1 (by simp)
              have f1 := (Fr.refl [] wr).alloc (.cells #[] 5)
              have r1 := hr1.fr ((Fr.refl [] _).alloc (.cells #[] 5))
              have HR1 := Lib.hid (And.intro r1 f1)
              have b0 : decide ((0 : Int) < i) = true := by simp; omega
              clear hpv haf hcf hr1 r1 f1
              go_wp2
              go_meet
              exact ⟨af, cf, rfl, HR1.out.1, HR1.out.2⟩
          case rest =>
          obtain ⟨af, cf, rfl, hrf, hff⟩ := hcut
          obtain ⟨w5, rfl⟩ : ∃ w5 : World, w5 = wc := ⟨_, rfl⟩
          have hc5 := (HN.out.2.1.trans hff).cell HC.out (by simp)
          have hmk : Calls Try.prog 14 #[.slice af n cf, .slice b tn cb] w5 (MadeNew now txt w5) := by
            have := make_all af b cf cb now txt m w5 hrf (HX.out.1.fr (HN.out.2.1.trans hff)) (by rw [← HN.out.2.2.2]; omega) (by rw [HX.out.2.2]; omega) ((HN.out.2.1.trans hff).cell H.out.2.1 (by simp))
            rwa [← HN.out.2.2.2, HX.out.2.2] at this
          unfold MadeNew NewBytes at hmk
          have HM := Lib.hid (And.intro hmk hff)
          clear hmk hrf hff
          go_upto_region 11 with (go_at_call 14; refine HM.out.1.mono ?_; rintro e w6 ⟨d, hmd, a6, rfl, r6, _, f6⟩)
          obtain ⟨ins, hd, hru, _, _⟩ := hmd
          obtain ⟨dl, hdl⟩ : ∃ dl, dl = d.length := ⟨_, rfl⟩
          have hSz : Calls Try.prog 11 #[.slice a6 dl dl] w6 fun e w' => e = .returned (.tuple #[.int .i64 (n : Nat), .int .i64 (tn : Nat), .int .i64 0]) ∧ Fr [] w6 w' := by
            have hsd : delta.sizes d = (n, tn, ins, 0) := by rw [hd, sizes_numb now.length txt.length (by rw [← HN.out.2.2.2]; omega) (by rw [HX.out.2.2]; omega), ← HN.out.2.2.2, HX.out.2.2]
            have := dsizes_all a6 d.length d w6 r6
            rw [hsd, ← hdl] at this
            exact this
          have hap : delta.apply now d 3000 = (txt, 0) := by
            rw [hd]
            exact apply_runs now ins txt (by rw [← HN.out.2.2.2]; omega) (by rw [HX.out.2.2]; omega) hru 3000 (by rw [HX.out.2.2]; omega)
          have hAp : ∀ w7, Fr [] w6 w7 → Calls Try.prog 9 #[.slice ao n c, .slice a6 dl dl, .int .i64 3000] w7 fun e w' => ∃ a, e = .returned (.tuple #[.slice a tn tn, .int .i64 0]) ∧ Rd w' a tn txt ∧ Fr [] w7 w' := fun w7 f7 => by
            have := apply_all ao a6 c d.length now d 3000 w7 (HN.out.1.fr ((HM.out.2.trans f6).trans f7)) (r6.fr f7)
            rw [← HN.out.2.2.2, ← hdl] at this
            refine this.mono fun e w' hx => ?_
            unfold Applied at hx
            rw [hap] at hx
            obtain ⟨a7, h1, h2, h3, h4⟩ := hx
            simp only [HX.out.2.2] at h1 h2
            exact ⟨a7, h1, h2, h4⟩
          rw [← hdl]
          have HA := Lib.hid (And.intro hSz (And.intro hAp f6))
          clear hSz hAp f6 r6 hap hdl hd hru hc5
          go_upto_region 12 with (go_at_call 11; refine HA.out.1.mono ?_; rintro e w7 ⟨rfl, f7⟩)
          have H7 := Lib.hid f7
          clear f7
          go_upto_region 13 with (go_at_call 9; refine (HA.out.2.1 _ H7.out).mono ?_; rintro e w8 ⟨a8, rfl, r8, f8⟩)
          have fW : Fr [] W w8 := HN.out.2.1.trans (HM.out.2.trans (HA.out.2.2.trans (H7.out.trans f8)))
          obtain ⟨z, hz⟩ : ∃ z, z = str txt := ⟨_, rfl⟩
          have cv1 : ∀ (x cap : Nat), (convert 22 9 (.slice a8 tn cap)).run Try.prog (w8.drewN x) = .ok (.string z) (w8.drewN x) := fun x cap => by rw [hz]; exact run_conv (w8.drewN x) Try.underlying22 Try.underlying5 Try.underlying9 HX.out.2.2 (r8.fr (Fr.drewN [] w8 x)).cs cap
          have cv2 : ∀ (x cap : Nat), (convert 22 9 (.slice b tn cap)).run Try.prog (w8.drewN x) = .ok (.string z) (w8.drewN x) := fun x cap => by rw [hz]; exact run_conv (w8.drewN x) Try.underlying22 Try.underlying5 Try.underlying9 HX.out.2.2 (HX.out.1.fr (fW.trans (Fr.drewN [] w8 x))).cs cap
          have hc8 := fW.cell HC.out (by simp)
          have hiI : (i : Int) < (L : Int) := by omega
          have hz0 : (z != z) = false := by rw [hz]; unfold bne; rw [str_beq]; simp
          have hz1 : ((n : Int) != n) = false := by simp
          have hz2 : ((tn : Int) != tn) = false := by simp
          have HF := Lib.hid (And.intro fW (And.intro r8 hz))
          clear fW hz r8 f8
          go_quiet (fail)
          go_wp2
          go_roundg k
          case measure => omega
          case rel => exact ⟨i + 1, a8, tn, tn, txt, rfl, by go_num, HX.out.2.2.symm, by omega, by omega, by rw [prev_succ l i hiL', HX.out.2.1.2.2.2], by rw [HX.out.2.2]; omega, HF.out.2.1.fr (Fr.drewN _ _ _), HF.out.1.drewsN _⟩
      · have b1 : decide (i < L) = true := by simpa using hiL
        have b2 : decide ((i : Int) < 10) = false := by simp; omega
        go_wp2_with (go_at_call 10; refine (awake_any _).mono ?_; rintro e9 w9 ⟨rfl, f9⟩)
        go_ret
        exact ⟨rfl, below_of_fr (HN.out.2.1.trans f9)⟩
    · have b1 : decide (i < L) = false := by simpa using hiL
      go_wp2_with (go_at_call 10; refine (awake_any _).mono ?_; rintro e9 w9 ⟨rfl, f9⟩)
      go_ret
      exact ⟨rfl, below_of_fr (HN.out.2.1.trans f9)⟩
open Go.ChangeShapes Go.WideShapes
theorem cellsU8s : Try.prog.cellsOf 22 = 1 := by kernel_rfl
theorem cellsU8 : Try.prog.cellsOf 5 = 1 := by kernel_rfl
theorem bytesU8 : Try.prog.bytesOf 5 = 1 := by kernel_rfl
/-- From the arguments as they are read to the walk. -/
theorem walk {H : Type} {enc : TypeId × Value → H} (W : World) {base : Nat} (v0 : Value) (d0 : DataW H) (p0 : List MemPlace)
    (o0 : Value.okWide Try.prog W .any base 40 v0) (h0 : DataW.Trod enc Try.prog W 0 (fun _ => true) true 40 v0 d0 p0)
    (hz : (DataW.weightsEach Try.prog [40] [d0]).all (· ≤ reachBytes) = true) (m : Int) (hm : W.cell? ⟨0, 0, none⟩ = some (.int .i64 m)) :
    Calls Try.prog 7 #[v0] W fun e W' => e = .returned (.bool true) ∧ Below W.heap.size W W' := by
  obtain ⟨a, len, cap, rfl⟩ := okWide_slice Try.underlying40 o0
  obtain ⟨l, rfl, B, _⟩ := rows_arg Try.underlying40 Try.underlying22 Try.underlying5 cellsU8s cellsU8 bytesU8 h0 (light_each hz (j := 0) rfl rfl)
  exact walk_in W a cap l B m hm

/-! ### The row -/
theorem own : ownKnob Try.prog.godebug = none := by kernel_rfl
theorem laidOut : laidOutB Try.prog = true := by kernel_rfl
set_option maxRecDepth 100000 in
theorem lifted (os : Os) (started : os.Started) (H : Type) (enc : TypeId × Value → H) :
    ReturnsInHanded {} Try.checked os 7 .any (Rows.deltaChainsSpec.pre6 enc Try.prog Try.f7 Rows.deltaChainsRow.domain false) (Rows.deltaChainsSpec.post enc Try.prog Try.f7 false true false false) := by
  refine returnsInHanded_of_change_shaped (C := Try.checked) own started (by kernel_rfl) Try.func7
    (ChangeSpec.witness6 (enc := enc) (C := Try.checked) false ⟨#[], #[.slice none 0 0], []⟩ 8 (by kernel_rfl) (by kernel_rfl) (by kernel_rfl) (by kernel_rfl)) ?_
  intro W base args ds gs before hval hW _ hsz hsh _
  obtain ⟨m, hm⟩ := Try.laysM185.s1_3 W hsh
  have hW' := hW
  obtain ⟨p, q, hA0, hV, rfl, hfz, hnd⟩ := hW'
  have hA : DataW.TrodAll enc Try.prog W 0 (fun _ => true) true Try.f7.params.toList args.toList ds p := hA0
  rw [Try.params7] at hA hval
  obtain ⟨v0, vs0, d0, ds0, p0, q0, hargs, rfl, rfl, h0, r0⟩ := trodAll_cons hA
  obtain ⟨rfl, rfl, rfl⟩ := trodAll_nil r0
  obtain rfl : args = #[v0] := by cases args; simp_all
  obtain ⟨rfl, rfl⟩ := trodVars_none hV
  have hz : (DataW.weightsEach Try.prog [40] [d0]).all (· ≤ reachBytes) = true := hsz
  refine law_of_calls (s := Rows.deltaChainsSpec) laidOut (by kernel_rfl) rfl rfl Try.underlying4 hW (fun gs _ h2 => by subst h2; rfl) ?_
  exact walk W v0 d0 p0 (hval 0 40 v0 rfl rfl) (h0) hz m hm

theorem over : Rows.deltaChainsRow.holds Try.pinned (OpenSpec.ofChange Rows.deltaChainsSpec) :=
  OpenClaim.holds_of_wide 7 Try.f7 rfl rfl rfl rfl rfl rfl rfl ⟨rfl, rfl, rfl, rfl, rfl⟩ rfl rfl rfl rfl rfl (by kernel_rfl) Try.func7 (by kernel_rfl)
    (of_decide_eq_true (by kernel_rfl)) (by unfold Func.isWrapper; first | (rw [if_pos (by decide +kernel)]; kernel_rfl) | (rw [if_neg (by decide +kernel)]; exact ⟨rfl, rfl⟩))
    (fun os started H enc _ => lifted os started H enc)

theorem proved : Rows.DeltaChainsSaid := over
end Go.Proofs.Ytoplgcikcanagaa.deltaChains
