/-
  Whatever two rows of bytes come in, stemmalaw10.DeltaMakes answers true and changes nothing that was there: a delta that was made makes the text, by the document's reading too, and is hardly longer than it.
-/
import Derived.Test.YtoplgcikcanagaaDeltaMake
import Derived.Test.YtoplgcikcanagaaDeltaSmall
import Derived.Test.YtoplgcikcanagaaDeltaRefB
import Derived.Test.YtoplgcikcanagaaBitsInt
import Derived.Test.YtoplgcikcanagaaArgs2
import Derived.HandedShaped
import Derived.ProofKit
namespace Go.Proofs.Ytoplgcikcanagaa.deltaMakes
open Go Go.RowKit Go.Proofs.Ytoplgcikcanagaa.lib Go.Proofs.Ytoplgcikcanagaa.bm Go.Proofs.Ytoplgcikcanagaa.delta

set_option maxRecDepth 100000 in
set_option maxHeartbeats 8000000 in
theorem walk_in (W : World) (a b : Option Addr) (la lb ca cb : Nat) (base text : List UInt8) (ha : BytesArg W a la ca base) (hb : BytesArg W b lb cb text) (m : Int) (hm : W.cell? ⟨0, 0, none⟩ = some (.int .i64 m)) :
    Calls Try.prog 5 #[.slice a la ca, .slice b lb cb] W fun e W' => e = .returned (.bool true) ∧ Below W.heap.size W W' := by
  have ra := Rd.of_arg ha
  have rb := Rd.of_arg hb
  have hla := ha.length
  have hlb := hb.length
  have h1 := ha.lim
  have h2 := hb.lim
  have ca1 := ha.le
  have ca2 := ha.max
  have cb1 := hb.le
  have cb2 := hb.max
  unfold maxLen at ca2 cb2
  clear ha hb
  have H := Lib.hid (And.intro ra (And.intro rb (And.intro hla hlb)))
  have HM := Lib.hid hm
  clear ra rb hla hlb hm
  by_cases hs1 : 20000 < la
  · have b1 : decide ((20000 : Int) < la) = true := by simp; omega
    go_enter Try.func5, Try.ntmps5
    go_wp2_with (go_at_call 10; refine (awake_any _).mono ?_; rintro e9 w9 ⟨rfl, f9⟩)
    go_ret
    exact ⟨rfl, below_of_fr f9⟩
  by_cases hs2 : 20000 < lb
  · have b1 : decide ((20000 : Int) < la) = false := by simp; omega
    have b2 : decide ((20000 : Int) < lb) = true := by simp; omega
    go_enter Try.func5, Try.ntmps5
    go_wp2_with (go_at_call 10; refine (awake_any _).mono ?_; rintro e9 w9 ⟨rfl, f9⟩)
    go_ret
    exact ⟨rfl, below_of_fr f9⟩
  have b1 : decide ((20000 : Int) < la) = false := by simp; omega
  have b2 : decide ((20000 : Int) < lb) = false := by simp; omega
  have hmk : Calls Try.prog 14 #[.slice a la ca, .slice b lb cb] W (MadeNew base text W) := by
    have := make_all a b ca cb base text m W H.out.1 H.out.2.1 (by rw [H.out.2.2.1]; omega) (by rw [H.out.2.2.2]; omega) HM.out
    rwa [H.out.2.2.1, H.out.2.2.2] at this
  unfold MadeNew NewBytes at hmk
  have HT := Lib.hid hmk
  clear hmk
  go_enter Try.func5, Try.ntmps5
  go_upto_region 4 with (go_at_call 14; refine HT.out.mono ?_; rintro e w6 ⟨d, hmd, a6, rfl, r6, _, f6⟩)
  obtain ⟨ins, hd, hru, hil, _⟩ := hmd
  rw [H.out.2.2.2] at hil
  have hap : delta.apply base d (lb : Int) = (text, 0) := by
    rw [hd]
    exact apply_runs base ins text (by rw [H.out.2.2.1]; omega) (by rw [H.out.2.2.2]; omega) hru (lb : Int) (by rw [H.out.2.2.2]; exact Int.le_refl _)
  obtain ⟨dl, hdl⟩ : ∃ dl, dl = d.length := ⟨_, rfl⟩
  have hdb : dl ≤ lb + lb / 127 + 14 := by
    have k1 := numb_le 2 base.length (by rw [H.out.2.2.1]; exact Nat.lt_of_le_of_lt (show la ≤ 150000 by omega) (by decide))
    have k2 := numb_le 2 text.length (by rw [H.out.2.2.2]; exact Nat.lt_of_le_of_lt (show lb ≤ 150000 by omega) (by decide))
    rw [hdl, hd, List.length_append, List.length_append]
    omega
  have hAp : Calls Try.prog 9 #[.slice a la ca, .slice a6 dl dl, .int .i64 (lb : Nat)] w6 fun e w' => ∃ a, e = .returned (.tuple #[.slice a lb lb, .int .i64 0]) ∧ Rd w' a lb text ∧ Fr [] w6 w' := by
    have := apply_all a a6 ca d.length base d (lb : Int) w6 (H.out.1.fr f6) r6
    rw [H.out.2.2.1, ← hdl] at this
    refine this.mono fun e w' hx => ?_
    unfold Applied at hx
    rw [hap] at hx
    obtain ⟨a7, h1, h2, h3, h4⟩ := hx
    simp only [H.out.2.2.2] at h1 h2
    exact ⟨a7, h1, h2, h4⟩
  have hRp : ∀ w7, Fr [] w6 w7 → Calls Try.prog 15 #[.slice a la ca, .slice a6 dl dl, .int .i64 (lb : Nat)] w7 fun e w' => ∃ a c, e = .returned (.tuple #[.slice a lb c, .int .i64 0]) ∧ Rd w' a c text ∧ Fr [] w7 w' := fun w7 f7 => by
    have := rapply_good a a6 ca d.length base d text (lb : Int) w7 (H.out.1.fr (f6.trans f7)) (r6.fr f7) (by rw [H.out.2.2.1]; omega) (by rw [← hdl]; omega) hap
    rw [H.out.2.2.1, ← hdl] at this
    refine this.mono fun e w' hx => ?_
    unfold RApplied at hx
    rw [H.out.2.2.2] at hx
    exact hx
  rw [← hdl]
  have HA := Lib.hid (And.intro hAp (And.intro hRp f6))
  clear hAp hRp f6 r6 hap hdl hd hru hil
  go_upto_region 5 with (go_at_call 9; refine HA.out.1.mono ?_; rintro e w7 ⟨a7, rfl, r7, f7⟩)
  have HB := Lib.hid (And.intro r7 f7)
  clear r7 f7
  go_upto_region 6 with (go_at_call 15; refine (HA.out.2.1 _ HB.out.2).mono ?_; rintro e w8 ⟨a8, c8, rfl, r8, f8⟩)
  obtain ⟨z, hz⟩ : ∃ z, z = str text := ⟨_, rfl⟩
  have cv1 : ∀ cap, (convert 22 9 (.slice a7 lb cap)).run Try.prog w8 = .ok (.string z) w8 := by rw [hz]; exact run_conv w8 Try.underlying22 Try.underlying5 Try.underlying9 H.out.2.2.2 (HB.out.1.fr f8).cs
  have cv2 : ∀ cap, (convert 22 9 (.slice b lb cap)).run Try.prog w8 = .ok (.string z) w8 := by rw [hz]; exact run_conv w8 Try.underlying22 Try.underlying5 Try.underlying9 H.out.2.2.2 (H.out.2.1.fr (HA.out.2.2.trans (HB.out.2.trans f8))).cs
  have cv3 : ∀ cap, (convert 22 9 (.slice a8 lb cap)).run Try.prog w8 = .ok (.string z) w8 := by rw [hz]; exact run_conv w8 Try.underlying22 Try.underlying5 Try.underlying9 H.out.2.2.2 r8.cs
  have HF := Lib.hid ((HA.out.2.2.trans HB.out.2).trans f8)
  clear hz r8 f8
  go_wp2_with (go_at_call 10; refine (awake_any _).mono ?_; rintro e9 w9 ⟨rfl, f9⟩)
  go_ret
  exact ⟨by first | rfl | simp, below_of_fr (HF.out.trans f9)⟩

open Go.ChangeShapes Go.WideShapes
theorem cellsU8 : Try.prog.cellsOf 5 = 1 := by kernel_rfl
theorem bytesU8 : Try.prog.bytesOf 5 = 1 := by kernel_rfl
/-- From the arguments as they are read to the walk. -/
theorem walk {H : Type} {enc : TypeId × Value → H} (W : World) {base : Nat} (v0 : Value) (d0 : DataW H) (p0 : List MemPlace) (v1 : Value) (d1 : DataW H) (p1 : List MemPlace)
    (o0 : Value.okWide Try.prog W .any base 22 v0) (h0 : DataW.Trod enc Try.prog W 0 (fun _ => true) true 22 v0 d0 p0)
    (o1 : Value.okWide Try.prog W .any base 22 v1) (h1 : DataW.Trod enc Try.prog W 0 (fun _ => true) true 22 v1 d1 p1)
    (hz : (DataW.weightsEach Try.prog [22, 22] [d0, d1]).all (· ≤ reachBytes) = true) (m : Int) (hm : W.cell? ⟨0, 0, none⟩ = some (.int .i64 m)) :
    Calls Try.prog 5 #[v0, v1] W fun e W' => e = .returned (.bool true) ∧ Below W.heap.size W W' := by
  obtain ⟨a, len, cap, rfl⟩ := okWide_slice Try.underlying22 o0
  obtain ⟨bs, B, _⟩ := bytes_arg Try.underlying22 Try.underlying5 cellsU8 bytesU8 h0 (light_each hz (j := 0) rfl rfl)
  obtain ⟨a1, len1, cap1, rfl⟩ := okWide_slice Try.underlying22 o1
  obtain ⟨bs1, B1, _⟩ := bytes_arg Try.underlying22 Try.underlying5 cellsU8 bytesU8 h1 (light_each hz (j := 1) rfl rfl)
  exact walk_in W a a1 len len1 cap cap1 bs bs1 B B1 m hm

/-! ### The row -/
theorem own : ownKnob Try.prog.godebug = none := by kernel_rfl
theorem laidOut : laidOutB Try.prog = true := by kernel_rfl
set_option maxRecDepth 100000 in
theorem lifted (os : Os) (started : os.Started) (H : Type) (enc : TypeId × Value → H) :
    ReturnsInHanded {} Try.checked os 5 .any (Rows.deltaMakesSpec.pre6 enc Try.prog Try.f5 Rows.deltaMakesRow.domain false) (Rows.deltaMakesSpec.post enc Try.prog Try.f5 false true false false) := by
  refine returnsInHanded_of_change_shaped (C := Try.checked) own started (by kernel_rfl) Try.func5
    (ChangeSpec.witness6 (enc := enc) (C := Try.checked) false ⟨#[], #[.slice none 0 0, .slice none 0 0], []⟩ 8 (by kernel_rfl) (by kernel_rfl) (by kernel_rfl) (by kernel_rfl)) ?_
  intro W base args ds gs before hval hW _ hsz hsh _
  obtain ⟨m, hm⟩ := Try.laysM185.s1_3 W hsh
  have hW' := hW
  obtain ⟨p, q, hA0, hV, rfl, hfz, hnd⟩ := hW'
  have hA : DataW.TrodAll enc Try.prog W 0 (fun _ => true) true Try.f5.params.toList args.toList ds p := hA0
  rw [Try.params5] at hA hval
  obtain ⟨v0, vs0, d0, ds0, p0, q0, hargs, rfl, rfl, h0, r0⟩ := trodAll_cons hA
  obtain ⟨v1, vs1, d1, ds1, p1, q1, rfl, rfl, rfl, h1, r1⟩ := trodAll_cons r0
  obtain ⟨rfl, rfl, rfl⟩ := trodAll_nil r1
  obtain rfl : args = #[v0, v1] := by cases args; simp_all
  obtain ⟨rfl, rfl⟩ := trodVars_none hV
  have hz : (DataW.weightsEach Try.prog [22, 22] [d0, d1]).all (· ≤ reachBytes) = true := hsz
  refine law_of_calls (s := Rows.deltaMakesSpec) laidOut (by kernel_rfl) rfl rfl Try.underlying4 hW (fun gs _ h2 => by subst h2; rfl) ?_
  exact walk W v0 d0 p0 v1 d1 p1 (hval 0 22 v0 rfl rfl) (h0) (hval 1 22 v1 rfl rfl) (h1) hz m hm

theorem over : Rows.deltaMakesRow.holds Try.pinned (OpenSpec.ofChange Rows.deltaMakesSpec) :=
  OpenClaim.holds_of_wide 5 Try.f5 rfl rfl rfl rfl rfl rfl rfl ⟨rfl, rfl, rfl, rfl, rfl⟩ rfl rfl rfl rfl rfl (by kernel_rfl) Try.func5 (by kernel_rfl)
    (of_decide_eq_true (by kernel_rfl)) (by unfold Func.isWrapper; first | (rw [if_pos (by decide +kernel)]; kernel_rfl) | (rw [if_neg (by decide +kernel)]; exact ⟨rfl, rfl⟩))
    (fun os started H enc _ => lifted os started H enc)

theorem proved : Rows.DeltaMakesSaid := over
end Go.Proofs.Ytoplgcikcanagaa.deltaMakes
