/-
  Whatever bytes and whatever known objects come in, stemmalaw11.PackReads answers true and changes nothing that was there.
-/
import Derived.Test.YtkmpfgpfbmeihaaGreatDoorG10
import Derived.Test.YtkmpfgpfbmeihaaGreatDoorCards
import Derived.Test.YtkmpfgpfbmeihaaGreatDoorTie
import Derived.ProofKit
import Derived.Lay
import Derived.LaidOnce
import Derived.LaidLaws
import Derived.SevenTiedAt
set_option maxRecDepth 100000
set_option linter.unusedVariables false
set_option linter.unusedSimpArgs false
namespace Go.Proofs.YtkmpfgpfbmeihaaGreatDoor.packReads
open Go Go.RowKit Go.ChangeShapes Go.WideShapes lib bm pk
theorem pw_of_laid {W : World} (h : laidMetH Tryz.prog Rows.packReadsRow.laid W) : obj.Pw W := by
 rw [MakeChecks.laidMetH_plain _ _ _ (by kernel_rfl)] at h
 obtain ⟨ps, ⟨g1, t1, cs1, f1, p1, q1, _, _, _, _, ⟨g2, t2, cs2, f2, p2, q2, _, _, _, _, ⟨g', t', cs, fuel, p, q, hg', ht', hvar, hd, _, _⟩, _⟩, _⟩, _⟩ := h
 have hg : Tryz.prog.globalNamed "internal/strconv.uint64pow10" = some 1 := by kernel_rfl
 have hty : (Tryz.prog.globals[1]?).map (·.type) = some 316 := by kernel_rfl
 obtain rfl := Option.some.inj (hg.symm.trans hg')
 obtain rfl := Option.some.inj (hty.symm.trans ht')
 have hu : Tryz.prog.underlying 316 = some (.array 20 104) := by kernel_rfl
 have hd' : DataW.trod (fun _ => ()) Tryz.prog W 0 (fun _ => true) false fuel 316 cs.toList = some (Lib.tabData .u64 Lib.pow10Tab, p) := hd
 unfold obj.Pw Lib.TabIs
 rw [hvar, ← Lib.cells_of_tab hu Tryz.underlying104 (by kernel_rfl) (by kernel_rfl) hd']
theorem cellsU8 : Tryz.prog.cellsOf 5 = 1 := by kernel_rfl
theorem bytesU8 : Tryz.prog.bytesOf 5 = 1 := by kernel_rfl
theorem walk {H : Type} {enc : TypeId × Value → H} (W : World) {base : Nat} (v0 : Value) (d0 : DataW H) (p0 : List MemPlace) (v1 : Value) (d1 : DataW H) (p1 : List MemPlace)
  (o0 : Value.okWide Tryz.prog W .any base 23 v0) (h0 : DataW.Trod enc Tryz.prog W 0 (fun _ => true) true 23 v0 d0 p0)
  (o1 : Value.okWide Tryz.prog W .any base 49 v1) (h1 : DataW.Trod enc Tryz.prog W 0 (fun _ => true) true 49 v1 d1 p1)
  (hz : (DataW.weightsEach Tryz.prog [23, 49] [d0, d1]).all (· ≤ reachBytes) = true) (hL : laidMetH Tryz.prog Rows.packReadsRow.laid W) :
  Calls Tryz.prog 6 #[v0, v1] W fun e W' => e = .returned (.bool true) ∧ Below W.heap.size W W' := by
 obtain ⟨a, len, cap, rfl⟩ := okWide_slice Tryz.underlying23 o0
 obtain ⟨bs, B, _⟩ := bytes_arg Tryz.underlying23 Tryz.underlying5 cellsU8 bytesU8 h0 (light_each hz (j := 0) rfl rfl)
 obtain ⟨ka, kl, kc, rfl⟩ := okWide_slice Tryz.underlying49 o1
 obtain ⟨kn, hkl, K⟩ := knows_arg h1 (light_each hz (j := 1) rfl rfl)
 obtain rfl := hkl
 obtain rfl := B.length
 exact (reads_in a cap bs ka kc kn W (.of_arg B) K (pw_of_laid hL)).mono fun e W2 h => ⟨h.1, below_of_fr h.2⟩
theorem own : ownKnob Tryz.prog.godebug = none := by kernel_rfl
theorem laidOut : laidOutB Tryz.prog = true := by kernel_rfl
theorem lifted (os : Os) (started : os.Started) (H : Type) (enc : TypeId × Value → H) :
  ReturnsInHanded {} Tryz.checked os 6 .any (fun w args => (Rows.packReadsSpec.pre enc Tryz.prog Tryz.f6 [] false w args ∧ laidMetH Tryz.prog Rows.packReadsRow.laid w) ∧ sizedMet enc Tryz.prog Tryz.f6 (OpenSpec.ofChange Rows.packReadsSpec) false w args) (Rows.packReadsSpec.post enc Tryz.prog Tryz.f6 false true false false) := by
 refine returnsInHanded_of_change_and (C := Tryz.checked) (X := fun w _ => laidMetH Tryz.prog Rows.packReadsRow.laid w) (fun _ _ _ hh h => h.of_heap hh) own started (by kernel_rfl) Tryz.func6
  (ChangeSpec.witness_shaped (enc := enc) (C := Tryz.checked) (os := os) (X := fun w _ => laidMetH Tryz.prog Rows.packReadsRow.laid w) false (World.laidAll Tryz.prog os Rows.packReadsRow.laid) #[.slice none 0 0, .slice none 0 0] 8 (World.laidAll_os _ _ _)
   (World.shaped_of_ZipB (by kernel_rfl) (by kernel_rfl)) (by kernel_rfl) (by kernel_rfl) (by kernel_rfl)
   (by rw [MakeChecks.laidMetH_plain _ _ _ (by kernel_rfl)]; exact laidMet_laidAll _ (by kernel_rfl) (by kernel_rfl))) ?_
 intro W base args ds gs before hval hW _ hsz hL _
 have hW' := hW
 obtain ⟨p, q, hA0, hV, rfl, hfz, hnd⟩ := hW'
 have hA : DataW.TrodAll enc Tryz.prog W 0 (fun _ => true) true Tryz.f6.params.toList args.toList ds p := hA0
 rw [Tryz.params6] at hA hval
 obtain ⟨v0, vs0, d0, ds0, p0, q0, hargs, rfl, rfl, h0, r0⟩ := trodAll_cons hA
 obtain ⟨v1, vs1, d1, ds1, p1, q1, rfl, rfl, rfl, h1, r1⟩ := trodAll_cons r0
 obtain ⟨rfl, rfl, rfl⟩ := trodAll_nil r1
 obtain rfl : args = #[v0, v1] := by cases args; simp_all
 obtain ⟨rfl, rfl⟩ := trodVars_none hV
 have hz : (DataW.weightsEach Tryz.prog [23, 49] [d0, d1]).all (· ≤ reachBytes) = true := hsz
 refine law_of_calls (s := Rows.packReadsSpec) laidOut (by kernel_rfl) rfl rfl Tryz.underlying4 hW (fun gs _ h2 => by subst h2; rfl) ?_
 exact walk W v0 d0 p0 v1 d1 p1 (hval 0 23 v0 rfl rfl) (h0) (hval 1 49 v1 rfl rfl) (h1) hz hL
theorem over : Rows.packReadsRow.holds Tryz.pinned (OpenSpec.ofChange Rows.packReadsSpec) :=
 OpenClaim.holds_of_wide 6 Tryz.f6 rfl rfl rfl rfl rfl rfl rfl ⟨rfl, rfl, rfl, rfl, rfl⟩ rfl rfl rfl rfl rfl (by kernel_rfl) Tryz.func6 (by kernel_rfl)
  (of_decide_eq_true (by kernel_rfl)) (by unfold Func.isWrapper; first | (rw [if_pos (by decide +kernel)]; kernel_rfl) | (rw [if_neg (by decide +kernel)]; exact ⟨rfl, rfl⟩))
  (fun os started H enc _ => lifted os started H enc)
theorem proved : Rows.PackReadsCardSaid :=
 Claim7.holds_tied_plain_at .later [] [.data, .data, .data] true (true, "d0d861efebdc674cd34ba13b4887dc8f133837954f0c3d7577248866046ebc0d") true
  over (fun _ h => by cases h) (by kernel_rfl) (fun _ h => by cases h) packReads_row_tie rfl ⟨rfl, rfl⟩ (by kernel_rfl) rfl
  (fun f fn hf hfn => by
   obtain rfl : f = 6 := Option.some.inj ((show Tryz.prog.funcNamed "stemma/stemmalaw11.PackReads" = some 6 by kernel_rfl).symm.trans hf) |>.symm
   obtain rfl : fn = Tryz.f6 := (Option.some.inj (Tryz.func6.symm.trans hfn)).symm
   exact ⟨by kernel_rfl, fun j t ht => by
    rw [Tryz.params6] at ht
    have hm : t ∈ [23, 49] := by simpa using Array.mem_of_getElem? ht
    have hall : ([23, 49].all fun u => !Tryz.prog.wantsStandIn u) = true := by kernel_rfl
    exact (show Tryz.prog.wantsStandIn t = false by simpa using List.all_eq_true.1 hall t hm)⟩)
  (by kernel_rfl)
end Go.Proofs.YtkmpfgpfbmeihaaGreatDoor.packReads
