/-
  stemmalaw10.awake.
-/
import Derived.Test.YtoplgcikcanagaaDeltaApp
import Derived.Laws.IdiomStrings
import Derived.Lib.SlBytesConst
namespace Go.Proofs.Ytoplgcikcanagaa.delta
open Go Go.RowKit Go.Proofs.Ytoplgcikcanagaa.lib Go.Proofs.Ytoplgcikcanagaa.bm

theorem rd_const (w : World) (C : Array Value) (fr : Nat × Nat) (bs : List UInt8) (h : C.toList = bs.map bv) (hm : bs.length ≤ maxLen) : Rd (w.alloc (.cells C 5 fr)) (some ⟨w.heap.size, 0, none⟩) bs.length bs :=
  ⟨.inr ⟨w.heap.size, 0, rfl, fun j u hj => by rw [cell_of (alloc_at w _), Nat.zero_add, ← Array.getElem?_toList, h]; exact hj⟩, Nat.le_refl _, hm, fun h => by cases h⟩
theorem apply_one : delta.apply [97, 98, 99] [3, 5, 145, 1, 2, 3, 120, 121, 122] 9 = ([98, 99, 120, 121, 122], 0) := by decide +kernel
theorem apply_two : delta.apply [97, 98, 99] [3, 1, 0] 9 = ([], 3) := by decide +kernel
theorem numb300 : numb 300 = [172, 2] := by
  rw [numb_big (by decide), numb_small (by decide)]
  decide
def b5 : List UInt8 := [98, 99, 120, 121, 122]
set_option maxRecDepth 100000 in
set_option maxHeartbeats 4000000 in
theorem awake_any (w : World) : Calls Try.prog 10 #[] w fun e w' => e = .returned (.bool true) ∧ Fr [] w w' := by
  have kc := fun (w : World) (C : Array Value) (n c : Nat) => Lib.run_convert_bytes_const (P := Try.prog) w 22 5 C n c Try.underlying22 Try.underlying5
  have kc2 := fun (w : World) (A : Obj) (C : Array Value) (n c : Nat) => by
    have h := Lib.run_convert_bytes_const (P := Try.prog) (w.alloc A) 22 5 C n c Try.underlying22 Try.underlying5
    rw [World.size_alloc] at h
    exact h
  go_enter Try.func10, Try.ntmps10
  go_upto_region 1 with fail
  go_cut [1, 2] from 5 to 13 (fun s1 s2 wz => ∃ a, s1 = .slice a 5 5 ∧ s2 = .int .i64 0 ∧ Rd wz a 5 b5 ∧ Fr [] w wz)
  case first =>
    have r1 := rd_const w #[.int .u8 97, .int .u8 98, .int .u8 99] (3, 4) [97, 98, 99] rfl (by decide)
    have f1 : Fr [] w (w.alloc (.cells #[.int .u8 97, .int .u8 98, .int .u8 99] 5 (3, 4))) := (Fr.refl [] w).alloc _
    have hz : (w.alloc (.cells #[.int .u8 97, .int .u8 98, .int .u8 99] 5 (3, 4))).heap.size = w.heap.size + 1 := World.size_alloc _ _
    have r2 := rd_const (w.alloc (.cells #[.int .u8 97, .int .u8 98, .int .u8 99] 5 (3, 4))) #[.int .u8 3, .int .u8 5, .int .u8 145, .int .u8 1, .int .u8 2, .int .u8 3, .int .u8 120, .int .u8 121, .int .u8 122] (9, 10) [3, 5, 145, 1, 2, 3, 120, 121, 122] rfl (by decide)
    rw [hz] at r2
    have f2 : Fr [] (w.alloc (.cells #[.int .u8 97, .int .u8 98, .int .u8 99] 5 (3, 4))) ((w.alloc (.cells #[.int .u8 97, .int .u8 98, .int .u8 99] 5 (3, 4))).alloc (.cells #[.int .u8 3, .int .u8 5, .int .u8 145, .int .u8 1, .int .u8 2, .int .u8 3, .int .u8 120, .int .u8 121, .int .u8 122] 5 (9, 10))) := (Fr.refl [] _).alloc _
    have ha := apply_all _ _ _ _ _ _ 9 _ (r1.fr f2) r2
    unfold Applied at ha
    rw [apply_one] at ha
    have HA := Lib.hid (And.intro ha (f1.trans f2))
    clear r1 r2 f1 f2 ha hz
    go_wp2_with (go_at_call 9; refine HA.out.1.mono ?_; rintro e w1 ⟨a1, rfl, r1, _, f1⟩)
    go_meet
    exact ⟨a1, rfl, rfl, r1, HA.out.2.trans f1⟩
  case rest =>
  obtain ⟨a, rfl, rfl, ra, fa⟩ := hcut
  have RA := Lib.hid (And.intro ra fa)
  clear ra fa
  go_upto_region 2 with fail
  go_cut [3, 4] from 13 to 20 (fun s3 s4 wz => ∃ a, s3 = .slice a 0 0 ∧ s4 = .int .i64 3 ∧ Fr [] wc wz)
  case first =>
    have r1 := rd_const wc #[.int .u8 97, .int .u8 98, .int .u8 99] (3, 4) [97, 98, 99] rfl (by decide)
    have f1 : Fr [] wc (wc.alloc (.cells #[.int .u8 97, .int .u8 98, .int .u8 99] 5 (3, 4))) := (Fr.refl [] wc).alloc _
    have hz : (wc.alloc (.cells #[.int .u8 97, .int .u8 98, .int .u8 99] 5 (3, 4))).heap.size = wc.heap.size + 1 := World.size_alloc _ _
    have r2 := rd_const (wc.alloc (.cells #[.int .u8 97, .int .u8 98, .int .u8 99] 5 (3, 4))) #[.int .u8 3, .int .u8 1, .int .u8 0] (0, 0) [3, 1, 0] rfl (by decide)
    rw [hz] at r2
    have f2 : Fr [] (wc.alloc (.cells #[.int .u8 97, .int .u8 98, .int .u8 99] 5 (3, 4))) ((wc.alloc (.cells #[.int .u8 97, .int .u8 98, .int .u8 99] 5 (3, 4))).alloc (.cells #[.int .u8 3, .int .u8 1, .int .u8 0] 5)) := (Fr.refl [] _).alloc _
    have ha := apply_all _ _ _ _ _ _ 9 _ (r1.fr f2) r2
    unfold Applied at ha
    rw [apply_two] at ha
    have HA := Lib.hid (And.intro ha (f1.trans f2))
    clear r1 r2 f1 f2 ha hz
    go_wp2_with (go_at_call 9; refine HA.out.1.mono ?_; rintro e w1 ⟨a1, rfl, r1, _, f1⟩)
    go_meet
    exact ⟨a1, rfl, rfl, HA.out.2.trans f1⟩
  case rest =>
  obtain ⟨a2, rfl, rfl, fb⟩ := hcut
  have cv := run_conv wc Try.underlying22 Try.underlying5 Try.underlying9 (n := 5) (bs := b5) rfl (RA.out.1.fr fb).cs
  have hst := str_toList b5
  have hnu := number_all 300 wc (by decide)
  have e300 : numb (300 : Int).toNat = [172, 2] := numb300
  unfold NewBytes at hnu
  rw [e300] at hnu
  have HN := Lib.hid hnu
  have HF := Lib.hid (RA.out.2.trans fb)
  have hst2 := str_toList [172, 2]
  clear hnu e300 kc kc2 fb
  go_wp2_with (go_at_call 8; refine HN.out.mono ?_; rintro e w1 ⟨a1, rfl, r1, _, f1⟩; have cv2 := run_conv w1 Try.underlying22 Try.underlying5 Try.underlying9 (n := 2) (bs := [172, 2]) rfl r1.cs; clear r1)
  go_ret
  exact ⟨by simp [b5], HF.out.trans f1⟩
end Go.Proofs.Ytoplgcikcanagaa.delta
