/-
  stemmalaw7.awake.
-/
import Derived.Test.YtolkoidbkaidkaaZlib
import Derived.Laws.IdiomStrings
import Derived.Lib.SlBytesConst
namespace Go.Proofs.Ytolkoidbkaidkaa.defl
open Go Go.RowKit Go.Proofs.Ytolkoidbkaidkaa.lib Go.Proofs.Ytolkoidbkaidkaa.bm Go.Proofs.Ytolkoidbkaidkaa.bl Go.Proofs.Ytolkoidbkaidkaa.wb

theorem plain_ab : plainBytes [97, 98] = [1, 2, 0, 253, 255, 97, 98] := by decide +kernel
theorem zlib_nil : zlibOf 0 (plainBytes []) [] = [120, 1, 1, 0, 0, 255, 255, 0, 0, 0, 1] := by decide +kernel
set_option maxRecDepth 100000 in
set_option maxHeartbeats 4000000 in
theorem awake_any (w : World) : Calls Try.prog 6 #[] w fun e w' => e = .returned (.bool true) ∧ Fr [] w w' := by
  have kc := fun (w : World) (C : Array Value) (n c : Nat) => Lib.run_convert_bytes_const (P := Try.prog) w 22 5 C n c Try.underlying22 Try.underlying5
  go_enter Try.func6, Try.ntmps6
  go_upto_region 1 with fail
  go_wp2_with fail
  have r1 : lib.Rd (w.alloc (.cells #[.int .u8 97, .int .u8 98] 5 (2, 3))) (some ⟨w.heap.size, 0, none⟩) 2 [97, 98] := ⟨cs_new w _ _ _, Nat.le_refl _, by decide, fun h => by cases h⟩
  have f1 : Fr [] w (w.alloc (.cells #[.int .u8 97, .int .u8 98] 5 (2, 3))) := (Fr.refl [] w).alloc _
  have h1 := raw_zero _ 2 [97, 98] 0 _ r1 (by decide) (Int.le_refl _)
  unfold NewBytes at h1
  rw [plain_ab] at h1
  refine h1.mono ?_
  rintro e w2 ⟨a2, rfl, r2, _, f2⟩
  have cv1 := run_conv w2 Try.underlying22 Try.underlying5 Try.underlying9 (n := 7) (bs := [1, 2, 0, 253, 255, 97, 98]) rfl r2.cs
  have hst := str_toList [1, 2, 0, 253, 255, 97, 98]
  have HF := Lib.hid (f1.trans f2)
  clear h1 r1 f1 r2 f2
  go_wp2_with fail
  clear cv1 hst kc
  have h2 := zlib_of none 0 [] (plainBytes []) 0 w2 (Rd.none w2) (by decide +kernel) (fun w' _ => raw_zero none 0 [] 0 w' (Rd.none w') (by decide) (Int.le_refl _))
  rw [zlib_nil] at h2
  unfold NewBytes at h2
  refine h2.mono ?_
  rintro e w3 ⟨a3, rfl, r3, _, f3⟩
  have cv1 := run_conv w3 Try.underlying22 Try.underlying5 Try.underlying9 (n := 11) (bs := [120, 1, 1, 0, 0, 255, 255, 0, 0, 0, 1]) rfl r3.cs
  have hst := str_toList [120, 1, 1, 0, 0, 255, 255, 0, 0, 0, 1]
  have HF2 := Lib.hid (HF.out.trans f3)
  clear h2 r3 f3
  go_wp2_with fail
  go_ret
  exact ⟨by first | rfl | simp, HF2.out⟩
end Go.Proofs.Ytolkoidbkaidkaa.defl
