/-
  sum: Adler-32.
-/
import Derived.Test.YtolkoidbkaidkaaAppMid
import Derived.Test.YtolkoidbkaidkaaRdMore
import Derived.Test.YtolkoidbkaidkaaTail
import Derived.Test.YtolkoidbkaidkaaBitsOps
import Derived.Deep.DeepCutAuto
import Derived.Deep.LoopGhost
import Derived.Deep.CutBlock
import Derived.WalkMore
namespace Go.Proofs.Ytolkoidbkaidkaa.sums
open Go Go.RowKit Go.Proofs.Ytolkoidbkaidkaa.lib Go.Proofs.Ytolkoidbkaidkaa.bm

theorem sliceU8 : SliceTy Try.prog 22 5 (.int .u8 0) 1 1 := SliceTy.of Try.underlying22 (by kernel_rfl) rfl (by decide)
theorem bv_one (bs : List UInt8) : ∀ u ∈ bs.map bv, u.oneCell' = true := by
  intro u hu
  obtain ⟨b, _, rfl⟩ := List.mem_map.1 hu
  rfl
/-- Both parts of an Adler sum, from where it stands. -/
def ad : Nat → Nat → List UInt8 → Nat × Nat
  | a, b, [] => (a, b)
  | a, b, c :: t => ad ((a + c.toNat) % 65521) ((b + (a + c.toNat) % 65521) % 65521) t
theorem ad_lt : ∀ (a b : Nat) (l : List UInt8), a < 65521 → b < 65521 → (ad a b l).1 < 65521 ∧ (ad a b l).2 < 65521
  | _, _, [], ha, hb => ⟨ha, hb⟩
  | a, b, c :: t, _, _ => ad_lt _ _ t (Nat.mod_lt _ (by decide)) (Nat.mod_lt _ (by decide))
def adler (l : List UInt8) : Nat := (ad 1 0 l).2 * 65536 + (ad 1 0 l).1
theorem adler_lt (l : List UInt8) : adler l < 4294967296 := by
  have := ad_lt 1 0 l (by decide) (by decide)
  unfold adler
  omega
/-- A sum's block: which kind it is, and an Adler sum's parts. -/
def Ad (w : World) (g a b : Nat) : Prop :=
  ∃ C, w.heap[g]? = some (.cells C 128 (0, 0)) ∧ C.size = 267 ∧ C[0]? = some (.int .i64 3) ∧ C[265]? = some (.int .u32 a) ∧ C[266]? = some (.int .u32 b) ∧ a < 65521 ∧ b < 65521
set_option maxRecDepth 100000 in
set_option maxHeartbeats 1000000 in
theorem begun_three (w : World) : Calls Try.prog 49 #[.int .i64 3] w fun e w' => e = .returned (.pointer (some ⟨w.heap.size, 0, none⟩)) ∧ Ad w' w.heap.size 1 0 ∧ Fr [] w w' := by
  go_enter Try.func49, Try.ntmps49
  go_wp2
  go_ret
  exact ⟨rfl, ⟨_, alloc_at w _, rfl, rfl, rfl, rfl, by decide, by decide⟩, (Fr.refl [] w).alloc _⟩
set_option maxRecDepth 100000 in
set_option maxHeartbeats 1000000 in
theorem write_adler (g a0 b0 cap : Nat) (ao : Option Addr) (bs : List UInt8) (w : World) (h : Ad w g a0 b0) (hr : Rd w ao cap bs) (hng : bs ≠ [] → ∀ x ∈ blk ao, x ≠ g) :
    Calls Try.prog 50 #[.pointer (some ⟨g, 0, none⟩), .slice ao bs.length cap] w fun e w' => e = .returned (.tuple #[]) ∧ Fr [g] w w' ∧ Ad w' g (ad a0 b0 bs).1 (ad a0 b0 bs).2 := by
  obtain ⟨C, hC, hsz, hc0, _⟩ := h
  have c0 := cell_of hC 0
  rw [hc0] at c0
  obtain ⟨L, hL⟩ : ∃ L, L = bs.length := ⟨_, rfl⟩
  have hle := hr.le
  have hmax := hr.max
  unfold maxLen at hmax
  rw [← hL] at hle ⊢
  have H := Lib.hid (And.intro (show Ad w g a0 b0 from ⟨C, hC, hsz, hc0, ‹_›⟩) (And.intro hr (And.intro hng hL)))
  clear hr hng hL hC hsz hc0
  go_enter Try.func50, Try.ntmps50
  go_upto_block 5 with fail
  clear c0
  go_wp2
  go_loopg [7, 93] L (fun k s7 s93 wr => ∃ i a b : Nat, s93 = .int .i64 (i : Nat) ∧ i + k = L ∧ Ad wr g a b ∧ Fr [g] w wr ∧ ad a b (bs.drop i) = ad a0 b0 bs)
  case atStart => exact ⟨0, a0, b0, rfl, by omega, H.out.1, Fr.refl _ _, rfl⟩
  case round =>
    obtain ⟨i, a, b, rfl, hik, hA, hf, had⟩ := hrel
    by_cases hi : i < L
    · obtain ⟨k, rfl⟩ : ∃ k, gk = k + 1 := ⟨gk - 1, by omega⟩
      have hib : i < bs.length := by rw [← H.out.2.2.2]; exact hi
      have hbn : bs ≠ [] := by intro e; rw [e] at hib; simp at hib
      have hrr := rd_frE H.out.2.1 hf (fun hb x hx hm => H.out.2.2.1 hb x hx (by simpa using hm))
      obtain ⟨g1, o1, rfl, cc⟩ := hrr.at hib
      have hdr : bs.drop i = bs[i] :: bs.drop (i + 1) := List.drop_eq_getElem_cons hib
      rw [hdr, ad] at had
      have hc256 := UInt8.toNat_lt bs[i]
      generalize bs[i].toNat = c at *
      obtain ⟨C, hC, hsz, hc0, ha1, hb1, hla, hlb⟩ := hA
      have ca := cell_of hC 265
      rw [ha1] at ca
      have za := frozen_of hC 265
      obtain ⟨a2, ha2⟩ : ∃ a2, a2 = (a + c) % 65521 := ⟨_, rfl⟩
      obtain ⟨b2, hb2⟩ : ∃ b2, b2 = (b + a2) % 65521 := ⟨_, rfl⟩
      rw [← ha2, ← hb2] at had
      have e1 : ((a : Int) + (c : Int)) % 65521 = (a2 : Int) := by omega
      have e2 : ((b : Int) + (a2 : Int)) % 65521 = (b2 : Int) := by omega
      have hla2 : a2 < 65521 := by omega
      have hlb2 : b2 < 65521 := by omega
      have HC := Lib.hid (And.intro hC (And.intro hsz (And.intro hc0 (And.intro hb1 (And.intro hf had)))))
      clear hC hsz hc0 hb1 hf had ha1 ha2 hb2 hdr hrr hib
      go_upto_region 18 with fail
      have f2 : Fr [g] wr (wr.setCell ⟨g, 265, none⟩ (.int .u32 (a2 : Nat))) := (Fr.refl [g] wr).setCell (by simp) _
      have hC2 := setCell_of (o := 265) HC.out.1 (.int .u32 (a2 : Nat))
      generalize wr.setCell ⟨g, 265, none⟩ (.int .u32 (a2 : Nat)) = w2 at *
      have ca2 := cell_of hC2 265
      have cb2 := cell_of hC2 266
      have zb := frozen_of hC2 266
      rw [Array.getElem?_setIfInBounds_self_of_lt (by rw [HC.out.2.1]; decide)] at ca2
      rw [Array.getElem?_setIfInBounds_ne (by decide), HC.out.2.2.2.1] at cb2
      have HC2 := Lib.hid (And.intro hC2 f2)
      clear ca za cc hC2 f2
      refine region_tail 13 (by kernel_rfl) (by kernel_rfl) ?_
      simp only [List.take_succ_cons, List.take_zero, List.drop_succ_cons, List.drop_zero]
      repeat (go_big_quiet_step (fail))
      refine wpQuiet_nil ?_
      go_wp2
      go_roundg k
      case measure => omega
      case rel =>
        have f3 : Fr [g] w2 w2.drew := Fr.drew1 [g] w2
        have hC3 := f3.block g (lt_of_block HC2.out.1)
        have hC4 : (w2.drew).heap[g]? = _ := HC2.out.1
        have hC5 := setCell_of (o := 266) hC4 (.int .u32 (b2 : Nat))
        refine ⟨i + 1, a2, b2, by go_num, by omega, ⟨_, hC5, by simp [HC.out.2.1], ?_, ?_, ?_, hla2, hlb2⟩, ((HC.out.2.2.2.2.1.trans HC2.out.2).trans f3).setCell (by simp) _, HC.out.2.2.2.2.2⟩
        · rw [Array.getElem?_setIfInBounds_ne (by decide), Array.getElem?_setIfInBounds_ne (by decide), HC.out.2.2.1]
        · rw [Array.getElem?_setIfInBounds_ne (by decide), Array.getElem?_setIfInBounds_self_of_lt (by rw [HC.out.2.1]; decide)]
        · rw [Array.getElem?_setIfInBounds_self_of_lt (by rw [Array.size_setIfInBounds, HC.out.2.1]; decide)]
    · obtain rfl : gk = 0 := by omega
      obtain rfl : i = L := by omega
      have hd : bs.drop i = [] := List.drop_eq_nil_of_le (by rw [← H.out.2.2.2]; exact Nat.le_refl _)
      rw [hd, ad] at had
      have HA := Lib.hid (And.intro hA (And.intro hf had))
      clear hA hf had hd
      go_wp2
      go_end0
      exact ⟨rfl, HA.out.2.1, by rw [← HA.out.2.2]; exact HA.out.1⟩
end Go.Proofs.Ytolkoidbkaidkaa.sums
