/-
  slices.Clone and slices.Clip of bytes.
-/
import Derived.Test.YteldakjhnifbpaaOps2
import Derived.Test.YteldakjhnifbpaaTail
import Derived.Deep.DeepCutAuto
import Derived.Deep.CutBlock
import Derived.Lib.SliceRun
namespace Go.Proofs.Yteldakjhnifbpaa.lib
open Go Go.RowKit

theorem sliceU8 : SliceTy Try.prog 23 5 (.int .u8 0) 1 1 := SliceTy.of Try.underlying23 (by kernel_rfl) rfl (by decide)
theorem bv_one (bs : List UInt8) : ∀ u ∈ bs.map bv, u.oneCell' = true := by
  intro u hu
  obtain ⟨b, _, rfl⟩ := List.mem_map.1 hu
  rfl
/-- A new copy of bytes. -/
def Copied (w : World) (bs : List UInt8) (e : Ending) (w' : World) : Prop :=
  ∃ ao cap, e = .returned (.slice ao bs.length cap) ∧ Fresh w' w.heap.size 5 ao (bs.map bv) ∧ bs.length ≤ cap ∧ cap ≤ maxLen ∧ (ao = none → cap = 0) ∧ (∀ x ∈ blk ao, w.heap.size ≤ x ∧ x < w'.heap.size) ∧ Fr [] w w'
set_option maxHeartbeats 1000000 in
theorem clone_any (ao : Option Addr) (cap : Nat) (bs : List UInt8) (w : World) (hcs : Cs w ao (bs.map bv)) (hle : bs.length ≤ cap) (hnone : ao = none → cap = 0) (hlim : bs.length ≤ 140737488355328) :
    Calls Try.prog 20 #[.slice ao bs.length cap] w (Copied w bs) := by
  have qT : ∀ (w : World) (a : Option Addr) (n c n' c' : Nat), (binOp .eql 23 (.slice a n c) (.slice none n' c')).run Try.prog w = .ok (.bool a.isNone) w := fun w a n c n' c' => Lib.run_eql_slice_nil w _ _ a n c n' c' Try.underlying23
  cases ao with
  | none =>
    have h0 := hnone rfl
    obtain rfl : bs = [] := List.eq_nil_of_length_eq_zero (by omega)
    go_enter Try.func20, Try.ntmps20
    go_wp2
    go_ret
    exact ⟨none, 0, rfl, .inl rfl, by simp, by decide, fun _ => rfl, by simp [blk], Fr.refl _ _⟩
  | some a =>
    go_enter Try.func20, Try.ntmps20
    go_wp2_with (refine wpList_append sliceU8 rfl _ _ rfl (.slice (some ⟨w.heap.size, 0, none⟩) 0 0) 0 [] [w.heap.size] rfl rfl ⟨rfl, .inr ⟨w.heap.size, 0, #[], rfl, Nat.zero_le _, alloc_at _ _, Nat.le_refl _, Nat.zero_le _, rfl, rfl⟩⟩ (some a) bs.length cap (bs.map bv) rfl hle hnone (hcs.fr ((Fr.refl [] w).alloc _) (by simp)) (by simp) (bv_one bs) (by omega) (by unfold maxLen; omega) ?_; intro ao1 cap1 w1 A1; simp only [Nat.zero_add, List.nil_append] at A1)
    go_ret
    have fr2 : Fr [] w w1 := ((Fr.refl [] w).alloc _).step A1.fr (by simp)
    have hb : ∀ x ∈ blk ao1, w.heap.size ≤ x ∧ x < w1.heap.size := fun x hx => ⟨by have := A1.at_ x hx; simp at this; omega, A1.lt x hx⟩
    exact ⟨ao1, cap1, rfl, fresh_of_cells A1.own fun x hx => (hb x hx).1, A1.le, A1.max, A1.nil, hb, fr2⟩
theorem clip_any (ao : Option Addr) (len cap : Nat) (w : World) (hle : len ≤ cap) (hmax : cap ≤ maxLen) :
    Calls Try.prog 18 #[.slice ao len cap] w fun e w' => e = .returned (.slice ao len len) ∧ w' = w := by
  go_enter Try.func18, Try.ntmps18
  go_wp2
  all_goals go_ret
  all_goals exact ⟨by first | rfl | simp, rfl⟩

/-- What an owned row reads as, whatever its elements. -/
theorem cs_of_row {w : World} {base : Nat} {e : TypeId} {size n : Nat} {xs : List Value} {ao : Option Addr} {len cap : Nat} (h : w.ownsRow base e size (.slice ao len cap) n xs) : Cs w ao xs := by
  rcases h.2 with ⟨h1, h2⟩ | ⟨g, cap', cur, h1, hb, hg, hn, hm, hs, ht⟩
  · left
    have := h.1
    rw [h2] at this
    exact List.eq_nil_of_length_eq_zero (by simpa using this)
  · simp only [Value.slice.injEq] at h1
    obtain ⟨rfl, rfl, rfl⟩ := h1
    refine .inr ⟨g, 0, rfl, fun j v hv => ?_⟩
    have h3 : j < len * size := by
      have := (List.getElem?_eq_some_iff.1 hv).1
      rw [h.1] at this
      exact this
    rw [Nat.zero_add]
    exact (h.cellAt j h3).trans hv
end Go.Proofs.Yteldakjhnifbpaa.lib
