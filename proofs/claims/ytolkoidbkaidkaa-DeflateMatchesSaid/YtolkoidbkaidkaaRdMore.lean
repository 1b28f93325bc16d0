/-
  More of a slice of bytes that is read; a slice expression with three indexes.
-/
import Derived.Test.YtolkoidbkaidkaaBytes
namespace Go.Proofs.Ytolkoidbkaidkaa.lib
open Go Go.RowKit
theorem rd_frE {S : List Nat} {w w' : World} {a : Option Addr} {cap : Nat} {bs : List UInt8} (h : Rd w a cap bs) (f : Fr S w w') (hn : bs ≠ [] → ∀ x ∈ blk a, x ∉ S) : Rd w' a cap bs := by
  by_cases hb : bs = []
  · exact ⟨.inl (by rw [hb]; rfl), h.le, h.max, h.nil⟩
  · exact h.frS f (hn hb)
theorem rd_lt {w : World} {a : Option Addr} {cap : Nat} {bs : List UInt8} (h : Rd w a cap bs) (hb : bs ≠ []) : ∀ x ∈ blk a, x < w.heap.size := by
  intro x hx
  cases a with
  | none => simp [blk] at hx
  | some a => simp [blk] at hx; rw [hx]; exact h.cs.lt (by simpa using hb) a rfl
theorem run_slice_cut3 {P : Program} {t e : TypeId} {z : Value} {size bytes : Nat} (T : SliceTy P t e z size bytes) (n : Nat) (a : Option Addr) (cap : Nat) (hc : n ≤ cap) (w : World) :
    (Instr.slice t (.slice a n cap) Option.none (some (.int .i64 (n : Nat))) (some (.int .i64 (n : Nat)))).run P w = .ok (.slice a n n) w := by
  obtain ⟨hu, ⟨i, hi', _, hs, _⟩, _, _⟩ := T
  have c1 : (0 : Int) ≤ (n : Int) ∧ (n : Int) ≤ (cap : Int) := by omega
  have ad0 : ∀ x : Addr, x.add 0 = x := fun x => rfl
  cases a <;> simp [run_underlying hu, Instr.slice, Instr.sliceBounds, Instr.sliceBound, asIntOf, c1, hc, sizeOf, typeInfo, hi', hs, Result.andThen, ad0]
theorem cs_owns {w : World} {base : Nat} {e : TypeId} {size n : Nat} {xs : List Value} {ao : Option Addr} {len cap : Nat} (h : w.ownsRow base e size (.slice ao len cap) n xs) : Cs w ao xs := by
  rcases h.2 with ⟨h1, h2⟩ | ⟨g, cap', cur, h1, hb, hg, hn, hm, hs, ht⟩
  · left
    have := h.1
    rw [h2] at this
    exact List.eq_nil_of_length_eq_zero (by simpa using this)
  · simp only [Value.slice.injEq] at h1
    obtain ⟨rfl, rfl, rfl⟩ := h1
    refine .inr ⟨g, 0, rfl, fun j v hv => ?_⟩
    rw [cell_of hg, Nat.zero_add]
    rw [← ht, List.getElem?_take] at hv
    split at hv
    · simpa using hv
    · cases hv
theorem cs_new (w : World) (C : Array Value) (t : TypeId) (fr : Nat × Nat) : Cs (w.alloc (.cells C t fr)) (some ⟨w.heap.size, 0, none⟩) C.toList :=
  .inr ⟨w.heap.size, 0, rfl, fun j v hv => by rw [cell_of (alloc_at w _), Nat.zero_add, ← Array.getElem?_toList]; exact hv⟩
end Go.Proofs.Ytolkoidbkaidkaa.lib
