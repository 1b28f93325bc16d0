/-
  A writer of bits, by the list of its bits.
-/
import Derived.Test.YtolkoidbkaidkaaBitList
import Derived.Test.YtolkoidbkaidkaaWriter
import Derived.Test.YtolkoidbkaidkaaBytes
namespace Go.Proofs.Ytolkoidbkaidkaa.wb
open Go Go.RowKit Go.Proofs.Ytolkoidbkaidkaa.lib Go.Proofs.Ytolkoidbkaidkaa.bm Go.Proofs.Ytolkoidbkaidkaa.bl

def Wb (w : World) (p : Nat) (F : List Nat) (l : List Bool) : Prop := bits.Wr w p F (bval l) l.length
def WbPost (p : Nat) (F : List Nat) (w : World) (l : List Bool) (e : Ending) (w' : World) : Prop :=
  e = .returned (.tuple #[]) ∧ Fr F w w' ∧ ∃ F', Wb w' p F' l ∧ ∀ y ∈ F', y ∈ F ∨ w.heap.size ≤ y
theorem wb_fr {w w' : World} {p : Nat} {F S : List Nat} {l : List Bool} (h : Wb w p F l) (f : Fr S w w') (hn : ∀ x ∈ F, x ∉ S) : Wb w' p F l := bits.wr_fr h f hn
theorem wb_lt {w : World} {p : Nat} {F : List Nat} {l : List Bool} (h : Wb w p F l) : ∀ x ∈ F, x < w.heap.size := bits.wr_lt h
theorem put_b (p : Nat) (F : List Nat) (l : List Bool) (x : Nat) (n : Int) (w : World) (h : Wb w p F l) (hx : x < 4294967296) (hL : l.length ≤ 562949953421312) :
    Calls Try.prog 95 #[.pointer (some ⟨p, 0, none⟩), .int .u32 x, .int .i64 n] w (WbPost p F w (l ++ lsb (min n.toNat 32) x)) := by
  have := bits.put_any p F (bval l) l.length x n w h hx hL
  refine this.mono fun e w' ⟨h1, h2, F', h3, h4⟩ => ⟨h1, h2, F', ?_, h4⟩
  unfold Wb
  rw [bval_append, bval_lsb, List.length_append, lsb_length]
  exact h3
theorem code_b (p : Nat) (F : List Nat) (l : List Bool) (x : Nat) (n : Int) (w : World) (h : Wb w p F l) (hx : x < 4294967296) (hL : l.length ≤ 562949953421200) :
    Calls Try.prog 94 #[.pointer (some ⟨p, 0, none⟩), .int .u32 x, .int .i64 n] w (WbPost p F w (l ++ msb (min n.toNat 32) x)) := by
  have := bits.code_any p F (bval l) l.length x n w h hx hL
  refine this.mono fun e w' ⟨h1, h2, F', h3, h4⟩ => ⟨h1, h2, F', ?_, h4⟩
  unfold Wb
  rw [bval_append, bval_msb, List.length_append, msb_length]
  exact h3
theorem raw_b (p : Nat) (F : List Nat) (l : List Bool) (ao : Option Addr) (cap : Nat) (bs : List UInt8) (w : World) (h : Wb w p F l) (hr : lib.Rd w ao cap bs) (hap : bs ≠ [] → ∀ x ∈ blk ao, x ∉ F)
    (hL : l.length + 8 * bs.length ≤ 562949953421200) :
    Calls Try.prog 99 #[.pointer (some ⟨p, 0, none⟩), .slice ao bs.length cap] w (WbPost p F w (padTo8 l ++ bytesBits bs)) := by
  have := bits.raw_any p F (bval l) l.length ao cap bs w h hr.cs hr.le hr.nil hap hL
  refine this.mono fun e w' ⟨h1, h2, F', h3, h4⟩ => ⟨h1, h2, F', ?_, h4⟩
  unfold Wb
  rw [bval_append, bval_pad, bval_bytes, List.length_append, padTo8_length, bytesBits_length]
  exact h3
theorem bytes_b (p : Nat) (F : List Nat) (l : List Bool) (w : World) (h : Wb w p F l) (h0 : 0 < l.length) (hL : l.length ≤ 562949953421200) :
    Calls Try.prog 24 #[.pointer (some ⟨p, 0, none⟩)] w (NewBytes w (bytesOf l)) := by
  have := bits.wbytes_any p F (bval l) l.length w h hL
  refine this.mono fun e w' ⟨ao, h1, h2, h3, h4, h5⟩ => ⟨ao, by rw [bytesOf_length]; exact h1, ⟨h2.cs, Nat.le_refl _, by rw [bytesOf_length]; unfold maxLen; omega, fun hn => by rw [bytesOf_length]; exact h3 hn⟩, fun x hx => ⟨h4 x hx, ?_⟩, h5⟩
  rcases h2 with h2 | ⟨g, cur, rfl, _, hg, _⟩
  · have := congrArg List.length h2
    rw [List.length_map, dig_length, List.length_nil] at this
    omega
  · simp [blk] at hx
    rw [hx]
    exact lt_of_block hg
end Go.Proofs.Ytolkoidbkaidkaa.wb
