/-
  pkt.Line: lines in memory.
-/
import Derived.Test.YteldakjhnifbpaaPktSize
import Derived.Test.YteldakjhnifbpaaSlices8
import Derived.OwnWalk
namespace Go.Proofs.Yteldakjhnifbpaa.pkt
open Go Go.RowKit Go.Proofs.Yteldakjhnifbpaa.lib

/-- A line in memory. -/
structure Lv where
  kind : Int
  ao : Option Addr
  cap : Nat
  bs : List UInt8
def Lv.ln (x : Lv) : Ln := (x.kind, x.bs)
def lcells : List Lv → List Value
  | [] => []
  | x :: r => .int .i64 x.kind :: .slice x.ao x.bs.length x.cap :: lcells r
theorem lcells_append : ∀ a b : List Lv, lcells (a ++ b) = lcells a ++ lcells b
  | [], b => rfl
  | x :: a, b => by simp only [List.cons_append, lcells, lcells_append a b]
theorem lcells_length : ∀ a : List Lv, (lcells a).length = a.length * 2
  | [] => rfl
  | x :: a => by simp only [lcells, List.length_cons, lcells_length a]; omega
theorem lcells_at : ∀ (l : List Lv) (i : Nat) (h : i < l.length), (lcells l)[i * 2]? = some (.int .i64 l[i].kind) ∧ (lcells l)[i * 2 + 1]? = some (.slice l[i].ao l[i].bs.length l[i].cap)
  | x :: l, 0, h => ⟨rfl, rfl⟩
  | x :: l, i + 1, h => by
    have h' : i < l.length := by simpa using h
    have h1 := lcells_at l i h'
    rw [show (i + 1) * 2 = i * 2 + 1 + 1 from by omega]
    exact h1
structure Lv.Ok (w : World) (x : Lv) : Prop where
  cs : Cs w x.ao (x.bs.map bv)
  le : x.bs.length ≤ x.cap
  nil : x.ao = none → x.cap = 0
  max : x.cap ≤ maxLen
theorem Lv.Ok.fr {w w' : World} {x : Lv} (h : x.Ok w) (f : Fr [] w w') : x.Ok w' := ⟨h.cs.fr f (by simp), h.le, h.nil, h.max⟩
/-- A slice of lines, as it came in or as it was made. -/
structure Lines (w : World) (a : Option Addr) (cap : Nat) (ls : List Lv) : Prop where
  cs : Cs w a (lcells ls)
  le : ls.length ≤ cap
  nil : a = none → cap = 0
  max : cap ≤ maxLen
  ok : ∀ x ∈ ls, x.Ok w
theorem Lines.fr {w w' : World} {a : Option Addr} {cap : Nat} {ls : List Lv} (h : Lines w a cap ls) (f : Fr [] w w') : Lines w' a cap ls := ⟨h.cs.fr f (by simp), h.le, h.nil, h.max, fun x hx => (h.ok x hx).fr f⟩
/-- Lines that grow. -/
structure Grow (w wr : World) (a : Option Addr) (cap : Nat) (ls : List Lv) : Prop where
  own : wr.ownsRow 0 28 2 (.slice a ls.length cap) ls.length (lcells ls)
  fr : Fr [] w wr
  new : ∀ x ∈ blk a, w.heap.size ≤ x
  ok : ∀ x ∈ ls, x.Ok wr
  far : ∀ x ∈ ls, ∀ y ∈ blk x.ao, y ∉ blk a
  lt : ∀ x ∈ ls, ∀ y ∈ blk x.ao, y < wr.heap.size
theorem Grow.shape {w wr : World} {a : Option Addr} {cap : Nat} {ls : List Lv} (h : Grow w wr a cap ls) : ls.length ≤ cap ∧ cap ≤ maxLen ∧ (a = none → cap = 0) := by
  rcases h.own.2 with ⟨h1, h2⟩ | ⟨g, cap', cur, h1, hb, hg, hn, hm, hs, ht⟩
  · simp only [Value.slice.injEq] at h1
    obtain ⟨rfl, h3, rfl⟩ := h1
    exact ⟨by omega, Nat.zero_le _, fun _ => rfl⟩
  · simp only [Value.slice.injEq] at h1
    obtain ⟨rfl, _, rfl⟩ := h1
    exact ⟨hn, hm, fun h => by cases h⟩
theorem Grow.lines {w wr : World} {a : Option Addr} {cap : Nat} {ls : List Lv} (h : Grow w wr a cap ls) : Lines wr a ls.length ls := by
  obtain ⟨h1, h2, h3⟩ := h.shape
  exact ⟨cs_of_row h.own, Nat.le_refl _, fun hn => by have := h3 hn; omega, by omega, h.ok⟩
theorem grow_nil (w : World) : Grow w w none 0 [] := ⟨World.ownsRow_nil _ _ _ _, Fr.refl _ _, by simp [blk], by simp, by simp, by simp⟩
theorem Grow.fr0 {w wr wz : World} {a : Option Addr} {cap : Nat} {ls : List Lv} (h : Grow w wr a cap ls) (f : Fr [] wr wz) : Grow w wz a cap ls := ⟨ownsRow_fr h.own f (by simp), h.fr.trans f, h.new, fun x hx => (h.ok x hx).fr f, h.far, fun x hx y hy => Nat.lt_of_lt_of_le (h.lt x hx y hy) f.size⟩
/-- One more. -/
theorem Grow.more {w w1 w2 : World} {a a' : Option Addr} {cap cap' : Nat} {ls : List Lv} {x : Lv} (h : Grow w w1 a cap ls) (A : Appended w1 w2 28 2 (blk a) a' (ls.length + 1) cap' (lcells ls ++ lcells [x])) (hx : x.Ok w1)
    (hf : ∀ y ∈ blk x.ao, y ∉ blk a) (hl : ∀ y ∈ blk x.ao, y < w1.heap.size) : Grow w w2 a' cap' (ls ++ [x]) := by
  have hkeep : ∀ z : Lv, z.Ok w1 → (∀ y ∈ blk z.ao, y ∉ blk a) → z.Ok w2 := fun z hz hzf => ⟨hz.cs.fr A.fr (fun y hy => hzf y hy), hz.le, hz.nil, hz.max⟩
  have hat : ∀ y ∈ blk a', y ∈ blk a ∨ y = w1.heap.size := A.at_
  refine ⟨by rw [List.length_append, lcells_append]; exact A.own, h.fr.step A.fr fun y hy => .inr (h.new y hy), fun y hy => ?_, fun z hz => ?_, fun z hz y hy hy' => ?_, fun z hz y hy => ?_⟩
  · rcases hat y hy with h1 | h1
    · exact h.new y h1
    · have := h.fr.size
      omega
  · rcases List.mem_append.1 hz with hz | hz
    · exact hkeep z (h.ok z hz) (h.far z hz)
    · obtain rfl := List.mem_singleton.1 hz
      exact hkeep z hx hf
  · rcases List.mem_append.1 hz with hz | hz
    · rcases hat y hy' with h1 | h1
      · exact h.far z hz y hy h1
      · have := h.lt z hz y hy
        omega
    · obtain rfl := List.mem_singleton.1 hz
      rcases hat y hy' with h1 | h1
      · exact hf y hy h1
      · have := hl y hy
        omega
  · refine Nat.lt_of_lt_of_le ?_ A.fr.size
    rcases List.mem_append.1 hz with hz | hz
    · exact h.lt z hz y hy
    · obtain rfl := List.mem_singleton.1 hz
      exact hl y hy
theorem sliceLine : SliceTy Try.prog 29 28 (.agg #[.int .i64 0, .slice none 0 0]) 2 32 := SliceTy.of Try.underlying29 (by kernel_rfl) (by kernel_rfl) (by decide)
theorem lcells_one : ∀ (a : List Lv), ∀ u ∈ lcells a, u.oneCell' = true
  | [], u, h => by cases h
  | x :: a, u, h => by
    simp only [lcells, List.mem_cons] at h
    rcases h with rfl | rfl | h
    · rfl
    · rfl
    · exact lcells_one a u h
theorem clip_lines (ao : Option Addr) (len cap : Nat) (w : World) (hle : len ≤ cap) (hmax : cap ≤ maxLen) :
    Calls Try.prog 21 #[.slice ao len cap] w fun e w' => e = .returned (.slice ao len len) ∧ w' = w := by
  go_enter Try.func21, Try.ntmps21
  go_wp2
  all_goals go_ret
  all_goals exact ⟨by first | rfl | simp, rfl⟩
end Go.Proofs.Yteldakjhnifbpaa.pkt
