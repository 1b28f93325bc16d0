/-
  pkt.Side.
-/
import Derived.Test.YteldakjhnifbpaaPktEnc
namespace Go.Proofs.Yteldakjhnifbpaa.pkt
open Go Go.RowKit Go.Proofs.Yteldakjhnifbpaa.lib Go.Proofs.Yteldakjhnifbpaa.bm

/-- The chunk as it is taken. -/
def chk (c : Int) : Nat := (if 65515 < (if 1 > c then 1 else c) then 65515 else (if 1 > c then 1 else c)).toNat
theorem chk_pos (c : Int) : 0 < chk c ∧ chk c ≤ 65515 := by
  unfold chk
  split <;> split <;> omega
def bnd (b : Int) : UInt8 := UInt8.ofNat (b % 256).toNat
theorem bnd_val (b : Int) : ((bnd b).toNat : Int) = b % 256 := by
  unfold bnd
  rw [UInt8.toNat_ofNat']
  omega
theorem side_nil (b : UInt8) (c f : Nat) : side b c f [] = [] := by cases f <;> rfl
theorem side_cons (b : UInt8) (c f : Nat) (bs : List UInt8) (h : bs ≠ []) : side b c (f + 1) bs = ((1 : Int), b :: bs.take c) :: side b c f (bs.drop c) := by rw [side, if_neg h]
theorem take_min {α : Type} (l : List α) (c n : Nat) (h : n = min c l.length) : l.take c = l.take n := by rw [h, ← List.take_eq_take_min]
theorem drop_min {α : Type} (l : List α) (c n : Nat) (h : n = min c l.length) : l.drop c = l.drop n := by
  by_cases h1 : c ≤ l.length
  · rw [h, Nat.min_eq_left h1]
  · rw [List.drop_eq_nil_of_le (by omega), List.drop_eq_nil_of_le (by omega)]
def SidedAs (w : World) (l : List Ln) (e : Ending) (w' : World) : Prop :=
  ∃ (a : Option Addr) (ls : List Lv), e = .returned (.slice a ls.length ls.length) ∧ Lines w' a ls.length ls ∧ ls.map Lv.ln = l ∧ Fr [] w w'
theorem own_one (w : World) (v : Value) : (w.alloc (.cells #[v] 5)).ownsRow 0 5 1 (.slice (some ⟨w.heap.size, 0, none⟩) 1 1) 1 [v] :=
  ⟨rfl, .inr ⟨w.heap.size, 1, #[v], rfl, Nat.zero_le _, alloc_at _ _, Nat.le_refl _, by decide, rfl, rfl⟩⟩
/-- Where the putting aside stands. -/
structure Sd (w wr : World) (b : UInt8) (c : Nat) (bs : List UInt8) (k : Nat) (a : Option Addr) (cap : Nat) (ls : List Lv) (d : Option Addr) (dc i : Nat) : Prop where
  grow : Grow w wr a cap ls
  le : i ≤ bs.length
  fuel : bs.length - i ≤ k
  few : ls.length ≤ i
  cs : Cs w d ((bs.drop i).map bv)
  dle : bs.length - i ≤ dc
  dmax : dc ≤ maxLen
  dnil : d = none → dc = 0
  all : ls.map Lv.ln ++ side b c k (bs.drop i) = side b c bs.length bs
set_option maxRecDepth 100000 in
set_option maxHeartbeats 4000000 in
theorem side_all (band chunk : Int) (ao : Option Addr) (cap : Nat) (bs : List UInt8) (w : World) (hle : bs.length ≤ cap) (hmax : cap ≤ maxLen) (hnil : ao = none → cap = 0) (hcs : Cs w ao (bs.map bv)) (hlim : bs.length ≤ 2199023255552) :
    Calls Try.prog 16 #[.int .i64 band, .slice ao bs.length cap, .int .i64 chunk] w (SidedAs w (side (bnd band) (chk chunk) bs.length bs)) := by
  have hcp := chk_pos chunk
  have hc1 : ((chk chunk : Nat) : Int) = if 65515 < (if 1 > chunk then 1 else chunk) then 65515 else (if 1 > chunk then 1 else chunk) := by unfold chk; split <;> split <;> omega
  obtain ⟨mx, hmx⟩ : ∃ mx : Int, mx = if 1 > chunk then 1 else chunk := ⟨_, rfl⟩
  rw [← hmx] at hc1
  have HC := Lib.hid hc1
  have HM := Lib.hid hmx
  have HB := Lib.hid (bnd_val band)
  clear hc1 hmx
  generalize chk chunk = c at *
  generalize bnd band = b at *
  have hst : Sd w w b c bs bs.length none 0 [] ao cap 0 := ⟨grow_nil w, Nat.zero_le _, by omega, Nat.zero_le _, hcs, by omega, hmax, hnil, rfl⟩
  have HST := Lib.hid hst
  clear hst hcs
  go_enter Try.func16, Try.ntmps16
  go_upto_block 0 with (first | (refine wpList_max2 mx rfl _ _ _ rfl chunk 1 rfl rfl HM.out ?_) | (refine wpList_min2 (c : Int) rfl _ _ _ rfl mx 65515 rfl rfl HC.out ?_))
  go_wp2
  go_loopg [1, 7] bs.length (fun k s1 s7 wr => ∃ a ac ls d dc i, s1 = .slice d (bs.length - i) dc ∧ s7 = .slice a ls.length ac ∧ Sd w wr b c bs k a ac ls d dc i)
  case atStart => exact ⟨none, 0, [], ao, cap, 0, rfl, rfl, HST.out⟩
  case round =>
    obtain ⟨a, ac, ls, d, dc, i, rfl, rfl, h⟩ := hrel
    have H := Lib.hid h
    have h1 := h.le
    have h2 := h.fuel
    have h3 := h.few
    have h4 := h.dle
    have h5 := h.dmax
    obtain ⟨h6, h7, _⟩ := h.grow.shape
    clear h
    by_cases hi : i < bs.length
    · obtain ⟨k, rfl⟩ : ∃ k, gk = k + 1 := ⟨gk - 1, by omega⟩
      obtain ⟨n, hn⟩ : ∃ n, n = min c (bs.length - i) := ⟨_, rfl⟩
      have hn1 : (n : Int) = if ((bs.length - i : Nat) : Int) < (c : Int) then ((bs.length - i : Nat) : Int) else (c : Int) := by rw [hn]; split <;> omega
      have HN := Lib.hid hn1
      have hn2 : n ≤ bs.length - i ∧ 1 ≤ n := by omega
      have HN2 := Lib.hid hn
      have hpos : 0 < bs.length - i := by omega
      clear hn hn1
      have hx : ((bs.drop i).take n).length = n := by rw [List.length_take, List.length_drop]; omega
      have HX := Lib.hid hx
      clear hx
      have hcut := H.out.cs
      have hlt := hcut.fr H.out.grow.fr (by simp)
      have hto : Cs wr d (((bs.drop i).take n).map bv) := by
        have := hlt.cut dc 0 n (by omega) (by simp; omega) (by simp; omega)
        rw [List.drop_zero, Nat.sub_zero, ← List.map_take] at this
        unfold cutAt at this
        split at this
        · exact this
        · cases d with
          | none => exact this
          | some z => simpa [Addr.add] using this
      have hfrom : Cs w (cutAtN d dc n 1) ((bs.drop (i + n)).map bv) := by
        have := hcut.cut dc n (bs.length - i) (by omega) (by simp) (by simp; omega)
        rw [cutAtN_one]
        rw [List.take_of_length_le (by simp; omega), ← List.map_drop, List.drop_drop] at this
        exact this
      have HC2 := Lib.hid (And.intro hto hfrom)
      clear hcut hlt hto hfrom
      have hdn := H.out.dnil
      have HDN := Lib.hid hdn
      obtain ⟨S, hS⟩ : ∃ S, S = blk a := ⟨_, rfl⟩
      have HS := Lib.hid hS
      clear hS hdn
      go_wp2_with (first | (refine wpList_min2 (n : Int) rfl _ _ _ rfl (c : Int) ((bs.length - i : Nat) : Int) rfl rfl HN.out ?_) | (refine wpList_slice_to sliceU8 n rfl _ _ rfl d (bs.length - i) dc _ rfl rfl rfl (by omega) ?_) | (refine wpList_append sliceU8 rfl _ _ rfl (.slice (some ⟨wr.heap.size, 0, none⟩) 1 1) 1 [.int .u8 (band % 256)] [wr.heap.size] rfl rfl (own_one wr _) d n dc (((bs.drop i).take n).map bv) rfl (by omega) HDN.out (HC2.out.1.fr ((Fr.refl [] wr).alloc _) (by simp)) (by rw [List.length_map, HX.out, Nat.mul_one]) (bv_one _) (by omega) (by unfold maxLen; omega) ?_; intro a1 c1 w1 A1) | (go_at_call 18; refine (clip_any a1 (1 + n) c1 _ A1.le A1.max).mono ?_; rintro e w1' ⟨rfl, hw⟩; obtain rfl := hw.symm; have HA1 := Lib.hid A1; clear A1; have ownA := (ownsRow_fr H.out.grow.own ((((Fr.refl [] wr).alloc _).step HA1.out.fr (by simp)).alloc (.cells #[.int .i64 1, .slice a1 (1 + n) (1 + n)] 28)) (by simp)); have cA : Cs (w1.alloc (.cells #[.int .i64 1, .slice a1 (1 + n) (1 + n)] 28)) (some ⟨w1.heap.size, 0, none⟩) [.int .i64 1, .slice a1 (1 + n) (1 + n)] := (.inr ⟨w1.heap.size, 0, rfl, fun j u hj => by rw [cell_of (alloc_at w1 _)]; simpa using hj⟩); have HA := Lib.hid (And.intro ownA cA); clear ownA cA) | (refine wpList_append sliceLine rfl _ _ rfl (.slice a ls.length ac) ls.length (lcells ls) S rfl (by rw [own_blk, HS.out]) HA.out.1 (some ⟨w1.heap.size, 0, none⟩) 1 1 [.int .i64 1, .slice a1 (1 + n) (1 + n)] rfl (by decide) (by simp) HA.out.2 (by rfl) (by simp [Value.oneCell']) (by omega) (by unfold maxLen; omega) ?_; intro a2 c2 w2 A2; have HA2 := Lib.hid A2; clear A2) | (refine wpList_slice_from sliceU8 n rfl _ _ rfl d (bs.length - i) dc _ rfl rfl rfl (by omega) (by omega) ?_))
      go_roundg k
      case measure => omega
      case rel =>
        have A1 := HA1.out
        have A2 := HA2.out
        have h := H.out
        have hX := HX.out
        have f1 : Fr [] wr w1 := ((Fr.refl [] wr).alloc _).step A1.fr (by simp)
        have f2 : Fr [] wr (w1.alloc (.cells #[.int .i64 1, .slice a1 (1 + n) (1 + n)] 28)) := f1.alloc _
        have b1 : ∀ y ∈ blk a1, wr.heap.size ≤ y ∧ y < w1.heap.size := fun y hy => ⟨by have := A1.at_ y hy; simp at this; omega, A1.lt y hy⟩
        have hcs1 := (cs_of_row A1.own).fr ((Fr.refl [] w1).alloc (.cells #[.int .i64 1, .slice a1 (1 + n) (1 + n)] 28)) (by simp)
        rw [HS.out] at A2
        have hlt : ∀ y ∈ blk a, y < wr.heap.size := fun y hy => owns_lt H.out.grow.own (blk_own hy)
        have hbv : [Value.int .u8 (band % 256)] = [bv b] := by unfold bv; rw [HB.out]
        have hyl : (b :: (bs.drop i).take n).length = 1 + n := by rw [List.length_cons, hX]; omega
        have hg := (h.grow.fr0 f2).more (x := ⟨1, a1, 1 + n, b :: (bs.drop i).take n⟩) (by simpa only [lcells, hyl] using A2) ⟨by rw [hbv] at hcs1; exact hcs1, by simp only [hyl]; exact Nat.le_refl _, fun e => by have := A1.nil e; have := A1.le; omega, by have := A1.max; have := A1.le; simp only; omega⟩ (fun y hy e => by have := (b1 y hy).1; have := hlt y e; omega) (fun y hy => Nat.lt_of_lt_of_le (b1 y hy).2 ((Fr.refl [] w1).alloc (.cells #[.int .i64 1, .slice a1 (1 + n) (1 + n)] 28)).size)
        refine ⟨a2, c2, ls ++ [⟨1, a1, 1 + n, b :: (bs.drop i).take n⟩], cutAtN d dc n 1, dc - n, i + n, by rw [Nat.sub_sub], by rw [List.length_append]; rfl, hg, by omega, by omega, by rw [List.length_append]; simp; omega, HC2.out.2, by omega, by omega, fun e => by have := h.dnil (cutAtN_none e); omega, ?_⟩
        rw [← h.all, side_cons _ _ _ _ (by intro e; have := congrArg List.length e; simp at this; omega), take_min (bs.drop i) c n (by rw [HN2.out, List.length_drop]), drop_min (bs.drop i) c n (by rw [HN2.out, List.length_drop])]
        simp [Lv.ln, List.append_assoc, List.drop_drop]
    · have hz : bs.length - i = 0 := by omega
      have hall := H.out.all
      rw [List.drop_eq_nil_of_le (by omega), side_nil, List.append_nil] at hall
      have HALL := Lib.hid hall
      clear hall
      rw [hz]
      go_wp2_with (go_at_call 21; refine (clip_lines a ls.length ac _ h6 h7).mono ?_; rintro e w2 ⟨rfl, hw⟩; obtain rfl := hw.symm)
      go_ret
      exact ⟨a, ls, rfl, H.out.grow.lines, HALL.out, H.out.grow.fr⟩
end Go.Proofs.Yteldakjhnifbpaa.pkt
