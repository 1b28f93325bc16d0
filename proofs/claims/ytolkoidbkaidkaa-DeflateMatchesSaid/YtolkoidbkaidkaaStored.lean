/-
  deflate: head, stored.write.
-/
import Derived.Test.YtolkoidbkaidkaaWb
import Derived.Test.YtolkoidbkaidkaaRdMore
import Derived.Deep.DeepCutAuto
import Derived.Deep.LoopGhost
import Derived.Deep.CutBlock
import Derived.WalkMore
namespace Go.Proofs.Ytolkoidbkaidkaa.defl
open Go Go.RowKit Go.Proofs.Ytolkoidbkaidkaa.lib Go.Proofs.Ytolkoidbkaidkaa.bm Go.Proofs.Ytolkoidbkaidkaa.bl Go.Proofs.Ytolkoidbkaidkaa.wb

theorem lsb_one (b : Bool) : lsb 1 (if b then 1 else 0) = [b] := by cases b <;> rfl
set_option maxRecDepth 100000 in
set_option maxHeartbeats 1000000 in
theorem head_any (p : Nat) (F : List Nat) (l : List Bool) (last : Bool) (kind : Nat) (w : World) (h : Wb w p F l) (hk : kind < 4294967296) (hL : l.length ≤ 562949953421000) :
    Calls Try.prog 91 #[.pointer (some ⟨p, 0, none⟩), .bool last, .int .u32 kind] w (WbPost p F w (l ++ last :: lsb 2 kind)) := by
  have h1 := put_b p F l (if last then 1 else 0) 1 w h (by split <;> decide) (by omega)
  have h2 := fun w F h => put_b p F (l ++ [last]) kind 2 w h hk (by rw [List.length_append, List.length_singleton]; omega)
  have e1 : lsb (min (1 : Int).toNat 32) (if last then 1 else 0) = [last] := lsb_one last
  have e2 : lsb (min (2 : Int).toNat 32) kind = lsb 2 kind := rfl
  rw [e1] at h1
  simp only [e2, List.append_assoc, List.singleton_append] at h2
  unfold WbPost at h1 h2
  have H := Lib.hid h2
  clear h2 e1 e2 h
  cases last with
  | true =>
    have H1 := Lib.hid h1
    clear h1
    go_enter Try.func91, Try.ntmps91
    go_upto_region 4 with (go_at_call 95; refine H1.out.mono ?_; rintro e w1 ⟨rfl, f1, F1, W1, n1⟩)
    have H2 := Lib.hid (And.intro f1 (And.intro n1 (H.out w1 F1 W1)))
    clear f1 n1 W1
    go_wp2_with (go_at_call 95; refine H2.out.2.2.mono ?_; rintro e w2 ⟨rfl, f2, F2, W2, n2⟩)
    go_end0
    unfold WbPost
    exact ⟨rfl, H2.out.1.step f2 (fun y hy => by rcases H2.out.2.1 y hy with k | k; exact .inl k; exact .inr k), F2, W2, fun y hy => by rcases n2 y hy with k | k; exact H2.out.2.1 y k; exact .inr (Nat.le_trans H2.out.1.size k)⟩
  | false =>
    have H1 := Lib.hid h1
    clear h1
    go_enter Try.func91, Try.ntmps91
    go_upto_region 4 with (go_at_call 95; refine H1.out.mono ?_; rintro e w1 ⟨rfl, f1, F1, W1, n1⟩)
    have H2 := Lib.hid (And.intro f1 (And.intro n1 (H.out w1 F1 W1)))
    clear f1 n1 W1
    go_wp2_with (go_at_call 95; refine H2.out.2.2.mono ?_; rintro e w2 ⟨rfl, f2, F2, W2, n2⟩)
    go_end0
    unfold WbPost
    exact ⟨rfl, H2.out.1.step f2 (fun y hy => by rcases H2.out.2.1 y hy with k | k; exact .inl k; exact .inr k), F2, W2, fun y hy => by rcases n2 y hy with k | k; exact H2.out.2.1 y k; exact .inr (Nat.le_trans H2.out.1.size k)⟩
/-- A stored block's length, and what is left of it in the other bits. -/
def shead (n : Nat) : List UInt8 := [UInt8.ofNat n, UInt8.ofNat (n / 256), UInt8.ofNat (255 - n % 256), UInt8.ofNat (255 - n / 256 % 256)]
theorem xor255 (x : Nat) (h : x < 256) : bits .xor .u8 IntKind.u8.max ((x : Nat) : Int) = ((255 - x : Nat) : Int) := by
  have h1 : ∀ x : Fin 256, bits .xor .u8 IntKind.u8.max (x.1 : Int) = ((255 - x.1 : Nat) : Int) := by decide +kernel
  exact h1 ⟨x, h⟩
theorem shead_map (n c1 c2 : Nat) (h : n ≤ 65535) (h1 : c1 = 255 - n % 256) (h2 : c2 = 255 - n / 256 % 256) : (shead n).map bv = [.int .u8 ((n : Int) % 256), .int .u8 ((n : Int) / 256), .int .u8 (c1 : Nat), .int .u8 (c2 : Nat)] := by
  simp only [shead, List.map_cons, List.map_nil, bv, UInt8.toNat_ofNat']
  refine List.cons_eq_cons.2 ⟨int_eq (by omega), List.cons_eq_cons.2 ⟨int_eq (by omega), List.cons_eq_cons.2 ⟨int_eq (by omega), List.cons_eq_cons.2 ⟨int_eq (by omega), rfl⟩⟩⟩⟩
def storedBits (l : List Bool) (last : Bool) (b : List UInt8) : List Bool := padTo8 (l ++ last :: lsb 2 0) ++ bytesBits (shead b.length) ++ bytesBits b
theorem storedBits_length (l : List Bool) (last : Bool) (b : List UInt8) : (storedBits l last b).length = (l.length + 10) / 8 * 8 + 32 + 8 * b.length := by
  unfold storedBits
  rw [List.length_append, List.length_append, padTo8_length, bytesBits_length, bytesBits_length, List.length_append, List.length_cons, lsb_length]
  show (l.length + (2 + 1) + 7) / 8 * 8 + 8 * 4 + 8 * b.length = _
  omega
set_option maxRecDepth 100000 in
set_option maxHeartbeats 1000000 in
theorem stored_write (p : Nat) (F : List Nat) (l : List Bool) (last : Bool) (a : Option Addr) (cap : Nat) (b : List UInt8) (w : World) (h : Wb w p F l) (hr : lib.Rd w a cap b) (hap : b ≠ [] → ∀ x ∈ blk a, x ∉ F)
    (hL : l.length ≤ 549755813888) (hb : b.length ≤ 65535) :
    Calls Try.prog 98 #[.agg #[.slice a b.length cap], .pointer (some ⟨p, 0, none⟩), .bool last] w (WbPost p F w (storedBits l last b)) := by
  obtain ⟨n, hn⟩ : ∃ n, n = b.length := ⟨_, rfl⟩
  have hle := hr.le
  rw [← hn] at hle hb ⊢
  have f0 : Fr [] w (w.alloc (.cells #[.slice a n cap] 65)) := (Fr.refl [] w).alloc _
  have hz0 : (w.alloc (.cells #[.slice a n cap] 65)).heap.size = w.heap.size + 1 := World.size_alloc _ _
  have hbx := alloc_at w (.cells #[.slice a n cap] 65)
  have hh := head_any p F l last 0 _ (wb_fr h f0 (by simp)) (by decide) (by omega)
  unfold WbPost at hh
  have hlt := wb_lt h
  have H := Lib.hid (And.intro hh (And.intro f0 (And.intro hbx (And.intro (And.intro hr hap) (And.intro hn (And.intro hlt hz0))))))
  clear hh f0 hbx hr hap hn hlt hz0 h
  go_enter Try.func98, Try.ntmps98
  go_upto_region 2 with (go_at_call 91; refine H.out.1.mono ?_; rintro e w1 ⟨rfl, f1, F1, W1, n1⟩)
  obtain ⟨B, hB⟩ : ∃ B, B = w.heap.size := ⟨_, rfl⟩
  have hBF : B ∉ F := fun hm => by have := H.out.2.2.2.2.2.1 B hm; omega
  have hb1 := f1.blk H.out.2.2.1 (by rw [← hB]; exact hBF)
  rw [← hB] at hb1 ⊢
  have cb1 := cell_of hb1 0
  simp only [List.getElem?_toArray, List.getElem?_cons_zero] at cb1
  have H1 := Lib.hid (And.intro f1 (And.intro n1 (And.intro W1 (And.intro hb1 hB))))
  clear f1 n1 W1 hb1 hB
  obtain ⟨c1, hc1⟩ : ∃ c, c = 255 - n % 256 := ⟨_, rfl⟩
  obtain ⟨c2, hc2⟩ : ∃ c, c = 255 - n / 256 % 256 := ⟨_, rfl⟩
  have x1 : bits .xor .u8 IntKind.u8.max ((n : Int) % 256) = (c1 : Int) := by
    have := xor255 (n % 256) (by omega)
    rw [hc1, ← this]
    rfl
  have x2 : bits .xor .u8 IntKind.u8.max ((n : Int) / 256) = (c2 : Int) := by
    have := xor255 (n / 256) (by omega)
    rw [hc2, show n / 256 % 256 = n / 256 from by omega, ← this]
    rfl
  have hm := shead_map n c1 c2 hb hc1 hc2
  have hr4 : lib.Rd (w1.alloc (.cells #[.int .u8 ((n : Int) % 256), .int .u8 ((n : Int) / 256), .int .u8 (c1 : Nat), .int .u8 (c2 : Nat)] 5)) (some ⟨w1.heap.size, 0, none⟩) 4 (shead n) :=
    ⟨by rw [hm]; exact cs_new w1 _ _ _, Nat.le_refl _, by decide, fun h => by cases h⟩
  have f2 : Fr [] w1 (w1.alloc (.cells #[.int .u8 ((n : Int) % 256), .int .u8 ((n : Int) / 256), .int .u8 (c1 : Nat), .int .u8 (c2 : Nat)] 5)) := (Fr.refl [] w1).alloc _
  have hlen : (l ++ last :: lsb 2 0).length = l.length + 3 := by rw [List.length_append, List.length_cons, lsb_length]
  have hraw := raw_b p F1 (l ++ last :: lsb 2 0) _ 4 (shead n) _ (wb_fr H1.out.2.2.1 f2 (by simp)) hr4 (fun _ x hx hm => by have := wb_lt H1.out.2.2.1 x hm; simp [blk] at hx; omega) (by rw [hlen]; show _ + 8 * 4 ≤ _; omega)
  unfold WbPost at hraw
  have H2 := Lib.hid (And.intro hraw (And.intro f2 hlen))
  clear hc1 hc2 hm hr4 f2 hraw hlen
  go_upto_region 4 with (go_at_call 99; refine H2.out.1.mono ?_; rintro e w3 ⟨rfl, f3, F3, W3, n3⟩)
  have fAll : Fr F w w3 := ((H.out.2.1.mono (by simp)).step H1.out.1 (fun y hy => .inl hy)).step (H2.out.2.1.mono (T := F1) (by simp) |>.trans f3) (fun y hy => by
    rcases H1.out.2.1 y hy with k | k
    · exact .inl k
    · right
      have := H.out.2.2.2.2.2.2
      omega)
  have hBF : B ∉ F1 := fun hm => by
    have k1 := H1.out.2.2.2.2
    rcases H1.out.2.1 B hm with k | k
    · have := H.out.2.2.2.2.2.1 B k; omega
    · have := H.out.2.2.2.2.2.2; omega
  have hb3 := f3.blk (H2.out.2.1.blk H1.out.2.2.2.1 (by simp)) hBF
  have cb3 := cell_of hb3 0
  simp only [List.getElem?_toArray, List.getElem?_cons_zero] at cb3
  have hnF : ∀ y ∈ F3, y ∈ F ∨ w.heap.size ≤ y := fun y hy => by
    have k0 := H.out.2.2.2.2.2.2
    have k3 := H1.out.1.size
    have k4 := H2.out.2.1.size
    rcases n3 y hy with k | k
    · rcases H1.out.2.1 y k with k2 | k2
      · exact .inl k2
      · right; omega
    · right; omega
  have hrd3 : lib.Rd w3 a cap b := rd_frE H.out.2.2.2.1.1 fAll H.out.2.2.2.1.2
  have hraw := raw_b p F3 _ a cap b w3 W3 hrd3 (fun hne x hx hm => by
    rcases hnF x hm with k | k
    · exact H.out.2.2.2.1.2 hne x hx k
    · have := rd_lt H.out.2.2.2.1.1 hne x hx; omega) (by
      rw [List.length_append, padTo8_length, bytesBits_length, H2.out.2.2, ← H.out.2.2.2.2.1]
      show (l.length + 3 + 7) / 8 * 8 + 8 * 4 + 8 * n ≤ _
      omega)
  have hp8 : padTo8 (padTo8 (l ++ last :: lsb 2 0) ++ bytesBits (shead n)) ++ bytesBits b = storedBits l last b := by
    rw [padTo8_of _ (by rw [List.length_append, padTo8_length, bytesBits_length]; omega), storedBits, ← H.out.2.2.2.2.1]
  rw [hp8, ← H.out.2.2.2.2.1] at hraw
  unfold WbPost at hraw
  have H3 := Lib.hid (And.intro hraw (And.intro fAll hnF))
  clear hraw fAll hnF hrd3 hp8 f3 n3 W3 hb3 cb1
  go_wp2_with (go_at_call 99; refine H3.out.1.mono ?_; rintro e w4 ⟨rfl, f4, F4, W4, n4⟩)
  go_end0
  unfold WbPost
  refine ⟨rfl, H3.out.2.1.step f4 H3.out.2.2, F4, W4, fun y hy => ?_⟩
  rcases n4 y hy with k | k
  · exact H3.out.2.2 y k
  · exact .inr (Nat.le_trans H3.out.2.1.size k)
end Go.Proofs.Ytolkoidbkaidkaa.defl
