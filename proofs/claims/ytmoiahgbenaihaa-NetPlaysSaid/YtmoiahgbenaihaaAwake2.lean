/-
  stemmalaw2.awake: the fixed sentence of layer 2 holds.
-/
import Derived.Test.YtmoiahgbenaihaaNet4
import Derived.Test.YtmoiahgbenaihaaOps
import Derived.Lib.SlBytesConst
namespace Go.Proofs.Ytmoiahgbenaihaa.net
open Go Go.RowKit Go.Proofs.Ytmoiahgbenaihaa.lib

/-- A net that is all new. -/
def New (w wc : World) (p : Nat) (F : List Nat) (mtu most lost : Nat) (l : List Gr) : Prop := Nt wc p F mtu most lost l ∧ Fr [] w wc ∧ ∀ x ∈ F, w.heap.size ≤ x
theorem New.on {w w1 w2 : World} {p : Nat} {F F' : List Nat} {mtu most lost lost' : Nat} {l l' : List Gr} (h : New w w1 p F mtu most lost l) (hn : Nt w2 p F' mtu most lost' l') (f : Fr F w1 w2) (hF : ∀ x ∈ F', x ∈ F ∨ w1.heap.size ≤ x) : New w w2 p F' mtu most lost' l' :=
  ⟨hn, h.2.1.step f fun x hx => .inr (h.2.2 x hx), fun x hx => by
    rcases hF x hx with h1 | h1
    · exact h.2.2 x h1
    · exact Nat.le_trans h.2.1.size h1⟩
theorem New.fr {w w1 w2 : World} {p : Nat} {F S : List Nat} {mtu most lost : Nat} {l : List Gr} (h : New w w1 p F mtu most lost l) (f : Fr S w1 w2) (hn : ∀ x ∈ F, x ∉ S) (hS : ∀ x ∈ S, w.heap.size ≤ x) : New w w2 p F mtu most lost l :=
  ⟨nt_fr h.1 f hn, h.2.1.step f fun x hx => .inr (hS x hx), h.2.2⟩
def g1 (ao : Option Addr) (cap : Nat) : Gr := ⟨0, 1, ao, cap, [120]⟩
def g2 (ao : Option Addr) (cap : Nat) : Gr := ⟨1, 0, ao, cap, [121]⟩
theorem cs_byte (w : World) (b : UInt8) : Cs (w.alloc (.cells #[.int .u8 b.toNat] 5 (1, 2))) (some ⟨w.heap.size, 0, none⟩) ([b].map bv) :=
  .inr ⟨w.heap.size, 0, rfl, fun j u hj => by
    match j, hj with
    | 0, hj => rw [cell_of (alloc_at w _)]; simpa [bv] using hj⟩

set_option maxHeartbeats 2000000 in
set_option maxRecDepth 100000 in
theorem awake_any (w : World) : Calls Try.prog 11 #[] w fun e w' => e = .returned (.bool true) ∧ Fr [] w w' := by
  have kc := fun (w : World) (C : Array Value) (n c : Nat) => Lib.run_convert_bytes_const (P := Try.prog) w 29 5 C n c Try.underlying29 Try.underlying5
  go_enter Try.func11, Try.ntmps11
  go_upto_region 1 with fail
  go_cut [1, 2] (fun s1 s2 wc => s2 = .int .i64 0 ∧ ∃ p F, s1 = .pointer (some ⟨p, 0, none⟩) ∧ New w wc p F 64 2 0 [])
  case first =>
    go_wp2_with (go_at_call 6; refine (new_good 64 2 _ (by simp) (by simp) (by simp) (by simp)).mono ?_; rintro e w1 ⟨p, rfl, h1, fr1, hp⟩)
    go_meet
    exact ⟨rfl, p, _, rfl, h1, fr1, fun x hx => by simp at hx; omega⟩
  case rest =>
  obtain ⟨rfl, p, F, rfl, h⟩ := hcut
  go_upto_region 4 with fail
  go_cut [3] (fun s3 wc => s3 = .int .i64 0 ∧ ∃ F a c, New w wc p F 64 2 0 [g1 a c])
  case first =>
    have hn := nt_fr h.1 ((Fr.refl [] wc).alloc (.cells #[.int .u8 120] 5 (1, 2))) (by simp)
    have hcs : Cs (wc.alloc (.cells #[.int .u8 120] 5 (1, 2))) (some ⟨wc.heap.size, 0, none⟩) (([120] : List UInt8).map bv) := cs_byte wc 120
    have H := Lib.hid h
    clear h
    go_wp2_with (go_at_call 8; refine (send_good p F 64 2 0 [] 0 1 _ 1 [120] _ hn (by simp) (by simp) (by simp) (by simp) hcs (by simp) (by simp)).mono ?_; rintro e w1 ⟨rfl, F1, a, c, h1, fr1, hF1⟩)
    go_meet
    exact ⟨rfl, F1, a, c, (H.out.fr ((Fr.refl [] wc).alloc _) (by simp) (by simp)).on h1 fr1 hF1⟩
  case rest =>
  clear h
  obtain ⟨rfl, F, a1, k1, h⟩ := hcut
  go_upto_region 5 with fail
  go_cut [4] (fun s4 wc => s4 = .int .i64 0 ∧ ∃ F a c, New w wc p F 64 2 0 [g1 a1 k1, g2 a c])
  case first =>
    have hn := nt_fr h.1 ((Fr.refl [] wc).alloc (.cells #[.int .u8 121] 5 (1, 2))) (by simp)
    have hcs : Cs (wc.alloc (.cells #[.int .u8 121] 5 (1, 2))) (some ⟨wc.heap.size, 0, none⟩) (([121] : List UInt8).map bv) := cs_byte wc 121
    have H := Lib.hid h
    clear h
    go_wp2_with (go_at_call 8; refine (send_good p F 64 2 0 [g1 a1 k1] 1 0 _ 1 [121] _ hn (by simp) (by simp) (by simp) (by simp) hcs (by simp) (by simp)).mono ?_; rintro e w1 ⟨rfl, F1, a, c, h1, fr1, hF1⟩)
    go_meet
    exact ⟨rfl, F1, a, c, (H.out.fr ((Fr.refl [] wc).alloc _) (by simp) (by simp)).on h1 fr1 hF1⟩
  case rest =>
  clear h
  obtain ⟨rfl, F, a2, k2, h⟩ := hcut
  go_upto_region 6 with fail
  go_cut [5] (fun s5 wc => s5 = .int .i64 60 ∧ New w wc p F 64 2 1 [g1 a1 k1, g2 a2 k2])
  case first =>
    have H := Lib.hid h
    clear h
    go_wp2_with (go_at_call 8; refine (send_full p F 64 2 0 [g1 a1 k1, g2 a2 k2] 0 1 none 0 0 _ H.out.1 (by simp) (by simp) (by simp) (by simp) (by simp)).mono ?_; rintro e w1 ⟨rfl, h1, fr1⟩)
    go_meet
    exact ⟨rfl, H.out.on h1 fr1 fun x hx => .inl hx⟩
  case rest =>
  clear h
  obtain ⟨rfl, h⟩ := hcut
  go_upto_region 7 with fail
  go_cut [6, 7, 8, 9] (fun s6 s7 s8 s9 wc => s6 = .int .i64 0 ∧ s7 = .int .i64 1 ∧ s9 = .bool true ∧ ∃ a F, s8 = .slice a 1 1 ∧ Cs wc a (([120] : List UInt8).map bv) ∧ New w wc p F 64 2 1 [g2 a2 k2])
  case first =>
    have H := Lib.hid h
    clear h
    go_wp2_with (go_at_call 9; refine (take_good p F 64 2 1 [g1 a1 k1, g2 a2 k2] 0 _ H.out.1 (by simp)).mono ?_; rintro e w1 ⟨a, F1, rfl, f1, b1, h1, fr1, hF1⟩)
    go_meet
    exact ⟨rfl, rfl, rfl, a, F1, rfl, f1.cs, H.out.on h1 fr1 fun x hx => .inl (hF1 x hx)⟩
  case rest =>
  clear h
  obtain ⟨rfl, rfl, rfl, a, F, rfl, hcs, h⟩ := hcut
  have cv := run_conv wc Try.underlying29 Try.underlying5 Try.underlying9 (n := 1) rfl hcs
  have hst : str [120] = ⟨#[120]⟩ := rfl
  rw [hst] at cv
  have H := Lib.hid h
  clear h hst hcs
  go_upto_region 8 with fail
  go_wp2_with (first | (go_at_call 10; refine (lost_any p F 64 2 1 _ _ H.out.1).mono ?_; rintro e w1 ⟨rfl, rfl⟩) | (go_at_call 7; refine (len_any p F 64 2 1 _ _ H.out.1).mono ?_; rintro e w1 ⟨rfl, rfl⟩) | (go_at_call 15; refine (twice_good p F 64 2 1 [g2 a2 k2] 0 _ H.out.1 (by simp) (by simp)).mono ?_; rintro e w1 ⟨rfl, F1, h1, fr1, hF1⟩; have H1 := Lib.hid (H.out.on h1 fr1 hF1); clear h1 fr1 hF1 H) | (go_at_call 15; refine (twice_bad p F1 64 2 1 [g2 a2 k2, g2 a2 k2] 0 _ H1.out.1 (by simp)).mono ?_; rintro e w2 ⟨rfl, fr2⟩))
  go_ret
  exact ⟨rfl, H1.out.2.1.trans fr2⟩
end Go.Proofs.Ytmoiahgbenaihaa.net
