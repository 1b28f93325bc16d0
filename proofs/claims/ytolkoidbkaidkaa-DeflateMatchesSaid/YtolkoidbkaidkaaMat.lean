/-
  deflate.three, alike.
-/
import Derived.Test.YtolkoidbkaidkaaMatLaw
import Derived.Test.YtolkoidbkaidkaaRdMore
import Derived.Test.YtolkoidbkaidkaaBitsOps
import Derived.Deep.DeepCutAuto
import Derived.StillTailTactics
import Derived.Deep.LoopGhost
import Derived.Deep.CutBlock
namespace Go.Proofs.Ytolkoidbkaidkaa.mat
open Go Go.RowKit Go.Proofs.Ytolkoidbkaidkaa.lib Go.Proofs.Ytolkoidbkaidkaa.bm

theorem or8 (x y : Nat) (hx : x < 256) (hy : y < 256) : bits .or .u32 (x : Int) ((y : Int) * 256) = ((x + 256 * y : Nat) : Int) := by
  have h := u32_put x y 8 8 hx hy (by decide)
  rw [Int.emod_eq_of_lt (by omega) (by have e : (2 : Int) ^ 8 = 256 := rfl; rw [e]; omega)] at h
  exact h
theorem or16 (x y : Nat) (hx : x < 65536) (hy : y < 256) : bits .or .u32 (x : Int) ((y : Int) * 65536) = ((x + 65536 * y : Nat) : Int) := by
  have h := u32_put x y 16 8 hx hy (by decide)
  rw [Int.emod_eq_of_lt (by omega) (by have e : (2 : Int) ^ 16 = 65536 := rfl; rw [e]; omega)] at h
  exact h
theorem three_drop (b : List UInt8) (i : Nat) : three (b.drop i) 0 = three b i := by
  unfold three
  simp only [List.getElem?_drop, Nat.add_zero, Nat.zero_add]
set_option maxRecDepth 100000 in
theorem three_any (a : Option Addr) (cap : Nat) (d : List UInt8) (w : World) (h : Rd w a cap d) (h3 : 3 ≤ d.length) :
    Calls Try.prog 12 #[.slice a d.length cap] w fun e w' => e = .returned (.int .u32 (three d 0)) ∧ ∃ n, w' = w.drewN n := by
  obtain ⟨g, o, rfl, c0⟩ := h.at (i := 0) (by omega)
  obtain ⟨g1, o1, e1, c1⟩ := h.at (i := 1) (by omega)
  obtain ⟨g2, o2, e2, c2⟩ := h.at (i := 2) (by omega)
  simp only [Option.some.injEq, Addr.mk.injEq, and_true] at e1 e2
  obtain ⟨rfl, rfl⟩ := e1
  obtain ⟨rfl, rfl⟩ := e2
  have hle := h.le
  have b0 : (d[0]?.getD 0) = d[0] := by rw [List.getElem?_eq_getElem (by omega)]; rfl
  have b1 : (d[1]?.getD 0) = d[1] := by rw [List.getElem?_eq_getElem (by omega)]; rfl
  have b2 : (d[2]?.getD 0) = d[2] := by rw [List.getElem?_eq_getElem (by omega)]; rfl
  have ht : three d 0 = d[0].toNat + 256 * d[1].toNat + 65536 * d[2].toNat := by unfold three; rw [Nat.zero_add, Nat.zero_add, b0, b1, b2]
  have l0 := UInt8.toNat_lt d[0]
  have l1 := UInt8.toNat_lt d[1]
  have l2 := UInt8.toNat_lt d[2]
  rw [ht]
  generalize d[0].toNat = x0 at *
  generalize d[1].toNat = x1 at *
  generalize d[2].toNat = x2 at *
  have o1 := or8 x0 x1 (by omega) (by omega)
  obtain ⟨y, hy⟩ : ∃ y, y = x0 + 256 * x1 := ⟨_, rfl⟩
  rw [← hy] at o1
  have o2 := or16 y x2 (by omega) (by omega)
  rw [← hy]
  obtain ⟨z, hz⟩ : ∃ z, z = y + 65536 * x2 := ⟨_, rfl⟩
  rw [← hz] at o2 ⊢
  clear hy hz
  have g0 : (0 : Int) < (d.length : Int) := by omega
  have g1 : (1 : Int) < (d.length : Int) := by omega
  have g2 : (2 : Int) < (d.length : Int) := by omega
  simp only [Nat.add_zero] at c0
  clear h b0 b1 b2 ht
  go_enter Try.func12, Try.ntmps12
  go_wp2_with fail
  go_quiet (fail)
  go_wp2
  go_ret
  exact ⟨rfl, _, rfl⟩
theorem alikeF_stop {b : List UInt8} {i j f n : Nat} (h : ¬ (j + n < b.length ∧ b[i + n]? = b[j + n]?)) : alikeF b i j f n = n := by
  cases f with
  | zero => rfl
  | succ f => rw [alikeF, if_neg h]
set_option maxRecDepth 100000 in
set_option maxHeartbeats 4000000 in
theorem alike_any (a : Option Addr) (cap i j : Nat) (b : List UInt8) (w : World) (h : Rd w a cap b) (hij : i ≤ j) (hj : j ≤ b.length) :
    Calls Try.prog 13 #[.slice a b.length cap, .int .i64 i, .int .i64 j] w fun e w' => e = .returned (.int .i64 (alike b i j)) ∧ Fr [] w w' := by
  have hle := h.le
  have hmax := h.max
  unfold maxLen at hmax
  obtain ⟨L, hL⟩ : ∃ L, L = b.length := ⟨_, rfl⟩
  rw [← hL] at hle hj ⊢
  have H := Lib.hid (And.intro h hL)
  clear h hL
  go_enter Try.func13, Try.ntmps13
  go_upto_block 0 with fail
  go_wp2
  go_loopg [7] 258 (fun k s7 wr => ∃ n : Nat, s7 = .int .i64 (n : Nat) ∧ n + k = 258 ∧ j + n ≤ L ∧ alikeF b i j k n = alike b i j ∧ Fr [] w wr)
  case atStart => exact ⟨0, rfl, rfl, by omega, rfl, Fr.refl _ _⟩
  case round =>
    obtain ⟨n, rfl, hn, hjn, hal, hf⟩ := hrel
    have HF := Lib.hid (And.intro hal hf)
    clear hal hf
    obtain ⟨m1, hm1⟩ : ∃ m1, m1 = i + n := ⟨_, rfl⟩
    obtain ⟨m2, hm2⟩ : ∃ m2, m2 = j + n := ⟨_, rfl⟩
    have e1 : (i : Int) + (n : Int) = (m1 : Int) := by omega
    have e2 : (j : Int) + (n : Int) = (m2 : Int) := by omega
    have w1 : IntKind.i64.wrap ((i : Int) + (n : Int)) = (m1 : Int) := by rw [IntKind.wrap_i64]; omega
    have w2 : IntKind.i64.wrap ((j : Int) + (n : Int)) = (m2 : Int) := by rw [IntKind.wrap_i64]; omega
    have HE := Lib.hid (And.intro hm1 hm2)
    have l1 : m1 ≤ L := by omega
    have l2 : m2 ≤ L := by omega
    have l3 : m1 ≤ m2 := by omega
    by_cases hn258 : n < 258
    · obtain ⟨k, rfl⟩ : ∃ k, gk = k + 1 := ⟨gk - 1, by omega⟩
      have d0 : decide ((n : Int) < 258) = true := by simp; omega
      by_cases c2 : m2 < L
      · have d2 : decide (m2 < L) = true := by simpa using c2
        have d2' : decide ((m2 : Int) < L) = true := by simp; omega
        have hl1 : m1 < b.length := by rw [← H.out.2]; omega
        have hl2 : m2 < b.length := by rw [← H.out.2]; omega
        obtain ⟨g1, o1, ra, X1⟩ := H.out.1.at hl1
        obtain ⟨g2, o2, rb, X2⟩ := H.out.1.at hl2
        have rb' := rb
        rw [ra] at rb'
        simp only [Option.some.injEq, Addr.mk.injEq, and_true] at rb'
        obtain ⟨rfl, rfl⟩ := rb'
        have x1 := HF.out.2.cell X1 (by simp)
        have x2 := HF.out.2.cell X2 (by simp)
        clear X1 X2
        obtain ⟨y1, hy1⟩ : ∃ y, y = b[m1] := ⟨_, rfl⟩
        obtain ⟨y2, hy2⟩ : ∃ y, y = b[m2] := ⟨_, rfl⟩
        rw [← hy1] at x1
        rw [← hy2] at x2
        have q1 : b[m1]? = some y1 := by rw [hy1]; exact List.getElem?_eq_getElem hl1
        have q2 : b[m2]? = some y2 := by rw [hy2]; exact List.getElem?_eq_getElem hl2
        have i1 : (m1 : Int) < (L : Int) := by omega
        have i2 : (m2 : Int) < (L : Int) := by omega
        subst ra
        clear rb hy1 hy2
        by_cases ce : y1 = y2
        · have hst : alikeF b i j (k + 1) n = alikeF b i j k (n + 1) := by
            rw [alikeF, if_pos]
            exact ⟨by rw [← H.out.2, ← hm2]; exact c2, by rw [← hm1, ← hm2, q1, q2, ce]⟩
          have HS := Lib.hid (hst.symm.trans HF.out.1)
          rw [← ce] at x2
          generalize y1.toNat = n1 at *
          clear ce hl1 hl2 hm1 hm2 q1 q2 hst
          go_upto_region 2 with fail
          go_quiet (fail)
          clear x1 x2 w1 w2
          go_wp2
          go_roundg k
          case measure => omega
          case rel => exact ⟨n + 1, by go_num, by omega, by have := HE.out.2; omega, HS.out, HF.out.2.trans (Fr.drewN [] _ _)⟩
        · have hne : y1.toNat ≠ y2.toNat := fun h => ce (UInt8.toNat_inj.1 h)
          have hst : alikeF b i j (k + 1) n = n := alikeF_stop fun hc => by
            rw [← hm1, ← hm2, q1, q2] at hc
            exact ce (Option.some.inj hc.2)
          have HS := Lib.hid (hst.symm.trans HF.out.1)
          have d3 : (((y1.toNat : Nat) : Int) == ((y2.toNat : Nat) : Int)) = false := by simp; omega
          generalize y1.toNat = n1 at *
          generalize y2.toNat = n2 at *
          clear ce hl1 hl2 hne hm1 hm2 q1 q2 hst
          go_upto_region 2 with fail
          go_quiet (fail)
          clear x1 x2 w1 w2
          go_wp2
          go_ret
          exact ⟨by rw [← HS.out]; rfl, HF.out.2.trans (Fr.drewN [] _ _)⟩
      · have d2 : decide (m2 < L) = false := by simpa using c2
        have d2' : decide ((m2 : Int) < L) = false := by simp; omega
        have hst : alikeF b i j (k + 1) n = n := alikeF_stop fun hc => by
          have := hc.1
          rw [← H.out.2] at this
          omega
        have HS := Lib.hid (hst.symm.trans HF.out.1)
        clear hst hm1 hm2
        go_upto_region 2 with fail
        go_quiet (fail)
        clear w1 w2
        go_wp2
        go_ret
        exact ⟨by rw [← HS.out]; rfl, HF.out.2.trans (Fr.drewN [] _ _)⟩
    · obtain rfl : n = 258 := by omega
      obtain rfl : gk = 0 := by omega
      have HS := Lib.hid HF.out.1
      clear hm1 hm2
      go_upto_region 2 with fail
      go_quiet (fail)
      clear w1 w2
      go_wp2
      go_ret
      exact ⟨by rw [← HS.out]; rfl, HF.out.2.trans (Fr.drewN [] _ _)⟩
end Go.Proofs.Ytolkoidbkaidkaa.mat
