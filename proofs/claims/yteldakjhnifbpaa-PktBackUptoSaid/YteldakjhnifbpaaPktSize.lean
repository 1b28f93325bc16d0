/-
  pkt.size: what four digits say.
-/
import Derived.Test.YteldakjhnifbpaaPktLaw
import Derived.Test.YteldakjhnifbpaaBitsInt
import Derived.Test.YteldakjhnifbpaaTail
import Derived.Test.YteldakjhnifbpaaMix
import Derived.Deep.DeepCutAuto
import Derived.Deep.CutBlock
import Derived.Deep.CondSized
import Derived.ScopeJumps
import Derived.WalkMore
namespace Go.Proofs.Yteldakjhnifbpaa.pkt
open Go Go.RowKit Go.Proofs.Yteldakjhnifbpaa.lib Go.Proofs.Yteldakjhnifbpaa.bm

theorem or16 (n v : Nat) (hn : n < 65536) (hv : v < 16) : bits .or .i64 (wrap64 ((n : Int) * 16)) (v : Int) = ((16 * n + v : Nat) : Int) := by
  have e : wrap64 ((n : Int) * 16) = (n : Int) * ((2 ^ 4 : Nat) : Int) := by simp only [wrap64]; omega
  rw [e, i64_put n v 4 (by decide) hv (by omega)]
  omega
def sz (bs : List UInt8) : Nat × Bool := match num bs with
  | some n => if n = 3 ∨ n = 4 then (0, false) else (n, true)
  | none => (0, false)
theorem sz_none {bs : List UInt8} (h : num bs = none) : sz bs = (0, false) := by unfold sz; rw [h]
theorem sz_bad {bs : List UInt8} {n : Nat} (h : num bs = some n) (hn : n = 3 ∨ n = 4) : sz bs = (0, false) := by unfold sz; rw [h]; exact if_pos hn
theorem sz_good {bs : List UInt8} {n : Nat} (h : num bs = some n) (hn : ¬(n = 3 ∨ n = 4)) : sz bs = (n, true) := by unfold sz; rw [h]; exact if_neg hn
set_option maxRecDepth 100000 in
set_option maxHeartbeats 2000000 in
theorem size_all (ao : Option Addr) (cap : Nat) (bs : List UInt8) (w : World) (h4 : 4 ≤ bs.length) (hle : bs.length ≤ cap) (hcap : cap ≤ 9223372036854775807) (hcs : Cs w ao (bs.map bv)) :
    Calls Try.prog 19 #[.slice ao bs.length cap] w fun e w' => e = .returned (.tuple #[.int .i64 (sz bs).1, .bool (sz bs).2]) ∧ w = w' := by
  obtain ⟨g, o, rfl, hc⟩ := hcs.at (by simp; omega)
  have hc' : ∀ i, i < 4 → w.cell? ⟨g, o + i, none⟩ = some (bv (bs.getD i 0)) := fun i hi => hc i _ (by simp [List.getD, show i < bs.length from by omega])
  have Hc := Lib.hid hc'
  clear hc hc' hcs
  go_enter Try.func19, Try.ntmps19
  go_wp2
  refine wp_scope_jumps 0 (fun a' w' => w = w' ∧ sz bs = (0, false) ∧ ∃ u2 u3 u4 u5 u6 u7 u8 u9 u10 u11 u12 u13 u14 u15 u16 u17 u18 u19 u20 u21 u22 u23 u24 u25 u26 u27 u28 u29 u30 u31 u32 u33 u34 u35 u36 u37 u38 u39 u40 u41 u42 u43 u44 u45 u46 u47 : Value, a' = { tmps := #[.slice (some ⟨g, o, none⟩) bs.length cap, undef, u2, u3, u4, u5, u6, u7, u8, u9, u10, u11, u12, u13, u14, u15, u16, u17, u18, u19, u20, u21, u22, u23, u24, u25, u26, u27, u28, u29, u30, u31, u32, u33, u34, u35, u36, u37, u38, u39, u40, u41, u42, u43, u44, u45, u46, u47], defers := [] }) (fun _ _ => 0) rfl ?_ ?_
  · go_wp2
    go_loopg [2, 9] 4 (fun k s2 s9 wr => ∃ (i n : Nat), i + k = 4 ∧ s9 = .int .i64 i ∧ s2 = .int .i64 n ∧ n < 16 ^ i ∧ digs n ((bs.take 4).drop i) = num bs ∧ w = wr)
    case atStart => exact ⟨0, 0, rfl, rfl, rfl, by decide, rfl, rfl⟩
    case round =>
      obtain ⟨i, n, hi, rfl, rfl, hn, hd, rfl⟩ := hrel
      by_cases hi4 : i < 4
      · have hn4 : n < 4096 := by
          have : 16 ^ i ≤ 16 ^ 3 := Nat.pow_le_pow_right (by decide) (by omega)
          have e : (16 : Nat) ^ 3 = 4096 := by decide
          omega
        have hdr : (bs.take 4).drop i = bs.getD i 0 :: (bs.take 4).drop (i + 1) := by
          rw [List.drop_eq_getElem_cons (by simp; omega)]
          congr 1
          simp [List.getD, show i < bs.length from by omega]
        rw [hdr] at hd
        have c0 := Hc.out i hi4
        have hb := UInt8.toNat_lt (bs.getD i 0)
        unfold bv at c0
        generalize hx : bs.getD i 0 = x at *
        have Hd := Lib.hid hd
        have Hn := Lib.hid hn
        obtain ⟨xn, hxn⟩ : ∃ xn, x.toNat = xn := ⟨_, rfl⟩
        have Hx := Lib.hid hxn
        rw [hxn] at c0 hb
        clear hd hn hx hdr hxn
        by_cases h1 : 48 ≤ xn ∧ xn ≤ 57
        · have b1 : decide ((48 : Int) ≤ xn) = true := by simp; omega
          have b2 : decide ((xn : Int) ≤ 57) = true := by simp; omega
          have b3 : ((xn : Int) - 48) % 256 = ((xn - 48 : Nat) : Int) := by omega
          have e1 : digit x = some (xn - 48) := by unfold digit; rw [Hx.out, if_pos h1]
          have HE := Lib.hid (And.intro e1 (or16 n (xn - 48) (by omega) (by omega)))
          clear e1
          go_wp2
          go_roundg (4 - (i + 1))
          case measure => omega
          case rel =>
            have hd := Hd.out
            rw [digs, HE.out.1] at hd
            refine ⟨i + 1, 16 * n + (xn - 48), by omega, by go_num, ?_, ?_, hd, rfl⟩
            · rw [← HE.out.2]
              congr 2 <;> first | omega | (simp only [wrap64]; omega)
            · have := Hn.out
              rw [Nat.pow_succ]
              omega
        · by_cases h2 : 97 ≤ xn ∧ xn ≤ 102
          · have b1 : decide ((48 : Int) ≤ xn) = true := by simp; omega
            have b2 : decide ((xn : Int) ≤ 57) = false := by simp; omega
            have b4 : decide ((97 : Int) ≤ xn) = true := by simp; omega
            have b5 : decide ((xn : Int) ≤ 102) = true := by simp; omega
            have b3 : ((xn : Int) - 97) % 256 = ((xn - 97 : Nat) : Int) := by omega
            have e1 : digit x = some (xn - 87) := by unfold digit; rw [Hx.out, if_neg h1, if_pos h2]
            have HE := Lib.hid (And.intro e1 (or16 n (xn - 87) (by omega) (by omega)))
            clear e1
            go_wp2
            go_roundg (4 - (i + 1))
            case measure => omega
            case rel =>
              have hd := Hd.out
              rw [digs, HE.out.1] at hd
              refine ⟨i + 1, 16 * n + (xn - 87), by omega, by go_num, ?_, ?_, hd, rfl⟩
              · rw [← HE.out.2]
                congr 2 <;> first | omega | (simp only [wrap64]; omega)
              · have := Hn.out
                rw [Nat.pow_succ]
                omega
          · have e1 : num bs = none := by
              rw [← Hd.out, digs]
              unfold digit
              rw [Hx.out, if_neg h1, if_neg h2]
            have HE := Lib.hid e1
            clear e1
            by_cases h3 : 48 ≤ xn
            · have b1 : decide ((48 : Int) ≤ xn) = true := by simp; omega
              have b2 : decide ((xn : Int) ≤ 57) = false := by simp; omega
              by_cases h4 : 97 ≤ xn
              · have b4 : decide ((97 : Int) ≤ xn) = true := by simp; omega
                have b5 : decide ((xn : Int) ≤ 102) = false := by simp; omega
                go_wp2
                go_step3
                exact ⟨rfl, rfl, sz_none HE.out, _, _, _, _, _, _, _, _, _, _, _, _, _, _, _, _, _, _, _, _, _, _, _, _, _, _, _, _, _, _, _, _, _, _, _, _, _, _, _, _, _, _, _, _, _, _, rfl⟩
              · have b4 : decide ((97 : Int) ≤ xn) = false := by simp; omega
                go_wp2
                go_step3
                exact ⟨rfl, rfl, sz_none HE.out, _, _, _, _, _, _, _, _, _, _, _, _, _, _, _, _, _, _, _, _, _, _, _, _, _, _, _, _, _, _, _, _, _, _, _, _, _, _, _, _, _, _, _, _, _, _, rfl⟩
            · have b1 : decide ((48 : Int) ≤ xn) = false := by simp; omega
              have b4 : decide ((97 : Int) ≤ xn) = false := by simp; omega
              go_wp2
              go_step3
              exact ⟨rfl, rfl, sz_none HE.out, _, _, _, _, _, _, _, _, _, _, _, _, _, _, _, _, _, _, _, _, _, _, _, _, _, _, _, _, _, _, _, _, _, _, _, _, _, _, _, _, _, _, _, _, _, _, rfl⟩
      · obtain rfl : i = 4 := by omega
        rw [List.drop_eq_nil_of_le (by simp; omega), digs] at hd
        by_cases hn3 : n = 3
        · subst hn3
          go_wp2
          go_step3
          exact ⟨rfl, rfl, sz_bad hd.symm (.inl rfl), _, _, _, _, _, _, _, _, _, _, _, _, _, _, _, _, _, _, _, _, _, _, _, _, _, _, _, _, _, _, _, _, _, _, _, _, _, _, _, _, _, _, _, _, _, _, rfl⟩
        · by_cases hn4 : n = 4
          · subst hn4
            go_wp2
            go_step3
            exact ⟨rfl, rfl, sz_bad hd.symm (.inr rfl), _, _, _, _, _, _, _, _, _, _, _, _, _, _, _, _, _, _, _, _, _, _, _, _, _, _, _, _, _, _, _, _, _, _, _, _, _, _, _, _, _, _, _, _, _, _, rfl⟩
          · have b3 : ((n : Int) == 3) = false := by simp; omega
            have b4 : ((n : Int) == 4) = false := by simp; omega
            have e := sz_good hd.symm (by omega)
            have HE := Lib.hid e
            clear hd e
            go_wp2
            simp only [Exit.jump]
            go_ret2
            rw [HE.out]
            exact ⟨rfl, rfl⟩
  · rintro a' w' ⟨rfl, hz, u2, u3, u4, u5, u6, u7, u8, u9, u10, u11, u12, u13, u14, u15, u16, u17, u18, u19, u20, u21, u22, u23, u24, u25, u26, u27, u28, u29, u30, u31, u32, u33, u34, u35, u36, u37, u38, u39, u40, u41, u42, u43, u44, u45, u46, u47, rfl⟩
    go_wp2
    simp only [Exit.jump]
    go_ret2
    rw [hz]
    exact ⟨rfl, rfl⟩
end Go.Proofs.Yteldakjhnifbpaa.pkt
