/-
  delta.word, find.
-/
import Derived.Test.YtoplgcikcanagaaDeltaCp
namespace Go.Proofs.Ytoplgcikcanagaa.delta
open Go Go.RowKit Go.Proofs.Ytoplgcikcanagaa.lib Go.Proofs.Ytoplgcikcanagaa.bm

/-- Some number of 64 bits. -/
def U64 (v : Value) : Prop := ∃ h : Int, v = .int .u64 h ∧ (Lit.int .u64 h).wf = true
theorem u64_wrap (x : Int) : U64 (.int .u64 (IntKind.u64.wrap x)) := by
  refine ⟨_, rfl, ?_⟩
  simp only [Lit.wf, Bool.and_eq_true, decide_eq_true_eq]
  have e : IntKind.u64.wrap x = x % 18446744073709551616 := by simp [IntKind.wrap, IntKind.signed, IntKind.bits]
  rw [e]
  have h1 : IntKind.u64.min = 0 := rfl
  have h2 : IntKind.u64.max = 18446744073709551615 := rfl
  rw [h1, h2]
  omega
set_option maxRecDepth 100000 in
set_option maxHeartbeats 4000000 in
theorem word_all (a : Option Addr) (cap : Nat) (bs : List UInt8) (w : World) (h : Rd w a cap bs) (h16 : 16 ≤ bs.length) :
    Calls Try.prog 21 #[.slice a bs.length cap] w fun e w' => w = w' ∧ ∃ v, e = .returned v ∧ U64 v := by
  have hle := h.le
  have hmax := h.max
  unfold maxLen at hmax
  have H := Lib.hid (h.take 16)
  have hl : (bs.take 16).length = 16 := by rw [List.length_take]; omega
  have HL := Lib.hid hl
  clear h hl
  go_enter Try.func21, Try.ntmps21
  go_upto_block 0 with (refine wpList_slice_to sliceU8 16 rfl _ _ rfl a bs.length cap _ rfl rfl rfl (by omega) ?_)
  go_wp2
  go_loopg [3, 5, 9] 16 (fun k s3 s5 s9 wr => ∃ (i : Nat) (x : Int), i + k = 16 ∧ s9 = .int .i64 (i : Nat) ∧ s3 = .int .u64 x ∧ U64 (.int .u64 x) ∧ w = wr)
  case atStart => exact ⟨0, _, rfl, rfl, rfl, ⟨_, rfl, by decide⟩, rfl⟩
  case round =>
    obtain ⟨i, x, hi, rfl, rfl, hu, rfl⟩ := hrel
    have HU := Lib.hid hu
    clear hu
    by_cases hi16 : i < 16
    · obtain ⟨g, o, rfl, c0⟩ := H.out.at (i := i) (by rw [HL.out]; exact hi16)
      go_wp2
      go_roundg (16 - (i + 1))
      case measure => omega
      case rel => exact ⟨i + 1, _, by omega, by go_num, rfl, u64_wrap _, rfl⟩
    · go_wp2
      go_ret
      exact ⟨rfl, _, rfl, HU.out⟩

/-! ### find -/
/-- From p on in the base and from i on in the text k bytes are alike. -/
def Match (base text : List UInt8) (p i k : Nat) : Prop := p + k ≤ base.length ∧ i + k ≤ text.length ∧ (base.drop p).take k = (text.drop i).take k
theorem match_zero {base text : List UInt8} {p i : Nat} (hp : p ≤ base.length) (hi : i ≤ text.length) : Match base text p i 0 := ⟨hp, hi, by simp⟩
theorem match_succ {base text : List UInt8} {p i k : Nat} (h : Match base text p i k) (hp : p + k < base.length) (hi : i + k < text.length) (e : base[p + k] = text[i + k]) : Match base text p i (k + 1) := by
  refine ⟨by omega, by omega, ?_⟩
  rw [List.take_add_one, List.take_add_one, h.2.2]
  congr 1
  simp [hp, hi, e]
/-- Ahead of p in the base and ahead of i in the text b bytes are alike. -/
def Back (base text : List UInt8) (p i b : Nat) : Prop := b ≤ p ∧ b ≤ i ∧ p ≤ base.length ∧ i ≤ text.length ∧ (base.drop (p - b)).take b = (text.drop (i - b)).take b
theorem back_zero {base text : List UInt8} {p i : Nat} (hp : p ≤ base.length) (hi : i ≤ text.length) : Back base text p i 0 := ⟨Nat.zero_le _, Nat.zero_le _, hp, hi, by simp⟩
theorem back_succ {base text : List UInt8} {p i b : Nat} (h : Back base text p i b) (hp : b < p) (hi : b < i) (h1 : p - b - 1 < base.length) (h2 : i - b - 1 < text.length) (e : base[p - b - 1] = text[i - b - 1]) : Back base text p i (b + 1) := by
  obtain ⟨_, _, h3, h4, h5⟩ := h
  refine ⟨hp, hi, h3, h4, ?_⟩
  rw [show p - (b + 1) = p - b - 1 from by omega, show i - (b + 1) = i - b - 1 from by omega, List.drop_eq_getElem_cons h1, List.drop_eq_getElem_cons h2, List.take_succ_cons, List.take_succ_cons, e, show p - b - 1 + 1 = p - b from by omega, show i - b - 1 + 1 = i - b from by omega, h5]
def Found (base text : List UInt8) (i wait p b n : Nat) : Prop := (n = 0 ∧ b = 0 ∧ p = 0) ∨ (16 ≤ n ∧ Match base text p i n ∧ b ≤ wait ∧ Back base text p i b)
set_option maxRecDepth 100000 in
set_option maxHeartbeats 8000000 in
theorem find_all (a b pa : Option Addr) (cap capb pc : Nat) (base text : List UInt8) (ps : List Nat) (i wait : Nat) (w : World) (hb : Rd w a cap base) (ht : Rd w b capb text) (hps : Cs w pa (ps.map fun p => .int .i64 (p : Nat))) (hle : ps.length ≤ pc)
    (hp : ∀ p ∈ ps, p ≤ base.length) (hi : i ≤ text.length) (hw : wait ≤ i) (hlb : base.length ≤ 2199023255552) (hlt : text.length ≤ 2199023255552) (hpl : ps.length ≤ 2199023255552) :
    Calls Try.prog 22 #[.slice a base.length cap, .slice b text.length capb, .slice pa ps.length pc, .int .i64 (i : Nat), .int .i64 (wait : Nat)] w fun e w' => ∃ p k n : Nat, e = .returned (.tuple #[.int .i64 (p : Nat), .int .i64 (k : Nat), .int .i64 (n : Nat)]) ∧ Found base text i wait p k n ∧ Fr [] w w' := by
  obtain ⟨BL, hBL⟩ : ∃ BL, BL = base.length := ⟨_, rfl⟩
  obtain ⟨TL, hTL⟩ : ∃ TL, TL = text.length := ⟨_, rfl⟩
  obtain ⟨PL, hPL⟩ : ∃ PL, PL = ps.length := ⟨_, rfl⟩
  have H := Lib.hid (And.intro hb (And.intro ht (And.intro hps hp)))
  have HLn := Lib.hid (And.intro hBL (And.intro hTL hPL))
  rw [← hBL, ← hTL, ← hPL]
  rw [← hBL] at hlb
  rw [← hTL] at hlt hi
  rw [← hPL] at hpl hle
  clear hb ht hps hp hBL hTL hPL
  go_enter Try.func22, Try.ntmps22
  go_wp2
  go_loopg [10, 11, 12, 14, 15, 16, 19] PL (fun k s10 s11 s12 s14 s15 s16 s19 wr => ∃ j p b n : Nat, j + k = PL ∧ s19 = .int .i64 (j : Nat) ∧ s10 = .int .i64 (p : Nat) ∧ s11 = .int .i64 (b : Nat) ∧ s12 = .int .i64 (n : Nat) ∧ Found base text i wait p b n ∧ n ≤ TL ∧ b ≤ wait ∧ Fr [] w wr)
  case atStart => exact ⟨0, 0, 0, 0, by omega, rfl, rfl, rfl, rfl, .inl ⟨rfl, rfl, rfl⟩, Nat.zero_le _, Nat.zero_le _, Fr.refl _ _⟩
  case round =>
    obtain ⟨j, p, bk, n, hj, rfl, rfl, rfl, rfl, hf, hn, hbk, hfr⟩ := hrel
    have F := Lib.hid (And.intro hf hfr)
    clear hf hfr
    obtain ⟨wo, rfl⟩ : ∃ wo : World, wo = wr := ⟨_, rfl⟩
    by_cases hjp : j < PL
    · have hjl : j < ps.length := by rw [← HLn.out.2.2]; exact hjp
      obtain ⟨g, o, rfl, hc⟩ := H.out.2.2.1.at (by rw [List.length_map]; omega)
      have c0 := F.out.2.cell (hc j (.int .i64 (ps[j] : Nat)) (by simp [hjl])) (by simp)
      have hpb := H.out.2.2.2 ps[j] (List.getElem_mem hjl)
      rw [← HLn.out.1] at hpb
      obtain ⟨v, hv⟩ : ∃ v, v = ps[j] := ⟨_, rfl⟩
      rw [← hv] at c0 hpb
      clear hc hv hjl
      go_upto_block 2 with fail
      clear c0
      go_cut [15] from 23 to 54 (fun s15 wz => ∃ k : Nat, s15 = .int .i64 (k : Nat) ∧ Match base text v i k ∧ Fr [] wo wz)
      case first =>
        go_wp2
        go_loopg [15] (BL + 1) (fun kk s15 w2 => ∃ k : Nat, k + kk = BL + 1 ∧ s15 = .int .i64 (k : Nat) ∧ Match base text v i k ∧ Fr [] wo w2)
        case atStart => exact ⟨0, by omega, rfl, match_zero (by rw [← HLn.out.1]; exact hpb) (by rw [← HLn.out.2.1]; exact hi), Fr.refl _ _⟩
        case round =>
          obtain ⟨k, hk, rfl, hm, hfr⟩ := hrel
          have hm1 := hm.1
          have hm2 := hm.2.1
          rw [← HLn.out.1] at hm1
          rw [← HLn.out.2.1] at hm2
          have M := Lib.hid (And.intro hm hfr)
          have HKK := Lib.hid hk
          clear hm hfr hk
          obtain ⟨m1, e1⟩ : ∃ m1, m1 = v + k := ⟨_, rfl⟩
          obtain ⟨m2, e2⟩ : ∃ m2, m2 = i + k := ⟨_, rfl⟩
          have w1 : IntKind.i64.wrap ((v : Int) + (k : Int)) = (m1 : Int) := by rw [IntKind.wrap_i64]; omega
          have w2 : IntKind.i64.wrap ((i : Int) + (k : Int)) = (m2 : Int) := by rw [IntKind.wrap_i64]; omega
          have HE := Lib.hid (And.intro e1 e2)
          have l1 : m1 ≤ BL := by omega
          have l2 : m2 ≤ TL := by omega
          have hkb : k ≤ BL := by omega
          clear e1 e2 hm1 hm2
          by_cases c1 : m1 < BL
          · have d1 : decide (m1 < BL) = true := by simpa using c1
            by_cases c2 : m2 < TL
            · have d2 : decide (m2 < TL) = true := by simpa using c2
              have hl1 : m1 < base.length := by rw [← HLn.out.1]; exact c1
              have hl2 : m2 < text.length := by rw [← HLn.out.2.1]; exact c2
              obtain ⟨g1, o1, ra, X1⟩ := H.out.1.at hl1
              obtain ⟨g2, o2, rb, X2⟩ := H.out.2.1.at hl2
              have x1 := (F.out.2.trans M.out.2).cell X1 (by simp)
              have x2 := (F.out.2.trans M.out.2).cell X2 (by simp)
              clear X1 X2
              obtain ⟨y1, hy1⟩ : ∃ y, y = base[m1] := ⟨_, rfl⟩
              obtain ⟨y2, hy2⟩ : ∃ y, y = text[m2] := ⟨_, rfl⟩
              rw [← hy1] at x1
              rw [← hy2] at x2
              subst ra rb
              by_cases ce : y1 = y2
              · have HY := Lib.hid (show ∃ (h1 : m1 < base.length) (h2 : m2 < text.length), base[m1] = text[m2] from ⟨hl1, hl2, by rw [← hy1, ← hy2]; exact ce⟩)
                rw [← ce] at x2
                generalize y1.toNat = n1 at *
                clear hy1 hy2 ce hl1 hl2
                go_upto_region 5 with fail
                go_quiet (fail)
                clear x1 x2 w1 w2
                go_wp2
                go_roundg (BL + 1 - (k + 1))
                case measure => have := HKK.out; omega
                case rel =>
                  have e := HE.out
                  obtain ⟨y1, y2, hy⟩ := HY.out
                  refine ⟨k + 1, by have := HKK.out; omega, by go_num, match_succ M.out.1 (by rw [← e.1]; exact y1) (by rw [← e.2]; exact y2) ?_, M.out.2.trans (Fr.drewN [] _ _)⟩
                  simp only [e.1, e.2] at hy
                  exact hy
              · have hne : y1.toNat ≠ y2.toNat := fun h => ce (UInt8.toNat_inj.1 h)
                have d3 : (((y1.toNat : Nat) : Int) == ((y2.toNat : Nat) : Int)) = false := by simp; omega
                generalize y1.toNat = n1 at *
                generalize y2.toNat = n2 at *
                clear hy1 hy2 ce hl1 hl2 hne
                go_upto_region 5 with fail
                go_quiet (fail)
                clear x1 x2 w1 w2
                go_wp2
                go_meet
                exact ⟨k, rfl, M.out.1, M.out.2.trans (Fr.drewN [] _ _)⟩
            · have d2 : decide (m2 < TL) = false := by simpa using c2
              go_upto_region 5 with fail
              go_quiet (fail)
              clear w1 w2
              go_wp2
              go_meet
              exact ⟨k, rfl, M.out.1, M.out.2.trans (Fr.drewN [] _ _)⟩
          · have d1 : decide (m1 < BL) = false := by simpa using c1
            go_upto_region 5 with fail
            go_quiet (fail)
            clear w1 w2
            go_wp2
            go_meet
            exact ⟨k, rfl, M.out.1, M.out.2.trans (Fr.drewN [] _ _)⟩
      case rest =>
      obtain ⟨k, rfl, hmk, hfr⟩ := hcut
      have hk1 := hmk.1
      have hk2 := hmk.2.1
      rw [← HLn.out.1] at hk1
      rw [← HLn.out.2.1] at hk2
      have MK := Lib.hid (And.intro hmk (F.out.2.trans hfr))
      clear hmk hfr
      obtain ⟨w4, rfl⟩ : ∃ w4 : World, w4 = wc := ⟨_, rfl⟩
      go_upto_block 4 with fail
      go_cut [16] from 54 to 81 (fun s16 wz => ∃ b2 : Nat, s16 = .int .i64 (b2 : Nat) ∧ b2 ≤ wait ∧ Back base text v i b2 ∧ Fr [] w4 wz)
      case first =>
        go_wp2
        go_loopg [16] (wait + 1) (fun kk s16 w2 => ∃ b2 : Nat, b2 + kk = wait + 1 ∧ s16 = .int .i64 (b2 : Nat) ∧ b2 ≤ wait ∧ Back base text v i b2 ∧ Fr [] w4 w2)
        case atStart => exact ⟨0, by omega, rfl, Nat.zero_le _, back_zero (by rw [← HLn.out.1]; exact hpb) (by rw [← HLn.out.2.1]; exact hi), Fr.refl _ _⟩
        case round =>
          obtain ⟨b2, hk, rfl, hbw, hm, hfr⟩ := hrel
          have M := Lib.hid (And.intro hm hfr)
          have HKK := Lib.hid hk
          clear hm hfr hk
          by_cases c1 : b2 < wait
          · have d1 : decide (b2 < wait) = true := by simpa using c1
            by_cases c2 : b2 < v
            · have d2 : decide (b2 < v) = true := by simpa using c2
              obtain ⟨m0, e0⟩ : ∃ m0, m0 = v - b2 := ⟨_, rfl⟩
              obtain ⟨m1, e1⟩ : ∃ m1, m1 = v - b2 - 1 := ⟨_, rfl⟩
              obtain ⟨m3, e3⟩ : ∃ m3, m3 = i - b2 := ⟨_, rfl⟩
              obtain ⟨m2, e2⟩ : ∃ m2, m2 = i - b2 - 1 := ⟨_, rfl⟩
              have u0 : IntKind.i64.wrap ((v : Int) - (b2 : Int)) = (m0 : Int) := by rw [IntKind.wrap_i64]; omega
              have u1 : IntKind.i64.wrap ((m0 : Int) - 1) = (m1 : Int) := by rw [IntKind.wrap_i64]; omega
              have u3 : IntKind.i64.wrap ((i : Int) - (b2 : Int)) = (m3 : Int) := by rw [IntKind.wrap_i64]; omega
              have u2 : IntKind.i64.wrap ((m3 : Int) - 1) = (m2 : Int) := by rw [IntKind.wrap_i64]; omega
              have l1 : m1 < BL := by omega
              have l2 : m2 < TL := by omega
              have HE := Lib.hid (And.intro e1 e2)
              have hl1 : m1 < base.length := by rw [← HLn.out.1]; exact l1
              have hl2 : m2 < text.length := by rw [← HLn.out.2.1]; exact l2
              obtain ⟨g1, o1, ra, X1⟩ := H.out.1.at hl1
              obtain ⟨g2, o2, rb, X2⟩ := H.out.2.1.at hl2
              have x1 := (MK.out.2.trans M.out.2).cell X1 (by simp)
              have x2 := (MK.out.2.trans M.out.2).cell X2 (by simp)
              clear X1 X2 e0 e1 e2 e3
              obtain ⟨y1, hy1⟩ : ∃ y, y = base[m1] := ⟨_, rfl⟩
              obtain ⟨y2, hy2⟩ : ∃ y, y = text[m2] := ⟨_, rfl⟩
              rw [← hy1] at x1
              rw [← hy2] at x2
              subst ra rb
              by_cases ce : y1 = y2
              · have HY := Lib.hid (show ∃ (h1 : m1 < base.length) (h2 : m2 < text.length), base[m1] = text[m2] from ⟨hl1, hl2, by rw [← hy1, ← hy2]; exact ce⟩)
                rw [← ce] at x2
                generalize y1.toNat = n1 at *
                clear hy1 hy2 ce hl1 hl2
                go_upto_region 8 with fail
                go_quiet (fail)
                clear x1 x2 u0 u1 u2 u3
                go_wp2
                go_roundg (wait + 1 - (b2 + 1))
                case measure => have := HKK.out; omega
                case rel =>
                  have e := HE.out
                  obtain ⟨y1, y2, hy⟩ := HY.out
                  refine ⟨b2 + 1, by have := HKK.out; omega, by go_num, by omega, back_succ M.out.1 c2 (by omega) (by rw [← e.1]; exact y1) (by rw [← e.2]; exact y2) ?_, M.out.2.trans (Fr.drewN [] _ _)⟩
                  simp only [e.1, e.2] at hy
                  exact hy
              · have hne : y1.toNat ≠ y2.toNat := fun h => ce (UInt8.toNat_inj.1 h)
                have d3 : (((y1.toNat : Nat) : Int) == ((y2.toNat : Nat) : Int)) = false := by simp; omega
                generalize y1.toNat = n1 at *
                generalize y2.toNat = n2 at *
                clear hy1 hy2 ce hl1 hl2 hne
                go_upto_region 8 with fail
                go_quiet (fail)
                clear x1 x2 u0 u1 u2 u3
                go_wp2
                go_meet
                exact ⟨b2, rfl, hbw, M.out.1, M.out.2.trans (Fr.drewN [] _ _)⟩
            · have d2 : decide (b2 < v) = false := by simpa using c2
              go_upto_region 8 with fail
              go_quiet (fail)
              go_wp2
              go_meet
              exact ⟨b2, rfl, hbw, M.out.1, M.out.2.trans (Fr.drewN [] _ _)⟩
          · have d1 : decide (b2 < wait) = false := by simpa using c1
            go_upto_region 8 with fail
            go_quiet (fail)
            go_wp2
            go_meet
            exact ⟨b2, rfl, hbw, M.out.1, M.out.2.trans (Fr.drewN [] _ _)⟩
      case rest =>
      obtain ⟨b2, rfl, hbw, hback, hfr⟩ := hcut
      have MB := Lib.hid (And.intro hback (MK.out.2.trans hfr))
      clear hback hfr
      by_cases c1 : 16 ≤ k
      · have d1 : decide ((16 : Int) ≤ k) = true := by simp; omega
        by_cases c2 : bk + n < k + b2
        · have d2 : decide ((bk : Int) + n < (k : Int) + b2) = true := by simp; omega
          go_wp2
          go_roundg (PL - (j + 1))
          case measure => omega
          case rel => exact ⟨j + 1, v, b2, k, by omega, by go_num, rfl, rfl, rfl, .inr ⟨c1, MK.out.1, hbw, MB.out.1⟩, by omega, hbw, MB.out.2⟩
        · have d2 : decide ((bk : Int) + n < (k : Int) + b2) = false := by simp; omega
          go_wp2
          go_roundg (PL - (j + 1))
          case measure => omega
          case rel => exact ⟨j + 1, p, bk, n, by omega, by go_num, rfl, rfl, rfl, F.out.1, hn, hbk, MB.out.2⟩
      · have d1 : decide ((16 : Int) ≤ k) = false := by simp; omega
        go_wp2
        go_roundg (PL - (j + 1))
        case measure => omega
        case rel => exact ⟨j + 1, p, bk, n, by omega, by go_num, rfl, rfl, rfl, F.out.1, hn, hbk, MB.out.2⟩
    · obtain rfl : j = PL := by omega
      go_wp2
      go_ret3
      exact ⟨p, bk, n, rfl, F.out⟩
end Go.Proofs.Ytoplgcikcanagaa.delta
