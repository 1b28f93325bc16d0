/-
  stemmaref10.field, Apply, where all goes well.
-/
import Derived.Test.YtoplgcikcanagaaDeltaRef
import Derived.Test.YtoplgcikcanagaaDeltaApp
import Derived.Test.YtoplgcikcanagaaAppMid
namespace Go.Proofs.Ytoplgcikcanagaa.delta
open Go Go.RowKit Go.Proofs.Ytoplgcikcanagaa.lib Go.Proofs.Ytoplgcikcanagaa.bm

/-- A field of a copy's place or length. -/
def fld (op : Nat) : Nat → Nat → Nat → List UInt8 → Option (Nat × List UInt8)
  | 0, _, v, d => some (v, d)
  | f + 1, i, v, d => if op / 2 ^ i % 2 = 0 then fld op f (i + 1) v d else match d with
    | [] => none
    | c :: r => fld op f (i + 1) (v + c.toNat * 256 ^ i) r
theorem fld_skip {op f i v : Nat} {d : List UInt8} (h : op / 2 ^ i % 2 = 0) : fld op (f + 1) i v d = fld op f (i + 1) v d := by cases d <;> simp [fld, h]
theorem fld_nil {op f i v : Nat} (h : op / 2 ^ i % 2 = 1) : fld op (f + 1) i v [] = none := by simp [fld, h]
theorem fld_cons {op f i v : Nat} {c : UInt8} {r : List UInt8} (h : op / 2 ^ i % 2 = 1) : fld op (f + 1) i v (c :: r) = fld op f (i + 1) (v + c.toNat * 256 ^ i) r := by simp [fld, h]
theorem fld_congr {a b : Nat} : ∀ (f i v : Nat) (d : List UInt8), (∀ j, i ≤ j → j < i + f → a / 2 ^ j % 2 = b / 2 ^ j % 2) → fld a f i v d = fld b f i v d
  | 0, _, _, _, _ => rfl
  | f + 1, i, v, d, h => by
    have h0 := h i (Nat.le_refl _) (by omega)
    have h1 := fun v d => fld_congr f (i + 1) v d fun j h1 h2 => h j (by omega) (by omega)
    by_cases hb : a / 2 ^ i % 2 = 0
    · rw [fld_skip hb, fld_skip (by omega), h1]
    · have hb1 : a / 2 ^ i % 2 = 1 := by omega
      cases d with
      | nil => rw [fld_nil hb1, fld_nil (by omega)]
      | cons c r => rw [fld_cons hb1, fld_cons (by omega), h1]
theorem pl_hi (op p : Nat) : ∀ (f j n : Nat) (d : List UInt8), pl op f (j + 4) p n d = (fld (op / 16) f j n d).map fun x => (p, (if x.1 = 0 then 65536 else x.1), x.2)
  | 0, j, n, d => rfl
  | f + 1, j, n, d => by
    have e : op / 2 ^ (j + 4) % 2 = op / 16 / 2 ^ j % 2 := by rw [Nat.pow_add, Nat.mul_comm, ← Nat.div_div_eq_div_mul]
    by_cases hb : op / 2 ^ (j + 4) % 2 = 0
    · rw [pl_skip hb, fld_skip (by omega), show j + 4 + 1 = j + 1 + 4 from by omega, pl_hi op p f]
    · have hb1 : op / 2 ^ (j + 4) % 2 = 1 := by omega
      cases d with
      | nil => rw [pl_nil hb1, fld_nil (by omega)]; rfl
      | cons c r => rw [pl_cons hb1, fld_cons (by omega), if_neg (by omega), show j + 4 + 1 = j + 1 + 4 from by omega, pl_hi op p f, Nat.add_sub_cancel]
theorem pl_lo (op n : Nat) : ∀ (f i p : Nat) (d : List UInt8), f + i = 4 → pl op (f + 3) i p n d = (fld op f i p d).bind fun x => pl op 3 4 x.1 n x.2
  | 0, i, p, d, h => by
    obtain rfl : i = 4 := by omega
    rfl
  | f + 1, i, p, d, h => by
    by_cases hb : op / 2 ^ i % 2 = 0
    · rw [show f + 1 + 3 = f + 3 + 1 from by omega, pl_skip hb, fld_skip hb, pl_lo op n f _ _ _ (by omega)]
    · have hb1 : op / 2 ^ i % 2 = 1 := by omega
      cases d with
      | nil => rw [show f + 1 + 3 = f + 3 + 1 from by omega, pl_nil hb1, fld_nil hb1]; rfl
      | cons c r => rw [show f + 1 + 3 = f + 3 + 1 from by omega, pl_cons hb1, fld_cons hb1, if_pos (by omega), pl_lo op n f _ _ _ (by omega)]
theorem bit_mod (x : Nat) (m : Nat) : ∀ j, j < m → x % 2 ^ m / 2 ^ j % 2 = x / 2 ^ j % 2 := fun j hj => by
  have h1 := Nat.testBit_mod_two_pow x m j
  simp only [Nat.testBit, Nat.shiftRight_eq_div_pow] at h1
  have h2 : decide (j < m) = true := by simpa using hj
  rw [h2, Bool.true_and] at h1
  simp only [Nat.one_and_eq_mod_two] at h1
  have a := Nat.mod_two_eq_zero_or_one (x % 2 ^ m / 2 ^ j)
  have b := Nat.mod_two_eq_zero_or_one (x / 2 ^ j)
  rcases a with a | a <;> rcases b with b | b <;> rw [a, b] at h1 ⊢ <;> simp at h1
/-- The two fields of a copy that is whole. -/
theorem pl_fields {c p n : Nat} {d r : List UInt8} (hc : c < 256) (h128 : 128 ≤ c) (h : pl (c - 128) 7 0 0 0 d = some (p, n, r)) :
    ∃ m q, fld (c % 16) 4 0 0 d = some (p, q) ∧ fld (c / 16 % 8) 3 0 0 q = some (m, r) ∧ n = if m = 0 then 65536 else m := by
  have h1 := pl_lo (c - 128) 0 4 0 0 d rfl
  rw [show 4 + 3 = 7 from rfl, h] at h1
  have e1 : fld (c - 128) 4 0 0 d = fld (c % 16) 4 0 0 d := fld_congr 4 0 0 d fun j _ hj => by
    rw [show c % 16 = (c - 128) % 2 ^ 4 from by omega, bit_mod _ 4 j (by omega)]
  rw [e1] at h1
  cases hx : fld (c % 16) 4 0 0 d with
  | none => rw [hx] at h1; cases h1
  | some x =>
    rw [hx] at h1
    obtain ⟨p', q⟩ := x
    simp only [Option.bind_some] at h1
    have h2 := pl_hi (c - 128) p' 3 0 0 q
    rw [← h1] at h2
    have e2 : fld ((c - 128) / 16) 3 0 0 q = fld (c / 16 % 8) 3 0 0 q := fld_congr 3 0 0 q fun j _ hj => by
      rw [show c / 16 % 8 = ((c - 128) / 16) % 2 ^ 3 from by omega, bit_mod _ 3 j (by omega)]
    rw [e2] at h2
    cases hy : fld (c / 16 % 8) 3 0 0 q with
    | none => rw [hy] at h2; cases h2
    | some y =>
      rw [hy] at h2
      obtain ⟨m, r'⟩ := y
      simp only [Option.map_some, Option.some.injEq, Prod.mk.injEq] at h2
      obtain ⟨rfl, rfl, rfl⟩ := h2
      exact ⟨m, q, rfl, hy, rfl⟩
theorem add_bytes (n x i : Nat) (hi : i < 4) (hn : n < 256 ^ i) (hx : x < 256) : ∃ y, (n + y = n + x * 256 ^ i ∧ n + y < 256 ^ (i + 1)) ∧ n + y < 4294967296 ∧ wrap64 ((x : Int) * 2 ^ (8 * i)) = (y : Int) := by
  have hp : 2 ^ (8 * i) = 256 ^ i := by rw [Nat.pow_mul]
  have h4 : 256 ^ i ≤ 256 ^ 3 := Nat.pow_le_pow_right (by decide) (by omega)
  have e4 : 256 ^ 3 = 16777216 := by decide
  have h1 : x * 256 ^ i ≤ 255 * 256 ^ i := Nat.mul_le_mul_right _ (by omega)
  have h5 := pow256 i
  refine ⟨x * 256 ^ i, ⟨rfl, by omega⟩, by omega, ?_⟩
  have : (x : Int) * 2 ^ (8 * i) = ((x * 2 ^ (8 * i) : Nat) : Int) := by rw [Int.natCast_mul, Int.natCast_pow]; rfl
  rw [this, hp]
  generalize x * 256 ^ i = y at *
  simp only [wrap64]
  omega
theorem wrap_sum (x m : Nat) (h : x + m < 4294967296) : wrap64 ((x : Int) + (m : Int)) = (x : Int) + m := IntWalk.wrap64_in _ ⟨by omega, by omega⟩
def Fielded (w : World) (v : Nat) (r : List UInt8) (a0 : Option Addr) (cap : Nat) (d : List UInt8) (e : Ending) (w' : World) : Prop :=
  w = w' ∧ ∃ a c, e = .returned (.tuple #[.int .i64 (v : Nat), .slice a r.length c, .bool true]) ∧ (∀ wz, Rd wz a0 cap d → Rd wz a c r) ∧ v < 4294967296
set_option maxRecDepth 100000 in
set_option maxHeartbeats 4000000 in
theorem field_good (bt n v : Nat) (r : List UInt8) (a : Option Addr) (cap : Nat) (d : List UInt8) (w : World) (hn : n ≤ 4) (hbt : bt < 256) (h : Rd w a cap d) (hf : fld bt n 0 0 d = some (v, r)) :
    Calls Try.prog 24 #[.slice a d.length cap, .int .i64 bt, .int .i64 n] w (Fielded w v r a cap d) := by
  have H0 := Lib.hid (And.intro h hf)
  clear h hf
  go_enter Try.func24, Try.ntmps24
  go_wp2
  go_loopg [0, 9, 10] n (fun k s0 s9 s10 wr => ∃ i x a' c q, i + k = n ∧ s10 = .int .i64 (i : Nat) ∧ s9 = .int .i64 (x : Nat) ∧ s0 = .slice a' q.length c ∧ (∀ wz, Rd wz a cap d → Rd wz a' c q) ∧ x < 256 ^ i ∧ x < 4294967296 ∧ fld bt k i x q = some (v, r) ∧ w = wr)
  case atStart => exact ⟨0, 0, a, cap, d, by omega, rfl, rfl, rfl, fun _ h => h, by decide, by decide, H0.out.2, rfl⟩
  case round =>
    obtain ⟨i, x, ar, cr, q, hi, rfl, rfl, rfl, hrr, hx, hx32, hfl, rfl⟩ := hrel
    have hr := hrr w H0.out.1
    have hrl := hr.le
    have hmax := hr.max
    unfold maxLen at hmax
    have H := Lib.hid hr
    have HRR := Lib.hid hrr
    have HX := Lib.hid hx
    clear hrr hr hx
    by_cases hin : i < n
    · obtain ⟨k, rfl⟩ : ∃ k, gk = k + 1 := ⟨gk - 1, by omega⟩
      have hb : bits .and .i64 ((bt : Int) / 2 ^ i) 1 = ((bt / 2 ^ i % 2 : Nat) : Int) := (i64_mask _ 1 (by decide)).trans (by
        rw [Int.natCast_emod, Int.natCast_ediv, Int.natCast_pow]; rfl)
      by_cases hbit : bt / 2 ^ i % 2 = 0
      · rw [fld_skip hbit] at hfl
        rw [hbit] at hb
        have HPL := Lib.hid hfl
        clear hfl hbit
        go_wp2
        go_roundg k
        case measure => omega
        case rel => exact ⟨i + 1, x, ar, cr, q, by omega, by go_num, rfl, rfl, HRR.out, Nat.lt_of_lt_of_le HX.out (Nat.pow_le_pow_right (by decide) (by omega)), hx32, HPL.out, rfl⟩
      · have hbit1 : bt / 2 ^ i % 2 = 1 := by omega
        rw [hbit1] at hb
        cases q with
        | nil => rw [fld_nil hbit1] at hfl; cases hfl
        | cons y t =>
          rw [fld_cons hbit1] at hfl
          obtain ⟨g, o, rfl, hc⟩ := H.out.at (i := 0) (by simp)
          have hy : y.toNat < 256 := UInt8.toNat_lt y
          simp only [Nat.add_zero, List.getElem_cons_zero] at hc
          have hdr := fun wz (hz : Rd wz a cap d) => (HRR.out wz hz).drop 1 (by simp)
          simp only [List.drop_succ_cons, List.drop_zero] at hdr
          obtain ⟨yn, hyn⟩ : ∃ yn, yn = y.toNat := ⟨_, rfl⟩
          rw [← hyn] at hc hy hfl
          obtain ⟨m, hm, hm32, hw⟩ := add_bytes x yn i (by omega) HX.out hy
          rw [← hm.1] at hfl
          have HM := Lib.hid (And.intro hm (And.intro hfl hdr))
          simp only [List.length_cons] at hrl
          have hs : wrap64 ((x : Int) + (m : Int)) = (x : Int) + m := wrap_sum x m hm32
          have hi4 : i < 4 := by omega
          have HI := Lib.hid (And.intro hi hn)
          clear hyn hm hfl hbit hbit1 hdr hs hi hn
          go_wp2_with (refine wpList_slice_from sliceU8 1 rfl _ _ rfl (some ⟨g, o, none⟩) (t.length + 1) cr _ rfl rfl rfl (by omega) (by omega) ?_)
          go_roundg k
          case measure => omega
          case rel =>
            have hi := HI.out.1
            exact ⟨i + 1, x + m, _, _, t, by omega, by go_num, by first | go_num | (rw [wrap_sum x m hm32]; go_num), rfl, HM.out.2.2, HM.out.1.2, hm32, HM.out.2.1, rfl⟩
    · obtain rfl : i = n := by omega
      obtain rfl : gk = 0 := by omega
      simp only [fld, Option.some.injEq, Prod.mk.injEq] at hfl
      obtain ⟨rfl, rfl⟩ := hfl
      go_wp2
      go_ret3
      exact ⟨rfl, ar, cr, rfl, HRR.out, hx32⟩

end Go.Proofs.Ytoplgcikcanagaa.delta
