/-
  delta.place, Apply.
-/
import Derived.Test.YtoplgcikcanagaaDeltaNum
namespace Go.Proofs.Ytoplgcikcanagaa.delta
open Go Go.RowKit Go.Proofs.Ytoplgcikcanagaa.lib Go.Proofs.Ytoplgcikcanagaa.bm

theorem and1u8 (x : Nat) (h : x < 256) : bits .and .u8 ((x : Nat) : Int) 1 = ((x % 2 : Nat) : Int) := by
  have h1 : ∀ x : Fin 256, bits .and .u8 (x.1 : Int) 1 = ((x.1 % 2 : Nat) : Int) := by decide +kernel
  exact h1 ⟨x, h⟩
theorem pow256 (i : Nat) : 256 ^ (i + 1) = 256 * 256 ^ i := by rw [Nat.pow_succ, Nat.mul_comm]
theorem or_bytes (n x i : Nat) (hi : i < 4) (hn : n < 256 ^ i) (hx : x < 256) : ∃ m, (m = n + x * 256 ^ i ∧ m < 256 ^ (i + 1)) ∧ m < 4294967296 ∧ bits .or .i64 (n : Int) (wrap64 ((x : Int) * 2 ^ (8 * i))) = (m : Int) := by
  have hp : 2 ^ (8 * i) = 256 ^ i := by rw [Nat.pow_mul]
  have h4 : 256 ^ i ≤ 256 ^ 3 := Nat.pow_le_pow_right (by decide) (by omega)
  have e4 : 256 ^ 3 = 16777216 := by decide
  have hpos : 0 < 256 ^ i := Nat.pow_pos (by decide)
  have h1 : x * 256 ^ i ≤ 255 * 256 ^ i := Nat.mul_le_mul_right _ (by omega)
  have h5 := pow256 i
  refine ⟨n + x * 256 ^ i, ⟨rfl, by omega⟩, by omega, ?_⟩
  have e : wrap64 ((x : Int) * 2 ^ (8 * i)) = ((x * 2 ^ (8 * i) : Nat) : Int) := by
    have : (x : Int) * 2 ^ (8 * i) = ((x * 2 ^ (8 * i) : Nat) : Int) := by rw [Int.natCast_mul, Int.natCast_pow]; rfl
    rw [this, hp]
    generalize x * 256 ^ i = y at *
    simp only [wrap64]
    omega
  rw [e, or_shl n x (8 * i) (by rw [hp]; exact hn) (by rw [hp]; omega) (by omega), hp]
theorem pl_skip {op f i p n : Nat} {d : List UInt8} (h : op / 2 ^ i % 2 = 0) : pl op (f + 1) i p n d = pl op f (i + 1) p n d := by cases d <;> simp [pl, h]
theorem pl_nil {op f i p n : Nat} (h : op / 2 ^ i % 2 = 1) : pl op (f + 1) i p n [] = none := by simp [pl, h]
theorem pl_cons {op f i p n : Nat} {c : UInt8} {r : List UInt8} (h : op / 2 ^ i % 2 = 1) : pl op (f + 1) i p n (c :: r) = if i < 4 then pl op f (i + 1) (p + c.toNat * 256 ^ i) n r else pl op f (i + 1) p (n + c.toNat * 256 ^ (i - 4)) r := by simp [pl, h]
/-- What stands behind the place can be read in every world in which the whole can. -/
def Placed (w : World) (op : Nat) (a0 : Option Addr) (cap : Nat) (d : List UInt8) (e : Ending) (w' : World) : Prop :=
  w = w' ∧ ((pl op 7 0 0 0 d = none ∧ e = .returned (.tuple #[.int .i64 0, .int .i64 0, .slice none 0 0, .bool false])) ∨
    ∃ p n r a c, pl op 7 0 0 0 d = some (p, n, r) ∧ e = .returned (.tuple #[.int .i64 (p : Nat), .int .i64 (n : Nat), .slice a r.length c, .bool true]) ∧ (∀ wz, Rd wz a0 cap d → Rd wz a c r) ∧ p < 4294967296 ∧ n ≤ 16777216)
set_option maxRecDepth 100000 in
set_option maxHeartbeats 4000000 in
theorem place_all (op : Nat) (a : Option Addr) (cap : Nat) (d : List UInt8) (w : World) (hop : op < 256) (h : Rd w a cap d) : Calls Try.prog 17 #[.int .u8 op, .slice a d.length cap] w (Placed w op a cap d) := by
  have H0 := Lib.hid h
  clear h
  go_enter Try.func17, Try.ntmps17
  go_wp2
  go_loopg [1, 4, 5, 8, 9] 7 (fun k s1 s4 s5 s8 s9 wr => ∃ i p n a' c r, i + k = 7 ∧ s9 = .int .i64 (i : Nat) ∧ s4 = .int .i64 (p : Nat) ∧ s5 = .int .i64 (n : Nat) ∧ s1 = .slice a' r.length c ∧ (∀ wz, Rd wz a cap d → Rd wz a' c r) ∧ (i ≤ 4 → p < 256 ^ i) ∧ p < 4294967296 ∧ n < 256 ^ (i - 4) ∧ pl op k i p n r = pl op 7 0 0 0 d ∧ w = wr)
  case atStart => exact ⟨0, 0, 0, a, cap, d, rfl, rfl, rfl, rfl, rfl, fun _ h => h, fun _ => by decide, by decide, by decide, rfl, rfl⟩
  case round =>
    obtain ⟨i, p, n, ar, cr, r, hi, rfl, rfl, rfl, rfl, hrr, hp4, hp, hn, hpl, rfl⟩ := hrel
    have hr := hrr w H0.out
    have hrl := hr.le
    have H := Lib.hid hr
    have HRR := Lib.hid hrr
    clear hrr
    have hn3 : n < 16777216 := by
      have : 256 ^ (i - 4) ≤ 256 ^ 3 := Nat.pow_le_pow_right (by decide) (by omega)
      have e : 256 ^ 3 = 16777216 := by decide
      omega
    have HP := Lib.hid (And.intro hp4 hn)
    have hmax := hr.max
    unfold maxLen at hmax
    clear hr hp4 hn
    by_cases hi7 : i < 7
    · obtain ⟨k, rfl⟩ : ∃ k, gk = k + 1 := ⟨gk - 1, by omega⟩
      have hb := and1u8 (op / 2 ^ i) (Nat.lt_of_le_of_lt (Nat.div_le_self _ _) hop)
      have hq : ((op / 2 ^ i : Nat) : Int) = (op : Int) / 2 ^ i := by rw [Int.natCast_ediv, Int.natCast_pow]; rfl
      rw [hq] at hb
      clear hq
      by_cases hbit : op / 2 ^ i % 2 = 0
      · rw [pl_skip hbit] at hpl
        rw [hbit] at hb
        have HPL := Lib.hid hpl
        clear hpl hbit
        go_wp2
        go_roundg k
        case measure => omega
        case rel => exact ⟨i + 1, p, n, ar, cr, r, by omega, by go_num, rfl, rfl, rfl, HRR.out, fun h => Nat.lt_of_lt_of_le (HP.out.1 (by omega)) (Nat.pow_le_pow_right (by decide) (by omega)), hp, Nat.lt_of_lt_of_le HP.out.2 (Nat.pow_le_pow_right (by decide) (by omega)), HPL.out, rfl⟩
      · have hbit1 : op / 2 ^ i % 2 = 1 := by omega
        rw [hbit1] at hb
        have HPL := Lib.hid (And.intro hbit1 hpl)
        clear hpl hbit hbit1
        cases r with
        | nil =>
          go_wp2
          refine bodyPost_ret (results_tmp4 rfl _ _ _) rfl ?_
          exact ⟨rfl, .inl ⟨by rw [← HPL.out.2, pl_nil HPL.out.1], rfl⟩⟩
        | cons x t =>
          obtain ⟨g, o, rfl, hc⟩ := H.out.at (i := 0) (by simp)
          have hx : x.toNat < 256 := UInt8.toNat_lt x
          simp only [Nat.add_zero, List.getElem_cons_zero] at hc
          obtain ⟨xn, hxn⟩ : ∃ xn, xn = x.toNat := ⟨_, rfl⟩
          rw [← hxn] at hc hx
          have HX := Lib.hid hxn
          simp only [List.length_cons] at hrl
          clear hxn
          by_cases hi4 : i < 4
          · obtain ⟨m, hm, hm32, hor⟩ := or_bytes p xn i hi4 (HP.out.1 (by omega)) hx
            have HM := Lib.hid hm
            clear hm
            go_wp2_with (refine wpList_slice_from sliceU8 1 rfl _ _ rfl (some ⟨g, o, none⟩) (t.length + 1) cr _ rfl rfl rfl (by omega) (by omega) ?_)
            go_roundg k
            case measure => omega
            case rel =>
              have hpl := HPL.out.2
              rw [pl_cons HPL.out.1, if_pos hi4, ← HX.out, ← HM.out.1] at hpl
              exact ⟨i + 1, m, n, _, _, t, by omega, by go_num, rfl, rfl, rfl, fun wz hz => (HRR.out wz hz).drop 1 (by simp), fun _ => HM.out.2, hm32, Nat.lt_of_lt_of_le HP.out.2 (Nat.pow_le_pow_right (by decide) (by omega)), hpl, rfl⟩
          · obtain ⟨j, hj⟩ : ∃ j, i = j + 4 := ⟨i - 4, by omega⟩
            have hij : (i : Int) - 4 = (j : Int) := by omega
            obtain ⟨m, hm, hm32, hor⟩ := or_bytes n xn j (by omega) (by have := HP.out.2; rw [hj] at this; simpa using this) hx
            have HM := Lib.hid hm
            have HJ := Lib.hid hj
            clear hm hj
            go_wp2_with (refine wpList_slice_from sliceU8 1 rfl _ _ rfl (some ⟨g, o, none⟩) (t.length + 1) cr _ rfl rfl rfl (by omega) (by omega) ?_)
            go_roundg k
            case measure => omega
            case rel =>
              have hpl := HPL.out.2
              have e : i - 4 = j := by omega
              rw [pl_cons HPL.out.1, if_neg hi4, ← HX.out, e, ← HM.out.1] at hpl
              exact ⟨i + 1, p, m, _, _, t, by omega, by go_num, rfl, rfl, rfl, fun wz hz => (HRR.out wz hz).drop 1 (by simp), fun h => by omega, hp, by rw [show i + 1 - 4 = j + 1 from by omega]; exact HM.out.2, hpl, rfl⟩
    · obtain rfl : i = 7 := by omega
      obtain rfl : gk = 0 := by omega
      have HPL := Lib.hid hpl
      clear hpl
      by_cases hn0 : n = 0
      · subst hn0
        go_wp2
        refine bodyPost_ret (results_tmp4 rfl _ _ _) rfl ?_
        exact ⟨rfl, .inr ⟨p, 65536, r, ar, cr, by rw [← HPL.out, pl, if_pos rfl], rfl, HRR.out, hp, by decide⟩⟩
      · have hb : ((n : Int) == 0) = false := by simp; omega
        go_wp2
        refine bodyPost_ret (results_tmp4 rfl _ _ _) rfl ?_
        exact ⟨rfl, .inr ⟨p, n, r, ar, cr, by rw [← HPL.out, pl, if_neg hn0], rfl, HRR.out, hp, by omega⟩⟩

/-! ### Apply -/
theorem pl_len (op : Nat) : ∀ (f i p n : Nat) (d : List UInt8) (x : Nat × Nat × List UInt8), pl op f i p n d = some x → x.2.2.length ≤ d.length
  | 0, i, p, n, d, x, h => by simp [pl] at h; rw [← h]; exact Nat.le_refl _
  | f + 1, i, p, n, d, x, h => by
    by_cases hb : op / 2 ^ i % 2 = 0
    · rw [pl_skip hb] at h
      exact pl_len op f _ _ _ _ _ h
    · have hb1 : op / 2 ^ i % 2 = 1 := by omega
      cases d with
      | nil => rw [pl_nil hb1] at h; cases h
      | cons c r =>
        rw [pl_cons hb1] at h
        simp only [List.length_cons]
        split at h
        · have := pl_len op f _ _ _ _ _ h; omega
        · have := pl_len op f _ _ _ _ _ h; omega
theorem app_nil (base : List UInt8) (tn f : Nat) (out : List UInt8) : app base tn f [] out = if out.length < tn then ([], 3) else (out, 0) := by cases f <;> rfl
theorem app_cons (base : List UInt8) (tn f : Nat) (c : UInt8) (r out : List UInt8) : app base tn (f + 1) (c :: r) out = if 128 ≤ c.toNat then match pl (c.toNat - 128) 7 0 0 0 r with
      | none => ([], 4)
      | some (p, n, rest) => if base.length < p ∨ base.length - p < n ∨ tn - out.length < n then ([], 3) else app base tn f rest (out ++ (base.drop p).take n)
    else if c.toNat = 0 ∨ tn - out.length < c.toNat then ([], 3) else if r.length < c.toNat then ([], 4) else app base tn f (r.drop c.toNat) (out ++ r.take c.toNat) := rfl
def Applied (w : World) (base d : List UInt8) (bound : Int) (e : Ending) (w' : World) : Prop :=
  ∃ a, e = .returned (.tuple #[.slice a (delta.apply base d bound).1.length (delta.apply base d bound).1.length, .int .i64 (delta.apply base d bound).2]) ∧ Rd w' a (delta.apply base d bound).1.length (delta.apply base d bound).1 ∧
    (∀ x ∈ blk a, w.heap.size ≤ x ∧ x < w'.heap.size) ∧ Fr [] w w'
theorem applied_of {w w' : World} {base d out : List UInt8} {bound : Int} {x : Nat} {a : Option Addr} (h : delta.apply base d bound = (out, x)) (hr : Rd w' a out.length out) (hn : ∀ x ∈ blk a, w.heap.size ≤ x ∧ x < w'.heap.size) (f : Fr [] w w') :
    Applied w base d bound (.returned (.tuple #[.slice a out.length out.length, .int .i64 x])) w' := by
  unfold Applied
  rw [h]
  exact ⟨a, rfl, hr, hn, f⟩
theorem applied_err {w w' : World} {base d : List UInt8} {bound : Int} {x : Nat} (h : delta.apply base d bound = ([], x)) (f : Fr [] w w') :
    Applied w base d bound (.returned (.tuple #[.slice none 0 0, .int .i64 x])) w' := applied_of (out := []) h (Rd.none _) (by simp [blk]) f
/-- Where the making stands. -/
structure Ap (w wr : World) (base : List UInt8) (tn : Nat) (k : Nat) (r : List UInt8) (out : List UInt8) (a : Option Addr) (c : Nat) (R : List UInt8 × Nat) : Prop where
  own : wr.ownsRow 0 5 1 (.slice a out.length c) out.length (out.map bv)
  fr : Fr [] w wr
  new : ∀ x ∈ blk a, w.heap.size ≤ x
  few : out.length ≤ tn
  fuel : r.length ≤ k
  all : app base tn k r out = R
theorem Ap.more {w wr w2 : World} {base : List UInt8} {tn k k' : Nat} {r r' out news : List UInt8} {a a2 : Option Addr} {c c2 m : Nat} {R : List UInt8 × Nat} (h : Ap w wr base tn k r out a c R) (hm : news.length = m)
    (A : Appended wr w2 5 1 (blk a) a2 (out.length + m) c2 (out.map bv ++ news.map bv)) (hf : out.length + m ≤ tn) (hr : r'.length ≤ k') (hall : app base tn k' r' (out ++ news) = R) : Ap w w2 base tn k' r' (out ++ news) a2 c2 R := by
  refine ⟨by rw [List.length_append, hm, List.map_append]; exact A.own, h.fr.step A.fr fun y hy => .inr (h.new y hy), fun y hy => ?_, by rw [List.length_append, hm]; exact hf, hr, hall⟩
  rcases A.at_ y hy with h1 | h1
  · exact h.new y h1
  · have := h.fr.size
    omega
set_option maxRecDepth 100000 in
set_option maxHeartbeats 8000000 in
theorem apply_all (a b : Option Addr) (cap capd : Nat) (base d : List UInt8) (bound : Int) (w : World) (hb : Rd w a cap base) (hd : Rd w b capd d) : Calls Try.prog 9 #[.slice a base.length cap, .slice b d.length capd, .int .i64 bound] w (Applied w base d bound) := by
  have h1 := sizes_all b capd d w hd
  unfold Sized4 at h1
  obtain ⟨hto, _⟩ := sizes_to d
  have hap : ∀ x, delta.sizes d = x → delta.apply base d bound = if x.2.2.2 ≠ 0 then ([], x.2.2.2) else if x.1 ≠ base.length then ([], 3) else if bound.toNat < x.2.1 then ([], 5) else app base x.2.1 x.2.2.1.length x.2.2.1 [] := by rintro x rfl; rfl
  generalize delta.sizes d = x at *
  have hap := hap x rfl
  obtain ⟨n, m, r, e⟩ := x
  simp only at h1 hto hap
  have hble := hb.le
  have hbm := hb.max
  unfold maxLen at hbm
  have H := Lib.hid (And.intro h1 hb)
  have hmx : ((bound.toNat : Nat) : Int) = if 0 > bound then 0 else bound := by split <;> omega
  generalize bound.toNat = bt at *
  have HM := Lib.hid hmx
  clear h1 hb hd hmx
  by_cases he : e = 0
  · subst he
    rw [if_neg (by simp)] at hap
    by_cases hn : n = base.length
    · rw [if_neg (by simp [hn])] at hap
      by_cases hbig : bt < m
      · rw [if_pos hbig] at hap
        have HA := Lib.hid hap
        have hn' : ((n : Int) != base.length) = false := by simp [hn]
        clear hap
        go_enter Try.func9, Try.ntmps9
        go_wp2_with (first | (go_at_call 16; refine H.out.1.mono ?_; rintro e1 w1 ⟨a1, c1, rfl, r1, f1⟩; have H1 := Lib.hid (And.intro r1 f1); clear r1 f1) | (refine wpList_max2 (bt : Int) rfl _ _ _ rfl bound 0 rfl rfl HM.out ?_))
        go_ret2
        exact applied_err HA.out H1.out.2
      · rw [if_neg hbig] at hap
        obtain ⟨R, hR⟩ : ∃ R, app base m r.length r [] = R := ⟨_, rfl⟩
        rw [hR] at hap
        have HA := Lib.hid (And.intro hap hR)
        have hn' : ((n : Int) != base.length) = false := by simp [hn]
        have hbg : decide (bt < m) = false := by simp; omega
        clear hap hR
        go_enter Try.func9, Try.ntmps9
        go_upto_block 1 with (first | (go_at_call 16; refine H.out.1.mono ?_; rintro e1 w1 ⟨a1, c1, rfl, r1, f1⟩; have H1 := Lib.hid (And.intro r1 f1); clear r1 f1) | (refine wpList_max2 (bt : Int) rfl _ _ _ rfl bound 0 rfl rfl HM.out ?_))
        go_wp2
        go_loopg [1, 11] r.length (fun k s1 s11 wr => ∃ ar cr q ao co out, s1 = .slice ar q.length cr ∧ s11 = .slice ao out.length co ∧ Rd w1 ar cr q ∧ Ap w1 wr base m k q out ao co R)
        case atStart => exact ⟨a1, c1, r, none, 0, [], rfl, rfl, H1.out.1, World.ownsRow_nil _ _ _ _, Fr.refl _ _, by simp [blk], Nat.zero_le _, Nat.le_refl _, HA.out.2⟩
        case round =>
          obtain ⟨ar, cr, q, ao, co, out, rfl, rfl, hq, h⟩ := hrel
          have HQ := Lib.hid hq
          have hq1 := hq.le
          have hq2 := hq.max
          unfold maxLen at hq2
          have hfew := h.few
          have hfuel := h.fuel
          obtain ⟨hown1, _⟩ := rd_of_owns h.own
          have ho1 := hown1.le
          have ho2 := hown1.max
          unfold maxLen at ho2
          have G := Lib.hid h
          clear hq h hown1
          cases q with
          | nil =>
            have hall := G.out.all
            rw [app_nil] at hall
            by_cases hlt : out.length < m
            · rw [if_pos hlt] at hall
              have HALL := Lib.hid hall
              clear hall
              go_wp2
              go_ret2
              exact applied_err (by rw [HA.out.1, ← HALL.out]) (H1.out.2.trans G.out.fr)
            · rw [if_neg hlt] at hall
              have HALL := Lib.hid hall
              clear hall
              go_wp2
              go_ret2
              have h := G.out
              obtain ⟨r2, _⟩ := rd_of_owns h.own
              exact applied_of (by rw [HA.out.1, ← HALL.out]) ⟨r2.cs, Nat.le_refl _, Nat.le_trans r2.le r2.max, fun e => by have := r2.nil e; omega⟩ (fun y hy => ⟨Nat.le_trans H1.out.2.size (h.new y hy), owns_lt h.own (blk_own hy)⟩) (H1.out.2.trans h.fr)
          | cons x t =>
            obtain ⟨k, rfl⟩ : ∃ k, gk = k + 1 := ⟨gk - 1, by simp at hfuel; omega⟩
            simp only [List.length_cons] at hq1 hfuel
            obtain ⟨g, o, rfl, hc⟩ := HQ.out.at (i := 0) (by simp)
            have hc := G.out.fr.cell hc (by simp)
            have hx : x.toNat < 256 := UInt8.toNat_lt x
            simp only [Nat.add_zero, List.getElem_cons_zero] at hc
            have hall := G.out.all
            rw [app_cons] at hall
            have ha := and127 x
            have hrd := HQ.out.drop 1 (by simp)
            rw [List.drop_succ_cons, List.drop_zero] at hrd
            generalize x.toNat = xn at *
            have HRD := Lib.hid hrd
            have hal : ∀ wz, Fr [] w1 wz → Rd wz (cutAtN (some ⟨g, o, none⟩) cr 1 1) (cr - 1) t := fun wz f => HRD.out.fr f
            obtain ⟨at1, hat1⟩ : ∃ at1, at1 = cutAtN (some ⟨g, o, none⟩) cr 1 1 := ⟨_, rfl⟩
            obtain ⟨S, hS⟩ : ∃ S, S = blk ao := ⟨_, rfl⟩
            have HS := Lib.hid hS
            clear hrd hal hS hat1
            by_cases h128 : 128 ≤ xn
            · rw [if_pos h128] at hall
              rw [show xn % 128 = xn - 128 from by omega] at ha
              obtain ⟨op, hop⟩ : ∃ op, op = xn - 128 := ⟨_, rfl⟩
              rw [← hop] at ha hall
              have hpl := fun w h => place_all op (cutAtN (some ⟨g, o, none⟩) cr 1 1) (cr - 1) t w (by omega) h
              unfold Placed at hpl
              have hlen := pl_len op 7 0 0 0 t
              generalize pl op 7 0 0 0 t = y at *
              clear hop
              cases y with
              | none =>
                have hpl2 : ∀ w, Rd w (cutAtN (some ⟨g, o, none⟩) cr 1 1) (cr - 1) t → Calls Try.prog 17 #[.int .u8 op, .slice (cutAtN (some ⟨g, o, none⟩) cr 1 1) t.length (cr - 1)] w fun e w' => w = w' ∧ e = .returned (.tuple #[.int .i64 0, .int .i64 0, .slice none 0 0, .bool false]) :=
                  fun w h => (hpl w h).mono fun e w' ⟨h1, h2⟩ => by
                    rcases h2 with ⟨_, h2⟩ | ⟨p, n, r, a, c, h3, _⟩
                    · exact ⟨h1, h2⟩
                    · cases h3
                have HALL := Lib.hid hall
                have HPL := Lib.hid hpl2
                clear hall hpl hpl2
                go_wp2_with (first | (refine wpList_slice_from sliceU8 1 rfl _ _ rfl (some ⟨g, o, none⟩) (t.length + 1) cr _ rfl rfl rfl (by omega) (by omega) ?_) | (go_at_call 17; refine (HPL.out _ (HRD.out.fr G.out.fr)).mono ?_; rintro e w2 ⟨rfl, rfl⟩))
                go_ret2
                exact applied_err (by rw [HA.out.1, ← HALL.out]) (H1.out.2.trans G.out.fr)
              | some y =>
                obtain ⟨p, nn, rest⟩ := y
                have hpl2 : ∀ w, Rd w (cutAtN (some ⟨g, o, none⟩) cr 1 1) (cr - 1) t → Calls Try.prog 17 #[.int .u8 op, .slice (cutAtN (some ⟨g, o, none⟩) cr 1 1) t.length (cr - 1)] w fun e w' => w = w' ∧ ∃ a c, e = .returned (.tuple #[.int .i64 (p : Nat), .int .i64 (nn : Nat), .slice a rest.length c, .bool true]) ∧ (∀ wz, Rd wz (cutAtN (some ⟨g, o, none⟩) cr 1 1) (cr - 1) t → Rd wz a c rest) ∧ p < 4294967296 ∧ nn ≤ 16777216 :=
                  fun w h => (hpl w h).mono fun e w' ⟨h1, h2⟩ => by
                    rcases h2 with ⟨h3, _⟩ | ⟨p', n', r', a, c, h3, h4, h5⟩
                    · cases h3
                    · cases h3
                      exact ⟨h1, a, c, h4, h5⟩
                have hlen := hlen _ rfl
                simp only at hlen hall
                have HPL := Lib.hid hpl2
                clear hpl hpl2
                by_cases hbad : base.length < p ∨ base.length - p < nn ∨ m - out.length < nn
                · rw [if_pos hbad] at hall
                  have HALL := Lib.hid hall
                  clear hall
                  by_cases hb1 : base.length < p
                  · have b1 : decide (base.length < p) = true := by simpa using hb1
                    clear hbad
                    go_wp2_with (first | (refine wpList_slice_from sliceU8 1 rfl _ _ rfl (some ⟨g, o, none⟩) (t.length + 1) cr _ rfl rfl rfl (by omega) (by omega) ?_) | (go_at_call 17; refine (HPL.out _ (HRD.out.fr G.out.fr)).mono ?_; rintro e w2 ⟨rfl, a9, c9, rfl, h9, hp9, hn9⟩; have H9 := Lib.hid h9; clear h9))
                    go_ret2
                    exact applied_err (by rw [HA.out.1, ← HALL.out]) (H1.out.2.trans G.out.fr)
                  · have b1 : decide (base.length < p) = false := by simpa using hb1
                    by_cases hb2 : base.length - p < nn
                    · have b2 : decide ((base.length : Int) - p < nn) = true := by simp; omega
                      clear hbad
                      go_wp2_with (first | (refine wpList_slice_from sliceU8 1 rfl _ _ rfl (some ⟨g, o, none⟩) (t.length + 1) cr _ rfl rfl rfl (by omega) (by omega) ?_) | (go_at_call 17; refine (HPL.out _ (HRD.out.fr G.out.fr)).mono ?_; rintro e w2 ⟨rfl, a9, c9, rfl, h9, hp9, hn9⟩; have H9 := Lib.hid h9; clear h9))
                      go_ret2
                      exact applied_err (by rw [HA.out.1, ← HALL.out]) (H1.out.2.trans G.out.fr)
                    · have b2 : decide ((base.length : Int) - p < nn) = false := by simp; omega
                      have b3 : decide ((m : Int) - out.length < nn) = true := by simp; omega
                      clear hbad
                      go_wp2_with (first | (refine wpList_slice_from sliceU8 1 rfl _ _ rfl (some ⟨g, o, none⟩) (t.length + 1) cr _ rfl rfl rfl (by omega) (by omega) ?_) | (go_at_call 17; refine (HPL.out _ (HRD.out.fr G.out.fr)).mono ?_; rintro e w2 ⟨rfl, a9, c9, rfl, h9, hp9, hn9⟩; have H9 := Lib.hid h9; clear h9))
                      go_ret2
                      exact applied_err (by rw [HA.out.1, ← HALL.out]) (H1.out.2.trans G.out.fr)
                · rw [if_neg hbad] at hall
                  have HALL := Lib.hid hall
                  have hp1 : p ≤ base.length ∧ nn ≤ base.length - p ∧ nn ≤ m - out.length := by omega
                  have b1 : decide (base.length < p) = false := by simp; omega
                  have b2 : decide ((base.length : Int) - p < nn) = false := by simp; omega
                  have b3 : decide ((m : Int) - out.length < nn) = false := by simp; omega
                  have hmid := (H.out.2.fr (H1.out.2.trans G.out.fr)).mid p nn (by omega)
                  obtain ⟨news, hnews⟩ : ∃ news, news = (base.drop p).take nn := ⟨_, rfl⟩
                  rw [← hnews] at hmid
                  have hnl : news.length = nn := by rw [hnews, List.length_take, List.length_drop]; omega
                  have HMID := Lib.hid (And.intro hmid (And.intro hnews hnl))
                  clear hbad hall hmid hnews hnl
                  go_wp2_with (first | (refine wpList_slice_from sliceU8 1 rfl _ _ rfl (some ⟨g, o, none⟩) (t.length + 1) cr _ rfl rfl rfl (by omega) (by omega) ?_) | (go_at_call 17; refine (HPL.out _ (HRD.out.fr G.out.fr)).mono ?_; rintro e w2 ⟨rfl, a9, c9, rfl, h9, hp9, hn9⟩; have H9 := Lib.hid h9; clear h9) | (refine wpList_slice_lh sliceU8 p nn rfl _ _ _ rfl a base.length cap _ _ rfl rfl rfl rfl rfl (by omega) ?_) | (refine wpList_append sliceU8 rfl _ _ rfl (.slice ao out.length co) out.length (out.map bv) S rfl (by rw [own_blk, HS.out]) G.out.own (cutAt a cap p) nn (cap - p) (news.map bv) rfl (by omega) HMID.out.1.nil HMID.out.1.cs (by rw [List.length_map, HMID.out.2.2, Nat.mul_one]) (bv_one _) (by omega) (by unfold maxLen; omega) ?_; intro a2 c2 w2 A1; have HA1 := Lib.hid A1; clear A1))
                  go_roundg k
                  case measure => omega
                  case rel =>
                    have A1 := HA1.out
                    rw [HS.out] at A1
                    have h := G.out.more HMID.out.2.2 A1 (k' := k) (r' := rest) (by omega) (by omega) (by rw [HMID.out.2.1]; exact HALL.out)
                    exact ⟨a9, c9, rest, a2, c2, out ++ news, rfl, by rw [List.length_append, HMID.out.2.2], H9.out w1 HRD.out, h⟩
            · rw [if_neg h128] at hall
              by_cases hbad : xn = 0 ∨ m - out.length < xn
              · rw [if_pos hbad] at hall
                have HALL := Lib.hid hall
                clear hall
                by_cases hx0 : xn = 0
                · subst hx0
                  clear hbad
                  go_wp2_with (first | (refine wpList_slice_from sliceU8 1 rfl _ _ rfl (some ⟨g, o, none⟩) (t.length + 1) cr _ rfl rfl rfl (by omega) (by omega) ?_))
                  go_ret2
                  exact applied_err (by rw [HA.out.1, ← HALL.out]) (H1.out.2.trans G.out.fr)
                · have b1 : ((xn : Int) == 0) = false := by simp; omega
                  have b3 : decide ((m : Int) - out.length < xn) = true := by simp; omega
                  clear hbad
                  go_wp2_with (first | (refine wpList_slice_from sliceU8 1 rfl _ _ rfl (some ⟨g, o, none⟩) (t.length + 1) cr _ rfl rfl rfl (by omega) (by omega) ?_))
                  go_ret2
                  exact applied_err (by rw [HA.out.1, ← HALL.out]) (H1.out.2.trans G.out.fr)
              · rw [if_neg hbad] at hall
                have b1 : ((xn : Int) == 0) = false := by simp; omega
                have b3 : decide ((m : Int) - out.length < xn) = false := by simp; omega
                have hxp : 1 ≤ xn ∧ xn ≤ m - out.length := by omega
                by_cases hlong : t.length < xn
                · rw [if_pos hlong] at hall
                  have HALL := Lib.hid hall
                  clear hall hbad
                  go_wp2_with (first | (refine wpList_slice_from sliceU8 1 rfl _ _ rfl (some ⟨g, o, none⟩) (t.length + 1) cr _ rfl rfl rfl (by omega) (by omega) ?_))
                  go_ret2
                  exact applied_err (by rw [HA.out.1, ← HALL.out]) (H1.out.2.trans G.out.fr)
                · rw [if_neg hlong] at hall
                  have HALL := Lib.hid hall
                  have hmid := (HRD.out.fr G.out.fr).take xn
                  have hrest := HRD.out.drop xn (by omega)
                  have hnl : (t.take xn).length = xn := by rw [List.length_take]; omega
                  have HMID := Lib.hid (And.intro hmid (And.intro hrest hnl))
                  clear hall hmid hrest hnl hbad
                  go_wp2_with (first | (refine wpList_slice_from sliceU8 1 rfl _ _ rfl (some ⟨g, o, none⟩) (t.length + 1) cr _ rfl rfl rfl (by omega) (by omega) ?_) | (refine wpList_slice_to sliceU8 xn rfl _ _ rfl (cutAtN (some ⟨g, o, none⟩) cr 1 1) t.length (cr - 1) _ rfl rfl rfl (by omega) ?_) | (refine wpList_append sliceU8 rfl _ _ rfl (.slice ao out.length co) out.length (out.map bv) S rfl (by rw [own_blk, HS.out]) G.out.own (cutAtN (some ⟨g, o, none⟩) cr 1 1) xn (cr - 1) ((t.take xn).map bv) rfl (by omega) HMID.out.1.nil HMID.out.1.cs (by rw [List.length_map, HMID.out.2.2, Nat.mul_one]) (bv_one _) (by omega) (by unfold maxLen; omega) ?_; intro a2 c2 w2 A1; have HA1 := Lib.hid A1; clear A1) | (refine wpList_slice_from sliceU8 xn rfl _ _ rfl (cutAtN (some ⟨g, o, none⟩) cr 1 1) t.length (cr - 1) _ rfl rfl rfl (by omega) (by omega) ?_))
                  go_roundg k
                  case measure => omega
                  case rel =>
                    have A1 := HA1.out
                    rw [HS.out] at A1
                    have h := G.out.more HMID.out.2.2 A1 (k' := k) (r' := t.drop xn) (by omega) (by rw [List.length_drop]; omega) HALL.out
                    exact ⟨_, _, t.drop xn, a2, c2, out ++ t.take xn, by rw [List.length_drop], by rw [List.length_append, HMID.out.2.2], HMID.out.2.1, h⟩
    · rw [if_pos hn] at hap
      have HA := Lib.hid hap
      have hn' : ((n : Int) == base.length) = false := by simp; omega
      have hn2 : ((n : Int) != base.length) = true := by simp; omega
      clear hap
      go_enter Try.func9, Try.ntmps9
      go_wp2_with (first | (go_at_call 16; refine H.out.1.mono ?_; rintro e1 w1 ⟨a1, c1, rfl, r1, f1⟩; have H1 := Lib.hid (And.intro r1 f1); clear r1 f1))
      go_ret2
      exact applied_err HA.out H1.out.2
  · rw [if_pos (by simpa using he)] at hap
    have HA := Lib.hid hap
    have hb : ((e : Int) == 0) = false := by simp; omega
    have hb2 : ((e : Int) != 0) = true := by simp; omega
    clear hap he
    go_enter Try.func9, Try.ntmps9
    go_wp2_with (first | (go_at_call 16; refine H.out.1.mono ?_; rintro e1 w1 ⟨a1, c1, rfl, r1, f1⟩; have H1 := Lib.hid (And.intro r1 f1); clear r1 f1))
    go_ret2
    exact applied_err HA.out H1.out.2
end Go.Proofs.Ytoplgcikcanagaa.delta
