/-
  delta.Number, number, sizes, Sizes.
-/
import Derived.Test.YtoplgcikcanagaaDeltaLaw
import Derived.Test.YtoplgcikcanagaaBytes
import Derived.Test.YtoplgcikcanagaaBitsInt
import Derived.Test.YtoplgcikcanagaaTail
import Derived.Test.YtoplgcikcanagaaMix
import Derived.Test.YtoplgcikcanagaaAppFull
import Derived.Deep.DeepCutAuto
import Derived.Deep.CutBlock
import Derived.Deep.CondSized
import Derived.WalkMore
namespace Go.Proofs.Ytoplgcikcanagaa.delta
open Go Go.RowKit Go.Proofs.Ytoplgcikcanagaa.lib Go.Proofs.Ytoplgcikcanagaa.bm

theorem sliceU8 : SliceTy Try.prog 22 5 (.int .u8 0) 1 1 := SliceTy.of Try.underlying22 (by kernel_rfl) rfl (by decide)
theorem bv_one (bs : List UInt8) : ∀ u ∈ bs.map bv, u.oneCell' = true := by
  intro u hu
  obtain ⟨b, _, rfl⟩ := List.mem_map.1 hu
  rfl
theorem numb_le : ∀ (k n : Nat), n < 128 ^ (k + 1) → (numb n).length ≤ k + 1
  | 0, n, h => by rw [numb_small (by simp at h; omega)]; simp
  | k + 1, n, h => by
    by_cases hn : n ≤ 127
    · rw [numb_small hn]; simp
    · rw [numb_big (by omega), List.length_cons]
      have := numb_le k (n / 128) ((Nat.div_lt_iff_lt_mul (by decide)).2 (by rw [Nat.mul_comm, ← pow128]; exact h))
      omega
theorem or128 (n : Nat) : bits .or .u8 ((n : Int) % 256) 128 = (((UInt8.ofNat (n % 128 + 128)).toNat : Nat) : Int) := by
  have h : ∀ x : Fin 256, bits .or .u8 (x.1 : Int) 128 = ((x.1 % 128 + 128 : Nat) : Int) := by decide +kernel
  have e := h ⟨n % 256, by omega⟩
  simp only at e
  rw [u8_nat (by omega), show (n : Int) % 256 = ((n % 256 : Nat) : Int) from by omega, e]
  omega
/-- Where the writing of a number stands. -/
structure Nb (w wr : World) (n0 n : Nat) (a : Option Addr) (c : Nat) (out : List UInt8) : Prop where
  own : wr.ownsRow 0 5 1 (.slice a out.length c) out.length (out.map bv)
  fr : Fr [] w wr
  new : ∀ x ∈ blk a, w.heap.size ≤ x
  all : out ++ numb n = numb n0
theorem nb_start (w : World) (n : Nat) : Nb w w n n none 0 [] := ⟨World.ownsRow_nil _ _ _ _, Fr.refl _ _, by simp [blk], rfl⟩
theorem Nb.step {w wr w1 w2 : World} {n0 n n' : Nat} {a a2 : Option Addr} {c c2 : Nat} {out : List UInt8} {x : UInt8} (h : Nb w wr n0 n a c out) (f : Fr [] wr w1) (A : Appended w1 w2 5 1 (blk a) a2 (out.length + 1) c2 (out.map bv ++ [bv x])) :
    w2.ownsRow 0 5 1 (.slice a2 (out ++ [x]).length c2) (out ++ [x]).length ((out ++ [x]).map bv) ∧ Fr [] w w2 ∧ ∀ y ∈ blk a2, w.heap.size ≤ y := by
  refine ⟨by rw [List.length_append, List.map_append]; exact A.own, (h.fr.trans f).step A.fr fun y hy => .inr (h.new y hy), fun y hy => ?_⟩
  rcases A.at_ y hy with h1 | h1
  · exact h.new y h1
  · have := (h.fr.trans f).size
    omega
set_option maxRecDepth 100000 in
set_option maxHeartbeats 2000000 in
theorem number_all (n : Int) (w : World) (hn : n ≤ 9223372036854775807) : Calls Try.prog 8 #[.int .i64 n] w (NewBytes w (numb n.toNat)) := by
  obtain ⟨n0, hn0⟩ : ∃ n0, n0 = n.toNat := ⟨_, rfl⟩
  have hm : ((n0 : Nat) : Int) = if 0 > n then 0 else n := by rw [hn0]; split <;> omega
  have hlt : n0 ≤ 9223372036854775807 := by omega
  have hl9 := numb_le 8 n0 (Nat.lt_of_le_of_lt hlt (by decide))
  have HM := Lib.hid hm
  rw [← hn0]
  clear hm hn0
  go_enter Try.func8, Try.ntmps8
  go_upto_block 0 with (refine wpList_max2 (n0 : Int) rfl _ _ _ rfl n 0 rfl rfl HM.out ?_)
  go_cut [0, 3] from 6 to 16 (fun s0 s3 wz => ∃ n a c out, s0 = .int .i64 (n : Nat) ∧ s3 = .slice a out.length c ∧ n ≤ 127 ∧ Nb w wz n0 n a c out)
  case first =>
    go_wp2
    go_loopg [0, 3] n0 (fun k s0 s3 wr => ∃ n a c out, s0 = .int .i64 (n : Nat) ∧ s3 = .slice a out.length c ∧ n ≤ k ∧ n ≤ 9223372036854775807 ∧ Nb w wr n0 n a c out)
    case atStart => exact ⟨n0, none, 0, [], rfl, rfl, Nat.le_refl _, hlt, nb_start w n0⟩
    case round =>
      obtain ⟨m, a, c, out, rfl, rfl, hk, hm9, h⟩ := hrel
      have H := Lib.hid h
      have hol : out.length ≤ 9 := by
        have := congrArg List.length h.all
        rw [List.length_append] at this
        omega
      clear h
      by_cases h127 : 127 < m
      · have ho := or128 m
        obtain ⟨x, hx⟩ : ∃ x, x = UInt8.ofNat (m % 128 + 128) := ⟨_, rfl⟩
        rw [← hx] at ho
        obtain ⟨S, hS⟩ : ∃ S, S = blk a := ⟨_, rfl⟩
        have HX := Lib.hid (And.intro hx hS)
        have f0 : Fr [] wr (wr.alloc (.cells #[.int .u8 (x.toNat : Nat)] 5)) := (Fr.refl [] wr).alloc _
        have ownA := ownsRow_fr H.out.own f0 (by simp)
        have cA : Cs (wr.alloc (.cells #[.int .u8 (x.toNat : Nat)] 5)) (some ⟨wr.heap.size, 0, none⟩) [bv x] := cs_one _ _ _ 5 (alloc_at wr _)
        have HA := Lib.hid (And.intro ownA (And.intro cA f0))
        clear ownA cA f0 hx hS
        go_wp2_with (refine wpList_append sliceU8 rfl _ _ rfl (.slice a out.length c) out.length (out.map bv) S rfl (by rw [own_blk, HX.out.2]) HA.out.1 (some ⟨wr.heap.size, 0, none⟩) 1 1 [bv x] rfl (by decide) (by simp) HA.out.2.1 (by rfl) (bv_one [x]) (by omega) (by unfold maxLen; omega) ?_; intro a2 c2 w2 A1; have HA1 := Lib.hid A1; clear A1)
        go_roundg (m / 128)
        case measure => omega
        case rel =>
          have A1 := HA1.out
          rw [HX.out.2] at A1
          obtain ⟨h1, h2, h3⟩ := H.out.step (n' := 0) HA.out.2.2 A1
          refine ⟨m / 128, a2, c2, out ++ [x], by go_num, by rw [List.length_append]; rfl, Nat.le_refl _, by omega, h1, h2, h3, ?_⟩
          rw [← H.out.all, numb_big h127, HX.out.1, List.append_assoc]
          rfl
      · go_wp2
        go_meet
        exact ⟨m, a, c, out, rfl, rfl, by omega, H.out⟩
  case rest =>
  obtain ⟨m, a, c, out, rfl, rfl, hm, h⟩ := hcut
  have H := Lib.hid h
  have hall := h.all
  rw [numb_small hm] at hall
  have hol : out.length + 1 = (numb n0).length := by rw [← hall]; simp
  have HALL := Lib.hid hall
  have hol9 : out.length ≤ 9 := by omega
  have HOL := Lib.hid hol
  clear h hall hol
  obtain ⟨x, hx⟩ : ∃ x, x = UInt8.ofNat m := ⟨_, rfl⟩
  have hbx : [bv x] = [.int .u8 (m : Int)] := by unfold bv; rw [hx, u8_nat (by omega)]
  obtain ⟨S, hS⟩ : ∃ S, S = blk a := ⟨_, rfl⟩
  have HX := Lib.hid (And.intro hx hS)
  have f0 : Fr [] wc (wc.alloc (.cells #[.int .u8 (m : Int)] 5)) := (Fr.refl [] wc).alloc _
  have ownA := ownsRow_fr H.out.own f0 (by simp)
  have cA : Cs (wc.alloc (.cells #[.int .u8 (m : Int)] 5)) (some ⟨wc.heap.size, 0, none⟩) [bv x] := by rw [hbx]; exact cs_one _ _ _ 5 (alloc_at wc _)
  have HA := Lib.hid (And.intro ownA (And.intro cA f0))
  clear ownA cA f0 hx hS hbx
  go_wp2_with (refine wpList_append sliceU8 rfl _ _ rfl (.slice a out.length c) out.length (out.map bv) S rfl (by rw [own_blk, HX.out.2]) HA.out.1 (some ⟨wc.heap.size, 0, none⟩) 1 1 [bv x] rfl (by decide) (by simp) HA.out.2.1 (by rfl) (bv_one [x]) (by omega) (by unfold maxLen; omega) ?_; intro a2 c2 w2 A1; have hcap := A1.le; have hcm := A1.max; have HA1 := Lib.hid A1; clear A1)
  go_ret
  have A1 := HA1.out
  rw [HX.out.2] at A1
  obtain ⟨h1, h2, h3⟩ := H.out.step (n' := 0) HA.out.2.2 A1
  rw [HX.out.1, HALL.out] at h1
  obtain ⟨r1, _⟩ := rd_of_owns h1
  rw [HOL.out]
  exact ⟨a2, rfl, ⟨r1.cs, Nat.le_refl _, Nat.le_trans r1.le r1.max, fun e => by have := r1.nil e; have := r1.le; omega⟩, fun y hy => ⟨h3 y hy, owns_lt h1 (blk_own hy)⟩, h2⟩

/-! ### Reading -/
theorem and127 (c : UInt8) : bits .and .u8 ((c.toNat : Nat) : Int) 127 = ((c.toNat % 128 : Nat) : Int) := by
  have h : ∀ x : Fin 256, bits .and .u8 (x.1 : Int) 127 = ((x.1 % 128 : Nat) : Int) := by decide +kernel
  exact h ⟨c.toNat, UInt8.toNat_lt c⟩
/-- 'v | x<<k', the shifted word behind a wrap. -/
theorem or_shl (v x k : Nat) (hv : v < 2 ^ k) (hx : x * 2 ^ k < 9223372036854775808) (hk : k ≤ 62) : bits .or .i64 (v : Int) ((x * 2 ^ k : Nat) : Int) = ((v + x * 2 ^ k : Nat) : Int) := by
  have h1 := pow_le k 62 hk
  have e62 : 2 ^ 62 = 4611686018427387904 := by decide
  rw [e62] at h1
  rw [i64_or_nat _ _ (by omega) hx, or_add v x k hv, Nat.mul_comm]
theorem or_groups (n x i : Nat) (hi : i < 5) (hn : n < 128 ^ i) (hx : x < 128) : ∃ m, (m = n + x * 128 ^ i ∧ m < 128 ^ (i + 1)) ∧ m ≤ 34359738367 ∧ bits .or .i64 (n : Int) (wrap64 ((x : Int) * 2 ^ (7 * i))) = (m : Int) := by
  have hp : 2 ^ (7 * i) = 128 ^ i := by rw [Nat.pow_mul]
  have h4 : 128 ^ i ≤ 128 ^ 4 := Nat.pow_le_pow_right (by decide) (by omega)
  have e4 : 128 ^ 4 = 268435456 := by decide
  have hpos : 0 < 128 ^ i := Nat.pow_pos (by decide)
  have h1 : x * 128 ^ i ≤ 127 * 128 ^ i := Nat.mul_le_mul_right _ (by omega)
  have h5 := pow128 i
  refine ⟨n + x * 128 ^ i, ⟨rfl, by omega⟩, by omega, ?_⟩
  have e : wrap64 ((x : Int) * 2 ^ (7 * i)) = ((x * 2 ^ (7 * i) : Nat) : Int) := by
    have : (x : Int) * 2 ^ (7 * i) = ((x * 2 ^ (7 * i) : Nat) : Int) := by rw [Int.natCast_mul, Int.natCast_pow]; rfl
    rw [this, hp]
    generalize x * 128 ^ i = y at *
    simp only [wrap64]
    omega
  rw [e, or_shl n x (7 * i) (by rw [hp]; exact hn) (by rw [hp]; omega) (by omega), hp]
def Numbered (w : World) (d : List UInt8) (e : Ending) (w' : World) : Prop :=
  ∃ a c, e = .returned (.tuple #[.int .i64 (delta.rd d).1, .slice a (delta.rd d).2.1.length c, .int .i64 (delta.rd d).2.2]) ∧ Rd w' a c (delta.rd d).2.1 ∧ Fr [] w w'
theorem numbered_of {w w' : World} {d r : List UInt8} {n x : Nat} {a : Option Addr} {c : Nat} (h : delta.rd d = (n, r, x)) (hr : Rd w' a c r) (f : Fr [] w w') : Numbered w d (.returned (.tuple #[.int .i64 n, .slice a r.length c, .int .i64 x])) w' := by
  unfold Numbered
  rw [h]
  exact ⟨a, c, rfl, hr, f⟩
set_option maxRecDepth 100000 in
set_option maxHeartbeats 4000000 in
theorem rnumber_all (a : Option Addr) (cap : Nat) (d : List UInt8) (w : World) (h : Rd w a cap d) : Calls Try.prog 25 #[.slice a d.length cap] w (Numbered w d) := by
  have hle := h.le
  have hmax := h.max
  unfold maxLen at hmax
  have H := Lib.hid h
  clear h
  go_enter Try.func25, Try.ntmps25
  go_wp2
  go_loopg [2, 5, 6] 5 (fun k s2 s5 s6 wr => ∃ i n, i + k = 5 ∧ s6 = .int .i64 (i : Nat) ∧ s2 = .int .i64 (n : Nat) ∧ i ≤ d.length ∧ n < 128 ^ i ∧ rdn k i n (d.drop i) = delta.rd d ∧ Fr [] w wr)
  case atStart => exact ⟨0, 0, rfl, rfl, rfl, Nat.zero_le _, by decide, rfl, Fr.refl _ _⟩
  case round =>
    obtain ⟨i, n, hi, rfl, rfl, hil, hn, hrd, hfr⟩ := hrel
    have F := Lib.hid hfr
    clear hfr
    by_cases hi5 : i < 5
    · obtain ⟨k, rfl⟩ : ∃ k, gk = k + 1 := ⟨gk - 1, by omega⟩
      by_cases hid : i < d.length
      · obtain ⟨g, o, rfl, hc⟩ := H.out.at hid
        have c0 := F.out.cell hc (by simp)
        obtain ⟨c, hcc⟩ : ∃ c, c = d[i] := ⟨_, rfl⟩
        rw [← hcc] at c0
        have hdr : d.drop i = c :: d.drop (i + 1) := by rw [List.drop_eq_getElem_cons hid, hcc]
        rw [hdr, rdn] at hrd
        have ha := and127 c
        have hcn := UInt8.toNat_lt c
        obtain ⟨x, hx⟩ : ∃ x, x = c.toNat % 128 := ⟨_, rfl⟩
        rw [← hx] at ha hrd
        have hx128 : x < 128 := by omega
        generalize c.toNat = cn at *
        have HX := Lib.hid (And.intro hx (And.intro hcc hdr))
        clear hx hcc hdr hc
        have HRD := Lib.hid hrd
        clear hrd
        obtain ⟨m, hm, hm35, hor⟩ := or_groups n x i hi5 hn hx128
        have HM := Lib.hid hm
        rw [← hm.1] at HRD
        have hsl := fun w => run_slice_from sliceU8 (i + 1) (some ⟨g, o, none⟩) d.length cap ((i : Int) + 1) (by omega) (by omega) hle w
        clear hm hn
        by_cases h128 : cn < 128
        · have hrd := HRD.out
          rw [if_pos h128] at hrd
          by_cases hbig : 2147483647 < m
          · rw [if_pos hbig] at hrd
            have HD := Lib.hid hrd
            clear hrd hsl
            go_wp2
            go_ret3
            exact numbered_of (r := []) HD.out.symm (Rd.none _) F.out
          · rw [if_neg hbig] at hrd
            have HD := Lib.hid hrd
            clear hrd
            go_upto_region 10 with fail
            go_quiet (fail)
            clear hsl
            go_wp2
            go_ret3
            have hl : (d.drop (i + 1)).length = d.length - (i + 1) := by simp
            have h := fun (wz : World) (f : Fr [] wr wz) => numbered_of HD.out.symm ((H.out.fr (F.out.trans f)).drop (i + 1) (by omega)) (F.out.trans f)
            simp only [hl] at h
            exact h _ (Fr.drewN [] wr _)
        · have hrd := HRD.out
          rw [if_neg h128] at hrd
          have HD := Lib.hid hrd
          clear hrd hsl
          go_wp2
          go_roundg k
          case measure => omega
          case rel => exact ⟨i + 1, m, by omega, by go_num, rfl, by omega, HM.out.2, HD.out, F.out⟩
      · have hd : delta.rd d = (0, [], 4) := by rw [← hrd, List.drop_eq_nil_of_le (by omega)]; rfl
        have HD := Lib.hid hd
        clear hd hrd hn
        go_wp2
        go_ret3
        exact numbered_of (r := []) HD.out (Rd.none _) F.out
    · obtain rfl : i = 5 := by omega
      obtain rfl : gk = 0 := by omega
      have HD := Lib.hid hrd
      clear hrd hn
      go_wp2
      go_ret3
      exact numbered_of (r := []) (by rw [← HD.out]; rfl) (Rd.none _) F.out

theorem results_tmp4 {fn : Func} {t u v x : Tmp} (h : fn.results = #[.tmp t, .tmp u, .tmp v, .tmp x]) (tmps : Array Value) (P : Program) (w : World) :
    (results fn tmps).run P w = .ok (.tuple #[tmps.getD t undef, tmps.getD u undef, tmps.getD v undef, tmps.getD x undef]) w := by
  simp [results, h]
def Sized4 (w : World) (d : List UInt8) (e : Ending) (w' : World) : Prop :=
  ∃ a c, e = .returned (.tuple #[.int .i64 (delta.sizes d).1, .int .i64 (delta.sizes d).2.1, .slice a (delta.sizes d).2.2.1.length c, .int .i64 (delta.sizes d).2.2.2]) ∧ Rd w' a c (delta.sizes d).2.2.1 ∧ Fr [] w w'
theorem sized_of {w w' : World} {d r : List UInt8} {n m x : Nat} {a : Option Addr} {c : Nat} (h : delta.sizes d = (n, m, r, x)) (hr : Rd w' a c r) (f : Fr [] w w') : Sized4 w d (.returned (.tuple #[.int .i64 n, .int .i64 m, .slice a r.length c, .int .i64 x])) w' := by
  unfold Sized4
  rw [h]
  exact ⟨a, c, rfl, hr, f⟩
set_option maxRecDepth 100000 in
set_option maxHeartbeats 4000000 in
theorem sizes_all (a : Option Addr) (cap : Nat) (d : List UInt8) (w : World) (h : Rd w a cap d) : Calls Try.prog 16 #[.slice a d.length cap] w (Sized4 w d) := by
  have h1 := rnumber_all a cap d w h
  have hs : ∀ x y, delta.rd d = x → delta.rd x.2.1 = y → delta.sizes d = if x.2.2 = 0 then (if y.2.2 = 0 then (x.1, y.1, y.2.1, 0) else (0, 0, [], y.2.2)) else (0, 0, [], x.2.2) := by rintro x y rfl rfl; rfl
  have h2 := fun a c w => rnumber_all a c (delta.rd d).2.1 w
  unfold Numbered at h1 h2
  obtain ⟨x, hx⟩ : ∃ x, delta.rd d = x := ⟨_, rfl⟩
  obtain ⟨y, hy⟩ : ∃ y, delta.rd x.2.1 = y := ⟨_, rfl⟩
  have hsz := hs x y hx hy
  rw [hx] at h1 h2
  rw [hy] at h2
  obtain ⟨n, r, e⟩ := x
  obtain ⟨m, s, e2⟩ := y
  simp only at h1 h2 hsz
  have H := Lib.hid (And.intro h1 h2)
  clear h1 h2 hs hx hy h
  by_cases he : e = 0
  · subst he
    rw [if_pos rfl] at hsz
    by_cases he2 : e2 = 0
    · subst he2
      rw [if_pos rfl] at hsz
      have HS := Lib.hid hsz
      clear hsz
      have tok1 : True := trivial
      go_enter Try.func16, Try.ntmps16
      go_wp2_with (first | (go_at_call 25; have _t := tok1; refine H.out.1.mono ?_; rintro e1 w1 ⟨a1, c1, rfl, r1, f1⟩; have H1 := Lib.hid (And.intro r1 f1); clear r1 f1 tok1 _t) | (go_at_call 25; refine (H.out.2 a1 c1 _ H1.out.1).mono ?_; rintro e2 w2 ⟨a2, c2, rfl, r2, f2⟩; have H2 := Lib.hid (And.intro r2 (H1.out.2.trans f2)); clear r2 f2))
      refine bodyPost_ret (results_tmp4 rfl _ _ _) rfl ?_
      exact sized_of HS.out H2.out.1 H2.out.2
    · rw [if_neg he2] at hsz
      have HS := Lib.hid hsz
      have hb : ((e2 : Int) == 0) = false := by simp; omega
      have hb2 : ((e2 : Int) != 0) = true := by simp; omega
      clear hsz he2
      have tok1 : True := trivial
      go_enter Try.func16, Try.ntmps16
      go_wp2_with (first | (go_at_call 25; have _t := tok1; refine H.out.1.mono ?_; rintro e1 w1 ⟨a1, c1, rfl, r1, f1⟩; have H1 := Lib.hid (And.intro r1 f1); clear r1 f1 tok1 _t) | (go_at_call 25; refine (H.out.2 a1 c1 _ H1.out.1).mono ?_; rintro e2 w2 ⟨a2, c2, rfl, r2, f2⟩; have H2 := Lib.hid (And.intro r2 (H1.out.2.trans f2)); clear r2 f2))
      refine bodyPost_ret (results_tmp4 rfl _ _ _) rfl ?_
      exact sized_of (n := 0) (m := 0) (r := []) HS.out (Rd.none _) H2.out.2
  · rw [if_neg he] at hsz
    have HS := Lib.hid hsz
    have hb : ((e : Int) == 0) = false := by simp; omega
    have hb2 : ((e : Int) != 0) = true := by simp; omega
    clear hsz he
    go_enter Try.func16, Try.ntmps16
    go_wp2_with (go_at_call 25; refine H.out.1.mono ?_; rintro e1 w1 ⟨a1, c1, rfl, r1, f1⟩; have H1 := Lib.hid (And.intro r1 f1); clear r1 f1)
    refine bodyPost_ret (results_tmp4 rfl _ _ _) rfl ?_
    exact sized_of (n := 0) (m := 0) (r := []) HS.out (Rd.none _) H1.out.2
set_option maxRecDepth 100000 in
theorem dsizes_all (a : Option Addr) (cap : Nat) (d : List UInt8) (w : World) (h : Rd w a cap d) :
    Calls Try.prog 11 #[.slice a d.length cap] w fun e w' => e = .returned (.tuple #[.int .i64 (delta.sizes d).1, .int .i64 (delta.sizes d).2.1, .int .i64 (delta.sizes d).2.2.2]) ∧ Fr [] w w' := by
  have h1 := sizes_all a cap d w h
  unfold Sized4 at h1
  generalize delta.sizes d = x at *
  obtain ⟨n, m, r, e⟩ := x
  have H := Lib.hid h1
  clear h1 h
  go_enter Try.func11, Try.ntmps11
  go_wp2_with (go_at_call 16; refine H.out.mono ?_; rintro e1 w1 ⟨a1, c1, rfl, r1, f1⟩; have H1 := Lib.hid f1; clear r1 f1)
  go_ret3
  exact ⟨rfl, H1.out⟩
end Go.Proofs.Ytoplgcikcanagaa.delta
