/-
  stemmaref10.Number, number, Sizes.
-/
import Derived.Test.YtoplgcikcanagaaDeltaSmall
import Derived.Laws.ResultCell
import Derived.Laws.Rows
namespace Go.Proofs.Ytoplgcikcanagaa.delta
open Go Go.RowKit Go.Proofs.Ytoplgcikcanagaa.lib Go.Proofs.Ytoplgcikcanagaa.bm

theorem or128' (m : Nat) : (m : Int) % 128 + 128 = (((UInt8.ofNat (m % 128 + 128)).toNat : Nat) : Int) := by rw [u8_nat (by omega)]; omega
/-- A new slice of bytes that may have room. -/
def NewRoom (w : World) (bs : List UInt8) (e : Ending) (w' : World) : Prop :=
  ∃ a c, e = .returned (.slice a bs.length c) ∧ Rd w' a c bs ∧ Fr [] w w'
set_option maxRecDepth 100000 in
set_option maxHeartbeats 2000000 in
theorem dnumber_all (n : Int) (w : World) (hn : n ≤ 9223372036854775807) : Calls Try.prog 12 #[.int .i64 n] w (NewRoom w (numb n.toNat)) := by
  obtain ⟨n0, hn0⟩ : ∃ n0, n0 = n.toNat := ⟨_, rfl⟩
  have hm : ((n0 : Nat) : Int) = if 0 > n then 0 else n := by rw [hn0]; split <;> omega
  have hlt : n0 ≤ 9223372036854775807 := by omega
  have hl9 := numb_le 8 n0 (Nat.lt_of_le_of_lt hlt (by decide))
  have HM := Lib.hid hm
  rw [← hn0]
  clear hm hn0
  go_enter Try.func12, Try.ntmps12
  go_upto_block 0 with (refine wpList_max2 (n0 : Int) rfl _ _ _ rfl n 0 rfl rfl HM.out ?_)
  go_cut [0, 3] from 6 to 17 (fun s0 s3 wz => ∃ n a c out, s0 = .int .i64 (n : Nat) ∧ s3 = .slice a out.length c ∧ n ≤ 127 ∧ Nb w wz n0 n a c out)
  case first =>
    go_wp2
    go_loopg [0, 3] n0 (fun k s0 s3 wr => ∃ n a c out, s0 = .int .i64 (n : Nat) ∧ s3 = .slice a out.length c ∧ n ≤ k ∧ n ≤ 9223372036854775807 ∧ Nb w wr n0 n a c out)
    case atStart => exact ⟨n0, none, 0, [], rfl, rfl, Nat.le_refl _, hlt, nb_start w n0⟩
    case round =>
      obtain ⟨m, a, c, out, rfl, rfl, hk, hm9, h⟩ := hrel
      have H := Lib.hid h
      have hol : out.length ≤ 9 := by
        have := congrArg List.length h.all
        rw [List.length_append] at this
        omega
      clear h
      by_cases h127 : 127 < m
      · obtain ⟨x, hx⟩ : ∃ x, x = UInt8.ofNat (m % 128 + 128) := ⟨_, rfl⟩
        have hbx : [bv x] = [.int .u8 ((m : Int) % 128 + 128)] := by unfold bv; rw [or128', hx]
        obtain ⟨S, hS⟩ : ∃ S, S = blk a := ⟨_, rfl⟩
        have HX := Lib.hid (And.intro hx hS)
        have f0 : Fr [] wr (wr.alloc (.cells #[.int .u8 ((m : Int) % 128 + 128)] 5)) := (Fr.refl [] wr).alloc _
        have ownA := ownsRow_fr H.out.own f0 (by simp)
        have cA : Cs (wr.alloc (.cells #[.int .u8 ((m : Int) % 128 + 128)] 5)) (some ⟨wr.heap.size, 0, none⟩) [bv x] := by rw [hbx]; exact cs_one _ _ _ 5 (alloc_at wr _)
        have HA := Lib.hid (And.intro ownA (And.intro cA f0))
        clear ownA cA f0 hx hS hbx
        go_wp2_with (refine wpList_append sliceU8 rfl _ _ rfl (.slice a out.length c) out.length (out.map bv) S rfl (by rw [own_blk, HX.out.2]) HA.out.1 (some ⟨wr.heap.size, 0, none⟩) 1 1 [bv x] rfl (by decide) (by simp) HA.out.2.1 (by rfl) (bv_one [x]) (by omega) (by unfold maxLen; omega) ?_; intro a2 c2 w2 A1; have HA1 := Lib.hid A1; clear A1)
        go_roundg (m / 128)
        case measure => omega
        case rel =>
          have A1 := HA1.out
          rw [HX.out.2] at A1
          obtain ⟨h1, h2, h3⟩ := H.out.step (n' := 0) HA.out.2.2 A1
          refine ⟨m / 128, a2, c2, out ++ [x], by go_num, by rw [List.length_append]; rfl, Nat.le_refl _, by omega, h1, h2, h3, ?_⟩
          rw [← H.out.all, numb_big h127, HX.out.1, List.append_assoc]
          rfl
      · go_wp2
        go_meet
        exact ⟨m, a, c, out, rfl, rfl, by omega, H.out⟩
  case rest =>
  obtain ⟨m, a, c, out, rfl, rfl, hm, h⟩ := hcut
  have H := Lib.hid h
  have hall := h.all
  rw [numb_small hm] at hall
  have hol : out.length + 1 = (numb n0).length := by rw [← hall]; simp
  have HALL := Lib.hid hall
  have hol9 : out.length ≤ 9 := by omega
  have HOL := Lib.hid hol
  clear h hall hol
  obtain ⟨x, hx⟩ : ∃ x, x = UInt8.ofNat m := ⟨_, rfl⟩
  have hbx : [bv x] = [.int .u8 (m : Int)] := by unfold bv; rw [hx, u8_nat (by omega)]
  obtain ⟨S, hS⟩ : ∃ S, S = blk a := ⟨_, rfl⟩
  have HX := Lib.hid (And.intro hx hS)
  have f0 : Fr [] wc (wc.alloc (.cells #[.int .u8 (m : Int)] 5)) := (Fr.refl [] wc).alloc _
  have ownA := ownsRow_fr H.out.own f0 (by simp)
  have cA : Cs (wc.alloc (.cells #[.int .u8 (m : Int)] 5)) (some ⟨wc.heap.size, 0, none⟩) [bv x] := by rw [hbx]; exact cs_one _ _ _ 5 (alloc_at wc _)
  have HA := Lib.hid (And.intro ownA (And.intro cA f0))
  clear ownA cA f0 hx hS hbx
  go_wp2_with (refine wpList_append sliceU8 rfl _ _ rfl (.slice a out.length c) out.length (out.map bv) S rfl (by rw [own_blk, HX.out.2]) HA.out.1 (some ⟨wc.heap.size, 0, none⟩) 1 1 [bv x] rfl (by decide) (by simp) HA.out.2.1 (by rfl) (bv_one [x]) (by omega) (by unfold maxLen; omega) ?_; intro a2 c2 w2 A1; have HA1 := Lib.hid A1; clear A1)
  go_ret
  have A1 := HA1.out
  rw [HX.out.2] at A1
  obtain ⟨h1, h2, h3⟩ := H.out.step (n' := 0) HA.out.2.2 A1
  rw [HX.out.1, HALL.out] at h1
  obtain ⟨r1, _⟩ := rd_of_owns h1
  rw [HOL.out]
  exact ⟨a2, c2, rfl, r1, h2⟩

/-! ### Reading -/
def DNumbered (w : World) (d : List UInt8) (e : Ending) (w' : World) : Prop :=
  w = w' ∧ ∃ u : Nat, e = .returned (.tuple #[.int .i64 (delta.rd d).1, .int .i64 u, .int .i64 (delta.rd d).2.2]) ∧ ((delta.rd d).2.2 = 0 → (delta.rd d).2.1 = d.drop u) ∧ u ≤ d.length
theorem dnumbered_of {w : World} {d r : List UInt8} {n x u : Nat} (h : delta.rd d = (n, r, x)) (hu : x = 0 → r = d.drop u) (hl : u ≤ d.length) : DNumbered w d (.returned (.tuple #[.int .i64 n, .int .i64 u, .int .i64 x])) w := by
  unfold DNumbered
  rw [h]
  exact ⟨rfl, u, rfl, hu, hl⟩
theorem add_groups (n x i : Nat) (hi : i < 5) (hn : n < 128 ^ i) (hx : x < 128) : ∃ y, (n + y = n + x * 128 ^ i ∧ n + y < 128 ^ (i + 1)) ∧ n + y ≤ 34359738367 ∧ wrap64 ((x : Int) * 2 ^ (7 * i)) = (y : Int) := by
  have hp : 2 ^ (7 * i) = 128 ^ i := by rw [Nat.pow_mul]
  have h4 : 128 ^ i ≤ 128 ^ 4 := Nat.pow_le_pow_right (by decide) (by omega)
  have e4 : 128 ^ 4 = 268435456 := by decide
  have h1 : x * 128 ^ i ≤ 127 * 128 ^ i := Nat.mul_le_mul_right _ (by omega)
  have h5 := pow128 i
  refine ⟨x * 128 ^ i, ⟨rfl, by omega⟩, by omega, ?_⟩
  have : (x : Int) * 2 ^ (7 * i) = ((x * 2 ^ (7 * i) : Nat) : Int) := by rw [Int.natCast_mul, Int.natCast_pow]; rfl
  rw [this, hp]
  generalize x * 128 ^ i = y at *
  simp only [wrap64]
  omega
set_option maxRecDepth 100000 in
set_option maxHeartbeats 4000000 in
theorem drnumber_all (a : Option Addr) (cap : Nat) (d : List UInt8) (w : World) (h : Rd w a cap d) : Calls Try.prog 18 #[.slice a d.length cap] w (DNumbered w d) := by
  have hle := h.le
  have hmax := h.max
  unfold maxLen at hmax
  have H := Lib.hid h
  clear h
  go_enter Try.func18, Try.ntmps18
  go_wp2
  go_loopg [5, 6] 5 (fun k s5 s6 wr => ∃ i n, i + k = 5 ∧ s6 = .int .i64 (i : Nat) ∧ s5 = .int .i64 (n : Nat) ∧ i ≤ d.length ∧ n < 128 ^ i ∧ rdn k i n (d.drop i) = delta.rd d ∧ w = wr)
  case atStart => exact ⟨0, 0, rfl, rfl, rfl, Nat.zero_le _, by decide, rfl, rfl⟩
  case round =>
    obtain ⟨i, n, hi, rfl, rfl, hil, hn, hrd, rfl⟩ := hrel
    by_cases hi5 : i < 5
    · obtain ⟨k, rfl⟩ : ∃ k, gk = k + 1 := ⟨gk - 1, by omega⟩
      by_cases hid : i < d.length
      · obtain ⟨g, o, rfl, c0⟩ := H.out.at hid
        obtain ⟨c, hcc⟩ : ∃ c, c = d[i] := ⟨_, rfl⟩
        rw [← hcc] at c0
        have hdr : d.drop i = c :: d.drop (i + 1) := by rw [List.drop_eq_getElem_cons hid, hcc]
        rw [hdr, rdn] at hrd
        have ha := and127 c
        have hcn := UInt8.toNat_lt c
        obtain ⟨x, hx⟩ : ∃ x, x = c.toNat % 128 := ⟨_, rfl⟩
        rw [← hx] at ha hrd
        have hx128 : x < 128 := by omega
        generalize c.toNat = cn at *
        clear hx hcc hdr
        obtain ⟨y, hm, hm35, hor⟩ := add_groups n x i hi5 hn hx128
        rw [← hm.1] at hrd
        have HRD := Lib.hid hrd
        have HM := Lib.hid hm
        clear hm hn hrd
        have hny : (n : Int) + (y : Int) = ((n + y : Nat) : Int) := by omega
        by_cases h128 : cn < 128
        · have hrd := HRD.out
          rw [if_pos h128] at hrd
          by_cases hbig : 2147483647 < n + y
          · rw [if_pos hbig] at hrd
            have HD := Lib.hid hrd
            have hbig2 : decide ((2147483647 : Int) < (n : Int) + y) = true := by simp; omega
            clear hrd hny
            go_wp2
            go_ret3
            exact dnumbered_of (r := []) HD.out.symm (by simp) (Nat.zero_le _)
          · rw [if_neg hbig] at hrd
            have HD := Lib.hid hrd
            have hbig2 : decide ((2147483647 : Int) < (n : Int) + y) = false := by simp; omega
            clear hrd hny
            go_wp2
            go_ret3
            exact dnumbered_of (u := i + 1) HD.out.symm (fun _ => rfl) (by omega)
        · have hrd := HRD.out
          rw [if_neg h128] at hrd
          have HD := Lib.hid hrd
          clear hrd hny
          go_wp2
          go_roundg k
          case measure => omega
          case rel => exact ⟨i + 1, n + y, by omega, by go_num, by go_num, by omega, HM.out.2, HD.out, rfl⟩
      · have hd : delta.rd d = (0, [], 4) := by rw [← hrd, List.drop_eq_nil_of_le (by omega)]; rfl
        have HD := Lib.hid hd
        clear hd hrd hn
        go_wp2
        go_ret3
        exact dnumbered_of (r := []) HD.out (by simp) (Nat.zero_le _)
    · obtain rfl : i = 5 := by omega
      obtain rfl : gk = 0 := by omega
      have HD := Lib.hid hrd
      clear hrd hn
      go_wp2
      go_ret3
      exact dnumbered_of (r := []) (by rw [← HD.out]; rfl) (by simp) (Nat.zero_le _)

theorem put4 {wz : World} {R : Nat} {t : TypeId} {u0 u1 u2 u3 : Value} (hb : wz.heap[R]? = some (.cells #[u0, u1, u2, u3] t (0, 0))) (v0 v1 v2 v3 : Value) :
    ((((wz.setCell ⟨R, 0, none⟩ v0).setCell ⟨R, 1, none⟩ v1).setCell ⟨R, 2, none⟩ v2).setCell ⟨R, 3, none⟩ v3).heap[R]? = some (.cells #[v0, v1, v2, v3] t (0, 0)) ∧
      Fr [R] wz ((((wz.setCell ⟨R, 0, none⟩ v0).setCell ⟨R, 1, none⟩ v1).setCell ⟨R, 2, none⟩ v2).setCell ⟨R, 3, none⟩ v3) :=
  ⟨(setCell_of (setCell_of (setCell_of (setCell_of hb _) _) _) _).trans rfl, ((((Fr.refl [R] wz).setCell (by simp) _).setCell (by simp) _).setCell (by simp) _).setCell (by simp) _⟩
theorem infoHead : (Try.prog.info? 33).map (·.size) = some 4 := by kernel_rfl
theorem results_head {fn : Func} {p : Tmp} (h : fn.results = #[.cell p 33]) (tmps : Array Value) (w : World) (g : Nat) (cs : Array Value) (fr : Nat × Nat)
    (hp : tmps.getD p undef = .pointer (some ⟨g, 0, none⟩)) (hg : w.heap[g]? = some (.cells cs 33 fr)) (hs : cs.size = 4) : (results fn tmps).run Try.prog w = .ok (.agg cs) w :=
  results_cell_row h tmps w g 33 cs fr _ hp hg Try.underlying33 rfl (by rw [infoHead, hs])
def DSized (w : World) (d : List UInt8) (e : Ending) (w' : World) : Prop :=
  ∃ u : Nat, e = .returned (.agg #[.int .i64 (delta.sizes d).1, .int .i64 (delta.sizes d).2.1, .int .i64 u, .int .i64 (delta.sizes d).2.2.2]) ∧ ((delta.sizes d).2.2.2 = 0 → (delta.sizes d).2.2.1 = d.drop u) ∧ u ≤ d.length ∧ Fr [] w w'
theorem dsized_of {w w' : World} {d r : List UInt8} {n m x u : Nat} (h : delta.sizes d = (n, m, r, x)) (hu : x = 0 → r = d.drop u) (hl : u ≤ d.length) (f : Fr [] w w') : DSized w d (.returned (.agg #[.int .i64 n, .int .i64 m, .int .i64 u, .int .i64 x])) w' := by
  unfold DSized
  rw [h]
  exact ⟨u, rfl, hu, hl, f⟩
set_option maxRecDepth 100000 in
set_option maxHeartbeats 4000000 in
theorem drsizes_all (a : Option Addr) (cap : Nat) (d : List UInt8) (w : World) (h : Rd w a cap d) (hlim : d.length ≤ 2199023255552) : Calls Try.prog 13 #[.slice a d.length cap] w (DSized w d) := by
  have f0 : Fr [] w (w.alloc (.cells #[.int .i64 0, .int .i64 0, .int .i64 0, .int .i64 0] 33)) := (Fr.refl [] w).alloc _
  have hb0 := alloc_at w (.cells #[.int .i64 0, .int .i64 0, .int .i64 0, .int .i64 0] 33)
  have h0 := h.fr f0
  have hle := h.le
  have hcm := h.max
  unfold maxLen at hcm
  have hs : ∀ x y, delta.rd d = x → delta.rd x.2.1 = y → delta.sizes d = if x.2.2 = 0 then (if y.2.2 = 0 then (x.1, y.1, y.2.1, 0) else (0, 0, [], y.2.2)) else (0, 0, [], x.2.2) := by rintro x y rfl rfl; rfl
  have h1 := drnumber_all a cap d _ h0
  have h2 : ∀ u, u ≤ d.length → (delta.rd d).2.1 = d.drop u → Calls Try.prog 18 #[.slice (cutAtN a cap u 1) (d.length - u) (cap - u)] _ (DNumbered (w.alloc (.cells #[.int .i64 0, .int .i64 0, .int .i64 0, .int .i64 0] 33)) (delta.rd d).2.1) := fun u hu e => by
    have := drnumber_all (cutAtN a cap u 1) (cap - u) (d.drop u) _ (h0.drop u hu)
    rw [List.length_drop] at this
    rw [e]
    exact this
  unfold DNumbered at h1 h2
  obtain ⟨x, hx⟩ : ∃ x, delta.rd d = x := ⟨_, rfl⟩
  obtain ⟨y, hy⟩ : ∃ y, delta.rd x.2.1 = y := ⟨_, rfl⟩
  have hsz := hs x y hx hy
  rw [hx] at h1 h2
  rw [hy] at h2
  obtain ⟨n, r, e⟩ := x
  obtain ⟨m, s, e2⟩ := y
  simp only at h1 h2 hsz
  have H := Lib.hid (And.intro h1 (And.intro h2 (And.intro f0 hb0)))
  clear h1 h2 hs hx hy h h0
  have c0 := cell_of hb0 0
  have c1 := cell_of hb0 1
  have c2 := cell_of hb0 2
  have c3 := cell_of hb0 3
  have z0 := frozen_of hb0 0
  have z1 := frozen_of hb0 1
  have z2 := frozen_of hb0 2
  have z3 := frozen_of hb0 3
  simp only [List.getElem?_toArray, List.getElem?_cons_zero, List.getElem?_cons_succ] at c0 c1 c2 c3
  clear f0 hb0
  by_cases he : e = 0
  · subst he
    rw [if_pos rfl] at hsz
    by_cases he2 : e2 = 0
    · subst he2
      rw [if_pos rfl] at hsz
      have HS := Lib.hid hsz
      clear hsz
      have tok1 : True := trivial
      go_enter Try.func13, Try.ntmps13
      go_upto_region 1 with fail
      generalize (w.alloc (.cells #[.int .i64 0, .int .i64 0, .int .i64 0, .int .i64 0] 33)) = w0 at *
      generalize hR : w.heap.size = R at *
      have HR := Lib.hid hR
      clear hR
      go_wp2_with (first | (go_at_call 18; have _t := tok1; refine H.out.1.mono ?_; rintro e1 w1 ⟨rfl, u, rfl, hu, hl⟩; have H1 := Lib.hid hu; clear hu; clear tok1 _t) | (refine wpList_slice_from sliceU8 u rfl _ _ rfl a d.length cap _ rfl rfl rfl hl hle ?_) | (go_at_call 18; refine (H.out.2.1 u hl (H1.out (by trivial))).mono ?_; rintro e2 w2 ⟨rfl, u2, rfl, hu2, hl2⟩; have hl3 : u2 ≤ d.length - u := (by rw [H1.out (by trivial), List.length_drop] at hl2; exact hl2); have H2 := Lib.hid hu2; clear hu2 hl2))
      obtain ⟨p1, p2⟩ := put4 H.out.2.2.2 (.int .i64 n) (.int .i64 m) (.int .i64 ((u : Int) + u2)) (.int .i64 0)
      refine bodyPost_ret (results_head rfl _ _ R _ (0, 0) rfl p1 rfl) rfl ?_
      have f := H.out.2.2.1.step p2 fun y hy => .inr (by simp at hy; rw [hy, ← HR.out]; exact Nat.le_refl _)
      have h := dsized_of (u := u + u2) HS.out (fun _ => by rw [H2.out (by trivial), H1.out (by trivial), List.drop_drop]) (by omega) f
      rw [Int.natCast_add] at h
      exact h
    · rw [if_neg he2] at hsz
      have HS := Lib.hid hsz
      have hb : ((e2 : Int) == 0) = false := by simp; omega
      have hb2 : ((e2 : Int) != 0) = true := by simp; omega
      clear hsz he2
      have tok1 : True := trivial
      go_enter Try.func13, Try.ntmps13
      go_upto_region 1 with fail
      generalize (w.alloc (.cells #[.int .i64 0, .int .i64 0, .int .i64 0, .int .i64 0] 33)) = w0 at *
      generalize hR : w.heap.size = R at *
      have HR := Lib.hid hR
      clear hR
      go_wp2_with (first | (go_at_call 18; have _t := tok1; refine H.out.1.mono ?_; rintro e1 w1 ⟨rfl, u, rfl, hu, hl⟩; have H1 := Lib.hid hu; clear hu; clear tok1 _t) | (refine wpList_slice_from sliceU8 u rfl _ _ rfl a d.length cap _ rfl rfl rfl hl hle ?_) | (go_at_call 18; refine (H.out.2.1 u hl (H1.out (by trivial))).mono ?_; rintro e2 w2 ⟨rfl, u2, rfl, hu2, hl2⟩; have hl3 : u2 ≤ d.length - u := (by rw [H1.out (by trivial), List.length_drop] at hl2; exact hl2); have H2 := Lib.hid hu2; clear hu2 hl2))
      obtain ⟨p1, p2⟩ := put4 H.out.2.2.2 (.int .i64 0) (.int .i64 0) (.int .i64 0) (.int .i64 e2)
      refine bodyPost_ret (results_head rfl _ _ R _ (0, 0) rfl p1 rfl) rfl ?_
      have f := H.out.2.2.1.step p2 fun y hy => .inr (by simp at hy; rw [hy, ← HR.out]; exact Nat.le_refl _)
      have hne : ¬ e2 = 0 := fun h => by rw [h] at hb; simp at hb
      exact dsized_of (n := 0) (m := 0) (u := 0) (r := []) HS.out (fun h => absurd h hne) (Nat.zero_le _) f
  · rw [if_neg he] at hsz
    have HS := Lib.hid hsz
    have hb : ((e : Int) == 0) = false := by simp; omega
    have hb2 : ((e : Int) != 0) = true := by simp; omega
    clear hsz he
    have tok1 : True := trivial
    go_enter Try.func13, Try.ntmps13
    go_upto_region 1 with fail
    generalize (w.alloc (.cells #[.int .i64 0, .int .i64 0, .int .i64 0, .int .i64 0] 33)) = w0 at *
    generalize hR : w.heap.size = R at *
    have HR := Lib.hid hR
    clear hR
    go_wp2_with (first | (go_at_call 18; have _t := tok1; refine H.out.1.mono ?_; rintro e1 w1 ⟨rfl, u, rfl, hu, hl⟩; have H1 := Lib.hid hu; clear hu; clear tok1 _t))
    obtain ⟨p1, p2⟩ := put4 H.out.2.2.2 (.int .i64 0) (.int .i64 0) (.int .i64 0) (.int .i64 e)
    refine bodyPost_ret (results_head rfl _ _ R _ (0, 0) rfl p1 rfl) rfl ?_
    have f := H.out.2.2.1.step p2 fun y hy => .inr (by simp at hy; rw [hy, ← HR.out]; exact Nat.le_refl _)
    have hne : ¬ e = 0 := fun h => by rw [h] at hb; simp at hb
    exact dsized_of (n := 0) (m := 0) (u := 0) (r := []) HS.out (fun h => absurd h hne) (Nat.zero_le _) f
end Go.Proofs.Ytoplgcikcanagaa.delta
