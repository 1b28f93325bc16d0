/-
  Proved: stemmalaw2.NetBounds returns true and leaves its arguments as they were, for every input. Conditions: none.
-/
import Derived.Test.YtmoiahgbenaihaaAwake2
import Derived.Test.YtmoiahgbenaihaaArgs
import Derived.Test.YtmoiahgbenaihaaBitsOps
import Derived.OwnWalk
namespace Go.Proofs.Ytmoiahgbenaihaa.netBounds
open Go Go.RowKit Go.ChangeShapes Go.WideShapes Go.Proofs.Ytmoiahgbenaihaa.lib Go.Proofs.Ytmoiahgbenaihaa.bm Go.Proofs.Ytmoiahgbenaihaa.net

theorem and1023 (x : Int) : bits .and .i64 x 1023 = x % 1024 := i64_mask x 10 (by decide)
theorem and15 (x : Int) : bits .and .i64 x 15 = x % 16 := i64_mask x 4 (by decide)
theorem zeros (n : Nat) : (madeCells (Value.int .u8 0).cells (n * 1)).toList = (List.replicate n (0 : UInt8)).map bv := by
  rw [Nat.mul_one, List.map_replicate]
  exact toList_madeCells_one _ _
/-- What Send of a new row of n zeros leaves: f, the net, its lost ones. -/
def Put (w wz : World) (p mt mo lost : Nat) (l : List Gr) (n : Nat) (f : Int) : Prop :=
  (mt < n ∧ f = 2 ∧ ∃ F, New w wz p F mt mo lost l) ∨ (n ≤ mt ∧ l.length = mo ∧ f = 60 ∧ ∃ F, New w wz p F mt mo (lost + 1) l) ∨ (n ≤ mt ∧ l.length < mo ∧ f = 0 ∧ ∃ F g, New w wz p F mt mo lost (l ++ [g]))
theorem send_zeros (w w0 w1 : World) (p : Nat) (F : List Nat) (mt mo lost : Nat) (l : List Gr) (n b : Nat) (h : New w w0 p F mt mo lost l) (own : w1.ownsRow 0 5 1 (.slice (some ⟨b, 0, none⟩) n n) n (madeCells (Value.int .u8 0).cells (n * 1)).toList) (hg : w0.grownBy w1 none) (hlo : lost ≤ 1000) :
    Calls Try.prog 8 #[.pointer (some ⟨p, 0, none⟩), .int .i64 0, .int .i64 1, .slice (some ⟨b, 0, none⟩) n n] w1 fun e w2 => ∃ f, e = .returned (.int .i64 f) ∧ Put w w2 p mt mo lost l n f := by
  have f1 : Fr [] w0 w1 := (Fr.refl [] w0).grown hg (by simp)
  have h1 : New w w1 p F mt mo lost l := h.fr f1 (by simp) (by simp)
  have hlen := nt_len h1.1
  by_cases hl : mt < n
  · refine (send_long p F mt mo lost l 0 1 _ n n w1 h1.1 (by omega) (by omega) hl).mono ?_
    rintro e w2 ⟨rfl, rfl⟩
    exact ⟨2, rfl, .inl ⟨hl, rfl, F, h1⟩⟩
  · by_cases hm : l.length = mo
    · refine (send_full p F mt mo lost l 0 1 _ n n w1 h1.1 (by omega) (by omega) (by omega) (by omega) (by omega)).mono ?_
      rintro e w2 ⟨rfl, h2, f2⟩
      exact ⟨60, rfl, .inr (.inl ⟨by omega, hm, rfl, F, h1.on h2 f2 fun x hx => .inl hx⟩)⟩
    · have hcs := cs_of_owns own
      rw [zeros] at hcs
      have hg := send_good p F mt mo lost l 0 1 (some ⟨b, 0, none⟩) n (List.replicate n 0) w1 h1.1 (by omega) (by omega) (by simp; omega) (by omega) hcs (by simp) (by simp)
      rw [List.length_replicate] at hg
      refine hg.mono ?_
      rintro e w2 ⟨rfl, F', ao, cap, h2, f2, hF⟩
      exact ⟨0, rfl, .inr (.inr ⟨by omega, by omega, rfl, F', _, h1.on h2 f2 hF⟩)⟩

set_option maxRecDepth 100000 in
set_option maxHeartbeats 2000000 in
theorem walk_in (w : World) (mtu most : Int) (a : Option Addr) (len cap : Nat) (xs : List Int) (A : IntsArg .i64 w a len cap xs) :
    Calls Try.prog 3 #[.int .i64 mtu, .int .i64 most, .slice a len cap] w fun e w' => e = .returned (.bool true) ∧ Below w.heap.size w w' := by
  have hm0 : len ≤ 9223372036854775807 := by have := A.le; have := A.max; unfold maxLen at *; omega
  obtain ⟨m1, em1, hm1⟩ : ∃ m1 : Nat, bits .and .i64 mtu 1023 = m1 ∧ m1 ≤ 1023 := ⟨(mtu % 1024).toNat, by rw [and1023]; omega, by omega⟩
  obtain ⟨m2, em2, hm2⟩ : ∃ m2 : Nat, bits .and .i64 most 15 = m2 ∧ m2 ≤ 15 := ⟨(most % 16).toNat, by rw [and15]; omega, by omega⟩
  obtain ⟨mt, hmt, hmt1, hmt2⟩ : ∃ mt : Nat, mt = 64 + m1 ∧ 64 ≤ mt ∧ mt ≤ 1087 := ⟨_, rfl, by omega, by omega⟩
  obtain ⟨mo, hmo, hmo1, hmo2⟩ : ∃ mo : Nat, mo = 1 + m2 ∧ 1 ≤ mo ∧ mo ≤ 16 := ⟨_, rfl, by omega, by omega⟩
  have Hmt := Lib.hid (And.intro hmt hmo)
  obtain ⟨iu, hiu⟩ := sliceU8.info
  have IU := Lib.hid hiu
  clear hiu
  clear hmt hmo
  go_enter Try.func3, Try.ntmps3
  go_upto_region 1 with fail
  go_cut [0, 1] (fun s0 s1 wc => s0 = .int .i64 mt ∧ s1 = .int .i64 mo ∧ w = wc)
  case first =>
    go_wp2
    go_meet
    exact ⟨int_eq (by have := Hmt.out.1; omega), int_eq (by have := Hmt.out.2; omega), rfl⟩
  case rest =>
  obtain ⟨rfl, rfl, rfl⟩ := hcut
  clear em1 em2 Hmt hm1 hm2
  go_upto_region 2 with fail
  go_cut [7, 8] (fun s7 s8 wc => s8 = .int .i64 0 ∧ ∃ p F, s7 = .pointer (some ⟨p, 0, none⟩) ∧ New w wc p F mt mo 0 [])
  case first =>
    go_wp2_with (go_at_call 6; refine (new_good mt mo _ (by omega) (by omega) (by omega) (by omega)).mono ?_; rintro e w1 ⟨p, rfl, h1, fr1, hp⟩)
    go_meet
    exact ⟨rfl, p, _, rfl, h1, fr1, fun x hx => by simp at hx; omega⟩
  case rest =>
  obtain ⟨rfl, p, F, rfl, h⟩ := hcut
  have H := Lib.hid h
  clear h
  go_wp2
  go_loopg [9, 10] (min len 40) (fun k s9 s10 wr => ∃ (i lost : Nat), i + k = min len 40 ∧ lost ≤ i ∧ s9 = .int .i64 lost ∧ s10 = .int .i64 i ∧ ∃ F l, New w wr p F mt mo lost l)
  case atStart => exact ⟨0, 0, by omega, by omega, rfl, rfl, _, _, H.out⟩
  case round =>
    obtain ⟨i, lost, hik, hlo, rfl, rfl, F, l, h⟩ := hrel
    have Hr := Lib.hid h
    have hfr := h.2.1
    have hll := nt_len h.1
    clear h
    by_cases hin : i < min len 40
    · have hi1 : i < len := by omega
      have hi2 : i < 40 := by omega
      obtain ⟨g, o, rfl, hc⟩ := A.cs.at (by rw [List.length_map, A.length]; omega)
      have cx := hc i (.int .i64 (xs.getD i 0)) (by simp [List.getD, A.length, hi1])
      have cx := hfr.cell cx (by simp)
      clear hc
      obtain ⟨y, hy⟩ : ∃ y, y = xs.getD i 0 := ⟨_, rfl⟩
      rw [← hy] at cx
      clear hy
      obtain ⟨k, ek, hk⟩ : ∃ k : Nat, bits .and .i64 y 7 = k ∧ k ≤ 7 := ⟨(y % 8).toNat, by rw [and7]; omega, by omega⟩
      obtain ⟨n, hn, hn2⟩ : ∃ n : Nat, n = mt - 3 + k ∧ n ≤ 2000 := ⟨_, rfl, by omega⟩
      have Hn := Lib.hid hn
      clear hn
      go_upto_region 9 with fail
      go_cut [11] (fun s11 wz => s11 = .int .i64 n ∧ wr = wz)
      case first =>
        have hmx : ¬ ((mt : Int) - 3 + k < 0) := by omega
        go_wp2
        all_goals (go_meet; exact ⟨int_eq (by have := Hn.out; omega), rfl⟩)
      case rest =>
      obtain ⟨rfl, rfl⟩ := hcut
      go_upto_region 10 with fail
      go_cut [12] (fun s12 wz => s12 = .int .i64 l.length ∧ wr = wz)
      case first =>
        go_wp2_with (go_at_call 7; refine (len_any p F mt mo lost l _ Hr.out.1).mono ?_; rintro e w1 ⟨rfl, rfl⟩)
        go_meet
        exact ⟨rfl, rfl⟩
      case rest =>
      obtain ⟨rfl, rfl⟩ := hcut
      go_upto_region 11 with fail
      go_cut [13] (fun s13 wz => ∃ f, s13 = .int .i64 f ∧ Put w wz p mt mo lost l n f)
      case first =>
        go_wp2_with (first | (refine wpList_make_full _ rfl _ _ _ rfl 0 5 iu (.int .u8 0) 1 Try.underlying29 IU.out.1 IU.out.2.1 IU.out.2.2.1 .i64 .i64 n n n rfl rfl rfl rfl (by rw [IU.out.2.2.2]; omega) (by unfold maxLen; omega) (Nat.zero_le _) ?_; intro w1 own1 gr1) | (go_at_call 8; refine (send_zeros w _ _ p F mt mo lost l n _ Hr.out own1 gr1 (by omega)).mono ?_; rintro e w2 ⟨f, rfl, hP⟩))
        go_meet
        exact ⟨f, rfl, hP⟩
      case rest =>
      obtain ⟨f, rfl, hP⟩ := hcut
      clear cx
      go_upto_block 2 with fail
      go_cut [9] (fun s9 wz => ∃ (lost' : Nat) (F : List Nat) (l : List Gr), s9 = .int .i64 lost' ∧ lost' ≤ lost + 1 ∧ New w wz p F mt mo lost' l)
      case first =>
        rcases hP with ⟨h1, rfl, F1, h2⟩ | ⟨h1, h3, rfl, F1, h2⟩ | ⟨h1, h3, rfl, F1, g1, h2⟩
        · have H2 := Lib.hid h2
          clear h2
          have hd : decide ((mt : Int) < n) = true := by simp; omega
          go_wp2_with (go_at_call 7; refine (len_any p F1 mt mo lost l _ H2.out.1).mono ?_; rintro e w1 ⟨rfl, rfl⟩)
          go_meet
          exact ⟨lost, F1, l, rfl, by omega, H2.out⟩
        · have H2 := Lib.hid h2
          clear h2
          subst h3
          have hd : decide ((mt : Int) < n) = false := by simp; omega
          go_wp2_with (go_at_call 7; refine (len_any p F1 mt l.length (lost + 1) l _ H2.out.1).mono ?_; rintro e w1 ⟨rfl, rfl⟩)
          go_meet
          exact ⟨lost + 1, F1, l, int_eq (by omega), by omega, H2.out⟩
        · have H2 := Lib.hid h2
          clear h2
          have hd : decide ((mt : Int) < n) = false := by simp; omega
          have hd2 : ((l.length : Int) == mo) = false := by simp; omega
          have hl2 : (l ++ [g1]).length = l.length + 1 := by simp
          go_wp2_with (go_at_call 7; refine (len_any p F1 mt mo lost _ _ H2.out.1).mono ?_; rintro e w1 ⟨rfl, rfl⟩; rw [hl2])
          go_meet
          exact ⟨lost, F1, _, rfl, by omega, H2.out⟩
      case rest =>
      clear hP Hr hfr hll
      obtain ⟨lost', F, l, rfl, hlo', h⟩ := hcut
      have hfr := h.2.1
      have hll := nt_len h.1
      obtain ⟨g', o', e, hc⟩ := A.cs.at (by rw [List.length_map, A.length]; omega)
      simp only [Option.some.injEq, Addr.mk.injEq, and_true] at e
      obtain ⟨rfl, rfl⟩ := e
      have cx := hc i (.int .i64 (xs.getD i 0)) (by simp [List.getD, A.length, hi1])
      have cx := hfr.cell cx (by simp)
      clear hc
      obtain ⟨y, hy⟩ : ∃ y, y = xs.getD i 0 := ⟨_, rfl⟩
      rw [← hy] at cx
      clear hy
      have Hr := Lib.hid h
      clear h
      go_upto_region 21 with fail
      go_cut [102] (fun s102 wz => ∃ bb : Bool, s102 = .bool bb ∧ (bb = true → 0 < l.length) ∧ wc = wz)
      case first =>
        by_cases h64 : (bits .and .i64 y 64 == 64) = true
        · go_wp2_with (go_at_call 7; refine (len_any p F mt mo lost' l _ Hr.out.1).mono ?_; rintro e w1 ⟨rfl, rfl⟩)
          all_goals go_meet
          all_goals exact ⟨_, rfl, fun h => by simpa using h, rfl⟩
        · go_wp2_with (go_at_call 7; refine (len_any p F mt mo lost' l _ Hr.out.1).mono ?_; rintro e w1 ⟨rfl, rfl⟩)
          all_goals go_meet
          all_goals exact ⟨_, rfl, fun h => by first | exact absurd h Bool.false_ne_true | exact absurd h h64, rfl⟩
      case rest =>
      obtain ⟨bb, rfl, hbb, rfl⟩ := hcut
      clear cx
      cases bb with
      | false =>
        go_wp2_with (go_at_call 10; refine (lost_any p F mt mo lost' l _ Hr.out.1).mono ?_; rintro e w1 ⟨rfl, rfl⟩)
        go_roundg (min len 40 - (i + 1))
        case measure => omega
        case rel => exact ⟨i + 1, lost', by omega, by omega, rfl, by go_num, _, _, Hr.out⟩
      | true =>
        have hpos := hbb rfl
        go_wp2_with (first | (go_at_call 9; refine (take_good p F mt mo lost' l 0 _ Hr.out.1 hpos).mono ?_; rintro e w1 ⟨a3, F1, rfl, f1, b1, h1, fr1, hF1⟩; have H1 := Lib.hid (Hr.out.on h1 fr1 fun x hx => .inl (hF1 x hx)); clear h1 f1 b1 fr1) | (go_at_call 10; refine (lost_any p F1 mt mo lost' _ _ H1.out.1).mono ?_; rintro e w1 ⟨rfl, rfl⟩))
        go_roundg (min len 40 - (i + 1))
        case measure => omega
        case rel => exact ⟨i + 1, lost', by omega, by omega, rfl, by go_num, _, _, H1.out⟩
    · by_cases hi1 : i < len
      · obtain rfl : i = 40 := by omega
        go_wp2_with (go_at_call 11; refine (awake_any _).mono ?_; rintro e w' ⟨rfl, f7⟩)
        go_ret
        exact ⟨rfl, below_of_fr (Hr.out.2.1.trans f7)⟩
      · go_wp2_with (go_at_call 11; refine (awake_any _).mono ?_; rintro e w' ⟨rfl, f7⟩)
        go_ret
        exact ⟨rfl, below_of_fr (Hr.out.2.1.trans f7)⟩

/-- From the arguments as they are read to the walk. -/
theorem walk {H : Type} {enc : TypeId × Value → H} (W : World) {base : Nat} (v0 : Value) (d0 : DataW H) (p0 : List MemPlace) (v1 : Value) (d1 : DataW H) (p1 : List MemPlace) (v2 : Value) (d2 : DataW H) (p2 : List MemPlace)
    (o0 : Value.okWide Try.prog W .any base 3 v0) (h0 : DataW.Trod enc Try.prog W 0 (fun _ => true) true 3 v0 d0 p0)
    (o1 : Value.okWide Try.prog W .any base 3 v1) (h1 : DataW.Trod enc Try.prog W 0 (fun _ => true) true 3 v1 d1 p1)
    (o2 : Value.okWide Try.prog W .any base 22 v2) (h2 : DataW.Trod enc Try.prog W 0 (fun _ => true) true 22 v2 d2 p2)
    (hz : (DataW.weightsEach Try.prog [3, 3, 22] [d0, d1, d2]).all (· ≤ reachBytes) = true) :
    Calls Try.prog 3 #[v0, v1, v2] W fun e W' => e = .returned (.bool true) ∧ Below W.heap.size W W' := by
  obtain ⟨x0, rfl, rfl, rfl, wx0⟩ := open_int Try.underlying3 o0 h0
  obtain ⟨x1, rfl, rfl, rfl, wx1⟩ := open_int Try.underlying3 o1 h1
  obtain ⟨a2, len2, cap2, rfl⟩ := okWide_slice Try.underlying22 o2
  obtain ⟨xs2, sp2, A2, hsp2, hd2⟩ := ints_arg Try.underlying22 Try.underlying3 (by kernel_rfl) h2
  exact walk_in W x0 x1 a2 len2 cap2 xs2 A2

/-! ### The row -/
theorem own : ownKnob Try.prog.godebug = none := by kernel_rfl
theorem laidOut : laidOutB Try.prog = true := by kernel_rfl
set_option maxRecDepth 100000 in
theorem lifted (os : Os) (started : os.Started) (H : Type) (enc : TypeId × Value → H) :
    ReturnsInHanded {} Try.checked os 3 .any (Rows.netBoundsSpec.pre6 enc Try.prog Try.f3 Rows.netBoundsRow.domain false) (Rows.netBoundsSpec.post enc Try.prog Try.f3 false true false false) := by
  refine returnsInHanded_of_change_sized (C := Try.checked) own started (by kernel_rfl) Try.func3
    (ChangeSpec.witness6 (enc := enc) (C := Try.checked) false ⟨#[], #[.int .i64 0, .int .i64 0, .slice none 0 0], []⟩ 8 (by kernel_rfl) (by kernel_rfl) (by kernel_rfl) (by kernel_rfl)) ?_
  intro W base args ds gs before hval hW _ hsz _
  have hW' := hW
  obtain ⟨p, q, hA0, hV, rfl, hfz, hnd⟩ := hW'
  have hA : DataW.TrodAll enc Try.prog W 0 (fun _ => true) true Try.f3.params.toList args.toList ds p := hA0
  rw [Try.params3] at hA hval
  obtain ⟨v0, vs0, d0, ds0, p0, q0, hargs, rfl, rfl, h0, r0⟩ := trodAll_cons hA
  obtain ⟨v1, vs1, d1, ds1, p1, q1, rfl, rfl, rfl, h1, r1⟩ := trodAll_cons r0
  obtain ⟨v2, vs2, d2, ds2, p2, q2, rfl, rfl, rfl, h2, r2⟩ := trodAll_cons r1
  obtain ⟨rfl, rfl, rfl⟩ := trodAll_nil r2
  obtain rfl : args = #[v0, v1, v2] := by cases args; simp_all
  obtain ⟨rfl, rfl⟩ := trodVars_none hV
  have hz : (DataW.weightsEach Try.prog [3, 3, 22] [d0, d1, d2]).all (· ≤ reachBytes) = true := hsz
  refine law_of_calls (s := Rows.netBoundsSpec) laidOut (by kernel_rfl) rfl rfl Try.underlying4 hW (fun gs _ h2 => by subst h2; rfl) ?_
  exact walk W v0 d0 p0 v1 d1 p1 v2 d2 p2 (hval 0 3 v0 rfl rfl) (h0) (hval 1 3 v1 rfl rfl) (h1) (hval 2 22 v2 rfl rfl) (h2) hz

theorem over : Rows.netBoundsRow.holds Try.pinned (OpenSpec.ofChange Rows.netBoundsSpec) :=
  OpenClaim.holds_of_wide 3 Try.f3 rfl rfl rfl rfl rfl rfl rfl ⟨rfl, rfl, rfl, rfl, rfl⟩ rfl rfl rfl rfl rfl (by kernel_rfl) Try.func3 (by kernel_rfl)
    (of_decide_eq_true (by kernel_rfl)) (by unfold Func.isWrapper; first | (rw [if_pos (by decide +kernel)]; kernel_rfl) | (rw [if_neg (by decide +kernel)]; exact ⟨rfl, rfl⟩))
    (fun os started H enc _ => lifted os started H enc)

theorem proved : Rows.NetBoundsSaid := over
end Go.Proofs.Ytmoiahgbenaihaa.netBounds
