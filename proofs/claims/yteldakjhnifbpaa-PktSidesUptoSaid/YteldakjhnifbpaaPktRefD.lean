/-
  stemmaref17.number, Decode.
-/
import Derived.Test.YteldakjhnifbpaaPktRef
namespace Go.Proofs.Yteldakjhnifbpaa.pkt
open Go Go.RowKit Go.Proofs.Yteldakjhnifbpaa.lib Go.Proofs.Yteldakjhnifbpaa.bm

theorem index_str (s : List UInt8) (i : Nat) (c : UInt8) (h : s[i]? = some c) (w : World) : (Instr.index 9 (.string (str s)) (.int .i64 i)).run Try.prog w = .ok (.int .u8 (c.toNat : Nat)) w := by
  obtain ⟨hi, e1⟩ := List.getElem?_eq_some_iff.1 h
  have e := run_index_string (P := Try.prog) w 9 (str s) .i64 i Try.underlying9
  rw [dif_pos ⟨by omega, by rw [str_size]; omega⟩] at e
  simp only [Int.toNat_natCast] at e
  rw [e]
  have : (str s)[i]'(by rw [str_size]; exact hi) = c := by rw [← e1]; rfl
  rw [this]
theorem slice_str (bs : List UInt8) (i j : Nat) (ij : Int) (hj : ij = j) (h1 : i ≤ j) (h2 : j ≤ bs.length) (w : World) :
    (Instr.slice 9 (.string (str bs)) (some (.int .i64 i)) (some (.int .i64 ij)) none).run Try.prog w = .ok (.string (str ((bs.take j).drop i))) w := by
  subst hj
  rw [run_slice_string w 9 (str bs) .i64 .i64 i j Try.underlying9 (by omega) (by omega) (by rw [str_size]; omega), ← str_extract]
  simp
/-- What the digit's loop has found behind k signs. -/
def vat (c : UInt8) (k : Nat) : Int := match digit c with
  | some d => if d < k then (d : Int) else -1
  | none => -1
theorem vat_zero (c : UInt8) : vat c 0 = -1 := by unfold vat; split <;> simp
theorem digit_inj {c : UInt8} {k : Nat} (h : digit c = some k) : c = hexd k := by
  unfold digit at h
  apply UInt8.toNat_inj.1
  unfold hexd
  rw [UInt8.toNat_ofNat']
  have := UInt8.toNat_lt c
  split at h
  · simp only [Option.some.injEq] at h
    rw [if_pos (by omega)]
    omega
  · split at h
    · simp only [Option.some.injEq] at h
      rw [if_neg (by omega)]
      omega
    · cases h
theorem vat_yes {c : UInt8} {k : Nat} (hk : k < 16) (h : hexd k = c) : vat c (k + 1) = k := by
  unfold vat
  rw [← h, digit_hexd k hk]
  simp
theorem vat_no {c : UInt8} {k : Nat} (h : hexd k ≠ c) : vat c (k + 1) = vat c k := by
  unfold vat
  cases hd : digit c with
  | none => rfl
  | some d =>
    have : d ≠ k := fun e => h (by rw [← e]; exact (digit_inj hd).symm)
    simp only
    by_cases h1 : d < k
    · rw [if_pos (by omega), if_pos h1]
    · rw [if_neg (by omega), if_neg h1]
theorem vat_all (c : UInt8) : (∃ d, digit c = some d ∧ d < 16 ∧ vat c 16 = d) ∨ (digit c = none ∧ vat c 16 = -1) := by
  unfold vat
  cases hd : digit c with
  | none => exact .inr ⟨rfl, rfl⟩
  | some d => exact .inl ⟨d, rfl, digit_lt hd, by simp [digit_lt hd]⟩
theorem vat_lo (c : UInt8) (k : Nat) : -1 ≤ vat c k ∧ vat c k < 16 := by
  unfold vat
  cases hd : digit c with
  | none => simp
  | some d => have := digit_lt hd; simp only; split <;> omega
def numv (s : List UInt8) : Int := match num s with
  | some n => (n : Int)
  | none => -1
set_option maxRecDepth 100000 in
set_option maxHeartbeats 2000000 in
theorem number_all (s : List UInt8) (w : World) (hs : s.length = 4) : Calls Try.prog 26 #[.string (str s)] w fun e w' => e = .returned (.int .i64 (numv s)) ∧ Fr [] w w' := by
  obtain ⟨z, hz⟩ : ∃ z, z = str s := ⟨_, rfl⟩
  have HS := Lib.hid (And.intro hs hz)
  rw [← hz]
  clear hs hz
  go_enter Try.func26, Try.ntmps26
  go_wp2
  go_loopg [3, 4] 4 (fun k s3 s4 wr => ∃ (i n : Nat), i + k = 4 ∧ s4 = .int .i64 i ∧ s3 = .int .i64 n ∧ n < 16 ^ i ∧ digs n (s.drop i) = num s ∧ Fr [] w wr)
  case atStart => exact ⟨0, 0, rfl, rfl, rfl, by decide, by unfold num; rw [List.take_of_length_le (by rw [HS.out.1]; decide)]; rfl, Fr.refl _ _⟩
  case round =>
    obtain ⟨i, n, hi, rfl, rfl, hn, hd, hfr⟩ := hrel
    by_cases hi4 : i < 4
    · have hn4 : n < 4096 := by
        have : 16 ^ i ≤ 16 ^ 3 := Nat.pow_le_pow_right (by decide) (by omega)
        have e : (16 : Nat) ^ 3 = 4096 := by decide
        omega
      have hil : i < s.length := by rw [HS.out.1]; exact hi4
      obtain ⟨c, hc⟩ : ∃ c, s[i]? = some c := ⟨s[i], by simp [hil]⟩
      have hdr : s.drop i = c :: s.drop (i + 1) := by
        obtain ⟨h1, h2⟩ := List.getElem?_eq_some_iff.1 hc
        rw [List.drop_eq_getElem_cons h1, h2]
      rw [hdr] at hd
      have hix := fun w => index_str s i c hc w
      rw [← HS.out.2] at hix
      have HD := Lib.hid (And.intro hd (And.intro hn hfr))
      have HIX := Lib.hid hix
      clear hd hn hfr hix hdr hc hil
      go_upto_block 2 with fail
      go_cut [5, 6] from 11 to 22 (fun s5 s6 wz => s5 = .int .i64 (vat c 16) ∧ Fr [] wr wz)
      case first =>
        go_wp2
        go_loopg [5, 6] 16 (fun k s5 s6 wr2 => ∃ (j : Nat), j + k = 16 ∧ s6 = .int .i64 j ∧ s5 = .int .i64 (vat c j) ∧ Fr [] wr wr2)
        case atStart => exact ⟨0, rfl, rfl, by rw [vat_zero], Fr.refl _ _⟩
        case round =>
          obtain ⟨j, hj, rfl, rfl, hfr⟩ := hrel
          have F := Lib.hid hfr
          clear hfr
          by_cases hj16 : j < 16
          · have i1 := index_hexd j hj16
            have i2 := HIX.out
            by_cases he : hexd j = c
            · have hv := vat_yes hj16 he
              have HV := Lib.hid hv
              have hb : ((((hexd j).toNat : Nat) : Int) == ((c.toNat : Nat) : Int)) = true := by rw [he]; simp
              generalize (hexd j).toNat = hn at *
              generalize c.toNat = cn at *
              clear he hv
              go_upto_region 9 with fail
              go_quiet (fail)
              clear i1 i2
              go_wp2
              go_roundg (16 - (j + 1))
              case measure => omega
              case rel => exact ⟨j + 1, by omega, by go_num, by rw [HV.out], F.out.trans (Fr.drewN _ _ _)⟩
            · have hv := vat_no he
              have HV := Lib.hid hv
              have hne : (hexd j).toNat ≠ c.toNat := fun e => he (UInt8.toNat_inj.1 e)
              have hb : ((((hexd j).toNat : Nat) : Int) == ((c.toNat : Nat) : Int)) = false := by simp; omega
              generalize (hexd j).toNat = hn at *
              generalize c.toNat = cn at *
              clear he hv hne
              go_upto_region 9 with fail
              go_quiet (fail)
              clear i1 i2
              go_wp2
              go_roundg (16 - (j + 1))
              case measure => omega
              case rel => exact ⟨j + 1, by omega, by go_num, by rw [HV.out], F.out.trans (Fr.drewN _ _ _)⟩
          · obtain rfl : j = 16 := by omega
            go_wp2
            go_meet
            exact ⟨rfl, F.out⟩
      case rest =>
      obtain ⟨rfl, f2⟩ := hcut
      have HF := Lib.hid f2
      clear f2
      rcases vat_all c with ⟨d, hd, hd16, hv⟩ | ⟨hd, hv⟩
      · rw [hv]
        have HDG := Lib.hid hd
        clear hd hv
        go_wp2
        go_roundg (4 - (i + 1))
        case measure => omega
        case rel =>
          have h := HD.out
          rw [digs, HDG.out] at h
          refine ⟨i + 1, 16 * n + d, by omega, by go_num, int_eq (by first | omega | (simp only [wrap64]; omega)), ?_, h.1, h.2.2.trans HF.out⟩
          have := h.2.1
          rw [Nat.pow_succ]
          omega
      · rw [hv]
        have HDG := Lib.hid hd
        clear hd hv
        go_wp2
        go_ret
        refine ⟨?_, HD.out.2.2.trans HF.out⟩
        have h := HD.out.1
        rw [digs, HDG.out] at h
        unfold numv
        rw [← h]
        rfl
    · obtain rfl : i = 4 := by omega
      rw [List.drop_eq_nil_of_le (by rw [HS.out.1]; decide), digs] at hd
      have HD := Lib.hid (And.intro hd hfr)
      clear hd hn hfr
      go_wp2
      go_ret
      exact ⟨by unfold numv; rw [← HD.out.1]; rfl, HD.out.2⟩
end Go.Proofs.Yteldakjhnifbpaa.pkt
namespace Go.Proofs.Yteldakjhnifbpaa.pkt
open Go Go.RowKit Go.Proofs.Yteldakjhnifbpaa.lib Go.Proofs.Yteldakjhnifbpaa.bm

/-- Where the document's reading stands. -/
structure Dd (w wr : World) (R G : Nat) (bs : List UInt8) (k : Nat) (a : Option Addr) (c : Nat) (l : List Ln) (i : Nat) : Prop where
  own : wr.ownsRow 0 60 2 (.slice a l.length c) l.length (dcells l)
  blkR : wr.heap[R]? = some (.cells #[.slice none 0 0, .int .i64 0, .int .i64 0] 39 (0, 0))
  blkG : wr.heap[G]? = some (.cells #[.slice a l.length c, .int .i64 0, .int .i64 0] 39 (0, 0))
  fr : Fr [] w wr
  newR : w.heap.size ≤ R
  newG : w.heap.size ≤ G
  ne : R ≠ G
  new : ∀ x ∈ blk a, w.heap.size ≤ x ∧ x ≠ R ∧ x ≠ G
  le : i ≤ bs.length
  fuel : bs.length - i ≤ k
  few : l.length ≤ i
  dec : dec k (bs.drop i) i l = decode bs
theorem dd_start (w : World) (bs : List UInt8) : Dd w ((w.alloc (.cells #[.slice none 0 0, .int .i64 0, .int .i64 0] 39)).alloc (.cells #[.slice none 0 0, .int .i64 0, .int .i64 0] 39)) w.heap.size (w.heap.size + 1) bs bs.length none 0 [] 0 := by
  refine ⟨World.ownsRow_nil _ _ _ _, alloc_old _ (alloc_at w _), ?_, ((Fr.refl [] w).alloc _).alloc _, Nat.le_refl _, Nat.le_succ _, by omega, by simp [blk], Nat.zero_le _, by omega, Nat.zero_le _, rfl⟩
  have := alloc_at (w.alloc (.cells #[.slice none 0 0, .int .i64 0, .int .i64 0] 39)) (.cells #[.slice none 0 0, .int .i64 0, .int .i64 0] 39)
  rw [World.size_alloc] at this
  exact this
theorem Dd.fr0 {w wr wz : World} {R G : Nat} {bs : List UInt8} {k : Nat} {a : Option Addr} {c : Nat} {l : List Ln} {i : Nat} (h : Dd w wr R G bs k a c l i) (f : Fr [] wr wz) : Dd w wz R G bs k a c l i :=
  ⟨ownsRow_fr h.own f (by simp), f.blk h.blkR (by simp), f.blk h.blkG (by simp), h.fr.trans f, h.newR, h.newG, h.ne, h.new, h.le, h.fuel, h.few, h.dec⟩
/-- A line more: appended, and stored. -/
theorem Dd.more {w w1 w2 : World} {R G : Nat} {bs : List UInt8} {k k' : Nat} {a a2 : Option Addr} {c c2 : Nat} {l : List Ln} {i i' : Nat} {x : Ln} (h : Dd w w1 R G bs k a c l i)
    (A : Appended w1 w2 60 2 (blk a) a2 (l.length + 1) c2 (dcells l ++ dcells [x])) (hle : i' ≤ bs.length) (hf : bs.length - i' ≤ k') (hfew : l.length + 1 ≤ i') (hd : pkt.dec k' (bs.drop i') i' (l ++ [x]) = decode bs) :
    Dd w (w2.setCell ⟨G, 0, none⟩ (.slice a2 (l.length + 1) c2)) R G bs k' a2 c2 (l ++ [x]) i' := by
  have hR : R ∉ blk a := fun hx => (h.new R hx).2.1 rfl
  have hG : G ∉ blk a := fun hx => (h.new G hx).2.2 rfl
  have hGw : G < w1.heap.size := lt_of_block h.blkG
  have hRw : R < w1.heap.size := lt_of_block h.blkR
  have hn2 : ∀ y ∈ blk a2, w.heap.size ≤ y ∧ y ≠ R ∧ y ≠ G := fun y hy => by
    rcases A.at_ y hy with h1 | h1
    · exact h.new y h1
    · have := h.fr.size
      exact ⟨by omega, by omega, by omega⟩
  have fs : Fr [G] w2 (w2.setCell ⟨G, 0, none⟩ (.slice a2 (l.length + 1) c2)) := (Fr.refl [G] w2).setCell (by simp) _
  refine ⟨?_, ?_, ?_, (h.fr.step A.fr fun y hy => .inr (h.new y hy).1).step fs fun y hy => .inr (by simp at hy; rw [hy]; exact h.newG), h.newR, h.newG, h.ne, hn2, hle, hf, by simpa using hfew, hd⟩
  · rw [List.length_append, dcells_append]
    refine ownsRow_fr A.own fs fun y hy hyG => ?_
    simp at hyG
    exact (hn2 y (by rw [← own_blk a2 (l.length + [x].length) c2, hy]; simp)).2.2 hyG
  · exact fs.blk (A.fr.blk h.blkR hR) (by simp [h.ne])
  · rw [setCell_of (A.fr.blk h.blkG hG)]
    simp
theorem Dd.put3 {w wr wz : World} {R G : Nat} {bs : List UInt8} {k : Nat} {a : Option Addr} {c : Nat} {l : List Ln} {i : Nat} (h : Dd w wr R G bs k a c l i) (f : Fr [G] wr wz) (v0 v1 v2 : Value) :
    (((wz.setCell ⟨R, 0, none⟩ v0).setCell ⟨R, 1, none⟩ v1).setCell ⟨R, 2, none⟩ v2).heap[R]? = some (.cells #[v0, v1, v2] 39 (0, 0)) ∧
      Fr [] w (((wz.setCell ⟨R, 0, none⟩ v0).setCell ⟨R, 1, none⟩ v1).setCell ⟨R, 2, none⟩ v2) ∧ Cs (((wz.setCell ⟨R, 0, none⟩ v0).setCell ⟨R, 1, none⟩ v1).setCell ⟨R, 2, none⟩ v2) a (dcells l) := by
  have hb := f.blk h.blkR (by simp [h.ne])
  have f2 : Fr [R] wz (((wz.setCell ⟨R, 0, none⟩ v0).setCell ⟨R, 1, none⟩ v1).setCell ⟨R, 2, none⟩ v2) := (((Fr.refl [R] wz).setCell (by simp) _).setCell (by simp) _).setCell (by simp) _
  refine ⟨(setCell_of (setCell_of (setCell_of hb _) _) _).trans rfl, (h.fr.step f fun y hy => .inr (by simp at hy; rw [hy]; exact h.newG)).step f2 fun y hy => .inr (by simp at hy; rw [hy]; exact h.newR), ?_⟩
  refine ((cs_of_row h.own).fr f fun y hy => ?_).fr f2 fun y hy => ?_
  · simp; exact (h.new y hy).2.2
  · simp; exact (h.new y hy).2.1
def DDec (w : World) (bs : List UInt8) (e : Ending) (w' : World) : Prop :=
  ∃ (a : Option Addr) (n c : Nat), e = .returned (.agg #[.slice a n c, .int .i64 (decode bs).2.1, .int .i64 (decode bs).2.2]) ∧ (decode bs).1.length = n ∧ Cs w' a (dcells (decode bs).1) ∧ n ≤ c ∧ c ≤ maxLen ∧ Fr [] w w'
theorem ddec_of {w w' : World} {bs : List UInt8} {l : List Ln} {u x : Nat} {a : Option Addr} {c : Nat} (h : decode bs = (l, u, x)) (hc : Cs w' a (dcells l)) (h1 : l.length ≤ c) (h2 : c ≤ maxLen) (f : Fr [] w w') :
    DDec w bs (.returned (.agg #[.slice a l.length c, .int .i64 u, .int .i64 x])) w' := by
  unfold DDec
  rw [h]
  exact ⟨a, _, c, rfl, rfl, hc, h1, h2, f⟩
theorem infoGot : (Try.prog.info? 39).map (·.size) = some 3 := by kernel_rfl
theorem results_got {fn : Func} {p : Tmp} (h : fn.results = #[.cell p 39]) (tmps : Array Value) (w : World) (g : Nat) (cs : Array Value) (fr : Nat × Nat)
    (hp : tmps.getD p undef = .pointer (some ⟨g, 0, none⟩)) (hg : w.heap[g]? = some (.cells cs 39 fr)) (hs : cs.size = 3) : (results fn tmps).run Try.prog w = .ok (.agg cs) w :=
  results_cell_row h tmps w g 39 cs fr _ hp hg Try.underlying39 rfl (by rw [infoGot, hs])
set_option maxRecDepth 100000 in
set_option maxHeartbeats 4000000 in
theorem ddec_all (bs : List UInt8) (w : World) (hlim : bs.length ≤ 2199023255552) :
    Calls Try.prog 12 #[.string (str bs)] w (DDec w bs) := by
  have hsz := str_size bs
  obtain ⟨z, hz⟩ : ∃ z, z = str bs := ⟨_, rfl⟩
  rw [← hz] at hsz ⊢
  have HZ := Lib.hid hz
  clear hz
  go_enter Try.func12, Try.ntmps12
  go_upto_block 0 with fail
  go_wp2
  go_loopg [4] bs.length (fun k s4 wr => ∃ a c l i, s4 = .int .i64 (i : Nat) ∧ Dd w wr w.heap.size (w.heap.size + 1) bs k a c l i)
  case atStart => exact ⟨none, 0, [], 0, rfl, dd_start w bs⟩
  case round =>
    obtain ⟨a, c, l, i, rfl, h⟩ := hrel
    have hi := h.le
    have hw := h.fuel
    have hfew := h.few
    have H := Lib.hid h
    obtain ⟨_, _, he, hoc, hcm⟩ := owns_shape h.own
    simp only [Value.slice.injEq] at he
    obtain ⟨rfl, _, rfl⟩ := he
    have g0 := cell_of h.blkG 0
    have g1 := cell_of h.blkG 1
    have g2 := cell_of h.blkG 2
    have y0 := frozen_of h.blkG 0
    have y1 := frozen_of h.blkG 1
    have r0 := cell_of h.blkR 0
    have r1 := cell_of h.blkR 1
    have r2 := cell_of h.blkR 2
    have z0 := frozen_of h.blkR 0
    have z1 := frozen_of h.blkR 1
    have z2 := frozen_of h.blkR 2
    simp only [List.getElem?_toArray, List.getElem?_cons_zero, List.getElem?_cons_succ] at g0 g1 g2 r0 r1 r2
    clear h
    by_cases h4 : bs.length - i < 4
    · have hd := H.out.dec
      have hd : decode bs = (l, i, 0) := by rw [← hd]; cases gk with | zero => rfl | succ k => rw [pkt.dec, if_pos (by simp; omega)]
      have HD := Lib.hid hd
      clear hd
      go_wp2
      obtain ⟨p1, p2, p3⟩ := H.out.put3 (wz := wr.setCell ⟨w.heap.size + 1, 1, none⟩ (.int .i64 (i : Nat))) ((Fr.refl _ wr).setCell (by simp) _) (.slice a l.length c) (.int .i64 (i : Nat)) (.int .i64 0)
      refine bodyPost_ret (results_got rfl _ _ w.heap.size _ (0, 0) rfl p1 rfl) rfl ?_
      exact ddec_of HD.out p3 hoc hcm p2
    · obtain ⟨k, rfl⟩ : ∃ k, gk = k + 1 := ⟨gk - 1, by omega⟩
      have hdec := H.out.dec
      rw [pkt.dec, if_neg (by simp; omega)] at hdec
      generalize hr : bs.drop i = r at *
      have hrl : r.length = bs.length - i := by rw [← hr, List.length_drop]
      obtain ⟨y, hy⟩ : ∃ y, y = str (r.take 4) := ⟨_, rfl⟩
      have hsl : ∀ w, (Instr.slice 9 (.string z) (some (.int .i64 i)) (some (.int .i64 ((i : Int) + 4))) none).run Try.prog w = .ok (.string y) w := fun w => by
        have := slice_str bs i (i + 4) ((i : Int) + 4) (by omega) (by omega) (by omega) w
        rw [List.drop_take, hr, show i + 4 - i = 4 from by omega, ← HZ.out, ← hy] at this
        exact this
      have hnm : ∀ w, Calls Try.prog 26 #[.string y] w fun e w' => e = .returned (.int .i64 (numv r)) ∧ Fr [] w w' := fun w => by
        have := number_all (r.take 4) w (by rw [List.length_take]; omega)
        rw [hy, show numv r = numv (r.take 4) from by unfold numv num; rw [List.take_take, Nat.min_self]]
        exact this
      have HN := Lib.hid hnm
      have HR := Lib.hid (And.intro hr hrl)
      have HDC := Lib.hid hdec
      clear hr hrl hnm hdec hy
      go_upto_region 4 with fail
      go_cut [5] from 7 to 18 (fun s5 wz => s5 = .int .i64 (numv r) ∧ Fr [] wr wz)
      case first =>
        go_wp2_with (go_at_call 26; refine (HN.out _).mono ?_; rintro e w1 ⟨rfl, f1⟩)
        go_meet
        exact ⟨rfl, f1⟩
      case rest =>
      clear hsl g0 g1 g2 y0 y1 r0 r1 r2 z0 z1 z2
      obtain ⟨rfl, f1⟩ := hcut
      have H1 := Lib.hid (H.out.fr0 f1)
      have h := H.out.fr0 f1
      have g0 := cell_of h.blkG 0
      have g1 := cell_of h.blkG 1
      have g2 := cell_of h.blkG 2
      have y0 := frozen_of h.blkG 0
      have y1 := frozen_of h.blkG 1
      have r0 := cell_of h.blkR 0
      have r1 := cell_of h.blkR 1
      have r2 := cell_of h.blkR 2
      have z0 := frozen_of h.blkR 0
      have z1 := frozen_of h.blkR 1
      have z2 := frozen_of h.blkR 2
      simp only [List.getElem?_toArray, List.getElem?_cons_zero, List.getElem?_cons_succ] at g0 g1 g2 r0 r1 r2
      clear h f1 H HN
      cases hnum : num r with
      | none =>
        have hnv : numv r = -1 := by unfold numv; rw [hnum]
        have hdec := HDC.out
        rw [hnum] at hdec
        have HD := Lib.hid hdec
        rw [hnv]
        clear hdec hnv hnum HDC
        go_wp2
        obtain ⟨p1, p2, p3⟩ := H1.out.put3 (Fr.refl _ wc) (.slice none 0 0) (.int .i64 0) (.int .i64 3)
        refine bodyPost_ret (results_got rfl _ _ w.heap.size _ (0, 0) rfl p1 rfl) rfl ?_
        exact ddec_of (l := []) (a := none) (c := 0) HD.out.symm (.inl rfl) (by decide) (by decide) p2
      | some n =>
        have hnv : numv r = n := by unfold numv; rw [hnum]
        have hdec := HDC.out
        rw [hnum] at hdec
        simp only at hdec
        have hnlt := num_lt hnum
        rw [hnv]
        clear hnv hnum HDC
        by_cases h34 : n = 3 ∨ n = 4
        · rw [if_pos h34] at hdec
          have HD := Lib.hid hdec
          clear hdec
          rcases h34 with rfl | rfl
          all_goals
            go_wp2
            obtain ⟨p1, p2, p3⟩ := H1.out.put3 (Fr.refl _ wc) (.slice none 0 0) (.int .i64 0) (.int .i64 3)
            refine bodyPost_ret (results_got rfl _ _ w.heap.size _ (0, 0) rfl p1 rfl) rfl ?_
            exact ddec_of (l := []) (a := none) (c := 0) HD.out.symm (.inl rfl) (by decide) (by decide) p2
        · rw [if_neg h34] at hdec
          have b0 : decide ((n : Int) < 0) = false := by simp
          have b3 : ((n : Int) == 3) = false := by simp; omega
          have b4 : ((n : Int) == 4) = false := by simp; omega
          by_cases hbig : 65520 < n
          · rw [if_pos hbig] at hdec
            have HD := Lib.hid hdec
            have b5 : decide ((65520 : Int) < n) = true := by simp; omega
            clear hdec h34
            go_wp2
            obtain ⟨p1, p2, p3⟩ := H1.out.put3 (Fr.refl _ wc) (.slice none 0 0) (.int .i64 0) (.int .i64 5)
            refine bodyPost_ret (results_got rfl _ _ w.heap.size _ (0, 0) rfl p1 rfl) rfl ?_
            exact ddec_of (l := []) (a := none) (c := 0) HD.out.symm (.inl rfl) (by decide) (by decide) p2
          · rw [if_neg hbig] at hdec
            have b5 : decide ((65520 : Int) < n) = false := by simp; omega
            obtain ⟨S, hS⟩ : ∃ S, S = blk a := ⟨_, rfl⟩
            have HS := Lib.hid hS
            clear hS
            by_cases hsmall : n < 3
            · rw [if_pos hsmall] at hdec
              have HD := Lib.hid hdec
              have b6 : decide ((n : Int) < 3) = true := by simp; omega
              have f0 : Fr [] wc (wc.alloc (.cells #[.int .i64 (2 + (n : Int)), .string ⟨#[]⟩] 60)) := (Fr.refl [] wc).alloc _
              have ownA := ownsRow_fr H1.out.own f0 (by simp)
              have cA : Cs (wc.alloc (.cells #[.int .i64 (2 + (n : Int)), .string ⟨#[]⟩] 60)) (some ⟨wc.heap.size, 0, none⟩) (dcells [(2 + (n : Int), [])]) :=
                .inr ⟨wc.heap.size, 0, rfl, fun j u hj => by rw [cell_of (alloc_at wc _)]; simpa [dcells, str] using hj⟩
              have HA := Lib.hid (And.intro ownA (And.intro cA f0))
              have hGS : w.heap.size + 1 ∉ S := fun hx => (H1.out.new _ (by rw [← HS.out]; exact hx)).2.2 rfl
              have HB := Lib.hid H1.out.blkG
              clear hdec h34 ownA cA f0
              go_wp2_with (refine wpList_append sliceDLine rfl _ _ rfl (.slice a l.length c) l.length (dcells l) S rfl (by rw [own_blk, HS.out]) HA.out.1 (some ⟨wc.heap.size, 0, none⟩) 1 1 _ rfl (by decide) (by simp) HA.out.2.1 (by rfl) (dcells_one _) (by omega) (by unfold maxLen; omega) ?_; intro a2 c2 w2 A1; have hz2 := frozen_of (A1.fr.blk (HA.out.2.2.blk HB.out (by simp)) hGS) 0; have hg2 := cell_of (A1.fr.blk (HA.out.2.2.blk HB.out (by simp)) hGS) 0; simp only [List.getElem?_toArray, List.getElem?_cons_zero] at hg2; have HA1 := Lib.hid A1; clear A1)
              go_roundg k
              case measure => omega
              case rel =>
                have A1 := HA1.out
                rw [HS.out] at A1
                have hrl := HR.out.2
                have h := (H1.out.fr0 HA.out.2.2).more A1 (i' := i + 4) (k' := k) (by omega) (by omega) (by omega) (by rw [← HD.out, ← HR.out.1, List.drop_drop])
                exact ⟨a2, c2, l ++ [(2 + (n : Int), [])], i + 4, by go_num, h⟩
            · rw [if_neg hsmall] at hdec
              have b6 : decide ((n : Int) < 3) = false := by simp; omega
              by_cases hlong : r.length < n
              · rw [if_pos hlong] at hdec
                have HD := Lib.hid hdec
                have hrl := HR.out.2
                have b7 : decide ((bs.length : Int) - i < n) = true := by simp; omega
                clear hdec h34
                go_wp2
                obtain ⟨p1, p2, p3⟩ := H1.out.put3 (wz := wc.setCell ⟨w.heap.size + 1, 1, none⟩ (.int .i64 (i : Nat))) ((Fr.refl _ wc).setCell (by simp) _) (.slice a l.length c) (.int .i64 (i : Nat)) (.int .i64 0)
                refine bodyPost_ret (results_got rfl _ _ w.heap.size _ (0, 0) rfl p1 rfl) rfl ?_
                exact ddec_of HD.out.symm p3 hoc hcm p2
              · rw [if_neg hlong] at hdec
                have HD := Lib.hid hdec
                have hrl := HR.out.2
                have b7 : decide ((bs.length : Int) - i < n) = false := by simp; omega
                obtain ⟨ds, hds⟩ : ∃ ds, ds = (r.take n).drop 4 := ⟨_, rfl⟩
                obtain ⟨y, hy⟩ : ∃ y, y = str ds := ⟨_, rfl⟩
                have hsl : ∀ w, (Instr.slice 9 (.string z) (some (.int .i64 ((i : Int) + 4))) (some (.int .i64 ((i : Int) + n))) none).run Try.prog w = .ok (.string y) w := fun w => by
                  have := slice_str bs (i + 4) (i + n) ((i : Int) + n) (by omega) (by omega) (by omega) w
                  have e : (bs.take (i + n)).drop (i + 4) = ds := by
                    rw [hds, ← HR.out.1, List.drop_take, List.drop_take, List.drop_drop]
                    congr 1
                    omega
                  rw [e, ← HZ.out, ← hy] at this
                  exact this
                have hGS : w.heap.size + 1 ∉ S := fun hx => (H1.out.new _ (by rw [← HS.out]; exact hx)).2.2 rfl
                have q0 : ∀ x, (sup S wc.drew x).cell? ⟨w.heap.size + 1, 0, none⟩ = some (.slice a l.length c) := fun x => (sup_fr S wc.drew x).cell ((Fr.drew1 [] wc).cell g0 (by simp)) hGS
                have HY := Lib.hid (And.intro hds hy)
                have HB := Lib.hid H1.out.blkG
                clear hdec h34 hds hy hrl
                go_upto_region 5 with fail
                refine region_mix 13 [(false, 0), (false, 1), (false, 2), (false, 3), (false, 4), (false, 5), (false, 6), (false, 7), (false, 8), (true, 9), (true, 10), (true, 11), (false, 12)] S (by kernel_rfl) (by kernel_rfl) (fun _ _ d _ _ h => by cases d <;> exact h) ?_
                simp only [List.map_cons, List.map_nil, List.getD_cons_zero, List.getD_cons_succ, List.drop_succ_cons, List.drop_zero, List.drop_nil]
                refine mix_seg 9 rfl ?_
                simp only [List.take_succ_cons, List.take_zero, List.drop_succ_cons, List.drop_zero, List.map_cons, List.map_nil]
                repeat (go_big_quiet_step (fail))
                refine wpQuiet_nil ?_
                clear q0 hsl
                refine mix_eff rfl ?_
                intro X hX
                go_wp2
                refine hX.out _ _ (Fr.refl _ _) ?_
                clear hX X
                refine mix_eff rfl ?_
                intro X hX
                go_wp2
                refine hX.out _ _ ((Fr.refl S wc.drew).alloc _) ?_
                clear hX X
                have f0 : Fr [] wc (wc.drew.alloc (.cells #[.int .i64 1, .string y] 60)) := (Fr.drew1 [] wc).alloc _
                have ownA := ownsRow_fr H1.out.own f0 (by simp)
                have cA : Cs (wc.drew.alloc (.cells #[.int .i64 1, .string y] 60)) (some ⟨wc.drew.heap.size, 0, none⟩) (dcells [(1, ds)]) :=
                  .inr ⟨wc.drew.heap.size, 0, rfl, fun j u hj => by rw [cell_of (alloc_at wc.drew _), HY.out.2]; simpa [dcells] using hj⟩
                refine mix_eff rfl ?_
                intro X hX
                refine wp_append sliceDLine _ _ rfl (.slice a l.length c) l.length (dcells l) S rfl (by rw [own_blk, HS.out]) ownA (some ⟨wc.drew.heap.size, 0, none⟩) 1 1 _ rfl (by decide) (by simp) cA (by rfl) (dcells_one _) (by omega) (by unfold maxLen; omega) ?_
                intro a2 c2 w2 A1
                refine hX.out _ _ A1.fr ?_
                clear hX X
                simp only [Act.put, List.setIfInBounds_toArray, List.set_cons_succ, List.set_cons_zero]
                have hz2 := frozen_of (A1.fr.blk (f0.blk HB.out (by simp)) hGS) 0
                have hg2 := cell_of (A1.fr.blk (f0.blk HB.out (by simp)) hGS) 0
                simp only [List.getElem?_toArray, List.getElem?_cons_zero] at hg2
                have HA := Lib.hid (And.intro A1 f0)
                have q1 : ∀ x, (sup S w2 x).cell? ⟨w.heap.size + 1, 0, none⟩ = some (.slice a l.length c) := fun x => (sup_fr S w2 x).cell hg2 hGS
                clear A1 ownA cA f0
                refine mix_seg 1 rfl ?_
                simp only [List.take_succ_cons, List.take_zero, List.drop_succ_cons, List.drop_zero, List.map_cons, List.map_nil]
                repeat (go_big_quiet_step (fail))
                refine wpQuiet_nil ?_
                clear q1
                refine mix_nil ?_
                go_wp2
                go_roundg k
                case measure => omega
                case rel =>
                  have A1 := HA.out.1
                  rw [HS.out] at A1
                  have hrl := HR.out.2
                  have h := (H1.out.fr0 HA.out.2).more A1 (i' := i + n) (k' := k) (by omega) (by omega) (by omega) (by rw [← HD.out, ← HR.out.1, List.drop_drop, HY.out.1, ← HR.out.1])
                  exact ⟨a2, c2, l ++ [(1, ds)], i + n, by go_num, h⟩
end Go.Proofs.Yteldakjhnifbpaa.pkt
