/-
  Proved: stemmalaw17.PktBounds returns true and leaves its arguments as they were, for every input. Conditions: none.
-/
import Derived.Test.YteldakjhnifbpaaPktSmall
import Derived.Test.YteldakjhnifbpaaArgs
import Derived.OwnWalk
import Derived.Lib.SmallJoins
import Derived.Laws.IdiomArrays
namespace Go.Proofs.Yteldakjhnifbpaa.pktBounds
open Go Go.RowKit Go.ChangeShapes Go.WideShapes Go.Proofs.Yteldakjhnifbpaa.lib Go.Proofs.Yteldakjhnifbpaa.bm Go.Proofs.Yteldakjhnifbpaa.pkt

theorem and15 (x : Int) : bits .and .i64 x 15 = x % 16 := i64_mask x 4 (by decide)
theorem enc_good (bs : List UInt8) (h0 : bs ≠ []) (h : bs.length ≤ 65516) : enc [((1 : Int), bs)] = (one ((1 : Int), bs), 0) := by
  have hb : bad ((1 : Int), bs) = 0 := by unfold bad; rw [if_neg (by simp [h0]), if_neg (by simp; omega)]
  unfold enc
  simp [encErr, encAll, hb]
theorem enc_big (bs : List UInt8) (h0 : bs ≠ []) (h : 65516 < bs.length) : enc [((1 : Int), bs)] = ([], 5) := by
  have hb : bad ((1 : Int), bs) = 5 := by unfold bad; rw [if_neg (by simp [h0]), if_pos ⟨rfl, h⟩]
  unfold enc
  simp [encErr, hb]
theorem dec_good (bs : List UInt8) (h0 : bs ≠ []) (h : bs.length ≤ 65516) : pkt.decode (one ((1 : Int), bs)) = ([((1 : Int), bs)], bs.length + 4, 0) := by
  have hb : bad ((1 : Int), bs) = 0 := by unfold bad; rw [if_neg (by simp [h0]), if_neg (by simp; omega)]
  have h1 := dec_all [((1 : Int), bs)] (by intro x hx; simp at hx; subst hx; exact ⟨hb, .inl rfl⟩) 0 [] (one ((1 : Int), bs)).length (by simp [encAll])
  have hl := (one_length ((1 : Int), bs) hb).2.2.1 rfl
  unfold pkt.decode
  simpa [encAll, hl.1] using h1
theorem encode_one (w : World) (a : Addr) (N : Nat) (bs : List UInt8) (hl : bs.length = N) (hN : N ≤ 1000000) (hcs : Cs w (some a) (bs.map bv)) :
    Calls Try.prog 7 #[.slice (some ⟨w.heap.size, 0, none⟩) 1 1] (w.alloc (.cells #[.int .i64 1, .slice (some a) N N] 28)) (fun e w' => ∃ (a' : Option Addr) (n : Nat), e = .returned (.tuple #[.slice a' n n, .int .i64 (enc [((1 : Int), bs)]).2]) ∧ (enc [((1 : Int), bs)]).1.length = n ∧ Cs w' a' ((enc [((1 : Int), bs)]).1.map bv) ∧ (a' = none → n = 0) ∧ Fr [] w w') := by
  have f0 : Fr [] w (w.alloc (.cells #[.int .i64 1, .slice (some a) N N] 28)) := (Fr.refl [] w).alloc _
  have L : Lines (w.alloc (.cells #[.int .i64 1, .slice (some a) N N] 28)) (some ⟨w.heap.size, 0, none⟩) 1 [⟨1, some a, N, bs⟩] := by
    refine ⟨.inr ⟨w.heap.size, 0, rfl, fun j u hj => by rw [cell_of (alloc_at w _)]; simpa [lcells, hl] using hj⟩, by simp, by simp, by decide, fun x hx => ?_⟩
    simp only [List.mem_cons, List.not_mem_nil, or_false] at hx
    subst hx
    exact ⟨hcs.fr f0 (by simp), by simp [hl], by simp, by simp only; unfold maxLen; omega⟩
  refine (encode_all (some ⟨w.heap.size, 0, none⟩) 1 [⟨1, some a, N, bs⟩] _ L (by simp [tot, Lv.ln]; omega)).mono ?_
  rintro e w' ⟨a', n, rfl, hn, h1, h2, f⟩
  exact ⟨a', n, rfl, hn, h1, h2, f0.trans f⟩
theorem zeros_bv (N : Nat) : (madeCells (Value.int .u8 0).cells (N * 1)).toList = (List.replicate N (0 : UInt8)).map bv := by
  rw [List.map_replicate]
  rw [Nat.mul_one]
  exact toList_madeCells_one (Value.int .u8 0) N
theorem decode_one (w : World) (a : Option Addr) (N : Nat) (bs : List UInt8) (hl : bs.length = N) (h0 : bs ≠ []) (hN : N ≤ 65516) (hol : (one ((1 : Int), bs)).length = N + 4) (hcs : Cs w a ((one ((1 : Int), bs)).map bv)) (hnil : a = none → N + 4 = 0) :
    Calls Try.prog 8 #[.slice a (N + 4) (N + 4)] w (fun e w' => ∃ g o c k, e = .returned (.tuple #[.slice (some ⟨g, o, none⟩) 1 1, .int .i64 ((N : Int) + 4), .int .i64 0]) ∧ w'.cell? ⟨g, o + 1, none⟩ = some (.slice c N k) ∧ Fr [] w w') := by
  have hd := decode_all a (N + 4) (one ((1 : Int), bs)) w (by omega) (by omega) hnil hcs (by omega)
  rw [hol] at hd
  refine hd.mono ?_
  unfold Decoded
  rw [dec_good bs h0 (by omega)]
  rintro e w' ⟨a2, ls, rfl, L, hls, f⟩
  obtain ⟨x, rfl⟩ : ∃ x, ls = [x] := List.length_eq_one_iff.1 (by simpa using congrArg List.length hls)
  · have hx : x.bs = bs := by simpa [Lv.ln] using congrArg (fun l => l.map (·.2)) hls
    obtain ⟨g, o, rfl, hc⟩ := L.cs.at (by simp [lcells])
    have h1 := hc 1 (.slice x.ao x.bs.length x.cap) rfl
    rw [hx, hl] at h1
    exact ⟨g, o, x.ao, x.cap, by simp [hl], h1, f⟩
theorem cs_five (wc : World) (A : Obj) (C : Array Value) (x0 x1 x2 x3 : UInt8) : Cs (((wc.alloc A).alloc (.cells (#[.int .u8 x0.toNat, .int .u8 x1.toNat, .int .u8 x2.toNat, .int .u8 x3.toNat, .int .u8 120] ++ C) 5)).drew) (some ⟨wc.heap.size + 1, 0, none⟩) (([x0, x1, x2, x3, 120] : List UInt8).map bv) := by
  have hb := alloc_at (wc.alloc A) (.cells (#[.int .u8 x0.toNat, .int .u8 x1.toNat, .int .u8 x2.toNat, .int .u8 x3.toNat, .int .u8 120] ++ C) 5)
  rw [World.size_alloc] at hb
  refine Cs.fr (S := []) (.inr ⟨wc.heap.size + 1, 0, rfl, fun j u hj => ?_⟩) (Fr.drew1 [] _) (by simp)
  rw [Nat.zero_add]
  refine (cell_of hb j).trans ?_
  have hj1 : j < 5 := by simpa using (List.getElem?_eq_some_iff.1 hj).1
  rw [Array.getElem?_append_left (by simpa using hj1)]
  simpa [bv] using hj
/-- What is told of four digits and one byte more. -/
def Out (wz : World) (g : Bool) (v : Nat) (a2 : Option Addr) (n u x : Nat) : Prop :=
  ((g = false ∨ v = 3 ∨ v = 4) ∧ n = 0 ∧ u = 0 ∧ x = 3) ∨ (g = true ∧ 65520 < v ∧ n = 0 ∧ u = 0 ∧ x = 5) ∨ (g = true ∧ v < 3 ∧ n = 1 ∧ u = 4 ∧ x = 0) ∨
  (g = true ∧ v = 5 ∧ n = 1 ∧ u = 5 ∧ x = 0 ∧ ∃ gg o c k, a2 = some ⟨gg, o, none⟩ ∧ wz.cell? ⟨gg, o + 1, none⟩ = some (.slice c 1 k) ∧ Cs wz c (([120] : List UInt8).map bv)) ∨ (g = true ∧ 5 < v ∧ v ≤ 65520 ∧ n = 0 ∧ u = 0 ∧ x = 0)
theorem out_of (wz : World) (g : Bool) (v : Nat) (a2 : Option Addr) (ls : List Lv) (x0 x1 x2 x3 : UInt8) (hg1 : g = true → pkt.num [x0, x1, x2, x3] = some v) (hg2 : g = false → pkt.num [x0, x1, x2, x3] = none)
    (L : Lines wz a2 ls.length ls) (hls : ls.map Lv.ln = (pkt.decode [x0, x1, x2, x3, 120]).1) : Out wz g v a2 ls.length (pkt.decode [x0, x1, x2, x3, 120]).2.1 (pkt.decode [x0, x1, x2, x3, 120]).2.2 := by
  have hn : pkt.num [x0, x1, x2, x3, 120] = pkt.num [x0, x1, x2, x3] := rfl
  have hlen : ([x0, x1, x2, x3, 120] : List UInt8).length = 5 := rfl
  have e0 : pkt.decode [x0, x1, x2, x3, 120] = pkt.dec 5 [x0, x1, x2, x3, 120] 0 [] := rfl
  rw [e0, pkt.dec, if_neg (by rw [hlen]; decide), hn] at hls ⊢
  have nil0 : ls.map Lv.ln = [] → ls.length = 0 := fun h => by simpa using congrArg List.length h
  unfold Out
  cases g with
  | false =>
    rw [hg2 rfl] at hls ⊢
    exact .inl ⟨.inl (by trivial), nil0 hls, by trivial, by trivial⟩
  | true =>
    rw [hg1 rfl] at hls ⊢
    simp only at hls ⊢
    by_cases h34 : v = 3 ∨ v = 4
    · rw [if_pos h34] at hls ⊢
      exact .inl ⟨.inr h34, nil0 hls, by trivial, by trivial⟩
    · rw [if_neg h34] at hls ⊢
      by_cases hb : 65520 < v
      · rw [if_pos hb] at hls ⊢
        exact .inr (.inl ⟨by trivial, hb, nil0 hls, by trivial, by trivial⟩)
      · rw [if_neg hb] at hls ⊢
        by_cases hs : v < 3
        · rw [if_pos hs, pkt.dec, if_pos (by simp)] at hls ⊢
          exact .inr (.inr (.inl ⟨by trivial, hs, by simpa using congrArg List.length hls, by trivial, by trivial⟩))
        · rw [if_neg hs] at hls ⊢
          by_cases h5 : v = 5
          · subst h5
            rw [if_neg (by rw [hlen]; decide), pkt.dec, if_pos (by simp)] at hls ⊢
            simp only [List.take_succ_cons, List.take_zero, List.drop_succ_cons, List.drop_zero, List.nil_append] at hls ⊢
            obtain ⟨x, rfl⟩ : ∃ x, ls = [x] := List.length_eq_one_iff.1 (by simpa using congrArg List.length hls)
            have hx : x.bs = [120] := by simpa [Lv.ln] using congrArg (fun l => l.map (·.2)) hls
            obtain ⟨gg, o, rfl, hc⟩ := L.cs.at (by simp [lcells])
            have h1 := hc 1 (.slice x.ao x.bs.length x.cap) rfl
            have h2 := (L.ok x (by simp)).cs
            rw [hx] at h1 h2
            exact .inr (.inr (.inr (.inl ⟨by trivial, by trivial, by trivial, by trivial, by trivial, gg, o, x.ao, x.cap, rfl, h1, h2⟩)))
          · rw [if_pos (by rw [hlen]; omega)] at hls ⊢
            exact .inr (.inr (.inr (.inr ⟨by trivial, by omega, by omega, nil0 hls, by trivial, by trivial⟩)))
set_option maxRecDepth 100000 in
set_option maxHeartbeats 4000000 in
theorem walk_in (w : World) (n0 : Int) (x0 x1 x2 x3 : UInt8) :
    Calls Try.prog 3 #[.int .i64 n0, .agg #[.int .u8 x0.toNat, .int .u8 x1.toNat, .int .u8 x2.toNat, .int .u8 x3.toNat]] w fun e w' => e = .returned (.bool true) ∧ Below w.heap.size w w' := by
  obtain ⟨N, eN, hN1, hN2⟩ : ∃ N : Nat, (65510 : Int) + n0 % 16 = N ∧ 65510 ≤ N ∧ N ≤ 65525 := ⟨(65510 + n0 % 16).toNat, by omega, by omega, by omega⟩
  have ea := and15 n0
  obtain ⟨iu, hiu⟩ := sliceU8.info
  have IU := Lib.hid hiu
  clear hiu
  go_enter Try.func3, Try.ntmps3
  go_upto_region 1 with fail
  obtain ⟨f, hf⟩ : ∃ f, f = w.heap.size := ⟨_, rfl⟩
  rw [← hf]
  have fr0 : Fr [] w (w.alloc (.cells #[.int .u8 x0.toNat, .int .u8 x1.toNat, .int .u8 x2.toNat, .int .u8 x3.toNat] 22)) := (Fr.refl [] w).alloc _
  have hbk : (w.alloc (.cells #[.int .u8 x0.toNat, .int .u8 x1.toNat, .int .u8 x2.toNat, .int .u8 x3.toNat] 22)).heap[f]? = some (.cells #[.int .u8 x0.toNat, .int .u8 x1.toNat, .int .u8 x2.toNat, .int .u8 x3.toNat] 22 (0, 0)) := by rw [hf]; exact alloc_at w _
  have HF := Lib.hid hf
  clear hf
  generalize w.alloc (.cells #[.int .u8 x0.toNat, .int .u8 x1.toNat, .int .u8 x2.toNat, .int .u8 x3.toNat] 22) = w0 at *
  have H0 := Lib.hid (And.intro fr0 hbk)
  clear fr0 hbk
  go_cut [0] from 17 to 19 (fun s0 wz => s0 = .int .i64 N ∧ w0 = wz)
  case first =>
    go_wp2
    go_meet
    exact ⟨by first | rfl | exact int_eq eN, rfl⟩
  case rest =>
  clear ea eN
  obtain ⟨rfl, rfl⟩ := hcut
  obtain ⟨bs, hbs⟩ : ∃ bs, bs = List.replicate N (0 : UInt8) := ⟨_, rfl⟩
  have hbl : bs.length = N := by rw [hbs]; simp
  have hb0 : bs ≠ [] := fun h => by rw [h] at hbl; simp at hbl; omega
  have HB := Lib.hid (And.intro hbs (And.intro hbl hb0))
  clear hbs hbl hb0
  go_upto_region 2 with fail
  go_cut [5, 6] from 20 to 27 (fun s5 s6 wz => ∃ (a : Option Addr) (n x : Nat), s5 = .slice a n n ∧ s6 = .int .i64 x ∧ Fr [] w0 wz ∧ ((N ≤ 65516 ∧ x = 0 ∧ n = N + 4 ∧ (one ((1 : Int), bs)).length = n ∧ Cs wz a ((one ((1 : Int), bs)).map bv) ∧ (a = none → n = 0)) ∨ (65516 < N ∧ x = 5 ∧ n = 0)))
  case first =>
    go_wp2_with (first | (refine wpList_make_full _ rfl _ _ _ rfl 0 5 iu (.int .u8 0) 1 Try.underlying23 IU.out.1 IU.out.2.1 IU.out.2.2.1 .i64 .i64 N N N rfl rfl rfl rfl (by rw [IU.out.2.2.2]; omega) (by unfold maxLen; omega) (Nat.zero_le _) ?_; intro w1 own1 gr1; rw [zeros_bv, ← HB.out.1] at own1; have he := encode_one w1 ⟨w0.heap.size, 0, none⟩ N bs HB.out.2.1 (by omega) (cs_of_owns own1); have f1 : Fr [] w0 w1 := (Fr.refl [] w0).grown gr1 (by simp)) | (go_at_call 7; refine he.mono ?_; rintro e w2 ⟨a, n, rfl, hn, hcs, hnil, f2⟩))
    go_meet
    refine ⟨a, n, _, rfl, rfl, f1.trans f2, ?_⟩
    by_cases hs : N ≤ 65516
    · have e := enc_good bs HB.out.2.2 (by rw [HB.out.2.1]; exact hs)
      have hol := ((one_length ((1 : Int), bs) (by unfold bad; rw [if_neg (by simp [HB.out.2.2]), if_neg (by simp [HB.out.2.1]; omega)])).2.2.1 rfl).1
      simp only [HB.out.2.1] at hol
      rw [e] at hn hcs ⊢
      exact .inl ⟨hs, rfl, by rw [← hn]; exact hol, hn, hcs, hnil⟩
    · have e := enc_big bs HB.out.2.2 (by rw [HB.out.2.1]; omega)
      rw [e] at hn ⊢
      exact .inr ⟨by omega, rfl, hn.symm⟩
  case rest =>
  obtain ⟨a, n, x, rfl, rfl, f2, hE⟩ := hcut
  have H1 := Lib.hid (And.intro (H0.out.1.trans f2) (f2.blk H0.out.2 (by simp)))
  have HE := Lib.hid hE
  clear f2 H0 hE
  go_upto_region 3 with fail
  go_cut [45] from 28 to 45 (fun s45 wz => s45 = .bool false ∧ wc = wz)
  case first =>
    rcases HE.out with ⟨hs, rfl, rfl, _⟩ | ⟨hs, rfl, rfl⟩
    · have d1 : decide ((N : Int) ≤ 65516) = true := by simp; omega
      clear HE H1
      go_wp2
      go_meet
      exact ⟨by first | rfl | simp, rfl⟩
    · have d1 : decide ((N : Int) ≤ 65516) = false := by simp; omega
      clear HE H1
      go_wp2
      go_meet
      exact ⟨by first | rfl | simp, rfl⟩
  case rest =>
  obtain ⟨rfl, rfl⟩ := hcut
  go_upto_if 47 with fail
  go_cut [] from 46 to 75 (fun wz => Fr [] wc wz)
  case first =>
    rcases HE.out with ⟨hs, rfl, rfl, hol, hcs, hnil⟩ | ⟨hs, rfl, rfl⟩
    · have hd := decode_one wc a N bs HB.out.2.1 HB.out.2.2 hs hol hcs hnil
      clear hol hcs hnil HE H1
      go_upto_region 6 with fail
      go_cut [7, 8, 9] from 48 to 53 (fun s7 s8 s9 wz => s8 = .int .i64 ((N : Int) + 4) ∧ s9 = .int .i64 0 ∧ ∃ g o c k, s7 = .slice (some ⟨g, o, none⟩) 1 1 ∧ wz.cell? ⟨g, o + 1, none⟩ = some (.slice c N k) ∧ Fr [] wc wz)
      case first =>
        go_wp2_with (go_at_call 8; refine hd.mono ?_; rintro e w2 ⟨g, o, c, k, rfl, hc, f2⟩)
        go_meet
        exact ⟨rfl, rfl, g, o, c, k, rfl, hc, f2⟩
      case rest =>
      clear hd
      obtain ⟨rfl, rfl, g, o, c, k, rfl, hc, f2⟩ := hcut
      have F2 := Lib.hid f2
      clear f2
      go_wp2
      go_meet
      exact F2.out
    · clear HE H1
      go_wp2
      go_meet
      exact Fr.refl _ _
  case rest =>
  have H2 := Lib.hid (And.intro (H1.out.1.trans hcut) (hcut.blk H1.out.2 (by simp)))
  clear H1 HE HB hcut IU
  obtain ⟨fs, hfs⟩ : ∃ fs, fs = [x0, x1, x2, x3] := ⟨_, rfl⟩
  have hcell : ∀ i, i < 4 → wc.cell? ⟨f, i, none⟩ = some (bv (fs.getD i 0)) := fun i hi => by
    rw [cell_of H2.out.2 i, hfs]
    match i, hi with
    | 0, _ => rfl
    | 1, _ => rfl
    | 2, _ => rfl
    | 3, _ => rfl
  have hfl : fs.length = 4 := by rw [hfs]; rfl
  have HC := Lib.hid hcell
  have HFS := Lib.hid (And.intro hfs hfl)
  clear hcell hfs hfl
  go_upto_block 0 with fail
  go_cut [10, 11] from 76 to 79 (fun s10 s11 wz => ∃ (v : Nat) (g : Bool), s10 = .int .i64 v ∧ s11 = .bool g ∧ v < 65536 ∧ (g = true → pkt.num fs = some v) ∧ (g = false → pkt.num fs = none) ∧ wc = wz)
  case first =>
    go_wp2
    go_loopg [10, 11, 12] 4 (fun k s10 s11 s12 wr => ∃ (i v : Nat) (g : Bool), i + k = 4 ∧ s12 = .int .i64 i ∧ s10 = .int .i64 v ∧ s11 = .bool g ∧ v < 16 ^ i ∧ (g = true → digs v (fs.drop i) = pkt.num fs) ∧ (g = false → pkt.num fs = none) ∧ wc = wr)
    case atStart => exact ⟨0, 0, true, rfl, rfl, rfl, rfl, by decide, fun _ => by unfold pkt.num; rw [List.drop_zero, List.take_of_length_le (by rw [HFS.out.2]; decide)], by simp, rfl⟩
    case round =>
      obtain ⟨i, v, g, hi, rfl, rfl, rfl, hv, hg1, hg2, rfl⟩ := hrel
      by_cases hi4 : i < 4
      · have hv4 : v < 4096 := by
          have : 16 ^ i ≤ 16 ^ 3 := Nat.pow_le_pow_right (by decide) (by omega)
          have e : (16 : Nat) ^ 3 = 4096 := by decide
          omega
        have hdr : fs.drop i = fs.getD i 0 :: fs.drop (i + 1) := by
          rw [List.drop_eq_getElem_cons (by rw [HFS.out.2]; omega)]
          congr 1
          simp [List.getD, show i < fs.length from by rw [HFS.out.2]; omega]
        rw [hdr] at hg1
        have c0 := HC.out i hi4
        have hb := UInt8.toNat_lt (fs.getD i 0)
        unfold bv at c0
        generalize hx : fs.getD i 0 = x at *
        have HG := Lib.hid (And.intro hg1 (And.intro hg2 hv))
        obtain ⟨xn, hxn⟩ : ∃ xn, x.toNat = xn := ⟨_, rfl⟩
        have Hx := Lib.hid hxn
        rw [hxn] at c0 hb
        clear hg1 hg2 hv hx hdr hxn
        by_cases h1 : 48 ≤ xn ∧ xn ≤ 57
        · have d1 : decide ((48 : Int) ≤ xn) = true := by simp; omega
          have d2 : decide ((xn : Int) ≤ 57) = true := by simp; omega
          have d3 : ((xn : Int) - 48) % 256 = ((xn - 48 : Nat) : Int) := by omega
          have e1 : digit x = some (xn - 48) := by unfold digit; rw [Hx.out, if_pos h1]
          have HE := Lib.hid e1
          clear e1
          go_wp2
          go_roundg (4 - (i + 1))
          case measure => omega
          case rel =>
            have hd := HG.out
            rw [digs, HE.out] at hd
            refine ⟨i + 1, 16 * v + (xn - 48), g, by omega, by go_num, int_eq (by first | omega | (simp only [wrap64]; omega)), rfl, ?_, hd.1, hd.2.1, rfl⟩
            rw [Nat.pow_succ]
            omega
        · by_cases h2 : 97 ≤ xn ∧ xn ≤ 102
          · have d1 : decide ((48 : Int) ≤ xn) = true := by simp; omega
            have d2 : decide ((xn : Int) ≤ 57) = false := by simp; omega
            have d4 : decide ((97 : Int) ≤ xn) = true := by simp; omega
            have d5 : decide ((xn : Int) ≤ 102) = true := by simp; omega
            have d3 : ((xn : Int) - 97) % 256 = ((xn - 97 : Nat) : Int) := by omega
            have e1 : digit x = some (xn - 87) := by unfold digit; rw [Hx.out, if_neg h1, if_pos h2]
            have HE := Lib.hid e1
            clear e1
            go_wp2
            go_roundg (4 - (i + 1))
            case measure => omega
            case rel =>
              have hd := HG.out
              rw [digs, HE.out] at hd
              refine ⟨i + 1, 16 * v + (xn - 87), g, by omega, by go_num, int_eq (by first | omega | (simp only [wrap64]; omega)), rfl, ?_, hd.1, hd.2.1, rfl⟩
              rw [Nat.pow_succ]
              omega
          · have e1 : pkt.num fs = none := by
              cases g with
              | true =>
                rw [← HG.out.1 rfl, digs]
                unfold digit
                rw [Hx.out, if_neg h1, if_neg h2]
              | false => exact HG.out.2.1 rfl
            have HE := Lib.hid e1
            clear e1
            by_cases h3 : 48 ≤ xn
            · have d1 : decide ((48 : Int) ≤ xn) = true := by simp; omega
              have d2 : decide ((xn : Int) ≤ 57) = false := by simp; omega
              by_cases h4 : 97 ≤ xn
              · have d4 : decide ((97 : Int) ≤ xn) = true := by simp; omega
                have d5 : decide ((xn : Int) ≤ 102) = false := by simp; omega
                go_wp2
                go_roundg (4 - (i + 1))
                case measure => omega
                case rel => exact ⟨i + 1, v, false, by omega, by go_num, rfl, rfl, by have := HG.out.2.2; rw [Nat.pow_succ]; omega, by simp, fun _ => HE.out, rfl⟩
              · have d4 : decide ((97 : Int) ≤ xn) = false := by simp; omega
                go_wp2
                go_roundg (4 - (i + 1))
                case measure => omega
                case rel => exact ⟨i + 1, v, false, by omega, by go_num, rfl, rfl, by have := HG.out.2.2; rw [Nat.pow_succ]; omega, by simp, fun _ => HE.out, rfl⟩
            · have d1 : decide ((48 : Int) ≤ xn) = false := by simp; omega
              have d4 : decide ((97 : Int) ≤ xn) = false := by simp; omega
              go_wp2
              go_roundg (4 - (i + 1))
              case measure => omega
              case rel => exact ⟨i + 1, v, false, by omega, by go_num, rfl, rfl, by have := HG.out.2.2; rw [Nat.pow_succ]; omega, by simp, fun _ => HE.out, rfl⟩
      · obtain rfl : i = 4 := by omega
        rw [List.drop_eq_nil_of_le (by rw [HFS.out.2]; decide), digs] at hg1
        have HG := Lib.hid (And.intro hg1 hg2)
        clear hg1 hg2
        have hv' : v < 65536 := by have e : (16 : Nat) ^ 4 = 65536 := by decide
                                   omega
        clear hv
        go_wp2
        go_meet
        exact ⟨v, g, rfl, rfl, hv', fun h => (HG.out.1 h).symm, HG.out.2, rfl⟩
  case rest =>
  obtain ⟨v, g, rfl, rfl, hv, hg1, hg2, rfl⟩ := hcut
  have HG := Lib.hid (And.intro hg1 hg2)
  clear hg1 hg2
  have y0 := cell_of H2.out.2 0
  have y1 := cell_of H2.out.2 1
  have y2 := cell_of H2.out.2 2
  have y3 := cell_of H2.out.2 3
  simp only [List.getElem?_toArray, List.getElem?_cons_zero, List.getElem?_cons_succ] at y0 y1 y2 y3
  have fa : Fr [] wc (wc.alloc (.cells #[.int .u8 120] 5)) := (Fr.refl [] wc).alloc _
  have y0 := fa.cell y0 (by simp)
  have y1 := fa.cell y1 (by simp)
  have y2 := fa.cell y2 (by simp)
  have y3 := fa.cell y3 (by simp)
  clear fa
  go_upto_region 19 with fail
  go_cut [14, 15, 16] from 110 to 117 (fun s14 s15 s16 wz => ∃ (a2 : Option Addr) (n u x : Nat), s14 = .slice a2 n n ∧ s15 = .int .i64 u ∧ s16 = .int .i64 x ∧ Fr [] wc wz ∧ Out wz g v a2 n u x)
  case first =>
    go_wp2_with (go_at_call 8; refine (decode_all _ _ [x0, x1, x2, x3, 120] _ (grownCap_ge wc 5 4 5) (grownCap_le_maxLen wc 5 4 5 (by decide)) (by simp) (cs_five wc _ _ x0 x1 x2 x3) (by simp)).mono ?_; rintro e w2 ⟨a2, ls, rfl, L, hls, f2⟩)
    go_meet
    have hg := HG.out
    rw [HFS.out.1] at hg
    exact ⟨a2, ls.length, _, _, rfl, rfl, rfl, (((Fr.refl [] wc).alloc _).alloc _).drew.trans f2, out_of _ g v a2 ls x0 x1 x2 x3 hg.1 hg.2 L hls⟩
  case rest =>
  clear y0 y1 y2 y3
  obtain ⟨a2, n2, u2, x2', rfl, rfl, rfl, f2, hO⟩ := hcut
  have H3 := Lib.hid (H2.out.1.trans f2)
  clear f2 HG HC HFS H2
  rcases hO with ⟨h | rfl | rfl, rfl, rfl, rfl⟩ | ⟨rfl, h, rfl, rfl, rfl⟩ | ⟨rfl, h, rfl, rfl, rfl⟩ | ⟨rfl, rfl, rfl, rfl, rfl, gg, o, c, k, rfl, hc, hcs⟩ | ⟨rfl, h, h', rfl, rfl, rfl⟩
  · subst h
    go_wp2_with (go_at_call 9; refine (awake_any _).mono ?_; rintro e w9 ⟨rfl, f9⟩)
    go_ret
    exact ⟨by first | rfl | simp, below_of_fr (H3.out.trans f9)⟩
  · cases g
    · go_wp2_with (go_at_call 9; refine (awake_any _).mono ?_; rintro e w9 ⟨rfl, f9⟩)
      go_ret
      exact ⟨by first | rfl | simp, below_of_fr (H3.out.trans f9)⟩
    · go_wp2_with (go_at_call 9; refine (awake_any _).mono ?_; rintro e w9 ⟨rfl, f9⟩)
      go_ret
      exact ⟨by first | rfl | simp, below_of_fr (H3.out.trans f9)⟩
  · cases g
    · go_wp2_with (go_at_call 9; refine (awake_any _).mono ?_; rintro e w9 ⟨rfl, f9⟩)
      go_ret
      exact ⟨by first | rfl | simp, below_of_fr (H3.out.trans f9)⟩
    · go_wp2_with (go_at_call 9; refine (awake_any _).mono ?_; rintro e w9 ⟨rfl, f9⟩)
      go_ret
      exact ⟨by first | rfl | simp, below_of_fr (H3.out.trans f9)⟩
  · have b3 : ((v : Int) == 3) = false := by simp; omega
    have b4 : ((v : Int) == 4) = false := by simp; omega
    have b5 : decide ((65520 : Int) < v) = true := by simp; omega
    go_wp2_with (go_at_call 9; refine (awake_any _).mono ?_; rintro e w9 ⟨rfl, f9⟩)
    go_ret
    exact ⟨by first | rfl | simp, below_of_fr (H3.out.trans f9)⟩
  · have b3 : ((v : Int) == 3) = false := by simp; omega
    have b4 : ((v : Int) == 4) = false := by simp; omega
    have b5 : decide ((65520 : Int) < v) = false := by simp; omega
    have b6 : decide ((v : Int) < 3) = true := by simp; omega
    go_wp2_with (go_at_call 9; refine (awake_any _).mono ?_; rintro e w9 ⟨rfl, f9⟩)
    go_ret
    exact ⟨by first | rfl | simp, below_of_fr (H3.out.trans f9)⟩
  · have cv := run_conv wc Try.underlying23 Try.underlying5 Try.underlying9 (n := 1) (bs := [120]) rfl hcs
    have hst := str_toList [120]
    clear hcs
    go_wp2_with (go_at_call 9; refine (awake_any _).mono ?_; rintro e w9 ⟨rfl, f9⟩)
    go_ret
    exact ⟨by first | rfl | simp, below_of_fr (H3.out.trans f9)⟩
  · have b3 : ((v : Int) == 3) = false := by simp; omega
    have b4 : ((v : Int) == 4) = false := by simp; omega
    have b5 : decide ((65520 : Int) < v) = false := by simp; omega
    have b6 : decide ((v : Int) < 3) = false := by simp; omega
    have b7 : ((v : Int) == 5) = false := by simp; omega
    go_wp2_with (go_at_call 9; refine (awake_any _).mono ?_; rintro e w9 ⟨rfl, f9⟩)
    go_ret
    exact ⟨by first | rfl | simp, below_of_fr (H3.out.trans f9)⟩
theorem u8_back (b : Int) (h : 0 ≤ b ∧ b ≤ 255) : (((UInt8.ofNat b.toNat).toNat : Nat) : Int) = b := by
  rw [UInt8.toNat_ofNat']
  omega
/-- From the arguments as they are read to the walk. -/
theorem walk {H : Type} {enc : TypeId × Value → H} (W : World) {base : Nat} (v0 : Value) (d0 : DataW H) (p0 : List MemPlace) (v1 : Value) (d1 : DataW H) (p1 : List MemPlace)
    (o0 : Value.okWide Try.prog W .any base 3 v0) (h0 : DataW.Trod enc Try.prog W 0 (fun _ => true) true 3 v0 d0 p0)
    (o1 : Value.okWide Try.prog W .any base 22 v1) (h1 : DataW.Trod enc Try.prog W 0 (fun _ => true) true 22 v1 d1 p1)
    (hz : (DataW.weightsEach Try.prog [3, 22] [d0, d1]).all (· ≤ reachBytes) = true) :
    Calls Try.prog 3 #[v0, v1] W fun e W' => e = .returned (.bool true) ∧ Below W.heap.size W W' := by
  obtain ⟨x0, rfl, rfl, rfl, wx0⟩ := open_int Try.underlying3 o0 h0
  have hc4 : Try.prog.cellsOf 22 = 4 := by kernel_rfl
  obtain ⟨cs, rfl, hsz, _⟩ : ∃ cs, v1 = .agg cs ∧ cs.size = Try.prog.cellsOf 22 ∧ Row.okWide Try.prog W .any base 22 cs := by
    simpa [Value.okWide, Try.underlying22] using o1
  rw [hc4] at hsz
  obtain ⟨c0, c1, c2, c3, rfl⟩ := Go.Joins.array4 hsz
  obtain ⟨fuel, hf⟩ := h1
  obtain ⟨y0, y1, y2, y3, m, hx, hy0, hy1, hy2, hy3⟩ := trod_array4 Try.underlying22 (by kernel_rfl) hf
  obtain ⟨z0, e0, _, w0⟩ := DataW.trod_int Try.underlying5 hy0
  obtain ⟨z1, e1, _, w1⟩ := DataW.trod_int Try.underlying5 hy1
  obtain ⟨z2, e2, _, w2⟩ := DataW.trod_int Try.underlying5 hy2
  obtain ⟨z3, e3, _, w3⟩ := DataW.trod_int Try.underlying5 hy3
  simp only [List.cons.injEq, and_true] at e0 e1 e2 e3
  subst e0 e1 e2 e3
  have h := walk_in W x0 (UInt8.ofNat z0.toNat) (UInt8.ofNat z1.toNat) (UInt8.ofNat z2.toNat) (UInt8.ofNat z3.toNat)
  rw [u8_back z0 (wf_u8 w0), u8_back z1 (wf_u8 w1), u8_back z2 (wf_u8 w2), u8_back z3 (wf_u8 w3)] at h
  exact h

/-! ### The row -/
theorem own : ownKnob Try.prog.godebug = none := by kernel_rfl
theorem laidOut : laidOutB Try.prog = true := by kernel_rfl
set_option maxRecDepth 100000 in
theorem lifted (os : Os) (started : os.Started) (H : Type) (enc : TypeId × Value → H) :
    ReturnsInHanded {} Try.checked os 3 .any (Rows.pktBoundsSpec.pre6 enc Try.prog Try.f3 Rows.pktBoundsRow.domain false) (Rows.pktBoundsSpec.post enc Try.prog Try.f3 false true false false) := by
  refine returnsInHanded_of_change_sized (C := Try.checked) own started (by kernel_rfl) Try.func3
    (ChangeSpec.witness6 (enc := enc) (C := Try.checked) false ⟨#[], #[.int .i64 0, .agg #[.int .u8 0, .int .u8 0, .int .u8 0, .int .u8 0]], []⟩ 8 (by kernel_rfl) (by kernel_rfl) (by kernel_rfl) (by kernel_rfl)) ?_
  intro W base args ds gs before hval hW _ hsz _
  have hW' := hW
  obtain ⟨p, q, hA0, hV, rfl, hfz, hnd⟩ := hW'
  have hA : DataW.TrodAll enc Try.prog W 0 (fun _ => true) true Try.f3.params.toList args.toList ds p := hA0
  rw [Try.params3] at hA hval
  obtain ⟨v0, vs0, d0, ds0, p0, q0, hargs, rfl, rfl, h0, r0⟩ := trodAll_cons hA
  obtain ⟨v1, vs1, d1, ds1, p1, q1, rfl, rfl, rfl, h1, r1⟩ := trodAll_cons r0
  obtain ⟨rfl, rfl, rfl⟩ := trodAll_nil r1
  obtain rfl : args = #[v0, v1] := by cases args; simp_all
  obtain ⟨rfl, rfl⟩ := trodVars_none hV
  have hz : (DataW.weightsEach Try.prog [3, 22] [d0, d1]).all (· ≤ reachBytes) = true := hsz
  refine law_of_calls (s := Rows.pktBoundsSpec) laidOut (by kernel_rfl) rfl rfl Try.underlying4 hW (fun gs _ h2 => by subst h2; rfl) ?_
  exact walk W v0 d0 p0 v1 d1 p1 (hval 0 3 v0 rfl rfl) (h0) (hval 1 22 v1 rfl rfl) (h1) hz

theorem over : Rows.pktBoundsRow.holds Try.pinned (OpenSpec.ofChange Rows.pktBoundsSpec) :=
  OpenClaim.holds_of_wide 3 Try.f3 rfl rfl rfl rfl rfl rfl rfl ⟨rfl, rfl, rfl, rfl, rfl⟩ rfl rfl rfl rfl rfl (by kernel_rfl) Try.func3 (by kernel_rfl)
    (of_decide_eq_true (by kernel_rfl)) (by unfold Func.isWrapper; first | (rw [if_pos (by decide +kernel)]; kernel_rfl) | (rw [if_neg (by decide +kernel)]; exact ⟨rfl, rfl⟩))
    (fun os started H enc _ => lifted os started H enc)

theorem proved : Rows.PktBoundsSaid := over
end Go.Proofs.Yteldakjhnifbpaa.pktBounds
