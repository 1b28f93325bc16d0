/-
  Texts of this proof, one behind the other: PkRead, RfRead, PkLaw2, Itoa, Sha2, ObjId, RsSet, DeltaApp, RsFin, RObjId, RfWhole, DeltaSmall, DeltaRef, DeltaRefA.
-/
import Derived.Test.YtkmpfgpfbmeihaaGreatDoorG7
import Derived.Shelf.LaysM
import Derived.Shelf.Strconv.Itoa3
import Derived.Test.YtkmpfgpfbmeihaaGreatDoorProg
import Derived.Laws.IdiomStrings
import Derived.Lib.SlBytesConst
import Derived.Laws.ResultCell
import Derived.Laws.Rows
set_option maxRecDepth 100000
set_option linter.unusedVariables false
set_option linter.unusedSimpArgs false
namespace Go.Proofs.YtkmpfgpfbmeihaaGreatDoor.pk
open Go Go.RowKit lib bm
theorem slice_begin_to (j : Nat) (h2 : j ≤ 8) (w : World) : (Instr.slice 9 (.string ⟨#[80, 65, 67, 75, 0, 0, 0, 2]⟩) none (some (.int .i64 (j : Nat))) none).run Tryz.prog w = .ok (.string (str (begin8.take j))) w := by
 have hs : (str begin8).size = 8 := rfl
 have e : (⟨#[80, 65, 67, 75, 0, 0, 0, 2]⟩ : ByteArray) = str begin8 := rfl
 rw [e, run_slice_string_h w 9 (str begin8) Tryz.underlying9 .i64 j (by omega) (by rw [hs]; omega)]
 have : ∀ i : Fin 9, (str begin8).extract 0 i.1 = str (begin8.take i.1) := by decide
 rw [show ((j : Nat) : Int).toNat = j from rfl, this ⟨j, by omega⟩]
theorem drop4 (bs : List UInt8) (k : Nat) (h : k + 4 ≤ bs.length) : ∃ x0 x1 x2 x3, (bs.drop k).take 4 = [x0, x1, x2, x3] := by
 have hl : ((bs.drop k).take 4).length = 4 := by rw [List.length_take, List.length_drop]; omega
 match (bs.drop k).take 4, hl with
 | [x0, x1, x2, x3], _ => exact ⟨x0, x1, x2, x3, rfl⟩
theorem rdr_off {w : World} {r cap at_ c : Nat} {a a5 : Option Addr} {bs D : List UInt8} (h : Rdr w r a cap bs at_) (r5 : lib.Rd w a5 c D) (hD : 0 < D.length) : r ∉ blk a5 := by
 obtain ⟨g5, o5, rfl, hc5⟩ := r5.at (i := 0) hD
 simp only [blk, List.mem_singleton]
 rintro rfl
 rw [Nat.add_zero, cell_of h.box] at hc5
 match o5, hc5 with
 | 0, hc5 => simp at hc5
 | 1, hc5 => simp at hc5
 | n + 2, hc5 => simp at hc5
def PRead (w : World) (P : Except Nat (List Ent × List UInt8)) (e : Ending) (w' : World) : Prop :=
 Fr [] w w' ∧ ((∃ x, P = .error x ∧ 0 < x ∧ x < 100 ∧ e = .returned (.tuple #[.slice none 0 0, .string ⟨#[]⟩, .int .i64 (x : Nat)])) ∨
  ∃ l id a ms, P = .ok (l, id) ∧ e = .returned (.tuple #[.slice a l.length l.length, .string (str id), .int .i64 0]) ∧ ms.map (·.1) = l ∧ Ents w' a ms ∧
   (∀ y ∈ blk a, w.heap.size ≤ y ∧ y < w'.heap.size) ∧ (a = none → l = []) ∧ (∀ m ∈ ms, ∀ y ∈ blk m.2, w.heap.size ≤ y ∧ y < w'.heap.size))
set_option maxHeartbeats 16000000 in
theorem read_any (a : Option Addr) (cap : Nat) (bs : List UInt8) (w : World) (h : lib.Rd w a cap bs) :
  Calls Tryz.prog 18 #[.slice a bs.length cap] w (PRead w (pread bs)) := by
 obtain ⟨P, hP⟩ : ∃ P, P = pread bs := ⟨_, rfl⟩
 rw [← hP]
 unfold pread at hP
 obtain ⟨L, hL⟩ : ∃ L, L = bs.length := ⟨_, rfl⟩
 rw [← hL] at hP ⊢
 have hcap := h.le
 have hmax := h.max
 unfold maxLen at hmax
 rw [← hL] at hcap
 by_cases hbig : 1048576 < L
 ·rw [if_pos hbig] at hP
  have HP := Lib.hid hP
  have d0 : decide ((1048576 : Int) < (L : Int)) = true := by simp; omega
  clear hP hL h
  go_enter Tryz.func18, Tryz.ntmps18
  go_wp2
  go_ret3
  exact ⟨Fr.refl _ _, .inl ⟨5, HP.out, by decide, by decide, rfl⟩⟩
 ·rw [if_neg hbig] at hP
  have d0 : decide ((1048576 : Int) < (L : Int)) = false := by simp; omega
  obtain ⟨n, hn⟩ : ∃ n, n = min L 8 := ⟨_, rfl⟩
  have hnL : n ≤ L := by omega
  have hn8 : n ≤ 8 := by omega
  have emin : (n : Int) = if (8 : Int) < (L : Int) then 8 else (L : Int) := by split <;> omega
  have et : bs.take n = bs.take 8 := by
   by_cases h8 : 8 ≤ L
   ·rw [show n = 8 by omega]
   ·rw [List.take_of_length_le (by omega), List.take_of_length_le (by omega)]
  have eb : begin8.take n = begin8.take L := by
   by_cases h8 : 8 ≤ L
   ·rw [show n = 8 by omega, List.take_of_length_le (l := begin8) (i := L) (by show 8 ≤ L; exact h8)]; rfl
   ·rw [show n = L by omega]
  have hsl := fun w' => lib.run_slice_to sliceU8 n a L cap (n : Nat) rfl (by omega) w'
  have hsb := fun w' => slice_begin_to n hn8 w'
  have hcv := fun x c => run_conv (w.drewN x) Tryz.underlying23 Tryz.underlying5 Tryz.underlying9 (bs := bs.take n) (n := n) (by rw [List.length_take]; omega) ((h.take n).cs.fr (Fr.drewN [] w x) (by simp)) c
  rw [et] at hcv
  rw [eb] at hsb
  obtain ⟨sa, hsa⟩ : ∃ s, s = str (bs.take 8) := ⟨_, rfl⟩
  obtain ⟨sb, hsb2⟩ : ∃ s, s = str (begin8.take L) := ⟨_, rfl⟩
  have hbl : (sa.toList == sb.toList) = (bs.take 8 == begin8.take L) := by rw [hsa, hsb2, str_toList, str_toList]
  rw [← hsa] at hcv
  rw [← hsb2] at hsb
  have H := Lib.hid (And.intro h (And.intro hL (And.intro hn emin)))
  clear h hL hn emin et eb hsa hsb2
  by_cases hpre : bs.take 8 = begin8.take L
  ·have dn : (sa.toList == sb.toList) = true := by rw [hbl, hpre]; exact beq_self_eq_true _
   rw [if_neg (by simpa using hpre)] at hP
   have HP := Lib.hid hP
   clear hP hbl hpre
   go_enter Tryz.func18, Tryz.ntmps18
   go_upto_region 4 with (refine wpList_min2 (n : Int) rfl _ _ _ rfl (L : Int) 8 rfl rfl H.out.2.2.2 ?_)
   go_quiet (fail)
   clear hsl hsb hcv dn d0
   go_upto_region 7 with fail
   obtain ⟨R, w2, hR, hw2, f2, q2⟩ : ∃ R w2, R = w.heap.size ∧ w2 = (w.drewN nq).alloc (.cells #[.slice a L cap, .int .i64 (n : Nat)] 85) ∧ Fr [] w w2 ∧ w2.heap[R]? = some (.cells #[.slice a L cap, .int .i64 (n : Nat)] 85 (0, 0)) := ⟨_, _, rfl, rfl, (Fr.drewN [] w nq).alloc _, alloc_at (w.drewN nq) _⟩
   rw [← hw2, ← hR]
   have rdr : Rdr w2 R a cap bs n := ⟨by rw [← H.out.2.1]; exact q2, H.out.1.fr f2, by rw [← H.out.2.1]; exact hnL, fun hb x hx => by have := rd_lt H.out.1 hb x hx; omega⟩
   have hlen : bs.length ≤ 100000000 := by rw [← H.out.2.1]; omega
   by_cases h12 : L < 12
   ·have hPe : P = .error 4 := by rw [HP.out, if_pos h12]
    have hpost : Fr [] w w2 ∧ P = .error 4 := ⟨f2, hPe⟩
    by_cases hin : n + 4 ≤ L
    ·have ht := take_good R a cap bs n 4 w2 rdr hlen (by rw [← H.out.2.1]; exact hin)
     have HT := Lib.hid (And.intro ht (And.intro f2 (And.intro hPe hR)))
     have h8 : n < 8 := by have := H.out.2.2.1; omega
     have d8 : decide (n < 8) = true := by simpa using h8
     clear ht f2 q2 hw2 rdr hR hpost hPe
     go_wp2_with (go_at_call 43; refine HT.out.1.mono ?_; rintro e w3 ⟨rfl, rd3, f3⟩)
     go_ret3
     exact ⟨HT.out.2.1.step f3 (fun y hy => .inr (by simp at hy; rw [hy, HT.out.2.2.2]; exact Nat.le_refl _)), .inl ⟨4, HT.out.2.2.1, by decide, by decide, rfl⟩⟩
    ·have ht := take_bad R a cap bs n 4 w2 rdr hlen (by rw [← H.out.2.1]; omega)
     have HT := Lib.hid (And.intro ht (And.intro f2 hPe))
     clear ht f2 q2 hw2 rdr hR hpost hPe
     by_cases h8 : n < 8
     ·go_wp2_with (go_at_call 43; refine HT.out.1.mono ?_; rintro e w3 ⟨rfl, f3⟩)
      go_ret3
      exact ⟨HT.out.2.1.trans f3, .inl ⟨4, HT.out.2.2, by decide, by decide, rfl⟩⟩
     ·have d8 : decide (n < 8) = false := by simpa using h8
      go_wp2_with (go_at_call 43; refine HT.out.1.mono ?_; rintro e w3 ⟨rfl, f3⟩)
      go_ret3
      exact ⟨HT.out.2.1.trans f3, .inl ⟨4, HT.out.2.2, by decide, by decide, rfl⟩⟩
   ·obtain rfl : n = 8 := by have := H.out.2.2.1; omega
    have hP2 := HP.out
    rw [if_neg h12] at hP2
    have ht := take_good R a cap bs 8 4 w2 rdr hlen (by rw [← H.out.2.1]; omega)
    obtain ⟨a8, ha8⟩ : ∃ a8, a8 = cutAt a cap 8 := ⟨_, rfl⟩
    rw [← ha8] at ht
    have HT := Lib.hid (And.intro ht (And.intro f2 (And.intro hP2 (And.intro hR (And.intro ha8 hlen)))))
    clear ht f2 q2 hw2 rdr hR hP2 ha8 hlen
    go_upto_region 10 with (go_at_call 43; refine HT.out.1.mono ?_; rintro e w3 ⟨rfl, rd3, f3⟩)
    have f3w : Fr [] w w3 := HT.out.2.1.step f3 (fun y hy => .inr (by simp at hy; rw [hy, HT.out.2.2.2.1]; exact Nat.le_refl _))
    obtain ⟨x0, x1, x2, x3, hx4⟩ := drop4 bs 8 (by rw [← H.out.2.1]; omega)
    have rz := rd3.rd.mid 8 4 (by rw [← H.out.2.1]; omega)
    rw [hx4, ← HT.out.2.2.2.2.1] at rz
    obtain ⟨g, o, ea8, c0⟩ := rz.at (i := 0) (by simp)
    obtain ⟨g1, o1, e1, c1⟩ := rz.at (i := 1) (by simp)
    obtain ⟨g2, o2, e2, c2⟩ := rz.at (i := 2) (by simp)
    obtain ⟨g3, o3, e3, c3⟩ := rz.at (i := 3) (by simp)
    have hap := HT.out.2.2.2.2.1
    subst ea8
    simp only [Option.some.injEq, Addr.mk.injEq, and_true] at e1 e2 e3
    obtain ⟨rfl, rfl⟩ := e1
    obtain ⟨rfl, rfl⟩ := e2
    obtain ⟨rfl, rfl⟩ := e3
    simp only [Nat.add_zero, List.getElem_cons_zero, List.getElem_cons_succ] at c0 c1 c2 c3
    have l0 := UInt8.toNat_lt x0
    have l1 := UInt8.toNat_lt x1
    have l2 := UInt8.toNat_lt x2
    have l3 := UInt8.toNat_lt x3
    obtain ⟨N, hN⟩ : ∃ N, N = crc.getb ((bs.drop 8).take 4) := ⟨_, rfl⟩
    have hN2 : N = ((x0.toNat * 256 + x1.toNat) * 256 + x2.toNat) * 256 + x3.toNat := by
     rw [hN, hx4]; unfold crc.getb; simp only [List.foldl_cons, List.foldl_nil]; omega
    have hP3 := HT.out.2.2.1
    rw [← hN] at hP3
    generalize x0.toNat = y0 at *
    generalize x1.toNat = y1 at *
    generalize x2.toNat = y2 at *
    generalize x3.toNat = y3 at *
    obtain ⟨z1, hz1⟩ : ∃ z, z = y0 * 16777216 + y1 * 65536 := ⟨_, rfl⟩
    obtain ⟨z2, hz2⟩ : ∃ z, z = z1 + y2 * 256 := ⟨_, rfl⟩
    have r1 : bits .or .i64 ((y0 : Int) * 16777216) ((y1 : Int) * 65536) = (z1 : Int) := by
     have := i64_put y0 (y1 * 65536) 24 (by decide) (by omega) (by omega)
     rw [show y0 * 2 ^ 24 + y1 * 65536 = z1 by omega] at this
     simpa using this
    have r2 : bits .or .i64 (z1 : Int) ((y2 : Int) * 256) = (z2 : Int) := by
     have := i64_put (y0 * 256 + y1) (y2 * 256) 16 (by decide) (by omega) (by omega)
     rw [show (y0 * 256 + y1) * 2 ^ 16 + y2 * 256 = z2 by omega, ← Int.natCast_mul, show (y0 * 256 + y1) * 2 ^ 16 = z1 by omega] at this
     simpa using this
    have r3 : bits .or .i64 (z2 : Int) (y3 : Int) = (N : Int) := by
     have := i64_put ((y0 * 256 + y1) * 256 + y2) y3 8 (by decide) (by omega) (by omega)
     rw [show ((y0 * 256 + y1) * 256 + y2) * 2 ^ 8 + y3 = N by omega, ← Int.natCast_mul, show ((y0 * 256 + y1) * 256 + y2) * 2 ^ 8 = z2 by omega] at this
     exact this
    have H3 := Lib.hid (And.intro rd3 (And.intro f3w hP3))
    have hNb : N < 4294967296 := by omega
    have hzb : z1 < 4294967296 ∧ z2 < 4294967296 := by omega
    clear rd3 f3w hP3 rz f3 hx4 hN hN2 hz1 hz2 hap
    go_quiet (fail)
    clear c0 c1 c2 c3 r1 r2 r3 hzb
    obtain ⟨w4, hw4⟩ : ∃ w4, w4 = w3.drewN nq := ⟨_, rfl⟩
    rw [← hw4]
    have f4 : Fr [] w3 w4 := by rw [hw4]; exact Fr.drewN [] w3 nq
    have rd4 := H3.out.1.fr f4
    have H4 := Lib.hid (And.intro rd4 (H3.out.2.1.trans f4))
    clear hw4 f4 rd4
    by_cases h4096 : 4096 < N
    ·have hPe := H3.out.2.2
     rw [if_pos h4096] at hPe
     have HPe := Lib.hid hPe
     have dN : decide ((4096 : Int) < (N : Int)) = true := by simp; omega
     clear hPe
     go_wp2
     go_ret3
     exact ⟨H4.out.2, .inl ⟨5, HPe.out, by decide, by decide, rfl⟩⟩
    ·have hPe := H3.out.2.2
     rw [if_neg h4096] at hPe
     have dN : decide ((4096 : Int) < (N : Int)) = false := by simp; omega
     obtain ⟨PE, hPE⟩ : ∃ PE, PE = pents bs N 12 [] := ⟨_, rfl⟩
     rw [← hPE] at hPe
     have HPE := Lib.hid (And.intro hPe hPE)
     clear hPe hPE
     go_upto_block 0 with fail
     clear dN
     go_wp2
     go_loopg [2, 66] N (fun k s2 s66 wr => ∃ at_ c al ms, s2 = .slice al ms.length c ∧ s66 = .int .i64 (ms.length : Nat) ∧ ms.length + k = N ∧ pents bs k at_ (ms.map (·.1)) = PE ∧ Rdr wr R a cap bs at_ ∧ EWr w wr R al c ms ∧ R < wr.heap.size)
     case atStart => exact ⟨12, 0, none, [], rfl, rfl, by simp, HPE.out.2.symm, H4.out.1, EWr.start _ _ _ H4.out.2, lt_of_block H4.out.1.box⟩
     case round =>
      obtain ⟨at_, c, al, ms, rfl, rfl, hmk, hpe, hrd, hew, hRw⟩ := hrel
      obtain ⟨M, hM⟩ : ∃ M, M = ms.length := ⟨_, rfl⟩
      rw [← hM] at hmk
      by_cases hi : M < N
      ·obtain ⟨k, rfl⟩ : ∃ k, gk = k + 1 := ⟨gk - 1, by omega⟩
       have hen := entry_read R a cap bs at_ wr hrd HT.out.2.2.2.2.2
       rw [pents] at hpe
       have HE := Lib.hid (And.intro hen (And.intro hpe (And.intro hrd (And.intro hew (And.intro hRw hM)))))
       rw [← hM]
       clear hen hpe hrd hew hM
       go_upto_region 16 with (first | (go_at_call 44; refine HE.out.1.mono ?_; rintro e w5 ⟨f5, (⟨x, V, hx, k0, k1, rfl, hV7, hV1⟩ | ⟨⟨xk, xa, xs, xc, xd, xb, xo⟩, q, da, hx, rfl, rd5, rdx, nbx⟩)⟩ <;> try simp only [entV]) | (refine wpList_store_row rfl 65 (.tmp 9) (.tmp 71) rfl w5.heap.size V rfl rfl 65 _ (alloc_at w5 _) (by rw [infoRaw, hV7]) (by rw [hV7]; rfl) hV1 ?_))
       ·have f5w : Fr [] w w5 := HE.out.2.2.2.1.fr.step f5 (fun y hy => .inr (by simp at hy; rw [hy, HT.out.2.2.2.1]; exact Nat.le_refl _))
        have f6 : Fr [] w ((w5.alloc (.cells #[.int .i64 0, .int .i64 0, .int .i64 0, .int .u32 0, .slice none 0 0, .string ⟨#[]⟩, .int .i64 0] 65)).setRow w5.heap.size V) := (f5w.alloc _).setRow (.inr f5w.size) _
        have hpe := HE.out.2.1
        rw [hx] at hpe
        have hPx : P = .error x := by rw [HPE.out.1, ← hpe]
        have HX := Lib.hid (And.intro f6 hPx)
        have d1 : ((x : Int) != 0) = true := by simp; omega
        clear f5w f6 hpe hPx hx f5
        go_wp2
        go_ret3
        exact ⟨HX.out.1, .inl ⟨x, HX.out.2, k0, k1, rfl⟩⟩
       ·obtain ⟨m, hm⟩ : ∃ m : EM, m = (⟨xk, xa, xs, xc, xd, xb, xo⟩, da) := ⟨_, rfl⟩
        have hdl : m.1.data = xd := by rw [hm]
        have hda : m.2 = da := by rw [hm]
        have fA : Fr [] w5 ((w5.alloc (.cells #[.int .i64 (xk : Nat), .int .i64 (xa : Nat), .int .i64 (xs : Nat), .int .u32 (xc : Nat), .slice da xd.length xd.length, .string (str xb), .int .i64 (xo : Nat)] 65)).alloc (.cells #[.int .i64 (xk : Nat), .int .i64 (xa : Nat), .int .i64 (xs : Nat), .int .u32 (xc : Nat), .slice da xd.length xd.length, .string (str xb), .int .i64 (xo : Nat)] 65)) := ((Fr.refl [] w5).alloc _).alloc _
        have own5 := ownsRow_fr (ownsRow_fr HE.out.2.2.2.1.own f5 (fun k hk hm => (HE.out.2.2.2.1.new k (by rw [← own_blk al ms.length c, hk]; simp)).2 (by simpa using hm))) fA (by simp)
        have cA : Cs ((w5.alloc (.cells #[.int .i64 (xk : Nat), .int .i64 (xa : Nat), .int .i64 (xs : Nat), .int .u32 (xc : Nat), .slice da xd.length xd.length, .string (str xb), .int .i64 (xo : Nat)] 65)).alloc (.cells #[.int .i64 (xk : Nat), .int .i64 (xa : Nat), .int .i64 (xs : Nat), .int .u32 (xc : Nat), .slice da xd.length xd.length, .string (str xb), .int .i64 (xo : Nat)] 65)) (some ⟨w5.heap.size + 1, 0, none⟩) (entL m) := by
         have := cs_new (w5.alloc (.cells #[.int .i64 (xk : Nat), .int .i64 (xa : Nat), .int .i64 (xs : Nat), .int .u32 (xc : Nat), .slice da xd.length xd.length, .string (str xb), .int .i64 (xo : Nat)] 65)) #[.int .i64 (xk : Nat), .int .i64 (xa : Nat), .int .i64 (xs : Nat), .int .u32 (xc : Nat), .slice da xd.length xd.length, .string (str xb), .int .i64 (xo : Nat)] 65 (0, 0)
         rw [World.size_alloc] at this
         rw [hm]
         exact this
        have hpe := HE.out.2.1
        rw [hx] at hpe
        obtain ⟨S, hS⟩ : ∃ S, S = blk al := ⟨_, rfl⟩
        have hwrw := HE.out.2.2.2.1.fr.size
        have HA := Lib.hid (And.intro own5 (And.intro cA (And.intro fA (And.intro hpe (And.intro hS (And.intro hdl (And.intro hda (And.intro rd5 (And.intro rdx (And.intro nbx (And.intro f5 hm)))))))))))
        clear own5 cA fA hpe hS hdl hda rd5 rdx nbx f5 hx
        go_wp2_with (refine wpList_append sty_raw rfl _ _ rfl (.slice al M c) M (entCells ms) S rfl (by rw [own_blk, HA.out.2.2.2.2.1]) (by have := HA.out.1; rw [← HE.out.2.2.2.2.2] at this; exact this) (some ⟨w5.heap.size + 1, 0, none⟩) 1 1 (entL m) rfl (by decide) (by simp) HA.out.2.1 rfl (entL_one _) (by omega) (by unfold maxLen; omega) ?_; intro a2 c2 w8 A1; have HA1 := Lib.hid A1; clear A1)
        go_roundg k
        case measure => omega
        case rel =>
         obtain ⟨q1, q2, q3, q4, q5, q6, q7, q8, q9, q10, q11, q12⟩ := HA.out
         have A1 := HA1.out
         rw [q5, HE.out.2.2.2.2.2] at A1
         have hRw := HT.out.2.2.2.1
         have halR : ∀ x ∈ blk al, w.heap.size ≤ x ∧ x ≠ R := HE.out.2.2.2.1.new
         have hew2 := HE.out.2.2.2.1.more (m := m) (by rw [hRw]; exact Nat.le_refl _) HE.out.2.2.2.2.1 (q11.trans (q3.mono (by simp))) (by rw [q6, q7]; exact q9.fr q3) (by rw [q7]; exact fun y hy => ⟨(q10 y hy).1, Nat.lt_of_lt_of_le (q10 y hy).2 q3.size⟩) A1
         refine ⟨q, c2, a2, ms ++ [m], ?_, ?_, ?_, ?_, ?_, hew2, ?_⟩
         ·rw [List.length_append, HE.out.2.2.2.2.2]; rfl
         ·rw [List.length_append, ← HE.out.2.2.2.2.2]; first | rfl | go_num
         ·rw [List.length_append, ← HE.out.2.2.2.2.2]; simp; omega
         ·rw [List.map_append, ← q4, q12]; rfl
         ·exact (q8.fr q3).frE A1.fr (fun hm => (halR R hm).2 rfl) (fun hb x hx hm => by have := rd_lt H.out.1 hb x hx; have := (halR x hm).1; omega)
         ·exact Nat.lt_of_lt_of_le HE.out.2.2.2.2.1 (Nat.le_trans (Nat.le_trans q11.size q3.size) A1.fr.size)
      ·obtain rfl : gk = 0 := by omega
       obtain rfl : M = N := by omega
       rw [pents] at hpe
       have hP6 := HPE.out.1
       rw [← hpe] at hP6
       simp only at hP6
       have hatL := hrd.le
       rw [← H.out.2.1] at hatL
       have c1 : wr.cell? ⟨R, 1, none⟩ = some (.int .i64 (at_ : Nat)) := by rw [cell_of hrd.box]; rfl
       have hts : (bs.take at_).length = at_ := by rw [List.length_take, ← H.out.2.1]; omega
       have hsh := sha.sha1_any a cap (bs.take at_) wr (hrd.rd.take at_) (by omega)
       rw [hts] at hsh
       have hs12 := fun w' => lib.run_slice_to sliceU8 at_ a L cap (at_ : Nat) rfl (by omega) w'
       obtain ⟨D, hD⟩ : ∃ D, D = sha.sha1 (bs.take at_) := ⟨_, rfl⟩
       rw [← hD] at hsh hP6
       have hDl : D.length = 20 := by rw [hD]; exact sha.sha1_length _
       have HL := Lib.hid (And.intro hP6 (And.intro hrd (And.intro hew (And.intro hsh (And.intro hM hDl)))))
       rw [← hM]
       clear hP6 hrd hew hsh hM hpe hmk hts hD hDl
       go_upto_region 21 with (go_at_call 35; refine HL.out.2.2.2.1.mono ?_; rintro e w5 ⟨⟨a5, c5, rfl, r5⟩, f5⟩)
       have rd5 := HL.out.2.1.fr f5
       have hoff : R ∉ blk a5 := rdr_off rd5 r5 (by rw [HL.out.2.2.2.2.2]; decide)
       have f5w := HL.out.2.2.1.fr.trans f5
       by_cases h20 : L - at_ < 20
       ·have ht := take_bad R a cap bs at_ 20 w5 rd5 HT.out.2.2.2.2.2 (by rw [← H.out.2.1]; omega)
        have hPx : P = .error 4 := by rw [HL.out.1, if_pos h20]
        have HX := Lib.hid (And.intro ht (And.intro f5w hPx))
        clear ht f5w hPx rd5 hoff r5 f5 c1 hs12
        go_wp2_with (go_at_call 43; refine HX.out.1.mono ?_; rintro e w6 ⟨rfl, f6⟩)
        go_ret3
        exact ⟨HX.out.2.1.trans f6, .inl ⟨4, HX.out.2.2, by decide, by decide, rfl⟩⟩
       ·have ht := take_good R a cap bs at_ 20 w5 rd5 HT.out.2.2.2.2.2 (by rw [← H.out.2.1]; omega)
        have hP7 := HL.out.1
        rw [if_neg h20] at hP7
        obtain ⟨ap, hap⟩ : ∃ ap, ap = cutAt a cap at_ := ⟨_, rfl⟩
        rw [← hap] at ht
        have HX := Lib.hid (And.intro ht (And.intro f5w (And.intro hP7 (And.intro r5 (And.intro hap (And.intro hoff f5))))))
        clear ht f5w hP7 r5 f5 c1 hs12 rd5 hap hoff
        go_upto_region 24 with (go_at_call 43; refine HX.out.1.mono ?_; rintro e w6 ⟨rfl, rd6, f6⟩)
        have r6 := HX.out.2.2.2.1.frS f6 (fun x hx hm => by simp only [List.mem_singleton] at hm; exact HX.out.2.2.2.2.2.1 (hm ▸ hx))
        have rm := rd6.rd.mid at_ 20 (by rw [← H.out.2.1]; omega)
        rw [← HX.out.2.2.2.2.1] at rm
        obtain ⟨bp, hbp⟩ : ∃ bp, bp = (bs.drop at_).take 20 := ⟨_, rfl⟩
        have hbl : bp.length = 20 := by rw [hbp, List.length_take, List.length_drop, ← H.out.2.1]; omega
        have hP7 := HX.out.2.2.1
        rw [← hbp] at rm hP7
        have cvA := run_conv w6 Tryz.underlying23 Tryz.underlying5 Tryz.underlying9 hbl rm.cs
        have cvB := run_conv w6 Tryz.underlying23 Tryz.underlying5 Tryz.underlying9 HL.out.2.2.2.2.2 r6.cs
        obtain ⟨sc, hsc⟩ : ∃ s, s = str bp := ⟨_, rfl⟩
        obtain ⟨sd, hsd⟩ : ∃ s, s = str D := ⟨_, rfl⟩
        have hcd : (sc.toList == sd.toList) = (bp == D) := by rw [hsc, hsd, str_toList, str_toList]
        rw [← hsc] at cvA
        rw [← hsd] at cvB
        have f6w := HX.out.2.1.step f6 (fun y hy => .inr (by simp at hy; rw [hy, HT.out.2.2.2.1]; exact Nat.le_refl _))
        have k1 : w6.cell? ⟨R, 1, none⟩ = some (.int .i64 ((at_ + 20 : Nat) : Int)) := by rw [cell_of rd6.box]; rfl
        obtain ⟨u, hu⟩ : ∃ u, u = at_ + 20 := ⟨_, rfl⟩
        rw [← hu] at k1 hP7
        have huL : u ≤ L := by omega
        have HU := Lib.hid (And.intro r6 (And.intro f6w (And.intro f6 hu)))
        clear r6 f6w f6 rd6 rm hbp hsc hsd hu
        by_cases heq : bp = D
        ·have dq : (sc.toList == sd.toList) = true := by rw [hcd, heq]; exact beq_self_eq_true _
         rw [if_neg (by simpa using heq)] at hP7
         clear hcd
         by_cases hmore : u < L
         ·have hPx := hP7
          rw [if_pos hmore] at hPx
          have HPx := Lib.hid hPx
          clear hPx hP7 heq
          go_wp2
          go_ret3
          exact ⟨HU.out.2.1, .inl ⟨3, HPx.out, by decide, by decide, rfl⟩⟩
         ·have hPx := hP7
          rw [if_neg hmore] at hPx
          have dm : decide (u < L) = false := by simpa using hmore
          have hex := hex_any a5 c5 D w6 HU.out.1 (by rw [HL.out.2.2.2.2.2]; decide)
          rw [HL.out.2.2.2.2.2] at hex
          have hMc : M ≤ c ∧ c ≤ maxLen ∧ (al = none → c = 0) := by
           have := owns_form HL.out.2.2.1.own
           obtain ⟨_, _, he, k1, k2, k3⟩ := this
           simp only [Value.slice.injEq] at he
           obtain ⟨rfl, _, rfl⟩ := he
           exact ⟨by rw [HL.out.2.2.2.2.1]; exact k1, k2, k3⟩
          obtain ⟨X, hX⟩ : ∃ X, X = str (hexb D) := ⟨_, rfl⟩
          rw [← hX] at hex
          have HPx := Lib.hid (And.intro hPx (And.intro hex (And.intro hMc hX)))
          clear hPx hP7 heq hex hMc hX
          go_wp2_with (first
           | (go_at_call 45; refine (clip_ents al M c _ HPx.out.2.2.1.1 HPx.out.2.2.1.2.1).mono ?_; rintro e w7 ⟨rfl, hw⟩; obtain rfl := hw.symm)
           | (go_at_call 46; refine HPx.out.2.1.mono ?_; rintro e w8 ⟨rfl, f8⟩))
          go_ret3
          have fR : Fr [R] wr w8 := ((HX.out.2.2.2.2.2.2.mono (T := [R]) (by simp)).trans HU.out.2.2.1).trans (f8.mono (by simp))
          have hew := HL.out.2.2.1
          have hMl := HL.out.2.2.2.2.1
          refine ⟨HU.out.2.1.trans f8, .inr ⟨ms.map (·.1), hexb D, al, ms, HPx.out.1, ?_, rfl, ⟨(cs_owns hew.own).fr fR (fun x hx hm => (hew.new x hx).2 (by simpa using hm)), fun m' hm' => (hew.dat m' hm').1.frS fR (fun x hx hm => ((hew.dat m' hm').2 x hx).2.2.2 (by simpa using hm))⟩, fun y hy => ⟨(hew.new y hy).1, Nat.lt_of_lt_of_le (owns_lt hew.own (blk_own hy)) fR.size⟩, fun e => ?_, fun m' hm' y hy => ⟨((hew.dat m' hm').2 y hy).1, Nat.lt_of_lt_of_le ((hew.dat m' hm').2 y hy).2.1 fR.size⟩⟩⟩
          ·rw [List.length_map, ← hMl, ← HPx.out.2.2.2]; rfl
          ·have h1 := HPx.out.2.2.1.2.2 e
           have h2 := HPx.out.2.2.1.1
           rw [List.map_eq_nil_iff]
           exact List.eq_nil_of_length_eq_zero (by omega)
        ·have dq : (sc.toList == sd.toList) = false := by rw [hcd]; simpa using heq
         rw [if_pos (by simpa using heq)] at hP7
         have HPx := Lib.hid hP7
         clear hP7 heq hcd
         go_wp2
         go_ret3
         exact ⟨HU.out.2.1, .inl ⟨6, HPx.out, by decide, by decide, rfl⟩⟩
  ·have dn : (sa.toList == sb.toList) = false := by rw [hbl]; simpa using hpre
   rw [if_pos (by simpa using hpre)] at hP
   have HP := Lib.hid hP
   clear hP hbl hpre
   go_enter Tryz.func18, Tryz.ntmps18
   go_upto_region 4 with (refine wpList_min2 (n : Int) rfl _ _ _ rfl (L : Int) 8 rfl rfl H.out.2.2.2 ?_)
   go_quiet (fail)
   go_wp2
   go_ret3
   exact ⟨Fr.drewN _ _ _, .inl ⟨3, HP.out, by decide, by decide, rfl⟩⟩
end Go.Proofs.YtkmpfgpfbmeihaaGreatDoor.pk
namespace Go.Proofs.YtkmpfgpfbmeihaaGreatDoor.pk
open Go Go.RowKit lib bm
theorem hexd_inj : ∀ x y : Fin 16, hexd x.1 = hexd y.1 → x = y := by decide
theorem hex2_inj {a b : UInt8} (h : hex2 a = hex2 b) : a = b := by
 unfold hex2 at h
 simp only [List.cons.injEq, and_true] at h
 have ha := UInt8.toNat_lt a
 have hb := UInt8.toNat_lt b
 have h1 := hexd_inj ⟨a.toNat / 16, by omega⟩ ⟨b.toNat / 16, by omega⟩ h.1
 have h2 := hexd_inj ⟨a.toNat % 16, by omega⟩ ⟨b.toNat % 16, by omega⟩ h.2
 simp only [Fin.mk.injEq] at h1 h2
 exact UInt8.toNat_inj.1 (by omega)
theorem hexb_inj : ∀ {a b : List UInt8}, hexb a = hexb b → a = b
 | [], [], _ => rfl
 | [], y :: t, h => by simp [hexb, hex2] at h
 | x :: s, [], h => by simp [hexb, hex2] at h
 | x :: s, y :: t, h => by
  have e : ∀ (z : UInt8) (u : List UInt8), hexb (z :: u) = hex2 z ++ hexb u := fun z u => by unfold hexb; rw [List.flatMap_cons]
  rw [e, e] at h
  obtain ⟨h1, h2⟩ := List.append_inj h rfl
  rw [hex2_inj h1, hexb_inj h2]
theorem infoRGot : (Tryz.prog.info? 53).map (·.size) = some 3 := by kernel_rfl
theorem results_rgot {fn : Func} {p : Tmp} (h : fn.results = #[.cell p 53]) (tmps : Array Value) (w : World) (g : Nat) (cs : Array Value) (fr : Nat × Nat)
  (hp : tmps.getD p undef = .pointer (some ⟨g, 0, none⟩)) (hg : w.heap[g]? = some (.cells cs 53 fr)) (hs : cs.size = 3) : (results fn tmps).run Tryz.prog w = .ok (.agg cs) w :=
 results_cell_row h tmps w g 53 cs fr _ hp hg Tryz.underlying53 rfl (by rw [infoRGot, hs])
def rCells (l : List Ent) : List Value := l.flatMap fun x => (rentV x).toList
theorem rCells_app (a b : List Ent) : rCells (a ++ b) = rCells a ++ rCells b := by unfold rCells; rw [List.flatMap_append]
theorem rentV_one (x : Ent) : ∀ u ∈ (rentV x).toList, u.oneCell' = true := by
 intro u hu
 simp only [rentV, List.mem_cons, List.not_mem_nil, or_false] at hu
 rcases hu with rfl | rfl | rfl | rfl | rfl | rfl | rfl <;> rfl
theorem sty_rraw : SliceTy Tryz.prog 51 107 (.agg #[.int .i64 0, .int .i64 0, .int .i64 0, .int .u32 0, .string ⟨#[]⟩, .string ⟨#[]⟩, .int .i64 0]) 7 72 := SliceTy.of Tryz.underlying51 (by kernel_rfl) rfl (by decide)
theorem pentry_le {bs : List UInt8} {at_ : Nat} {x : Ent} {q : Nat} (h0 : at_ ≤ bs.length) (h : pentry bs at_ = .ok (x, q)) : q ≤ bs.length := by
 unfold pentry at h
 split at h
 ·cases h
 ·rename_i k s n hk
  have hn := (phF_le _ _ _ _ _ hk).2.2.1
  rw [List.length_drop] at hn
  split at h
  ·cases h
  ·rename_i base off q1 hb
   obtain ⟨_, h2, _⟩ := pbase_le (by omega) hb
   split at h
   ·cases h
   ·rename_i out n2 hz
    have := izlib_le hz
    rw [List.length_drop] at this
    split at h
    ·simp only [Except.ok.injEq, Prod.mk.injEq] at h
     omega
    ·cases h
def RReadP (w : World) (P : Except Nat (List Ent × List UInt8)) (e : Ending) (w' : World) : Prop :=
 Fr [] w w' ∧ ((∃ x, P = .error x ∧ 0 < x ∧ x < 100 ∧ e = .returned (.agg #[.slice none 0 0, .string ⟨#[]⟩, .int .i64 (x : Nat)])) ∨
  ∃ l id a c, P = .ok (l, id) ∧ e = .returned (.agg #[.slice a l.length c, .string (str id), .int .i64 0]) ∧ Cs w' a (rCells l) ∧ l.length ≤ c ∧ c ≤ maxLen ∧ (a = none → c = 0) ∧ (∀ y ∈ blk a, w.heap.size ≤ y ∧ y < w'.heap.size))
theorem take_succ_eq {bs cs : List UInt8} {i : Nat} (h : bs.take i = cs.take i) (h1 : i < bs.length) (h2 : i < cs.length) (he : bs[i] = cs[i]) : bs.take (i + 1) = cs.take (i + 1) := by
 rw [List.take_succ_eq_append_getElem h1, List.take_succ_eq_append_getElem h2, h, he]
set_option maxHeartbeats 16000000 in
theorem rread_any (a : Option Addr) (cap : Nat) (bs : List UInt8) (w : World) (h : lib.Rd w a cap bs) :
  Calls Tryz.prog 22 #[.slice a bs.length cap] w (RReadP w (pread bs)) := by
 obtain ⟨P, hP⟩ : ∃ P, P = pread bs := ⟨_, rfl⟩
 rw [← hP]
 unfold pread at hP
 obtain ⟨L, hL⟩ : ∃ L, L = bs.length := ⟨_, rfl⟩
 rw [← hL] at hP ⊢
 have hcap := h.le
 have hmax := h.max
 unfold maxLen at hmax
 rw [← hL] at hcap
 by_cases hbig : 1048576 < L
 ·rw [if_pos hbig] at hP
  have HP := Lib.hid hP
  have d0 : decide ((1048576 : Int) < (L : Int)) = true := by simp; omega
  clear hP hL h
  go_enter Tryz.func22, Tryz.ntmps22
  go_wp2
  refine bodyPost_ret (results_rgot rfl _ _ w.heap.size _ (0, 0) rfl (alloc_at w _) rfl) rfl ?_
  exact ⟨(Fr.refl [] w).alloc _, .inl ⟨5, HP.out, by decide, by decide, rfl⟩⟩
 ·rw [if_neg hbig] at hP
  have d0 : decide ((1048576 : Int) < (L : Int)) = false := by simp; omega
  have H := Lib.hid (And.intro h (And.intro hL hP))
  clear h hL hP
  go_enter Tryz.func22, Tryz.ntmps22
  go_upto_block 0 with fail
  clear d0
  obtain ⟨G, w1, hG, hw1, f1, bG⟩ : ∃ G w1, G = w.heap.size ∧ w1 = w.alloc (.cells #[.slice none 0 0, .string ⟨#[]⟩, .int .i64 0] 53) ∧ Fr [] w w1 ∧ w1.heap[G]? = some (.cells #[.slice none 0 0, .string ⟨#[]⟩, .int .i64 0] 53 (0, 0)) := ⟨_, _, rfl, rfl, (Fr.refl [] w).alloc _, alloc_at w _⟩
  rw [← hw1, ← hG]
  have HG := Lib.hid (And.intro f1 (And.intro bG hG))
  clear f1 bG hG hw1
  go_wp2
  go_loopg [4] 8 (fun k s4 wr => ∃ i : Nat, s4 = .int .i64 (i : Nat) ∧ i + k = 8 ∧ bs.take i = begin8.take i ∧ i ≤ L ∧ Fr [] w1 wr)
  case atStart => exact ⟨0, rfl, rfl, rfl, Nat.zero_le _, Fr.refl _ _⟩
  case round =>
   obtain ⟨i, rfl, hik, hpre, hiL, hf⟩ := hrel
   by_cases hi : i < 8
   ·obtain ⟨k, rfl⟩ : ∃ k, gk = k + 1 := ⟨gk - 1, by omega⟩
    by_cases hin : i < L
    ·have hin' : i < bs.length := by rw [← H.out.2.1]; exact hin
     have hi8 : i < begin8.length := hi
     obtain ⟨g, o, rfl, hc⟩ := ((H.out.1.fr HG.out.1).fr hf).at hin'
     have hix := fun w' => crc.index_str begin8 hi8 w'
     obtain ⟨x, hx⟩ : ∃ x, x = bs[i] := ⟨_, rfl⟩
     obtain ⟨y, hy⟩ : ∃ y, y = begin8[i] := ⟨_, rfl⟩
     have hxb := UInt8.toNat_lt x
     have hyb := UInt8.toNat_lt y
     rw [← hx] at hc
     rw [← hy] at hix
     have e : str begin8 = ⟨#[80, 65, 67, 75, 0, 0, 0, 2]⟩ := rfl
     rw [e] at hix
     have hxy : x.toNat = y.toNat ↔ x = y := UInt8.toNat_inj
     obtain ⟨xn, hxn⟩ : ∃ n, n = x.toNat := ⟨_, rfl⟩
     obtain ⟨yn, hyn⟩ : ∃ n, n = y.toNat := ⟨_, rfl⟩
     rw [← hxn] at hc hxb
     rw [← hyn] at hix hyb
     have HT := Lib.hid (And.intro hpre (And.intro hf (And.intro hx (And.intro hy (show (xn = yn → x = y) ∧ (x = y → xn = yn) by rw [hxn, hyn]; exact ⟨hxy.1, hxy.2⟩)))))
     have dg : decide (L ≤ i) = false := by simp; omega
     clear hpre hf hx hy hxy hxn hyn e
     go_upto_region 9 with fail
     clear dg
     go_quiet (fail)
     clear hc hix
     have HF := Lib.hid (HT.out.2.1.trans (Fr.drewN [] wr nq))
     by_cases heq : xn = yn
     ·have d1 : ((xn : Int) != yn) = false := by simp; omega
      have hbc := HT.out.2.2.2.2.1 heq
      have HQ := Lib.hid (show bs.take (i + 1) = begin8.take (i + 1) from take_succ_eq HT.out.1 hin' hi8 (HT.out.2.2.1.symm.trans (hbc.trans HT.out.2.2.2.1)))
      clear heq hbc
      go_wp2
      go_roundg k
      case measure => omega
      case rel => exact ⟨i + 1, by go_num, by omega, HQ.out, by omega, HF.out⟩
     ·have d1 : ((xn : Int) != yn) = true := by simp; omega
      have hne : bs.take 8 ≠ begin8.take L := fun e => by
       have h1 : (bs.take 8)[i]? = (begin8.take L)[i]? := by rw [e]
       rw [List.getElem?_take, List.getElem?_take, if_pos hi, if_pos hin, List.getElem?_eq_getElem hin', List.getElem?_eq_getElem hi8, Option.some.injEq] at h1
       exact heq (HT.out.2.2.2.2.2 (HT.out.2.2.1.trans (h1.trans HT.out.2.2.2.1.symm)))
      have hPx : P = .error 3 := by rw [H.out.2.2, if_pos hne]
      have bGx := HF.out.blk HG.out.2.1 (by simp)
      have HX := Lib.hid (And.intro bGx hPx)
      clear bGx hPx hne heq
      go_wp2_with (refine wpList_store_row rfl 53 (.tmp 2) (.tmp 33) rfl G #[.slice none 0 0, .string ⟨#[]⟩, .int .i64 3] rfl rfl 53 #[.slice none 0 0, .string ⟨#[]⟩, .int .i64 0] HX.out.1 infoRGot rfl (by kernel_rfl) ?_)
      refine bodyPost_ret (results_rgot rfl _ _ G #[.slice none 0 0, .string ⟨#[]⟩, .int .i64 3] (0, 0) rfl (setRow_heap _ _ _ _ _ _ HX.out.1) rfl) rfl ?_
      exact ⟨(HG.out.1.trans HF.out).setRow (.inr (by rw [HG.out.2.2]; exact Nat.le_refl _)) _, .inl ⟨3, HX.out.2, by decide, by decide, rfl⟩⟩
    ·obtain rfl : i = L := by omega
     have dg : i ≤ i := Nat.le_refl _
     have heq : bs.take 8 = begin8.take i := by
      rw [List.take_of_length_le (by rw [← H.out.2.1]; omega), ← hpre, List.take_of_length_le (by rw [← H.out.2.1]; exact Nat.le_refl _)]
     have hPx : P = .error 4 := by rw [H.out.2.2, if_neg (by simpa using heq), if_pos (by omega)]
     have bGx := hf.blk HG.out.2.1 (by simp)
     have HX := Lib.hid (And.intro bGx (And.intro hPx hf))
     clear bGx hPx heq hpre hf
     go_wp2_with (refine wpList_store_row rfl 53 (.tmp 2) (.tmp 24) rfl G #[.slice none 0 0, .string ⟨#[]⟩, .int .i64 4] rfl rfl 53 #[.slice none 0 0, .string ⟨#[]⟩, .int .i64 0] HX.out.1 infoRGot rfl (by kernel_rfl) ?_)
     refine bodyPost_ret (results_rgot rfl _ _ G #[.slice none 0 0, .string ⟨#[]⟩, .int .i64 4] (0, 0) rfl (setRow_heap _ _ _ _ _ _ HX.out.1) rfl) rfl ?_
     exact ⟨(HG.out.1.trans HX.out.2.2).setRow (.inr (by rw [HG.out.2.2]; exact Nat.le_refl _)) _, .inl ⟨4, HX.out.2.1, by decide, by decide, rfl⟩⟩
   ·obtain rfl : i = 8 := by omega
    obtain rfl : gk = 0 := by omega
    have heq : bs.take 8 = begin8.take L := by
     rw [hpre, List.take_of_length_le (l := begin8) (i := L) (by show 8 ≤ L; exact hiL)]; rfl
    have hP1 := H.out.2.2
    rw [if_neg (by simpa using heq)] at hP1
    have HQ := Lib.hid (And.intro hP1 hf)
    clear heq hpre hf hP1
    by_cases h12 : L < 12
    ·have hPx := HQ.out.1
     rw [if_pos h12] at hPx
     have d1 : decide ((L : Int) < 12) = true := by simp; omega
     have HX := Lib.hid (And.intro (HQ.out.2.blk HG.out.2.1 (by simp)) hPx)
     clear hPx h12
     go_wp2_with (refine wpList_store_row rfl 53 (.tmp 2) (.tmp 37) rfl G #[.slice none 0 0, .string ⟨#[]⟩, .int .i64 4] rfl rfl 53 #[.slice none 0 0, .string ⟨#[]⟩, .int .i64 0] HX.out.1 infoRGot rfl (by kernel_rfl) ?_)
     refine bodyPost_ret (results_rgot rfl _ _ G #[.slice none 0 0, .string ⟨#[]⟩, .int .i64 4] (0, 0) rfl (setRow_heap _ _ _ _ _ _ HX.out.1) rfl) rfl ?_
     exact ⟨(HG.out.1.trans HQ.out.2).setRow (.inr (by rw [HG.out.2.2]; exact Nat.le_refl _)) _, .inl ⟨4, HX.out.2, by decide, by decide, rfl⟩⟩
    ·have hP2 := HQ.out.1
     rw [if_neg h12] at hP2
     have d1 : decide ((L : Int) < 12) = false := by simp; omega
     have hml : ((bs.drop 8).take 4).length = 4 := by rw [List.length_take, List.length_drop, ← H.out.2.1]; omega
     have fwr := HG.out.1.trans HQ.out.2
     have hmid := (H.out.1.fr fwr).mid 8 4 (by rw [← H.out.2.1]; omega)
     obtain ⟨b4, hb4⟩ : ∃ b4, b4 = (bs.drop 8).take 4 := ⟨_, rfl⟩
     rw [← hb4] at hmid hml hP2
     have hge := crc.rget_any (cutAt a cap 8) (cap - 8) b4 wr hmid (by omega)
     have hgl := crc.getb_le b4
     rw [hml] at hge hgl
     obtain ⟨N, hN⟩ : ∃ N, N = crc.getb b4 := ⟨_, rfl⟩
     rw [← hN] at hge hgl hP2
     have hNl : N < 4294967296 := by simpa using hgl
     have hsl := fun w' => lib.run_slice_lh sliceU8 8 4 a L cap 8 12 rfl rfl (by omega) w'
     have hne : bs ≠ [] := fun e => by have := H.out.2.1; rw [e] at this; simp at this; omega
     have HS := Lib.hid (And.intro hge (And.intro fwr (And.intro hP2 hne)))
     clear hge fwr hP2 hmid hb4 hml hgl hN hne
     go_upto_region 14 with (go_at_call 53; refine HS.out.1.mono ?_; rintro e w2 ⟨rfl, f2⟩)
     have fw2 := HS.out.2.1.trans f2
     have bG2 := (HQ.out.2.trans f2).blk HG.out.2.1 (by simp)
     have H2 := Lib.hid (And.intro fw2 bG2)
     clear fw2 bG2 f2 hsl d1
     by_cases h4096 : 4096 < N
     ·have hPx := HS.out.2.2.1
      rw [if_pos h4096] at hPx
      have dN : decide ((4096 : Int) < (N : Int)) = true := by simp; omega
      have HX := Lib.hid hPx
      clear hPx
      go_wp2_with (refine wpList_store_row rfl 53 (.tmp 2) (.tmp 43) rfl G #[.slice none 0 0, .string ⟨#[]⟩, .int .i64 5] rfl rfl 53 #[.slice none 0 0, .string ⟨#[]⟩, .int .i64 0] H2.out.2 infoRGot rfl (by kernel_rfl) ?_)
      refine bodyPost_ret (results_rgot rfl _ _ G #[.slice none 0 0, .string ⟨#[]⟩, .int .i64 5] (0, 0) rfl (setRow_heap _ _ _ _ _ _ H2.out.2) rfl) rfl ?_
      exact ⟨H2.out.1.setRow (.inr (by rw [HG.out.2.2]; exact Nat.le_refl _)) _, .inl ⟨5, HX.out, by decide, by decide, rfl⟩⟩
     ·have hPx := HS.out.2.2.1
      rw [if_neg h4096] at hPx
      have dN : decide ((4096 : Int) < (N : Int)) = false := by simp; omega
      obtain ⟨PE, hPE⟩ : ∃ PE, PE = pents bs N 12 [] := ⟨_, rfl⟩
      rw [← hPE] at hPx
      have HPE := Lib.hid (And.intro hPx hPE)
      clear hPx hPE
      go_upto_block 2 with fail
      clear dN
      obtain ⟨Y, w3, hY, hw3, f3, bY⟩ : ∃ Y w3, Y = w2.heap.size ∧ w3 = w2.alloc (.cells #[.slice none 0 0, .string ⟨#[]⟩, .int .i64 0] 53) ∧ Fr [] w2 w3 ∧ w3.heap[Y]? = some (.cells #[.slice none 0 0, .string ⟨#[]⟩, .int .i64 0] 53 (0, 0)) := ⟨_, _, rfl, rfl, (Fr.refl [] w2).alloc _, alloc_at w2 _⟩
      rw [← hw3, ← hY]
      have hYG : G ≠ Y := by have := lt_of_block H2.out.2; omega
      have hYw : w.heap.size ≤ Y := by have := H2.out.1.size; omega
      have hY3 : w3.heap.size = Y + 1 := by rw [hw3, World.size_alloc, ← hY]
      have H3 := Lib.hid (And.intro (H2.out.1.trans f3) (And.intro (f3.blk H2.out.2 (by simp)) (And.intro bY (And.intro hYG (And.intro hYw hY3)))))
      clear hY hw3 f3 bY hYG hYw hY3
      go_wp2
      go_loopg [6, 8] N (fun k s6 s8 wr => ∃ at_ al c l, s6 = .int .i64 (at_ : Nat) ∧ s8 = .int .i64 (l.length : Nat) ∧ l.length + k = N ∧ pents bs k at_ l = PE ∧ at_ ≤ L ∧ wr.heap[Y]? = some (.cells #[.slice al l.length c, .string ⟨#[]⟩, .int .i64 0] 53 (0, 0)) ∧ wr.ownsRow 0 107 7 (.slice al l.length c) l.length (rCells l) ∧ (∀ x ∈ blk al, Y < x) ∧ Fr [Y] w3 wr)
      case atStart => exact ⟨12, none, 0, [], rfl, rfl, by simp, HPE.out.2.symm, by omega, H3.out.2.2.1, World.ownsRow_nil _ _ _ _, by simp [blk], Fr.refl _ _⟩
      case round =>
       obtain ⟨at_, al, c, l, rfl, rfl, hmk, hpe, hatL, bYr, hown, hal, hf⟩ := hrel
       obtain ⟨M, hM⟩ : ∃ M, M = l.length := ⟨_, rfl⟩
       rw [← hM] at hmk bYr ⊢
       have fwr : Fr [] w wr := H3.out.1.step hf (fun y hy => .inr (by simp at hy; rw [hy]; exact H3.out.2.2.2.2.1))
       have bGr := hf.blk H3.out.2.1 (by simp; exact H3.out.2.2.2.1)
       have HL := Lib.hid (And.intro hown (And.intro hal (And.intro hf (And.intro fwr (And.intro bGr (And.intro hM (And.intro hpe bYr)))))))
       clear hown hal hf fwr bGr hM hpe bYr
       by_cases hi : M < N
       ·obtain ⟨k, rfl⟩ : ∃ k, gk = k + 1 := ⟨gk - 1, by omega⟩
        have hen := rentry_read a cap bs at_ wr (H.out.1.fr HL.out.2.2.2.1) (by rw [← H.out.2.1]; omega) (fun x hx => Nat.lt_of_lt_of_le (rd_lt H.out.1 HS.out.2.2.2 x hx) HL.out.2.2.2.1.size) (by rw [← H.out.2.1]; exact hatL)
        rw [← H.out.2.1] at hen
        have hpe := HL.out.2.2.2.2.2.2.1
        rw [pents] at hpe
        have HE := Lib.hid (And.intro hen hpe)
        clear hen hpe
        go_upto_region 22 with (first | (go_at_call 54; refine HE.out.1.mono ?_; rintro e w5 ⟨f5, (⟨x, V, hx, k0, k1, rfl, hV7, hV1⟩ | ⟨⟨xk, xa, xs, xc, xd, xb, xo⟩, q, hx, rfl, hqb⟩)⟩ <;> try simp only [rentV]) | (refine wpList_store_row rfl 107 (.tmp 9) (.tmp 55) rfl w5.heap.size V rfl rfl 107 _ (alloc_at w5 _) (by rw [infoRRaw, hV7]) (by rw [hV7]; rfl) hV1 ?_))
        ·have f5w : Fr [] w w5 := HL.out.2.2.2.1.trans f5
         have hpx := HE.out.2
         rw [hx] at hpx
         have hPx : P = .error x := by rw [HPE.out.1, ← hpx]
         have f6 : Fr [] w ((w5.alloc (.cells #[.int .i64 0, .int .i64 0, .int .i64 0, .int .u32 0, .string ⟨#[]⟩, .string ⟨#[]⟩, .int .i64 0] 107)).setRow w5.heap.size V) := (f5w.alloc _).setRow (.inr f5w.size) _
         have f65 : Fr [w5.heap.size] w5 ((w5.alloc (.cells #[.int .i64 0, .int .i64 0, .int .i64 0, .int .u32 0, .string ⟨#[]⟩, .string ⟨#[]⟩, .int .i64 0] 107)).setRow w5.heap.size V) := ((Fr.refl [w5.heap.size] w5).alloc _).setRow (by simp) _
         have bG6 := f65.blk (f5.blk HL.out.2.2.2.2.1 (by simp)) (by have := lt_of_block (f5.blk HL.out.2.2.2.2.1 (by simp)); simp; omega)
         obtain ⟨w6, hw6⟩ : ∃ w6, w6 = (w5.alloc (.cells #[.int .i64 0, .int .i64 0, .int .i64 0, .int .u32 0, .string ⟨#[]⟩, .string ⟨#[]⟩, .int .i64 0] 107)).setRow w5.heap.size V := ⟨_, rfl⟩
         rw [← hw6] at f6 bG6 ⊢
         have HX := Lib.hid (And.intro f6 (And.intro hPx bG6))
         have d1 : ((x : Int) != 0) = true := by simp; omega
         clear f5w f6 f65 hpx hPx hx f5 bG6 hw6
         go_wp2_with (refine wpList_store_row rfl 53 (.tmp 2) (.tmp 61) rfl G #[.slice none 0 0, .string ⟨#[]⟩, .int .i64 (x : Nat)] rfl rfl 53 #[.slice none 0 0, .string ⟨#[]⟩, .int .i64 0] HX.out.2.2 infoRGot rfl (by kernel_rfl) ?_)
         refine bodyPost_ret (results_rgot rfl _ _ G #[.slice none 0 0, .string ⟨#[]⟩, .int .i64 (x : Nat)] (0, 0) rfl (setRow_heap _ _ _ _ _ _ HX.out.2.2) rfl) rfl ?_
         exact ⟨HX.out.1.setRow (.inr (by rw [HG.out.2.2]; exact Nat.le_refl _)) _, .inl ⟨x, HX.out.2.1, k0, k1, rfl⟩⟩
        ·obtain ⟨m, hm⟩ : ∃ m : Ent, m = ⟨xk, xa, xs, xc, xd, xb, xo⟩ := ⟨_, rfl⟩
         have fA : Fr [] w5 ((w5.alloc (.cells #[.int .i64 (xk : Nat), .int .i64 (xa : Nat), .int .i64 (xs : Nat), .int .u32 (xc : Nat), .string (str xd), .string (str xb), .int .i64 (xo : Nat)] 107)).alloc (.cells #[.int .i64 (xk : Nat), .int .i64 (xa : Nat), .int .i64 (xs : Nat), .int .u32 (xc : Nat), .string (str xd), .string (str xb), .int .i64 (xo : Nat)] 107)) := ((Fr.refl [] w5).alloc _).alloc _
         have own5 := ownsRow_fr (ownsRow_fr HL.out.1 f5 (by simp)) fA (by simp)
         have cA : Cs ((w5.alloc (.cells #[.int .i64 (xk : Nat), .int .i64 (xa : Nat), .int .i64 (xs : Nat), .int .u32 (xc : Nat), .string (str xd), .string (str xb), .int .i64 (xo : Nat)] 107)).alloc (.cells #[.int .i64 (xk : Nat), .int .i64 (xa : Nat), .int .i64 (xs : Nat), .int .u32 (xc : Nat), .string (str xd), .string (str xb), .int .i64 (xo : Nat)] 107)) (some ⟨w5.heap.size + 1, 0, none⟩) (rentV m).toList := by
          have := cs_new (w5.alloc (.cells #[.int .i64 (xk : Nat), .int .i64 (xa : Nat), .int .i64 (xs : Nat), .int .u32 (xc : Nat), .string (str xd), .string (str xb), .int .i64 (xo : Nat)] 107)) #[.int .i64 (xk : Nat), .int .i64 (xa : Nat), .int .i64 (xs : Nat), .int .u32 (xc : Nat), .string (str xd), .string (str xb), .int .i64 (xo : Nat)] 107 (0, 0)
          rw [World.size_alloc] at this
          rw [hm]
          exact this
         have hpx := HE.out.2
         rw [hx] at hpx
         have hqL : q ≤ L := by
          have := pentry_le (by rw [← H.out.2.1]; exact hatL) hx
          rw [H.out.2.1]; exact this
         obtain ⟨S, hS⟩ : ∃ S, S = blk al := ⟨_, rfl⟩
         have bY5 := f5.blk HL.out.2.2.2.2.2.2.2 (by simp)
         have bYA := fA.blk bY5 (by simp)
         have y0 := cell_of (alloc_old (.cells #[.int .i64 (xk : Nat), .int .i64 (xa : Nat), .int .i64 (xs : Nat), .int .u32 (xc : Nat), .string (str xd), .string (str xb), .int .i64 (xo : Nat)] 107) bY5) 0
         simp only [List.getElem?_toArray, List.getElem?_cons_zero] at y0
         have hYS : Y ∉ S := fun hm => by rw [hS] at hm; have := HL.out.2.1 _ hm; omega
         have HA := Lib.hid (And.intro own5 (And.intro cA (And.intro fA (And.intro hpx (And.intro hS (And.intro f5 (And.intro hm (And.intro bYA hYS))))))))
         clear own5 cA fA hpx hS f5 hx bY5 bYA hYS
         go_wp2_with (refine wpList_append sty_rraw rfl _ _ rfl (.slice al M c) M (rCells l) S rfl (by rw [own_blk, HA.out.2.2.2.2.1]) (by have := HA.out.1; rw [← HL.out.2.2.2.2.2.1] at this; exact this) (some ⟨w5.heap.size + 1, 0, none⟩) 1 1 (rentV m).toList rfl (by decide) (by simp) HA.out.2.1 rfl (rentV_one _) (by omega) (by unfold maxLen; omega) ?_; intro a2 c2 w8 A1; have bY8 := A1.fr.blk HA.out.2.2.2.2.2.2.2.1 HA.out.2.2.2.2.2.2.2.2; have y8 := cell_of bY8 0; have v8 := frozen_of bY8 0; simp only [List.getElem?_toArray, List.getElem?_cons_zero] at y8; have HA1 := Lib.hid (And.intro A1 bY8); clear A1 bY8)
         go_roundg k
         case measure => omega
         case rel =>
          obtain ⟨q1, q2, q3, q4, q5, q6, q7, q8, q9⟩ := HA.out
          have A1 := HA1.out.1
          rw [HL.out.2.2.2.2.2.1] at A1
          have hws : w3.heap.size ≤ wr.heap.size := HL.out.2.2.1.size
          have fst : Fr [Y] w8 (w8.setCell ⟨Y, 0, none⟩ (.slice a2 (M + 1) c2)) := (Fr.refl [Y] w8).setCell (by simp) _
          have f58 : Fr S w5 w8 := (q3.mono (by simp)).trans A1.fr
          have hall : Fr [Y] w3 w8 := (HL.out.2.2.1.trans (q6.mono (by simp))).step f58 (fun y hy => .inr (by rw [q5] at hy; have := HL.out.2.1 y hy; have := H3.out.2.2.2.2.2; omega))
          have ha2 : ∀ x ∈ blk a2, Y < x := fun x hx => by
           rcases A1.at_ x hx with k | k
           ·exact HL.out.2.1 x (by rw [← q5]; exact k)
           ·rw [World.size_alloc, World.size_alloc] at k; have := q6.size; have := H3.out.2.2.2.2.2; omega
          have hlen1 : (l ++ [m]).length = M + 1 := by rw [List.length_append, ← HL.out.2.2.2.2.2.1]; rfl
          refine ⟨q, a2, c2, l ++ [m], rfl, by rw [hlen1]; first | rfl | go_num, by rw [hlen1]; omega, ?_, hqL, ?_, ?_, ha2, hall.trans fst⟩
          ·rw [← q4, q7]
          ·rw [hlen1]; exact (setCell_of HA1.out.2 _).trans rfl
          ·have hown2 := ownsRow_fr A1.own fst (fun k hk hm => by
            have : k ∈ blk a2 := by rw [← own_blk a2 (l.length + 1) c2, hk]; simp
            have := ha2 k this; simp at hm; omega)
           rw [rCells_app, show (l ++ [m]).length = l.length + 1 by simp]
           have e1 : rCells [m] = (rentV m).toList := by simp [rCells]
           rw [e1]
           exact hown2
       ·obtain rfl : gk = 0 := by omega
        obtain rfl : M = N := by omega
        have hpe := HL.out.2.2.2.2.2.2.1
        rw [pents] at hpe
        have hP6 := HPE.out.1
        rw [← hpe] at hP6
        simp only at hP6
        clear hpe
        have fwr := HL.out.2.2.2.1
        by_cases h20 : L - at_ < 20
        ·have hPx : P = .error 4 := by rw [hP6, if_pos h20]
         have d1 : decide ((L : Int) - (at_ : Int) < 20) = true := by simp; omega
         have HX := Lib.hid (And.intro HL.out.2.2.2.2.1 (And.intro hPx fwr))
         clear hPx hP6 fwr h20
         go_wp2_with (refine wpList_store_row rfl 53 (.tmp 2) (.tmp 74) rfl G #[.slice none 0 0, .string ⟨#[]⟩, .int .i64 4] rfl rfl 53 #[.slice none 0 0, .string ⟨#[]⟩, .int .i64 0] HX.out.1 infoRGot rfl (by kernel_rfl) ?_)
         refine bodyPost_ret (results_rgot rfl _ _ G #[.slice none 0 0, .string ⟨#[]⟩, .int .i64 4] (0, 0) rfl (setRow_heap _ _ _ _ _ _ HX.out.1) rfl) rfl ?_
         exact ⟨HX.out.2.2.setRow (.inr (by rw [HG.out.2.2]; exact Nat.le_refl _)) _, .inl ⟨4, HX.out.2.1, by decide, by decide, rfl⟩⟩
        ·rw [if_neg h20] at hP6
         have d1 : decide ((L : Int) - (at_ : Int) < 20) = false := by simp; omega
         have hsl := fun w' => lib.run_slice_lh sliceU8 at_ 20 a L cap (at_ : Nat) ((at_ : Int) + 20) rfl rfl (by omega) w'
         obtain ⟨ap, hap⟩ : ∃ ap, ap = cutAt a cap at_ := ⟨_, rfl⟩
         have hmid := (H.out.1.fr fwr).mid at_ 20 (by rw [← H.out.2.1]; omega)
         rw [← hap] at hmid hsl
         obtain ⟨bp, hbp⟩ : ∃ bp, bp = (bs.drop at_).take 20 := ⟨_, rfl⟩
         rw [← hbp] at hmid hP6
         have hbl : bp.length = 20 := by rw [hbp, List.length_take, List.length_drop, ← H.out.2.1]; omega
         have hhx := rhex_any ap (cap - at_) bp wr hmid (by omega)
         rw [hbl] at hhx
         obtain ⟨X, hX⟩ : ∃ X, X = str (hexb bp) := ⟨_, rfl⟩
         rw [← hX] at hhx
         have HX := Lib.hid (And.intro hhx (And.intro hP6 (And.intro hX (And.intro fwr hbl))))
         clear hhx hP6 hX fwr hmid hbp hbl hap h20
         go_upto_region 29 with (go_at_call 50; refine HX.out.1.mono ?_; rintro e w4 ⟨rfl, f4⟩; have bY4 := f4.blk HL.out.2.2.2.2.2.2.2 (by simp); have y1 := cell_of bY4 1; have v1 := frozen_of bY4 1; simp only [List.getElem?_toArray, List.getElem?_cons_zero, List.getElem?_cons_succ] at y1; have H4 := Lib.hid (And.intro bY4 f4); clear bY4 f4)
         clear d1 hsl
         obtain ⟨w5, hw5⟩ : ∃ w5, w5 = w4.setCell ⟨Y, 1, none⟩ (.string X) := ⟨_, rfl⟩
         rw [← hw5]
         have f5 : Fr [Y] w4 w5 := by rw [hw5]; exact (Fr.refl [Y] w4).setCell (by simp) _
         have bY5 : w5.heap[Y]? = some (.cells #[.slice al M c, .string X, .int .i64 0] 53 (0, 0)) := by rw [hw5]; exact (setCell_of H4.out.1 _).trans rfl
         have fw5 : Fr [] w w5 := (HX.out.2.2.2.1.trans H4.out.2).step f5 (fun y hy => .inr (by simp at hy; rw [hy]; exact H3.out.2.2.2.2.1))
         have bG5 := f5.blk (H4.out.2.blk HL.out.2.2.2.2.1 (by simp)) (by simp; exact H3.out.2.2.2.1)
         have k1 : w5.drew.cell? ⟨Y, 1, none⟩ = some (.string X) := (show w5.cell? _ = _ by rw [cell_of bY5]; rfl)
         have s1 : ∀ x, (sup [] w5.drew x).cell? ⟨Y, 1, none⟩ = some (.string X) := fun x => (sup_fr [] w5.drew x).cell k1 (by simp)
         have hsl2 := fun w' => lib.run_slice_to sliceU8 at_ a L cap (at_ : Nat) rfl (by omega) w'
         have hbt : (bs.take at_).length = at_ := by rw [List.length_take, ← H.out.2.1]; omega
         have hcv := run_conv_sup (P := Tryz.prog) [] w5.drew Tryz.underlying23 Tryz.underlying5 Tryz.underlying9 (ao := a) (n := at_) (bs := bs.take at_) hbt (((H.out.1.fr fw5).take at_).cs.fr (Fr.drew1 [] w5) (by simp)) (by simp)
         have hsh := fun w' => sha.rsha_any (bs.take at_) w' (by omega)
         obtain ⟨D, hD⟩ : ∃ D, D = sha.sha1 (bs.take at_) := ⟨_, rfl⟩
         have hDl : D.length = 20 := by rw [hD]; exact sha.sha1_length _
         have hP7 := HX.out.2.1
         rw [← hD] at hsh hP7
         obtain ⟨st, hst⟩ : ∃ s, s = str (bs.take at_) := ⟨_, rfl⟩
         rw [← hst] at hcv hsh
         obtain ⟨X2, hX2⟩ : ∃ X, X = str (hexb D) := ⟨_, rfl⟩
         have hhx2 := fun a2 c2 w' h => rhex_any a2 c2 D w' h (by omega)
         rw [hDl, ← hX2] at hhx2
         have hcmp : (X.toList == X2.toList) = (hexb bp == hexb D) := by rw [HX.out.2.2.1, hX2, str_toList, str_toList]
         have H5 := Lib.hid (And.intro bY5 (And.intro bG5 (And.intro fw5 (And.intro hsh (And.intro hhx2 (And.intro hP7 (And.intro hX2 (And.intro hcmp f5))))))))
         clear bY5 bG5 fw5 hsh hhx2 hP7 hX2 hcmp f5 hw5 hD hDl hst y1 v1 k1 hbt
         refine region_mix 9 [(false, 0), (false, 1), (false, 2), (false, 3), (false, 4), (false, 5), (true, 6), (true, 7), (false, 8)] [] (by kernel_rfl) (by kernel_rfl) (fun _ _ d _ _ h => by cases d <;> exact h) ?_
         simp only [List.map_cons, List.map_nil, List.getD_cons_zero, List.getD_cons_succ, List.drop_succ_cons, List.drop_zero, List.drop_nil]
         refine mix_seg 6 rfl ?_
         simp only [List.take_succ_cons, List.take_zero, List.drop_succ_cons, List.drop_zero, List.map_cons, List.map_nil]
         repeat (go_big_quiet_step (fail))
         refine wpQuiet_nil ?_
         clear s1 hsl2 hcv
         refine mix_eff rfl ?_
         intro X1 hX1
         go_wp2_with (go_at_call 51; refine (H5.out.2.2.2.1 _).mono ?_; rintro e w6 ⟨⟨a6, c6, rfl, r6, n6⟩, f6⟩)
         refine hX1.out _ _ f6 ?_
         clear hX1 X1
         have H6 := Lib.hid (And.intro r6 ((Fr.drew1 [] w5).trans f6))
         clear r6 n6 f6
         refine mix_eff rfl ?_
         intro X1 hX1
         go_wp2_with (go_at_call 50; refine (H5.out.2.2.2.2.1 a6 c6 _ H6.out.1).mono ?_; rintro e w7 ⟨rfl, f7⟩)
         refine hX1.out _ _ f7 ?_
         clear hX1 X1
         have H7 := Lib.hid (H6.out.2.trans f7)
         clear f7
         refine mix_seg 1 rfl ?_
         simp only [List.take_succ_cons, List.take_zero, List.drop_succ_cons, List.drop_zero, List.map_cons, List.map_nil]
         repeat (go_big_quiet_step (fail))
         refine wpQuiet_nil ?_
         refine mix_nil ?_
         have bG7 := H7.out.blk H5.out.2.1 (by simp)
         have bY7 := H7.out.blk H5.out.1 (by simp)
         have HB := Lib.hid (And.intro bG7 (And.intro bY7 (H5.out.2.2.1.trans H7.out)))
         clear bG7 bY7
         have hP7 := H5.out.2.2.2.2.2.1
         have hcmp := H5.out.2.2.2.2.2.2.2.1
         by_cases heq : bp = D
         ·have dq : (X.toList == X2.toList) = true := by rw [hcmp, heq]; exact beq_self_eq_true _
          have dq2 : (X == X2) = true := by rw [HX.out.2.2.1, H5.out.2.2.2.2.2.2.1, str_beq, heq]; exact beq_self_eq_true _
          have dq3 : (X != X2) = false := by rw [bne, dq2]; rfl
          rw [if_neg (by simpa using heq)] at hP7
          clear hcmp
          simp only [dq, Bool.not_true]
          by_cases hmore : at_ + 20 < L
          ·rw [if_pos hmore] at hP7
           have HP7 := Lib.hid hP7
           have dm : decide ((at_ : Int) + 20 < (L : Int)) = true := by simp; omega
           clear hP7 heq
           go_wp2_with (refine wpList_store_row rfl 53 (.tmp 2) (.tmp 97) rfl G #[.slice none 0 0, .string ⟨#[]⟩, .int .i64 3] rfl rfl 53 #[.slice none 0 0, .string ⟨#[]⟩, .int .i64 0] HB.out.1 infoRGot rfl (by kernel_rfl) ?_)
           refine bodyPost_ret (results_rgot rfl _ _ G #[.slice none 0 0, .string ⟨#[]⟩, .int .i64 3] (0, 0) rfl (setRow_heap _ _ _ _ _ _ HB.out.1) rfl) rfl ?_
           exact ⟨HB.out.2.2.setRow (.inr (by rw [HG.out.2.2]; exact Nat.le_refl _)) _, .inl ⟨3, HP7.out, by decide, by decide, rfl⟩⟩
          ·rw [if_neg hmore] at hP7
           have HP7 := Lib.hid (And.intro hP7 heq)
           have dm : decide ((at_ : Int) + 20 < (L : Int)) = false := by simp; omega
           clear hP7 heq hmore
           go_wp2_with (first | (refine wpList_load_row rfl 53 (.tmp 7) rfl Y rfl 53 #[.slice al M c, .string X, .int .i64 0] (0, 0) _ HB.out.2.1 Tryz.underlying53 rfl infoRGot ?_) | (refine wpList_store_row rfl 53 (.tmp 2) (.tmp 98) rfl G #[.slice al M c, .string X, .int .i64 0] rfl rfl 53 #[.slice none 0 0, .string ⟨#[]⟩, .int .i64 0] HB.out.1 infoRGot rfl (by kernel_rfl) ?_))
           refine bodyPost_ret (results_rgot rfl _ _ G #[.slice al M c, .string X, .int .i64 0] (0, 0) rfl (setRow_heap _ _ _ _ _ _ HB.out.1) rfl) rfl ?_
           have hown := HL.out.1
           have fYr : Fr [Y] wr w7 := ((H4.out.2.mono (T := [Y]) (by simp)).trans H5.out.2.2.2.2.2.2.2.2).trans (H7.out.mono (by simp))
           have hGal : ∀ x ∈ blk al, x ≠ G := fun x hx => by have := HL.out.2.1 x hx; have := H3.out.2.2.2.2.1; have := HG.out.2.2; have := H3.out.2.2.2.1; omega
           have fG : Fr [G] w7 (w7.setRow G #[.slice al M c, .string X, .int .i64 0]) := (Fr.refl [G] w7).setRow (by simp) _
           obtain ⟨_, _, he, k1, k2, k3⟩ := owns_form hown
           simp only [Value.slice.injEq] at he
           obtain ⟨rfl, _, rfl⟩ := he
           refine ⟨HB.out.2.2.setRow (.inr (by rw [HG.out.2.2]; exact Nat.le_refl _)) _, .inr ⟨l, hexb D, al, c, HP7.out.1, ?_, ((cs_owns hown).fr fYr (fun x hx hm => by have := HL.out.2.1 x hx; simp at hm; omega)).fr fG (fun x hx hm => hGal x hx (by simpa using hm)), k1, k2, k3, fun y hy => ⟨by have := HL.out.2.1 y hy; have := H3.out.2.2.2.2.1; omega, Nat.lt_of_lt_of_le (owns_lt hown (blk_own hy)) (Nat.le_trans fYr.size fG.size)⟩⟩⟩
           rw [← HL.out.2.2.2.2.2.1, HX.out.2.2.1, HP7.out.2]
         ·have dq : (X.toList == X2.toList) = false := by rw [hcmp]; simp only [beq_eq_false_iff_ne, ne_eq]; exact fun e => heq (hexb_inj e)
          have dq2 : (X == X2) = false := by rw [HX.out.2.2.1, H5.out.2.2.2.2.2.2.1, str_beq]; simp only [beq_eq_false_iff_ne, ne_eq]; exact fun e => heq (hexb_inj e)
          have dq3 : (X != X2) = true := by rw [bne, dq2]; rfl
          rw [if_pos (by simpa using heq)] at hP7
          have HP7 := Lib.hid hP7
          clear hP7 heq hcmp
          simp only [dq, Bool.not_false]
          go_wp2_with (refine wpList_store_row rfl 53 (.tmp 2) (.tmp 91) rfl G #[.slice none 0 0, .string ⟨#[]⟩, .int .i64 6] rfl rfl 53 #[.slice none 0 0, .string ⟨#[]⟩, .int .i64 0] HB.out.1 infoRGot rfl (by kernel_rfl) ?_)
          refine bodyPost_ret (results_rgot rfl _ _ G #[.slice none 0 0, .string ⟨#[]⟩, .int .i64 6] (0, 0) rfl (setRow_heap _ _ _ _ _ _ HB.out.1) rfl) rfl ?_
          exact ⟨HB.out.2.2.setRow (.inr (by rw [HG.out.2.2]; exact Nat.le_refl _)) _, .inl ⟨6, HP7.out, by decide, by decide, rfl⟩⟩
end Go.Proofs.YtkmpfgpfbmeihaaGreatDoor.pk
namespace Go.Proofs.YtkmpfgpfbmeihaaGreatDoor.pk
open Go lib
def undone : List St → Nat
 | [] => 0
 | none :: t => undone t + 1
 | some _ :: t => undone t
theorem undone_le : ∀ W : List St, undone W ≤ W.length
 | [] => Nat.le_refl _
 | none :: t => by have := undone_le t; simp only [undone, List.length_cons]; omega
 | some _ :: t => by have := undone_le t; simp only [undone, List.length_cons]; omega
theorem undone_set : ∀ (W : List St) (i : Nat) (s : Except Nat (Obj × Nat)), W[i]? = some none → undone (W.set i (some s)) + 1 = undone W
 | [], i, s, h => by simp at h
 | x :: t, 0, s, h => by
  simp only [List.getElem?_cons_zero, Option.some.injEq] at h
  subst h
  rfl
 | x :: t, i + 1, s, h => by
  simp only [List.getElem?_cons_succ] at h
  have := undone_set t i s h
  cases x with
  | none => simp only [List.set_cons_succ, undone]; omega
  | some y => simp only [List.set_cons_succ, undone]; omega
theorem pass_undone (l : List Ent) : ∀ (n i : Nat) (W : List St) (more : Bool), (pass l n i W more).1.length = W.length ∧ undone (pass l n i W more).1 ≤ undone W ∧ ((pass l n i W more).2 = true → more = true ∨ undone (pass l n i W more).1 < undone W)
 | 0, i, W, more => ⟨rfl, Nat.le_refl _, fun h => .inl h⟩
 | n + 1, i, W, more => by
  rw [pass]
  split
  ·rename_i x hx hW
   split
   ·exact pass_undone l n _ _ _
   ·rename_i s hs
    obtain ⟨h1, h2, h3⟩ := pass_undone l n (i + 1) (W.set i (some s)) true
    have h4 := undone_set W i s hW
    refine ⟨by rw [h1, List.length_set], by omega, fun _ => .inr (by omega)⟩
  ·exact pass_undone l n _ _ _
theorem ask_undone (l : List Ent) (kn : List Kn) : ∀ (n i : Nat) (W : List St) {W2 : List St}, ask l kn n i W = some W2 → W2.length = W.length ∧ undone W2 < undone W
 | 0, i, W, W2, h => by cases h
 | n + 1, i, W, W2, h => by
  rw [ask] at h
  split at h
  ·rename_i x hx hW
   split at h
   ·split at h
    ·rename_i k hk
     simp only [Option.some.injEq] at h
     have h4 := undone_set W i (over x k.kind k.body 0) hW
     subst h
     exact ⟨by rw [List.length_set], by omega⟩
    ·exact ask_undone l kn n _ _ h
   ·exact ask_undone l kn n _ _ h
  ·exact ask_undone l kn n _ _ h
theorem firsts_length (l : List Ent) : (firsts l).length = l.length := by unfold firsts; simp
theorem firsts_get (l : List Ent) (i : Nat) (x : Ent) (h : l[i]? = some x) : (firsts l)[i]? = some (first1 l i x) := by
 have hi := (List.getElem?_eq_some_iff.1 h).1
 unfold firsts
 rw [List.getElem?_map, List.getElem?_range hi]
 simp only [Option.map_some, h]
theorem pass_step (l : List Ent) (n i : Nat) (W : List St) (more : Bool) (x : Ent) (hx : l[i]? = some x) (s : St) (hW : W[i]? = some s) :
  pass l (n + 1) i W more = if s = none then (match try1 l W i x with
   | none => pass l n (i + 1) W more
   | some s => pass l n (i + 1) (W.set i (some s)) true) else pass l n (i + 1) W more := by
 cases s with
 | none => rw [pass, hx, hW]; simp; rfl
 | some s => rw [pass, hx, hW]; simp
end Go.Proofs.YtkmpfgpfbmeihaaGreatDoor.pk
namespace Go.Proofs
open Go.Shelf
def Tryz.laysM171_ren : Go.Shelf.Ren := ⟨fun | 171 => 118 | 243 => 149 | 246 => 181 | 283 => 197 | 284 => 198 | 285 => 199 | 286 => 200 | 129 => 212 | 317 => 211 | 318 => 213 | 319 => 214 | 320 => 215 | 337 => 221 | 338 => 222 | n => n, fun | 3 => 3 | 9 => 9 | 2 => 2 | 4 => 4 | 171 => 295 | 0 => 0 | 53 => 104 | 37 => 23 | 5 => 5 | 173 => 298 | 212 => 316 | 51 => 32 | 20 => 20 | 213 => 317 | 46 => 67 | 232 => 322 | 233 => 323 | n => n, fun | 17 => 1 | 18 => 2 | 19 => 3 | n => n⟩
theorem Tryz.laysM171 : Go.Proofs.LaysM.n171 Tryz.prog Tryz.laysM171_ren := {
 mixed := by kernel_rfl
 f129 := Tryz.func212.trans (congrArg some (by kernel_rfl))
 f171 := Tryz.func118.trans (congrArg some (by kernel_rfl))
 f243 := Tryz.func149.trans (congrArg some (by kernel_rfl))
 f246 := Tryz.func181.trans (congrArg some (by kernel_rfl))
 f283 := Tryz.func197.trans (congrArg some (by kernel_rfl))
 f284 := Tryz.func198.trans (congrArg some (by kernel_rfl))
 f285 := Tryz.func199.trans (congrArg some (by kernel_rfl))
 f286 := Tryz.func200.trans (congrArg some (by kernel_rfl))
 f317 := Tryz.func211.trans (congrArg some (by kernel_rfl))
 f318 := Tryz.func213.trans (congrArg some (by kernel_rfl))
 f319 := Tryz.func214.trans (congrArg some (by kernel_rfl))
 f320 := Tryz.func215.trans (congrArg some (by kernel_rfl))
 f337 := Tryz.func221.trans (congrArg some (by kernel_rfl))
 f338 := Tryz.func222.trans (congrArg some (by kernel_rfl))
 t0 := Tryz.underlying0
 a0 := Tryz.isAgg0
 z0 := Tryz.sizeOf0
 v0 := Tryz.zeroValue0
 t2 := Tryz.underlying2
 a2 := Tryz.isAgg2
 z2 := Tryz.sizeOf2
 v2 := Tryz.zeroValue2
 t3 := Tryz.underlying3
 a3 := Tryz.isAgg3
 z3 := Tryz.sizeOf3
 v3 := Tryz.zeroValue3
 t4 := Tryz.underlying4
 a4 := Tryz.isAgg4
 z4 := Tryz.sizeOf4
 v4 := Tryz.zeroValue4
 t5 := Tryz.underlying5
 a5 := Tryz.isAgg5
 z5 := Tryz.sizeOf5
 v5 := Tryz.zeroValue5
 t9 := Tryz.underlying9
 a9 := Tryz.isAgg9
 z9 := Tryz.sizeOf9
 v9 := Tryz.zeroValue9
 t20 := Tryz.underlying20
 a20 := Tryz.isAgg20
 z20 := Tryz.sizeOf20
 v20 := Tryz.zeroValue20
 t37 := Tryz.underlying23
 a37 := Tryz.isAgg23
 z37 := Tryz.sizeOf23
 v37 := Tryz.zeroValue23
 t46 := Tryz.underlying67
 a46 := Tryz.isAgg67
 z46 := Tryz.sizeOf67
 v46 := Tryz.zeroValue67
 t51 := Tryz.underlying32
 a51 := Tryz.isAgg32
 z51 := Tryz.sizeOf32
 v51 := Tryz.zeroValue32
 t53 := Tryz.underlying104
 a53 := Tryz.isAgg104
 z53 := Tryz.sizeOf104
 v53 := Tryz.zeroValue104
 t171 := Tryz.underlying295
 a171 := Tryz.isAgg295
 z171 := Tryz.sizeOf295
 v171 := Tryz.zeroValue295
 t173 := Tryz.underlying298
 a173 := Tryz.isAgg298
 z173 := Tryz.sizeOf298
 v173 := Tryz.zeroValue298
 t212 := Tryz.underlying316
 a212 := Tryz.isAgg316
 z212 := Tryz.sizeOf316
 v212 := Tryz.zeroValue316
 t213 := Tryz.underlying317
 a213 := Tryz.isAgg317
 z213 := Tryz.sizeOf317
 t232 := Tryz.underlying322
 a232 := Tryz.isAgg322
 z232 := Tryz.sizeOf322
 v232 := Tryz.zeroValue322
 t233 := Tryz.underlying323
 a233 := Tryz.isAgg323
 z233 := Tryz.sizeOf323
 v233 := Tryz.zeroValue323
 g17 := by kernel_rfl
 g18 := by kernel_rfl
 g19 := by kernel_rfl
 i0 := by kernel_rfl
 i2 := by kernel_rfl
 i3 := by kernel_rfl
 i4 := by kernel_rfl
 i5 := by kernel_rfl
 i9 := by kernel_rfl
 i20 := by kernel_rfl
 i37 := by kernel_rfl
 i46 := by kernel_rfl
 i51 := by kernel_rfl
 i53 := by kernel_rfl
 i171 := by kernel_rfl
 i173 := by kernel_rfl
 i212 := by kernel_rfl
 i232 := by kernel_rfl
 i233 := by kernel_rfl
 m17 := by kernel_rfl
 m18 := by kernel_rfl
 m19 := by kernel_rfl }
open Go.RowKit Go.Sort Go.Lib in
theorem Tryz.strconv_Itoa (n : Int) (h0 : -9223372036854775808 ≤ n) (h1 : n ≤ 9223372036854775807) (w : World) (htab : Lib.TabIs Tryz.prog w "internal/strconv.uint64pow10" .u64 Lib.pow10Tab) :
  Calls Tryz.prog 118 #[.int .i64 n] w fun e w' => e = .returned (.string ⟨(Lib.itoa n).toArray⟩) ∧ ∃ k os, w' = grow (w.drewN k) os := Any.strconv_Itoa Tryz.laysM171 n h0 h1 w htab
end Go.Proofs
namespace Go.Proofs.YtkmpfgpfbmeihaaGreatDoor.obj
open Go Go.RowKit lib
def Pw (w : World) : Prop := Lib.TabIs Tryz.prog w "internal/strconv.uint64pow10" .u64 Lib.pow10Tab
theorem pw_global : ∃ g, Tryz.prog.globalNamed "internal/strconv.uint64pow10" = some g := Option.isSome_iff_exists.1 (by kernel_rfl)
theorem Pw.fr {w w' : World} (h : Pw w) (f : Fr [] w w') : Pw w' := by
 obtain ⟨g, hg⟩ := pw_global
 unfold Pw Lib.TabIs World.var? at h ⊢
 rw [hg] at h ⊢
 simp only [Option.bind_some] at h ⊢
 have hlt : g < w.heap.size := by
  rcases Nat.lt_or_ge g w.heap.size with h' | h'
  ·exact h'
  ·rw [Array.getElem?_eq_none h'] at h; cases h
 rw [f.block g hlt (by simp)]
 exact h
theorem fr_grow (w : World) (k : Nat) (os : Array Obj) : Fr [] w (Go.Sort.grow (w.drewN k) os) :=
 ⟨rfl, rfl, rfl, by simp [Go.Sort.grow], fun i hi _ => by simp only [Go.Sort.grow]; exact Array.getElem?_append_left (show i < (w.drewN k).heap.size from hi)⟩
theorem itoa_any (n : Nat) (h1 : n ≤ 140737488355328) (w : World) (h : Pw w) : Calls Tryz.prog 118 #[.int .i64 (n : Nat)] w fun e w' => e = .returned (.string (str (Lib.decDigits n))) ∧ Fr [] w w' :=
 (Go.Proofs.Tryz.strconv_Itoa (n : Int) (by omega) (by omega) w h).mono fun e w' hh => ⟨by rw [hh.1]; unfold str Lib.itoa; rw [if_neg (by omega)]; rfl, by obtain ⟨k, os, rfl⟩ := hh.2; exact fr_grow w k os⟩
end Go.Proofs.YtkmpfgpfbmeihaaGreatDoor.obj
namespace Go.Proofs.YtkmpfgpfbmeihaaGreatDoor.sha
open Go Go.RowKit lib bm
def tailOf (len : Nat) : List UInt8 := [128] ++ (List.replicate (zer (len + 1)) 0 ++ (sums.be4 (len / 536870912) ++ sums.be4 (len * 8 % 4294967296)))
theorem padded_tail (r : List UInt8) (len : Nat) (h : r.length % 64 = len % 64) : padded r len = r ++ tailOf len := by
 have hz : zer (r.length + 1) = zer (len + 1) := by unfold zer; omega
 unfold padded padTo tailOf
 rw [hz]
 simp only [List.append_assoc]
theorem sha1_two (a b : List UInt8) {rs : List UInt8} (hrs : rs = leftOf (leftOf a.length a ++ b).length (leftOf a.length a ++ b)) {len : Nat} (hlen : len = a.length + b.length) :
  dig5 (blocks (padded rs len).length (blocks (leftOf a.length a ++ b).length (blocks a.length h0 a) (leftOf a.length a ++ b)) (padded rs len)) = sha1 (a ++ b) := by
 have h1 := leftOf_mod a.length a
 have h2 := leftOf_mod (leftOf a.length a ++ b).length (leftOf a.length a ++ b)
 rw [List.length_append] at h2
 have hmod : rs.length % 64 = len % 64 := by
  rw [hrs, hlen, List.length_append]; omega
 rw [padded_tail rs len hmod, hrs, ← blocks_split _ _ _ _ _ (Nat.le_refl _) (Nat.le_refl _), List.append_assoc, ← blocks_split a.length _ h0 a (b ++ tailOf len) (Nat.le_refl _) (Nat.le_refl _), sha1_at_once,
  padded_tail (a ++ b) _ rfl, hlen, List.append_assoc]
 simp only [List.length_append]
end Go.Proofs.YtkmpfgpfbmeihaaGreatDoor.sha
namespace Go.Proofs.YtkmpfgpfbmeihaaGreatDoor.obj
open Go Go.RowKit lib
def NewHd (w : World) (bs : List UInt8) (e : Ending) (w' : World) : Prop :=
 ∃ a c, e = .returned (.slice a bs.length c) ∧ lib.Rd w' a c bs ∧ (∀ x ∈ blk a, w.heap.size ≤ x) ∧ Fr [] w w'
set_option maxHeartbeats 2000000 in
theorem header_any (k : Int) (n : Nat) (w : World) (hn : n ≤ 140737488355328) (hp : Pw w) : Calls Tryz.prog 95 #[.int .i64 k, .int .i64 (n : Nat)] w (NewHd w (header k n)) := by
 obtain ⟨A, hA⟩ : ∃ A, A = str (kname k) := ⟨_, rfl⟩
 obtain ⟨D, hD⟩ : ∃ D, D = str (Lib.decDigits n) := ⟨_, rfl⟩
 have hAs : A.size ≤ 6 := by have := kname_le k; rw [hA]; simpa [str, ByteArray.size] using this
 have hDs : D.size ≤ 16 := by
  have := dec_len 16 n (by decide) (by have : 10 ^ 16 = 10000000000000000 := by decide
                                       omega)
  have e : (str (Lib.decDigits n)).size = (Lib.decDigits n).length := by simp [str, ByteArray.size]
  rw [hD, e]; exact this
 have h1 := fun w' => name_any k w'
 have h2 := fun w' h => itoa_any n hn w' h
 rw [← hA] at h1
 rw [← hD] at h2
 have hcat : A ++ ({ data := #[32] } : ByteArray) ++ D ++ ({ data := #[0] } : ByteArray) = str (header k n) := by
  have e1 : ({ data := #[32] } : ByteArray) = str [32] := rfl
  have e0 : ({ data := #[0] } : ByteArray) = str [0] := rfl
  rw [e1, e0, hA, hD, str_append, str_append, str_append]; rfl
 have H := Lib.hid (And.intro h1 (And.intro h2 (And.intro hcat hp)))
 clear h1 h2 hA hD hcat hp
 go_enter Tryz.func95, Tryz.ntmps95
 go_wp2_with (first
  | (go_at_call 62; refine (H.out.1 _).mono ?_; rintro e w1 ⟨rfl, f1⟩; have HF := Lib.hid f1; clear f1)
  | (go_at_call 118; refine (H.out.2.1 _ (H.out.2.2.2.fr HF.out)).mono ?_; rintro e w2 ⟨rfl, f2⟩; have HF2 := Lib.hid (HF.out.trans f2); clear f2)
  | (refine wpList_max2 (n : Int) rfl _ _ _ rfl (n : Int) 0 rfl rfl (by split <;> omega) ?_)
  | (refine wpList_bytes_own (e := 5) Tryz.underlying9 Tryz.underlying23 Tryz.underlying5 rfl _ rfl (header k n) (by rw [← H.out.2.2.1]; rfl) (by have := header_len k n hn; unfold maxLen; omega) ?_; intro cap w3 hc3 ho3 f3 hl3; have H3 := Lib.hid (And.intro ho3.rd f3); clear ho3 f3))
 go_ret
 exact ⟨_, cap, rfl, H3.out.1, fun x hx => by simp only [blk, List.mem_singleton] at hx; rw [hx]; exact HF2.out.size, HF2.out.trans H3.out.2⟩
theorem new_one (w : World) : Calls Tryz.prog 93 #[.int .i64 1] w fun e w' => e = .returned (.tuple #[.pointer (some ⟨w.heap.size, 0, none⟩), .int .i64 0]) ∧ sha.Sh w' w.heap.size sha.h0 none 0 [] 0 ∧ Fr [] w w' := by
 go_enter Tryz.func93, Tryz.ntmps93
 go_wp2_with (go_at_call 106; refine (sha.begun_one _).mono ?_; rintro e w1 ⟨rfl, A1, f1⟩; have H1 := Lib.hid (And.intro A1 f1); clear A1 f1)
 go_ret2
 exact ⟨rfl, H1.out⟩
set_option maxHeartbeats 4000000 in
theorem id_any (k : Int) (ao : Option Addr) (cap : Nat) (bs : List UInt8) (w : World) (h : lib.Rd w ao cap bs) (hl : bs.length ≤ 140737488355200) (hp : Pw w) :
  Calls Tryz.prog 63 #[.int .i64 k, .slice ao bs.length cap] w fun e w' => e = .returned (.string (str (pk.oid k bs))) ∧ Fr [] w w' := by
 obtain ⟨L, hL⟩ : ∃ L, L = bs.length := ⟨_, rfl⟩
 obtain ⟨hd, hhd⟩ : ∃ hd, hd = header k L := ⟨_, rfl⟩
 have hdl : hd.length ≤ 24 := by rw [hhd]; exact header_len k L (by omega)
 have hres : pk.oid k bs = pk.hexb (sha.sha1 (hd ++ bs)) := by rw [hhd, hL]; rfl
 rw [hres]
 have hh := fun w' hpw => header_any k L w' (by omega) hpw
 rw [← hhd] at hh
 rw [← hL] at hl ⊢
 have H := Lib.hid (And.intro h (And.intro hL (And.intro hh hp)))
 clear h hL hh hp hhd hres
 go_enter Tryz.func63, Tryz.ntmps63
 go_upto_region 2 with (go_at_call 93; refine (new_one _).mono ?_; rintro e w1 ⟨rfl, A1, f1⟩; have H1 := Lib.hid (And.intro A1 f1); clear A1 f1)
 obtain ⟨g, hg⟩ : ∃ g, g = w.heap.size := ⟨_, rfl⟩
 rw [← hg] at H1 ⊢
 have hgw : g < w1.heap.size := by
  obtain ⟨C, hC, _⟩ := H1.out.1.blk
  exact lt_of_block hC
 have hW : ∀ w2 a2 c2, lib.Rd w2 a2 c2 hd → Fr [] w1 w2 → (∀ x ∈ blk a2, w1.heap.size ≤ x) → Calls Tryz.prog 94 #[.pointer (some ⟨g, 0, none⟩), .slice a2 hd.length c2] w2 fun e w' => e = .returned (.tuple #[]) ∧ Fr [g] w2 w' ∧
   ∃ ra' rc', sha.Sh w' g (sha.blocks hd.length sha.h0 hd) ra' rc' (sha.leftOf hd.length hd) hd.length ∧ ∀ x ∈ lib.blk ra', w2.heap.size ≤ x := fun w2 a2 c2 r2 f2 n2 => by
  obtain ⟨C, hC, s⟩ := H1.out.1.blk
  have := sha.write_sha g sha.h0 none 0 [] 0 c2 a2 hd w2 ⟨⟨C, f2.blk hC (by simp), s⟩, H1.out.1.own.fr f2 (by simp), by simp [lib.blk]⟩ r2 (fun _ x hx => by have := n2 x hx; omega) (by omega) (by simp; omega)
  simp only [List.nil_append, Nat.zero_add, lib.blk, List.not_mem_nil, false_or] at this
  exact this
 have HW := Lib.hid (And.intro hW (And.intro hg hgw))
 clear hW hg hgw
 go_upto_region 3 with (first
  | (go_at_call 95; refine (H.out.2.2.1 _ (H.out.2.2.2.fr H1.out.2)).mono ?_; rintro e w2 ⟨a2, c2, rfl, r2, n2, f2⟩; have H2 := Lib.hid (And.intro r2 (And.intro f2 n2)); clear r2 f2 n2)
  | (go_at_call 94; refine (HW.out.1 _ a2 c2 H2.out.1 H2.out.2.1 H2.out.2.2).mono ?_; rintro e w3 ⟨rfl, f3, ra3, rc3, A3, n3⟩; have H3 := Lib.hid (And.intro f3 (And.intro A3 n3)); clear f3 A3 n3))
 obtain ⟨f3, A3, n3⟩ := H3.out
 have hg := HW.out.2.1
 have hgw := HW.out.2.2
 have fw2 : Fr [] w w2 := H1.out.2.trans H2.out.2.1
 have fw3 : Fr [] w w3 := fw2.step f3 (fun y hy => .inr (by simp at hy; omega))
 obtain ⟨rs1, hrs1⟩ : ∃ rs1, rs1 = sha.leftOf hd.length hd := ⟨_, rfl⟩
 have hr1 : rs1.length < 64 := by rw [hrs1]; exact sha.leftOf_lt _ _ (Nat.le_refl _)
 rw [← hrs1] at A3
 have hw := sha.write_sha g _ ra3 rc3 rs1 hd.length cap ao bs w3 A3 (H.out.1.fr fw3) (fun hb x hx => by have := rd_lt H.out.1 hb x hx; omega) (by have := H.out.2.1; omega) (by have := H.out.2.1; omega)
 rw [← H.out.2.1] at hw
 have H4 := Lib.hid (And.intro hw (And.intro fw3 (And.intro hrs1 n3)))
 clear hw fw3 hrs1 n3 f3 A3 H3 hg hgw
 go_upto_region 4 with (go_at_call 94; refine H4.out.1.mono ?_; rintro e w4 ⟨rfl, f4, ra4, rc4, A4, n4⟩; have H5 := Lib.hid (And.intro f4 (And.intro A4 n4)); clear f4 A4 n4)
 obtain ⟨f4, A4, n4⟩ := H5.out
 have hg := HW.out.2.1
 have hgw := HW.out.2.2
 have fw4 : Fr [] w w4 := H4.out.2.1.step f4 (fun y hy => .inr (by
  simp only [List.mem_cons] at hy
  rcases hy with rfl | hy
  ·omega
  ·have := (fw2).size
   have := H4.out.2.2.2 y hy
   omega))
 have hs := sha.sum_sha _ _ _ _ _ _ w4 A4 (sha.leftOf_lt _ _ (Nat.le_refl _)) (sha.blocks_rng _ _ _ (sha.blocks_rng _ _ _ sha.h0_rng)) (by omega)
 rw [H4.out.2.2.1, sha.sha1_two hd bs rfl (by rw [H.out.2.1])] at hs
 have H6 := Lib.hid (And.intro hs fw4)
 clear hs fw4 f4 A4 n4 H5 hg hgw
 go_wp2_with (first
  | (go_at_call 96; refine H6.out.1.mono ?_; rintro e w5 ⟨⟨a5, c5, rfl, r5⟩, f5⟩; have H7 := Lib.hid (And.intro r5 f5); clear r5 f5)
  | (go_at_call 46; refine (pk.hex_any a5 c5 _ w5 H7.out.1 (by rw [sha.sha1_length]; decide)).mono ?_; rintro e w6 ⟨rfl, f6⟩))
 go_ret
 exact ⟨rfl, (H6.out.2.trans H7.out.2).trans f6⟩
end Go.Proofs.YtkmpfgpfbmeihaaGreatDoor.obj
namespace Go.Proofs.YtkmpfgpfbmeihaaGreatDoor.pk
open Go Go.RowKit lib bm
def objV (o : Obj) (a : Option Addr) (c : Nat) : Array Value := #[.int .i64 o.kind, .slice a o.body.length c, .string (str o.id), .int .i64 (o.at_ : Nat), .int .u32 (o.crc : Nat)]
theorem infoObj : (Tryz.prog.info? 34).map (·.size) = some 5 := by kernel_rfl
structure Rb (w : World) (g O S : Nat) (gv tv : Value) (la : Option Addr) (ms : List EM) (C D : Array Value) : Prop where
 box : w.heap[g]? = some (.cells #[.slice la ms.length ms.length, .slice (some ⟨O, 0, none⟩) ms.length ms.length, .slice (some ⟨S, 0, none⟩) ms.length ms.length, gv, tv] 96 (0, 0))
 ents : Ents w la ms
 ob : w.heap[O]? = some (.cells C 34 (0, 0))
 oc : C.size = ms.length * 5
 sb : w.heap[S]? = some (.cells D 100 (0, 0))
 sc : D.size = ms.length * 4
 gO : g ≠ O
 gS : g ≠ S
 OS : O ≠ S
 offl : ∀ x ∈ blk la, x ≠ O ∧ x ≠ S
 offd : ∀ m ∈ ms, ∀ x ∈ blk m.2, x ≠ O ∧ x ≠ S
 few : ms.length ≤ 4096
theorem Rb.fr {w w' : World} {g O S : Nat} {gv tv : Value} {la : Option Addr} {ms : List EM} {C D : Array Value} (h : Rb w g O S gv tv la ms C D) (f : Fr [] w w') : Rb w' g O S gv tv la ms C D :=
 ⟨f.blk h.box (by simp), h.ents.fr f, f.blk h.ob (by simp), h.oc, f.blk h.sb (by simp), h.sc, h.gO, h.gS, h.OS, h.offl, h.offd, h.few⟩
theorem Ents.frS {S : List Nat} {w w' : World} {a : Option Addr} {ms : List EM} (h : Ents w a ms) (f : Fr S w w') (hl : ∀ x ∈ blk a, x ∉ S) (hd : ∀ m ∈ ms, ∀ x ∈ blk m.2, x ∉ S) : Ents w' a ms :=
 ⟨h.cs.fr f hl, fun m hm => (h.dat m hm).frS f (hd m hm)⟩
theorem Rb.setO {w w' : World} {g O S : Nat} {gv tv : Value} {la : Option Addr} {ms : List EM} {C C' D : Array Value} (h : Rb w g O S gv tv la ms C D) (f : Fr [O] w w') (hb : w'.heap[O]? = some (.cells C' 34 (0, 0))) (hs : C'.size = C.size) : Rb w' g O S gv tv la ms C' D :=
 ⟨f.blk h.box (by simp; exact h.gO), h.ents.frS f (fun x hx => by simp; exact (h.offl x hx).1) (fun m hm x hx => by simp; exact (h.offd m hm x hx).1), hb, by rw [hs]; exact h.oc, f.blk h.sb (by simp; exact Ne.symm h.OS), h.sc, h.gO, h.gS, h.OS, h.offl, h.offd, h.few⟩
theorem Rb.setS {w w' : World} {g O S : Nat} {gv tv : Value} {la : Option Addr} {ms : List EM} {C D D' : Array Value} (h : Rb w g O S gv tv la ms C D) (f : Fr [S] w w') (hb : w'.heap[S]? = some (.cells D' 100 (0, 0))) (hs : D'.size = D.size) : Rb w' g O S gv tv la ms C D' :=
 ⟨f.blk h.box (by simp; exact h.gS), h.ents.frS f (fun x hx => by simp; exact (h.offl x hx).2) (fun m hm x hx => by simp; exact (h.offd m hm x hx).2), f.blk h.ob (by simp; exact h.OS), h.oc, hb, by rw [hs]; exact h.sc, h.gO, h.gS, h.OS, h.offl, h.offd, h.few⟩
theorem Ents.cell {w : World} {a : Option Addr} {ms : List EM} (h : Ents w a ms) {i : Nat} {m : EM} (hi : ms[i]? = some m) : ∃ gb o, a = some ⟨gb, o, none⟩ ∧ ∀ j v, j < 7 → (entV m.1 m.2 m.1.data.length)[j]? = some v → w.cell? ⟨gb, o + (i * 7 + j), none⟩ = some v := by
 have hl := (List.getElem?_eq_some_iff.1 hi).1
 obtain ⟨gb, o, ha, hc⟩ := h.cs.at (by rw [entCells_len]; omega)
 refine ⟨gb, o, ha, fun j v hj hv => hc _ v ?_⟩
 have := flat_get entL 7 (fun _ => rfl) ms i m j hi hj
 unfold entCells
 rw [this]
 unfold entL
 rw [Array.getElem?_toList]
 exact hv
set_option maxHeartbeats 8000000 in
theorem set_any (g O S : Nat) (gv tv : Value) (la : Option Addr) (ms : List EM) (C D : Array Value) (i : Nat) (m : EM) (kd : Int) (ba : Option Addr) (bc : Nat) (body : List UInt8) (w : World)
  (h : Rb w g O S gv tv la ms C D) (hi : ms[i]? = some m) (hb : lib.Rd w ba bc body) (hbl : body.length ≤ 140737488355200) (hp : obj.Pw w) :
  Calls Tryz.prog 79 #[.pointer (some ⟨g, 0, none⟩), .int .i64 (i : Nat), .int .i64 kd, .slice ba body.length bc] w fun e w' => e = .returned (.tuple #[]) ∧ Fr [O] w w' ∧
   ∃ C', Rb w' g O S gv tv la ms C' D ∧ (∀ j, j < i * 5 ∨ i * 5 + 5 ≤ j → C'[j]? = C[j]?) ∧ (∀ j v, (objV (whole m.1 kd body) ba bc)[j]? = some v → C'[i * 5 + j]? = some v) := by
 obtain ⟨n, hn⟩ : ∃ n, n = ms.length := ⟨_, rfl⟩
 have hin : i < n := by rw [hn]; exact (List.getElem?_eq_some_iff.1 hi).1
 have hfew : n ≤ 4096 := by rw [hn]; exact h.few
 have b0 := cell_of h.box 0
 have b1 := cell_of h.box 1
 simp only [List.getElem?_toArray, List.getElem?_cons_zero, List.getElem?_cons_succ] at b0 b1
 rw [← hn] at b0 b1
 obtain ⟨gb, o, rfl, hce⟩ := h.ents.cell hi
 have e1 := hce 1 _ (by decide) (show _ = some (.int .i64 (m.1.at_ : Nat)) from rfl)
 have e3 := hce 3 _ (by decide) (show _ = some (.int .u32 (m.1.crc : Nat)) from rfl)
 have hid := fun w' (f : Fr [] w w') => obj.id_any kd ba bc body w' (hb.fr f) hbl (hp.fr f)
 obtain ⟨bl, hbl2⟩ : ∃ bl, bl = body.length := ⟨_, rfl⟩
 obtain ⟨X, hX⟩ : ∃ X, X = str (oid kd body) := ⟨_, rfl⟩
 rw [← hX, ← hbl2] at hid
 rw [← Nat.add_assoc] at e1 e3
 have hgO : g ∉ [O] := by simp; exact h.gO
 have hbO : gb ∉ [O] := by simp; exact (h.offl gb (by simp [blk])).1
 have s0 : ∀ x, (sup [O] w.drew x).cell? ⟨g, 0, none⟩ = some (.slice (some ⟨gb, o, none⟩) n n) := fun x => (sup_fr [O] w.drew x).cell (show w.drew.cell? _ = _ from b0) hgO
 have s1 : ∀ x, (sup [O] w.drew x).cell? ⟨g, 1, none⟩ = some (.slice (some ⟨O, 0, none⟩) n n) := fun x => (sup_fr [O] w.drew x).cell (show w.drew.cell? _ = _ from b1) hgO
 have t1 : ∀ x, (sup [O] w.drew x).cell? ⟨gb, o + i * 7 + 1, none⟩ = some (.int .i64 (m.1.at_ : Nat)) := fun x => (sup_fr [O] w.drew x).cell (show w.drew.cell? _ = _ from e1) hbO
 have t3 : ∀ x, (sup [O] w.drew x).cell? ⟨gb, o + i * 7 + 3, none⟩ = some (.int .u32 (m.1.crc : Nat)) := fun x => (sup_fr [O] w.drew x).cell (show w.drew.cell? _ = _ from e3) hbO
 rw [← hbl2]
 have H := Lib.hid (And.intro h (And.intro hn (And.intro hid (And.intro hX hbl2))))
 clear h hn hid hX hbl2 hce e1 e3 b0 b1 hb hp hi hbl
 go_enter Tryz.func79, Tryz.ntmps79
 refine region_mix 29 [(false, 0), (false, 1), (false, 2), (false, 3), (false, 4), (false, 5), (false, 6), (false, 7), (false, 8), (false, 10), (false, 11), (false, 12), (false, 13), (false, 14), (false, 15), (false, 16), (false, 17), (false, 18), (false, 19), (false, 20), (false, 21), (false, 22), (false, 23), (false, 24), (false, 25), (true, 9), (true, 26), (false, 27), (true, 28)] [O] (by kernel_rfl) (by kernel_rfl) (fun _ _ d _ _ h => by cases d <;> exact h) ?_
 simp only [List.map_cons, List.map_nil, List.getD_cons_zero, List.getD_cons_succ, List.drop_succ_cons, List.drop_zero, List.drop_nil]
 refine mix_seg 25 rfl ?_
 simp only [List.take_succ_cons, List.take_zero, List.drop_succ_cons, List.drop_zero, List.map_cons, List.map_nil]
 repeat (go_big_quiet_step (fail))
 refine wpQuiet_nil ?_
 clear s0 s1 t1 t3
 refine mix_eff rfl ?_
 intro X1 hX1
 go_wp2_with (go_at_call 63; refine (H.out.2.2.1 _ (Fr.drew1 [] w)).mono ?_; rintro e w2 ⟨rfl, f2⟩)
 refine hX1.out _ _ (f2.mono (by simp)) ?_
 clear hX1 X1
 have HF := Lib.hid ((Fr.drew1 [] w).trans f2)
 clear f2
 refine mix_eff rfl ?_
 intro X1 hX1
 go_wp2
 refine hX1.out _ _ (Fr.refl _ _) ?_
 clear hX1 X1
 refine mix_seg 1 rfl ?_
 simp only [List.take_succ_cons, List.take_zero, List.drop_succ_cons, List.drop_zero, List.map_cons, List.map_nil]
 repeat (go_big_quiet_step (fail))
 refine wpQuiet_nil ?_
 have ho2 := HF.out.blk H.out.1.ob (by simp)
 have hsz : i * 5 + 5 ≤ C.size := by rw [H.out.1.oc, ← H.out.2.1]; omega
 have HO := Lib.hid (And.intro ho2 hsz)
 clear ho2 hsz
 refine mix_eff rfl ?_
 intro X1 hX1
 refine wp_store_mid 34 (.tmp 35) (.tmp 34) rfl O (i * 5) #[.int .i64 kd, .slice ba bl bc, .string X, .int .i64 (m.1.at_ : Nat), .int .u32 (m.1.crc : Nat)] rfl rfl (there_of HO.out.1 (i * 5) 5 HO.out.2) infoObj (by kernel_rfl) ?_
 simp only [Act.put, List.setIfInBounds_toArray, List.set_cons_succ, List.set_cons_zero]
 have fS : Fr [O] w2 (w2.setCells O (i * 5) (#[.int .i64 kd, .slice ba bl bc, .string X, .int .i64 (m.1.at_ : Nat), .int .u32 (m.1.crc : Nat)] : Array Value).toList) := Fr.setCells (by simp) _ _ (Fr.refl [O] w2)
 obtain ⟨C', h1, h2, h3, h4⟩ := setCells_blk (#[.int .i64 kd, .slice ba bl bc, .string X, .int .i64 (m.1.at_ : Nat), .int .u32 (m.1.crc : Nat)] : Array Value).toList (i * 5) w2 C HO.out.1
 refine hX1.out _ _ fS ?_
 clear hX1 X1
 have HS := Lib.hid (And.intro fS (And.intro h1 (And.intro h2 (And.intro h3 h4))))
 clear fS h1 h2 h3 h4
 refine mix_nil ?_
 go_wp2
 go_end0
 obtain ⟨fS, h1, h2, h3, h4⟩ := HS.out
 refine ⟨rfl, (HF.out.mono (by simp)).trans fS, C', (H.out.1.fr HF.out).setO fS h1 h2, fun j hj => h3 j (by simpa using hj), fun j v hv => h4 j v ?_ ?_⟩
 ·have e1 : (objV (whole m.1 kd body) ba bc) = #[.int .i64 kd, .slice ba bl bc, .string X, .int .i64 (m.1.at_ : Nat), .int .u32 (m.1.crc : Nat)] := by unfold objV whole; rw [H.out.2.2.2.1, H.out.2.2.2.2]
  rw [e1] at hv
  rw [← Array.getElem?_toList] at hv
  exact hv
 ·have : j < 5 := (Array.getElem?_eq_some_iff.1 hv).1
  have := HO.out.2
  omega
end Go.Proofs.YtkmpfgpfbmeihaaGreatDoor.pk
namespace Go.Proofs.YtkmpfgpfbmeihaaGreatDoor.delta
open Go Go.RowKit lib bm
theorem and1u8 (x : Nat) (h : x < 256) : bits .and .u8 ((x : Nat) : Int) 1 = ((x % 2 : Nat) : Int) := by
 have h1 : ∀ x : Fin 256, bits .and .u8 (x.1 : Int) 1 = ((x.1 % 2 : Nat) : Int) := by decide +kernel
 exact h1 ⟨x, h⟩
theorem pow256 (i : Nat) : 256 ^ (i + 1) = 256 * 256 ^ i := by rw [Nat.pow_succ, Nat.mul_comm]
theorem or_bytes (n x i : Nat) (hi : i < 4) (hn : n < 256 ^ i) (hx : x < 256) : ∃ m, (m = n + x * 256 ^ i ∧ m < 256 ^ (i + 1)) ∧ m < 4294967296 ∧ bits .or .i64 (n : Int) (wrap64 ((x : Int) * 2 ^ (8 * i))) = (m : Int) := by
 have hp : 2 ^ (8 * i) = 256 ^ i := by rw [Nat.pow_mul]
 have h4 : 256 ^ i ≤ 256 ^ 3 := Nat.pow_le_pow_right (by decide) (by omega)
 have e4 : 256 ^ 3 = 16777216 := by decide
 have hpos : 0 < 256 ^ i := Nat.pow_pos (by decide)
 have h1 : x * 256 ^ i ≤ 255 * 256 ^ i := Nat.mul_le_mul_right _ (by omega)
 have h5 := pow256 i
 refine ⟨n + x * 256 ^ i, ⟨rfl, by omega⟩, by omega, ?_⟩
 have e : wrap64 ((x : Int) * 2 ^ (8 * i)) = ((x * 2 ^ (8 * i) : Nat) : Int) := by
  have : (x : Int) * 2 ^ (8 * i) = ((x * 2 ^ (8 * i) : Nat) : Int) := by rw [Int.natCast_mul, Int.natCast_pow]; rfl
  rw [this, hp]
  generalize x * 256 ^ i = y at *
  simp only [wrap64]
  omega
 rw [e, or_shl n x (8 * i) (by rw [hp]; exact hn) (by rw [hp]; omega) (by omega), hp]
theorem pl_skip {op f i p n : Nat} {d : List UInt8} (h : op / 2 ^ i % 2 = 0) : pl op (f + 1) i p n d = pl op f (i + 1) p n d := by cases d <;> simp [pl, h]
theorem pl_nil {op f i p n : Nat} (h : op / 2 ^ i % 2 = 1) : pl op (f + 1) i p n [] = none := by simp [pl, h]
theorem pl_cons {op f i p n : Nat} {c : UInt8} {r : List UInt8} (h : op / 2 ^ i % 2 = 1) : pl op (f + 1) i p n (c :: r) = if i < 4 then pl op f (i + 1) (p + c.toNat * 256 ^ i) n r else pl op f (i + 1) p (n + c.toNat * 256 ^ (i - 4)) r := by simp [pl, h]
def Placed (w : World) (op : Nat) (a0 : Option Addr) (cap : Nat) (d : List UInt8) (e : Ending) (w' : World) : Prop :=
 w = w' ∧ ((pl op 7 0 0 0 d = none ∧ e = .returned (.tuple #[.int .i64 0, .int .i64 0, .slice none 0 0, .bool false])) ∨
  ∃ p n r a c, pl op 7 0 0 0 d = some (p, n, r) ∧ e = .returned (.tuple #[.int .i64 (p : Nat), .int .i64 (n : Nat), .slice a r.length c, .bool true]) ∧ (∀ wz, Rd wz a0 cap d → Rd wz a c r) ∧ p < 4294967296 ∧ n ≤ 16777216)
set_option maxHeartbeats 4000000 in
theorem place_all (op : Nat) (a : Option Addr) (cap : Nat) (d : List UInt8) (w : World) (hop : op < 256) (h : Rd w a cap d) : Calls Tryz.prog 138 #[.int .u8 op, .slice a d.length cap] w (Placed w op a cap d) := by
 have H0 := Lib.hid h
 clear h
 go_enter Tryz.func138, Tryz.ntmps138
 go_wp2
 go_loopg [1, 4, 5, 8, 9] 7 (fun k s1 s4 s5 s8 s9 wr => ∃ i p n a' c r, i + k = 7 ∧ s9 = .int .i64 (i : Nat) ∧ s4 = .int .i64 (p : Nat) ∧ s5 = .int .i64 (n : Nat) ∧ s1 = .slice a' r.length c ∧ (∀ wz, Rd wz a cap d → Rd wz a' c r) ∧ (i ≤ 4 → p < 256 ^ i) ∧ p < 4294967296 ∧ n < 256 ^ (i - 4) ∧ pl op k i p n r = pl op 7 0 0 0 d ∧ w = wr)
 case atStart => exact ⟨0, 0, 0, a, cap, d, rfl, rfl, rfl, rfl, rfl, fun _ h => h, fun _ => by decide, by decide, by decide, rfl, rfl⟩
 case round =>
  obtain ⟨i, p, n, ar, cr, r, hi, rfl, rfl, rfl, rfl, hrr, hp4, hp, hn, hpl, rfl⟩ := hrel
  have hr := hrr w H0.out
  have hrl := hr.le
  have H := Lib.hid hr
  have HRR := Lib.hid hrr
  clear hrr
  have hn3 : n < 16777216 := by
   have : 256 ^ (i - 4) ≤ 256 ^ 3 := Nat.pow_le_pow_right (by decide) (by omega)
   have e : 256 ^ 3 = 16777216 := by decide
   omega
  have HP := Lib.hid (And.intro hp4 hn)
  have hmax := hr.max
  unfold maxLen at hmax
  clear hr hp4 hn
  by_cases hi7 : i < 7
  ·obtain ⟨k, rfl⟩ : ∃ k, gk = k + 1 := ⟨gk - 1, by omega⟩
   have hb := and1u8 (op / 2 ^ i) (Nat.lt_of_le_of_lt (Nat.div_le_self _ _) hop)
   have hq : ((op / 2 ^ i : Nat) : Int) = (op : Int) / 2 ^ i := by rw [Int.natCast_ediv, Int.natCast_pow]; rfl
   rw [hq] at hb
   clear hq
   by_cases hbit : op / 2 ^ i % 2 = 0
   ·rw [pl_skip hbit] at hpl
    rw [hbit] at hb
    have HPL := Lib.hid hpl
    clear hpl hbit
    go_wp2
    go_roundg k
    case measure => omega
    case rel => exact ⟨i + 1, p, n, ar, cr, r, by omega, by go_num, rfl, rfl, rfl, HRR.out, fun h => Nat.lt_of_lt_of_le (HP.out.1 (by omega)) (Nat.pow_le_pow_right (by decide) (by omega)), hp, Nat.lt_of_lt_of_le HP.out.2 (Nat.pow_le_pow_right (by decide) (by omega)), HPL.out, rfl⟩
   ·have hbit1 : op / 2 ^ i % 2 = 1 := by omega
    rw [hbit1] at hb
    have HPL := Lib.hid (And.intro hbit1 hpl)
    clear hpl hbit hbit1
    cases r with
    | nil =>
     go_wp2
     refine bodyPost_ret (results_tmp4 rfl _ _ _) rfl ?_
     exact ⟨rfl, .inl ⟨by rw [← HPL.out.2, pl_nil HPL.out.1], rfl⟩⟩
    | cons x t =>
     obtain ⟨g, o, rfl, hc⟩ := H.out.at (i := 0) (by simp)
     have hx : x.toNat < 256 := UInt8.toNat_lt x
     simp only [Nat.add_zero, List.getElem_cons_zero] at hc
     obtain ⟨xn, hxn⟩ : ∃ xn, xn = x.toNat := ⟨_, rfl⟩
     rw [← hxn] at hc hx
     have HX := Lib.hid hxn
     simp only [List.length_cons] at hrl
     clear hxn
     by_cases hi4 : i < 4
     ·obtain ⟨m, hm, hm32, hor⟩ := or_bytes p xn i hi4 (HP.out.1 (by omega)) hx
      have HM := Lib.hid hm
      clear hm
      go_wp2_with (refine wpList_slice_from sliceU8 1 rfl _ _ rfl (some ⟨g, o, none⟩) (t.length + 1) cr _ rfl rfl rfl (by omega) (by omega) ?_)
      go_roundg k
      case measure => omega
      case rel =>
       have hpl := HPL.out.2
       rw [pl_cons HPL.out.1, if_pos hi4, ← HX.out, ← HM.out.1] at hpl
       exact ⟨i + 1, m, n, _, _, t, by omega, by go_num, rfl, rfl, rfl, fun wz hz => (HRR.out wz hz).drop 1 (by simp), fun _ => HM.out.2, hm32, Nat.lt_of_lt_of_le HP.out.2 (Nat.pow_le_pow_right (by decide) (by omega)), hpl, rfl⟩
     ·obtain ⟨j, hj⟩ : ∃ j, i = j + 4 := ⟨i - 4, by omega⟩
      have hij : (i : Int) - 4 = (j : Int) := by omega
      obtain ⟨m, hm, hm32, hor⟩ := or_bytes n xn j (by omega) (by have := HP.out.2; rw [hj] at this; simpa using this) hx
      have HM := Lib.hid hm
      have HJ := Lib.hid hj
      clear hm hj
      go_wp2_with (refine wpList_slice_from sliceU8 1 rfl _ _ rfl (some ⟨g, o, none⟩) (t.length + 1) cr _ rfl rfl rfl (by omega) (by omega) ?_)
      go_roundg k
      case measure => omega
      case rel =>
       have hpl := HPL.out.2
       have e : i - 4 = j := by omega
       rw [pl_cons HPL.out.1, if_neg hi4, ← HX.out, e, ← HM.out.1] at hpl
       exact ⟨i + 1, p, m, _, _, t, by omega, by go_num, rfl, rfl, rfl, fun wz hz => (HRR.out wz hz).drop 1 (by simp), fun h => by omega, hp, by rw [show i + 1 - 4 = j + 1 from by omega]; exact HM.out.2, hpl, rfl⟩
  ·obtain rfl : i = 7 := by omega
   obtain rfl : gk = 0 := by omega
   have HPL := Lib.hid hpl
   clear hpl
   by_cases hn0 : n = 0
   ·subst hn0
    go_wp2
    refine bodyPost_ret (results_tmp4 rfl _ _ _) rfl ?_
    exact ⟨rfl, .inr ⟨p, 65536, r, ar, cr, by rw [← HPL.out, pl, if_pos rfl], rfl, HRR.out, hp, by decide⟩⟩
   ·have hb : ((n : Int) == 0) = false := by simp; omega
    go_wp2
    refine bodyPost_ret (results_tmp4 rfl _ _ _) rfl ?_
    exact ⟨rfl, .inr ⟨p, n, r, ar, cr, by rw [← HPL.out, pl, if_neg hn0], rfl, HRR.out, hp, by omega⟩⟩
theorem pl_len (op : Nat) : ∀ (f i p n : Nat) (d : List UInt8) (x : Nat × Nat × List UInt8), pl op f i p n d = some x → x.2.2.length ≤ d.length
 | 0, i, p, n, d, x, h => by simp [pl] at h; rw [← h]; exact Nat.le_refl _
 | f + 1, i, p, n, d, x, h => by
  by_cases hb : op / 2 ^ i % 2 = 0
  ·rw [pl_skip hb] at h
   exact pl_len op f _ _ _ _ _ h
  ·have hb1 : op / 2 ^ i % 2 = 1 := by omega
   cases d with
   | nil => rw [pl_nil hb1] at h; cases h
   | cons c r =>
    rw [pl_cons hb1] at h
    simp only [List.length_cons]
    split at h
    ·have := pl_len op f _ _ _ _ _ h; omega
    ·have := pl_len op f _ _ _ _ _ h; omega
theorem app_nil (base : List UInt8) (tn f : Nat) (out : List UInt8) : app base tn f [] out = if out.length < tn then ([], 3) else (out, 0) := by cases f <;> rfl
theorem app_cons (base : List UInt8) (tn f : Nat) (c : UInt8) (r out : List UInt8) : app base tn (f + 1) (c :: r) out = if 128 ≤ c.toNat then match pl (c.toNat - 128) 7 0 0 0 r with
   | none => ([], 4)
   | some (p, n, rest) => if base.length < p ∨ base.length - p < n ∨ tn - out.length < n then ([], 3) else app base tn f rest (out ++ (base.drop p).take n)
  else if c.toNat = 0 ∨ tn - out.length < c.toNat then ([], 3) else if r.length < c.toNat then ([], 4) else app base tn f (r.drop c.toNat) (out ++ r.take c.toNat) := rfl
def Applied (w : World) (base d : List UInt8) (bound : Int) (e : Ending) (w' : World) : Prop :=
 ∃ a, e = .returned (.tuple #[.slice a (delta.apply base d bound).1.length (delta.apply base d bound).1.length, .int .i64 (delta.apply base d bound).2]) ∧ Rd w' a (delta.apply base d bound).1.length (delta.apply base d bound).1 ∧
  (∀ x ∈ blk a, w.heap.size ≤ x ∧ x < w'.heap.size) ∧ Fr [] w w'
theorem applied_of {w w' : World} {base d out : List UInt8} {bound : Int} {x : Nat} {a : Option Addr} (h : delta.apply base d bound = (out, x)) (hr : Rd w' a out.length out) (hn : ∀ x ∈ blk a, w.heap.size ≤ x ∧ x < w'.heap.size) (f : Fr [] w w') :
  Applied w base d bound (.returned (.tuple #[.slice a out.length out.length, .int .i64 x])) w' := by
 unfold Applied
 rw [h]
 exact ⟨a, rfl, hr, hn, f⟩
theorem applied_err {w w' : World} {base d : List UInt8} {bound : Int} {x : Nat} (h : delta.apply base d bound = ([], x)) (f : Fr [] w w') :
  Applied w base d bound (.returned (.tuple #[.slice none 0 0, .int .i64 x])) w' := applied_of (out := []) h (Rd.none _) (by simp [blk]) f
structure Ap (w wr : World) (base : List UInt8) (tn : Nat) (k : Nat) (r : List UInt8) (out : List UInt8) (a : Option Addr) (c : Nat) (R : List UInt8 × Nat) : Prop where
 own : wr.ownsRow 0 5 1 (.slice a out.length c) out.length (out.map bv)
 fr : Fr [] w wr
 new : ∀ x ∈ blk a, w.heap.size ≤ x
 few : out.length ≤ tn
 fuel : r.length ≤ k
 all : app base tn k r out = R
theorem Ap.more {w wr w2 : World} {base : List UInt8} {tn k k' : Nat} {r r' out news : List UInt8} {a a2 : Option Addr} {c c2 m : Nat} {R : List UInt8 × Nat} (h : Ap w wr base tn k r out a c R) (hm : news.length = m)
  (A : Appended wr w2 5 1 (blk a) a2 (out.length + m) c2 (out.map bv ++ news.map bv)) (hf : out.length + m ≤ tn) (hr : r'.length ≤ k') (hall : app base tn k' r' (out ++ news) = R) : Ap w w2 base tn k' r' (out ++ news) a2 c2 R := by
 refine ⟨by rw [List.length_append, hm, List.map_append]; exact A.own, h.fr.step A.fr fun y hy => .inr (h.new y hy), fun y hy => ?_, by rw [List.length_append, hm]; exact hf, hr, hall⟩
 rcases A.at_ y hy with h1 | h1
 ·exact h.new y h1
 ·have := h.fr.size
  omega
set_option maxHeartbeats 8000000 in
theorem apply_all (a b : Option Addr) (cap capd : Nat) (base d : List UInt8) (bound : Int) (w : World) (hb : Rd w a cap base) (hd : Rd w b capd d) : Calls Tryz.prog 112 #[.slice a base.length cap, .slice b d.length capd, .int .i64 bound] w (Applied w base d bound) := by
 have h1 := sizes_all b capd d w hd
 unfold Sized4 at h1
 obtain ⟨hto, _⟩ := sizes_to d
 have hap : ∀ x, delta.sizes d = x → delta.apply base d bound = if x.2.2.2 ≠ 0 then ([], x.2.2.2) else if x.1 ≠ base.length then ([], 3) else if bound.toNat < x.2.1 then ([], 5) else app base x.2.1 x.2.2.1.length x.2.2.1 [] := by rintro x rfl; rfl
 generalize delta.sizes d = x at *
 have hap := hap x rfl
 obtain ⟨n, m, r, e⟩ := x
 simp only at h1 hto hap
 have hble := hb.le
 have hbm := hb.max
 unfold maxLen at hbm
 have H := Lib.hid (And.intro h1 hb)
 have hmx : ((bound.toNat : Nat) : Int) = if 0 > bound then 0 else bound := by split <;> omega
 generalize bound.toNat = bt at *
 have HM := Lib.hid hmx
 clear h1 hb hd hmx
 by_cases he : e = 0
 ·subst he
  rw [if_neg (by simp)] at hap
  by_cases hn : n = base.length
  ·rw [if_neg (by simp [hn])] at hap
   by_cases hbig : bt < m
   ·rw [if_pos hbig] at hap
    have HA := Lib.hid hap
    have hn' : ((n : Int) != base.length) = false := by simp [hn]
    clear hap
    go_enter Tryz.func112, Tryz.ntmps112
    go_wp2_with (first | (go_at_call 137; refine H.out.1.mono ?_; rintro e1 w1 ⟨a1, c1, rfl, r1, f1⟩; have H1 := Lib.hid (And.intro r1 f1); clear r1 f1) | (refine wpList_max2 (bt : Int) rfl _ _ _ rfl bound 0 rfl rfl HM.out ?_))
    go_ret2
    exact applied_err HA.out H1.out.2
   ·rw [if_neg hbig] at hap
    obtain ⟨R, hR⟩ : ∃ R, app base m r.length r [] = R := ⟨_, rfl⟩
    rw [hR] at hap
    have HA := Lib.hid (And.intro hap hR)
    have hn' : ((n : Int) != base.length) = false := by simp [hn]
    have hbg : decide (bt < m) = false := by simp; omega
    clear hap hR
    go_enter Tryz.func112, Tryz.ntmps112
    go_upto_block 1 with (first | (go_at_call 137; refine H.out.1.mono ?_; rintro e1 w1 ⟨a1, c1, rfl, r1, f1⟩; have H1 := Lib.hid (And.intro r1 f1); clear r1 f1) | (refine wpList_max2 (bt : Int) rfl _ _ _ rfl bound 0 rfl rfl HM.out ?_))
    go_wp2
    go_loopg [1, 11] r.length (fun k s1 s11 wr => ∃ ar cr q ao co out, s1 = .slice ar q.length cr ∧ s11 = .slice ao out.length co ∧ Rd w1 ar cr q ∧ Ap w1 wr base m k q out ao co R)
    case atStart => exact ⟨a1, c1, r, none, 0, [], rfl, rfl, H1.out.1, World.ownsRow_nil _ _ _ _, Fr.refl _ _, by simp [blk], Nat.zero_le _, Nat.le_refl _, HA.out.2⟩
    case round =>
     obtain ⟨ar, cr, q, ao, co, out, rfl, rfl, hq, h⟩ := hrel
     have HQ := Lib.hid hq
     have hq1 := hq.le
     have hq2 := hq.max
     unfold maxLen at hq2
     have hfew := h.few
     have hfuel := h.fuel
     obtain ⟨hown1, _⟩ := rd_of_owns h.own
     have ho1 := hown1.le
     have ho2 := hown1.max
     unfold maxLen at ho2
     have G := Lib.hid h
     clear hq h hown1
     cases q with
     | nil =>
      have hall := G.out.all
      rw [app_nil] at hall
      by_cases hlt : out.length < m
      ·rw [if_pos hlt] at hall
       have HALL := Lib.hid hall
       clear hall
       go_wp2
       go_ret2
       exact applied_err (by rw [HA.out.1, ← HALL.out]) (H1.out.2.trans G.out.fr)
      ·rw [if_neg hlt] at hall
       have HALL := Lib.hid hall
       clear hall
       go_wp2
       go_ret2
       have h := G.out
       obtain ⟨r2, _⟩ := rd_of_owns h.own
       exact applied_of (by rw [HA.out.1, ← HALL.out]) ⟨r2.cs, Nat.le_refl _, Nat.le_trans r2.le r2.max, fun e => by have := r2.nil e; omega⟩ (fun y hy => ⟨Nat.le_trans H1.out.2.size (h.new y hy), owns_lt h.own (blk_own hy)⟩) (H1.out.2.trans h.fr)
     | cons x t =>
      obtain ⟨k, rfl⟩ : ∃ k, gk = k + 1 := ⟨gk - 1, by simp at hfuel; omega⟩
      simp only [List.length_cons] at hq1 hfuel
      obtain ⟨g, o, rfl, hc⟩ := HQ.out.at (i := 0) (by simp)
      have hc := G.out.fr.cell hc (by simp)
      have hx : x.toNat < 256 := UInt8.toNat_lt x
      simp only [Nat.add_zero, List.getElem_cons_zero] at hc
      have hall := G.out.all
      rw [app_cons] at hall
      have ha := and127 x
      have hrd := HQ.out.drop 1 (by simp)
      rw [List.drop_succ_cons, List.drop_zero] at hrd
      generalize x.toNat = xn at *
      have HRD := Lib.hid hrd
      have hal : ∀ wz, Fr [] w1 wz → Rd wz (cutAtN (some ⟨g, o, none⟩) cr 1 1) (cr - 1) t := fun wz f => HRD.out.fr f
      obtain ⟨at1, hat1⟩ : ∃ at1, at1 = cutAtN (some ⟨g, o, none⟩) cr 1 1 := ⟨_, rfl⟩
      obtain ⟨S, hS⟩ : ∃ S, S = blk ao := ⟨_, rfl⟩
      have HS := Lib.hid hS
      clear hrd hal hS hat1
      by_cases h128 : 128 ≤ xn
      ·rw [if_pos h128] at hall
       rw [show xn % 128 = xn - 128 from by omega] at ha
       obtain ⟨op, hop⟩ : ∃ op, op = xn - 128 := ⟨_, rfl⟩
       rw [← hop] at ha hall
       have hpl := fun w h => place_all op (cutAtN (some ⟨g, o, none⟩) cr 1 1) (cr - 1) t w (by omega) h
       unfold Placed at hpl
       have hlen := pl_len op 7 0 0 0 t
       generalize pl op 7 0 0 0 t = y at *
       clear hop
       cases y with
       | none =>
        have hpl2 : ∀ w, Rd w (cutAtN (some ⟨g, o, none⟩) cr 1 1) (cr - 1) t → Calls Tryz.prog 138 #[.int .u8 op, .slice (cutAtN (some ⟨g, o, none⟩) cr 1 1) t.length (cr - 1)] w fun e w' => w = w' ∧ e = .returned (.tuple #[.int .i64 0, .int .i64 0, .slice none 0 0, .bool false]) :=
         fun w h => (hpl w h).mono fun e w' ⟨h1, h2⟩ => by
          rcases h2 with ⟨_, h2⟩ | ⟨p, n, r, a, c, h3, _⟩
          ·exact ⟨h1, h2⟩
          ·cases h3
        have HALL := Lib.hid hall
        have HPL := Lib.hid hpl2
        clear hall hpl hpl2
        go_wp2_with (first | (refine wpList_slice_from sliceU8 1 rfl _ _ rfl (some ⟨g, o, none⟩) (t.length + 1) cr _ rfl rfl rfl (by omega) (by omega) ?_) | (go_at_call 138; refine (HPL.out _ (HRD.out.fr G.out.fr)).mono ?_; rintro e w2 ⟨rfl, rfl⟩))
        go_ret2
        exact applied_err (by rw [HA.out.1, ← HALL.out]) (H1.out.2.trans G.out.fr)
       | some y =>
        obtain ⟨p, nn, rest⟩ := y
        have hpl2 : ∀ w, Rd w (cutAtN (some ⟨g, o, none⟩) cr 1 1) (cr - 1) t → Calls Tryz.prog 138 #[.int .u8 op, .slice (cutAtN (some ⟨g, o, none⟩) cr 1 1) t.length (cr - 1)] w fun e w' => w = w' ∧ ∃ a c, e = .returned (.tuple #[.int .i64 (p : Nat), .int .i64 (nn : Nat), .slice a rest.length c, .bool true]) ∧ (∀ wz, Rd wz (cutAtN (some ⟨g, o, none⟩) cr 1 1) (cr - 1) t → Rd wz a c rest) ∧ p < 4294967296 ∧ nn ≤ 16777216 :=
         fun w h => (hpl w h).mono fun e w' ⟨h1, h2⟩ => by
          rcases h2 with ⟨h3, _⟩ | ⟨p', n', r', a, c, h3, h4, h5⟩
          ·cases h3
          ·cases h3
           exact ⟨h1, a, c, h4, h5⟩
        have hlen := hlen _ rfl
        simp only at hlen hall
        have HPL := Lib.hid hpl2
        clear hpl hpl2
        by_cases hbad : base.length < p ∨ base.length - p < nn ∨ m - out.length < nn
        ·rw [if_pos hbad] at hall
         have HALL := Lib.hid hall
         clear hall
         by_cases hb1 : base.length < p
         ·have b1 : decide (base.length < p) = true := by simpa using hb1
          clear hbad
          go_wp2_with (first | (refine wpList_slice_from sliceU8 1 rfl _ _ rfl (some ⟨g, o, none⟩) (t.length + 1) cr _ rfl rfl rfl (by omega) (by omega) ?_) | (go_at_call 138; refine (HPL.out _ (HRD.out.fr G.out.fr)).mono ?_; rintro e w2 ⟨rfl, a9, c9, rfl, h9, hp9, hn9⟩; have H9 := Lib.hid h9; clear h9))
          go_ret2
          exact applied_err (by rw [HA.out.1, ← HALL.out]) (H1.out.2.trans G.out.fr)
         ·have b1 : decide (base.length < p) = false := by simpa using hb1
          by_cases hb2 : base.length - p < nn
          ·have b2 : decide ((base.length : Int) - p < nn) = true := by simp; omega
           clear hbad
           go_wp2_with (first | (refine wpList_slice_from sliceU8 1 rfl _ _ rfl (some ⟨g, o, none⟩) (t.length + 1) cr _ rfl rfl rfl (by omega) (by omega) ?_) | (go_at_call 138; refine (HPL.out _ (HRD.out.fr G.out.fr)).mono ?_; rintro e w2 ⟨rfl, a9, c9, rfl, h9, hp9, hn9⟩; have H9 := Lib.hid h9; clear h9))
           go_ret2
           exact applied_err (by rw [HA.out.1, ← HALL.out]) (H1.out.2.trans G.out.fr)
          ·have b2 : decide ((base.length : Int) - p < nn) = false := by simp; omega
           have b3 : decide ((m : Int) - out.length < nn) = true := by simp; omega
           clear hbad
           go_wp2_with (first | (refine wpList_slice_from sliceU8 1 rfl _ _ rfl (some ⟨g, o, none⟩) (t.length + 1) cr _ rfl rfl rfl (by omega) (by omega) ?_) | (go_at_call 138; refine (HPL.out _ (HRD.out.fr G.out.fr)).mono ?_; rintro e w2 ⟨rfl, a9, c9, rfl, h9, hp9, hn9⟩; have H9 := Lib.hid h9; clear h9))
           go_ret2
           exact applied_err (by rw [HA.out.1, ← HALL.out]) (H1.out.2.trans G.out.fr)
        ·rw [if_neg hbad] at hall
         have HALL := Lib.hid hall
         have hp1 : p ≤ base.length ∧ nn ≤ base.length - p ∧ nn ≤ m - out.length := by omega
         have b1 : decide (base.length < p) = false := by simp; omega
         have b2 : decide ((base.length : Int) - p < nn) = false := by simp; omega
         have b3 : decide ((m : Int) - out.length < nn) = false := by simp; omega
         have hmid := (H.out.2.fr (H1.out.2.trans G.out.fr)).mid p nn (by omega)
         obtain ⟨news, hnews⟩ : ∃ news, news = (base.drop p).take nn := ⟨_, rfl⟩
         rw [← hnews] at hmid
         have hnl : news.length = nn := by rw [hnews, List.length_take, List.length_drop]; omega
         have HMID := Lib.hid (And.intro hmid (And.intro hnews hnl))
         clear hbad hall hmid hnews hnl
         go_wp2_with (first | (refine wpList_slice_from sliceU8 1 rfl _ _ rfl (some ⟨g, o, none⟩) (t.length + 1) cr _ rfl rfl rfl (by omega) (by omega) ?_) | (go_at_call 138; refine (HPL.out _ (HRD.out.fr G.out.fr)).mono ?_; rintro e w2 ⟨rfl, a9, c9, rfl, h9, hp9, hn9⟩; have H9 := Lib.hid h9; clear h9) | (refine wpList_slice_lh sliceU8 p nn rfl _ _ _ rfl a base.length cap _ _ rfl rfl rfl rfl rfl (by omega) ?_) | (refine wpList_append sliceU8 rfl _ _ rfl (.slice ao out.length co) out.length (out.map bv) S rfl (by rw [own_blk, HS.out]) G.out.own (cutAt a cap p) nn (cap - p) (news.map bv) rfl (by omega) HMID.out.1.nil HMID.out.1.cs (by rw [List.length_map, HMID.out.2.2, Nat.mul_one]) (bv_one _) (by omega) (by unfold maxLen; omega) ?_; intro a2 c2 w2 A1; have HA1 := Lib.hid A1; clear A1))
         go_roundg k
         case measure => omega
         case rel =>
          have A1 := HA1.out
          rw [HS.out] at A1
          have h := G.out.more HMID.out.2.2 A1 (k' := k) (r' := rest) (by omega) (by omega) (by rw [HMID.out.2.1]; exact HALL.out)
          exact ⟨a9, c9, rest, a2, c2, out ++ news, rfl, by rw [List.length_append, HMID.out.2.2], H9.out w1 HRD.out, h⟩
      ·rw [if_neg h128] at hall
       by_cases hbad : xn = 0 ∨ m - out.length < xn
       ·rw [if_pos hbad] at hall
        have HALL := Lib.hid hall
        clear hall
        by_cases hx0 : xn = 0
        ·subst hx0
         clear hbad
         go_wp2_with (first | (refine wpList_slice_from sliceU8 1 rfl _ _ rfl (some ⟨g, o, none⟩) (t.length + 1) cr _ rfl rfl rfl (by omega) (by omega) ?_))
         go_ret2
         exact applied_err (by rw [HA.out.1, ← HALL.out]) (H1.out.2.trans G.out.fr)
        ·have b1 : ((xn : Int) == 0) = false := by simp; omega
         have b3 : decide ((m : Int) - out.length < xn) = true := by simp; omega
         clear hbad
         go_wp2_with (first | (refine wpList_slice_from sliceU8 1 rfl _ _ rfl (some ⟨g, o, none⟩) (t.length + 1) cr _ rfl rfl rfl (by omega) (by omega) ?_))
         go_ret2
         exact applied_err (by rw [HA.out.1, ← HALL.out]) (H1.out.2.trans G.out.fr)
       ·rw [if_neg hbad] at hall
        have b1 : ((xn : Int) == 0) = false := by simp; omega
        have b3 : decide ((m : Int) - out.length < xn) = false := by simp; omega
        have hxp : 1 ≤ xn ∧ xn ≤ m - out.length := by omega
        by_cases hlong : t.length < xn
        ·rw [if_pos hlong] at hall
         have HALL := Lib.hid hall
         clear hall hbad
         go_wp2_with (first | (refine wpList_slice_from sliceU8 1 rfl _ _ rfl (some ⟨g, o, none⟩) (t.length + 1) cr _ rfl rfl rfl (by omega) (by omega) ?_))
         go_ret2
         exact applied_err (by rw [HA.out.1, ← HALL.out]) (H1.out.2.trans G.out.fr)
        ·rw [if_neg hlong] at hall
         have HALL := Lib.hid hall
         have hmid := (HRD.out.fr G.out.fr).take xn
         have hrest := HRD.out.drop xn (by omega)
         have hnl : (t.take xn).length = xn := by rw [List.length_take]; omega
         have HMID := Lib.hid (And.intro hmid (And.intro hrest hnl))
         clear hall hmid hrest hnl hbad
         go_wp2_with (first | (refine wpList_slice_from sliceU8 1 rfl _ _ rfl (some ⟨g, o, none⟩) (t.length + 1) cr _ rfl rfl rfl (by omega) (by omega) ?_) | (refine wpList_slice_to sliceU8 xn rfl _ _ rfl (cutAtN (some ⟨g, o, none⟩) cr 1 1) t.length (cr - 1) _ rfl rfl rfl (by omega) ?_) | (refine wpList_append sliceU8 rfl _ _ rfl (.slice ao out.length co) out.length (out.map bv) S rfl (by rw [own_blk, HS.out]) G.out.own (cutAtN (some ⟨g, o, none⟩) cr 1 1) xn (cr - 1) ((t.take xn).map bv) rfl (by omega) HMID.out.1.nil HMID.out.1.cs (by rw [List.length_map, HMID.out.2.2, Nat.mul_one]) (bv_one _) (by omega) (by unfold maxLen; omega) ?_; intro a2 c2 w2 A1; have HA1 := Lib.hid A1; clear A1) | (refine wpList_slice_from sliceU8 xn rfl _ _ rfl (cutAtN (some ⟨g, o, none⟩) cr 1 1) t.length (cr - 1) _ rfl rfl rfl (by omega) (by omega) ?_))
         go_roundg k
         case measure => omega
         case rel =>
          have A1 := HA1.out
          rw [HS.out] at A1
          have h := G.out.more HMID.out.2.2 A1 (k' := k) (r' := t.drop xn) (by omega) (by rw [List.length_drop]; omega) HALL.out
          exact ⟨_, _, t.drop xn, a2, c2, out ++ t.take xn, by rw [List.length_drop], by rw [List.length_append, HMID.out.2.2], HMID.out.2.1, h⟩
  ·rw [if_pos hn] at hap
   have HA := Lib.hid hap
   have hn' : ((n : Int) == base.length) = false := by simp; omega
   have hn2 : ((n : Int) != base.length) = true := by simp; omega
   clear hap
   go_enter Tryz.func112, Tryz.ntmps112
   go_wp2_with (first | (go_at_call 137; refine H.out.1.mono ?_; rintro e1 w1 ⟨a1, c1, rfl, r1, f1⟩; have H1 := Lib.hid (And.intro r1 f1); clear r1 f1))
   go_ret2
   exact applied_err HA.out H1.out.2
 ·rw [if_pos (by simpa using he)] at hap
  have HA := Lib.hid hap
  have hb : ((e : Int) == 0) = false := by simp; omega
  have hb2 : ((e : Int) != 0) = true := by simp; omega
  clear hap he
  go_enter Tryz.func112, Tryz.ntmps112
  go_wp2_with (first | (go_at_call 137; refine H.out.1.mono ?_; rintro e1 w1 ⟨a1, c1, rfl, r1, f1⟩; have H1 := Lib.hid (And.intro r1 f1); clear r1 f1))
  go_ret2
  exact applied_err HA.out H1.out.2
end Go.Proofs.YtkmpfgpfbmeihaaGreatDoor.delta
namespace Go.Proofs.YtkmpfgpfbmeihaaGreatDoor.pk
open Go Go.RowKit lib bm
theorem app_len (base : List UInt8) (tn : Nat) : ∀ (f : Nat) (d out : List UInt8), out.length ≤ tn → (delta.app base tn f d out).1.length ≤ tn
 | f, [], out, h => by
  rw [delta.app_nil]
  split
  ·exact Nat.zero_le _
  ·exact h
 | 0, _ :: _, out, h => Nat.zero_le _
 | f + 1, c :: r, out, h => by
  rw [delta.app_cons]
  split
  ·split
   ·exact Nat.zero_le _
   ·split
    ·exact Nat.zero_le _
    ·refine app_len base tn f _ _ ?_
     rw [List.length_append, List.length_take, List.length_drop]
     omega
  ·split
   ·exact Nat.zero_le _
   ·split
    ·exact Nat.zero_le _
    ·refine app_len base tn f _ _ ?_
     rw [List.length_append, List.length_take]
     omega
theorem apply_len (base d : List UInt8) (bound : Int) : (delta.apply base d bound).1.length ≤ 2147483647 := by
 unfold delta.apply
 split
 ·exact Nat.zero_le _
 ·split
  ·exact Nat.zero_le _
  ·split
   ·exact Nat.zero_le _
   ·exact Nat.le_trans (app_len _ _ _ _ _ (Nat.zero_le _)) (delta.sizes_to d).1
def Fin (w w' : World) (O S i : Nat) (C C' D D' : Array Value) (res : Except Nat (Obj × Nat)) : Prop :=
 (∀ j, j < i * 5 ∨ i * 5 + 5 ≤ j → C'[j]? = C[j]?) ∧ (∀ j, j < i * 4 ∨ i * 4 + 3 ≤ j → D'[j]? = D[j]?) ∧ D'[i * 4]? = some (.bool true) ∧
 match res with
 | .error x => D'[i * 4 + 1]? = some (.int .i64 (x : Nat)) ∧ 0 < x
 | .ok (o, d) => D'[i * 4 + 1]? = some (.int .i64 0) ∧ D'[i * 4 + 2]? = some (.int .i64 (d : Nat)) ∧ ∃ ba bc, (∀ j v, (objV o ba bc)[j]? = some v → C'[i * 5 + j]? = some v) ∧ lib.Rd w' ba bc o.body ∧ (∀ y ∈ blk ba, w.heap.size ≤ y ∧ y < w'.heap.size) ∧ o.body.length ≤ 2147483647
set_option maxHeartbeats 8000000 in
theorem finish_any (g O S : Nat) (gv tv : Value) (la : Option Addr) (ms : List EM) (C D : Array Value) (i : Nat) (m : EM) (kd : Int) (fa : Option Addr) (fc : Nat) (from_ : List UInt8) (d : Nat) (w : World)
  (h : Rb w g O S gv tv la ms C D) (hi : ms[i]? = some m) (hf : lib.Rd w fa fc from_) (hfo : ∀ x ∈ blk fa, x ≠ O ∧ x ≠ S) (hd : d ≤ 100) (hp : obj.Pw w) (he : D[i * 4 + 1]? = some (.int .i64 0)) (hSw : ∀ w', Fr [O, S] w w' → obj.Pw w') :
  Calls Tryz.prog 80 #[.pointer (some ⟨g, 0, none⟩), .int .i64 (i : Nat), .int .i64 kd, .slice fa from_.length fc, .int .i64 ((d + 1 : Nat) : Int)] w fun e w' => e = .returned (.tuple #[]) ∧ Fr [O, S] w w' ∧
   ∃ C' D', Rb w' g O S gv tv la ms C' D' ∧ Fin w w' O S i C C' D D' (over m.1 kd from_ d) := by
 obtain ⟨n, hn⟩ : ∃ n, n = ms.length := ⟨_, rfl⟩
 have hin : i < n := by rw [hn]; exact (List.getElem?_eq_some_iff.1 hi).1
 have hfew : n ≤ 4096 := by rw [hn]; exact h.few
 have b0 := cell_of h.box 0
 have b2 := cell_of h.box 2
 simp only [List.getElem?_toArray, List.getElem?_cons_zero, List.getElem?_cons_succ] at b0 b2
 rw [← hn] at b0 b2
 have hsz : i * 4 + 4 ≤ D.size := by rw [h.sc, ← hn]; omega
 obtain ⟨x0, d0⟩ : ∃ x, w.cell? ⟨S, i * 4, none⟩ = some x := ⟨D[i * 4]'(by omega), by rw [cell_of h.sb]; exact Array.getElem?_eq_getElem (by omega)⟩
 have z0 := frozen_of h.sb (i * 4)
 obtain ⟨dp, hdp⟩ : ∃ dp, dp = d + 1 := ⟨_, rfl⟩
 rw [← hdp]
 have hdb : dp ≤ 101 := by omega
 obtain ⟨RR, hRR⟩ : ∃ RR, RR = over m.1 kd from_ d := ⟨_, rfl⟩
 rw [← hRR]
 have hov : RR = if 50 < dp then .error 3 else if (delta.apply from_ m.1.data 65536).2 = 0 then .ok (whole m.1 kd (delta.apply from_ m.1.data 65536).1, dp) else .error (delta.apply from_ m.1.data 65536).2 := by rw [hRR, hdp]; rfl
 have H := Lib.hid (And.intro h (And.intro hn (And.intro hi (And.intro hf (And.intro hfo (And.intro hp (And.intro he (And.intro hSw (And.intro hsz (And.intro hdp hov))))))))))
 clear h hn hi hf hfo hp he hSw hsz hdp hov hRR
 go_enter Tryz.func80, Tryz.ntmps80
 go_upto_region 2 with fail
 obtain ⟨hR, hn, hi, hf, hfo, hp, he, hSw, hsz, hdp, hov⟩ := H.out
 obtain ⟨w1, hw1⟩ : ∃ w1, w1 = w.setCell ⟨S, i * 4, none⟩ (.bool true) := ⟨_, rfl⟩
 rw [← hw1]
 obtain ⟨D1, hD1⟩ : ∃ D1, D1 = D.setIfInBounds (i * 4) (.bool true) := ⟨_, rfl⟩
 have f1 : Fr [S] w w1 := by rw [hw1]; exact (Fr.refl [S] w).setCell (by simp) _
 have hs1 : w1.heap[S]? = some (.cells D1 100 (0, 0)) := by rw [hw1, hD1]; exact setCell_of hR.sb _
 have hR1 := hR.setS f1 hs1 (by rw [hD1, Array.size_setIfInBounds])
 have hD1o : ∀ j, j ≠ i * 4 → D1[j]? = D[j]? := fun j hj => by rw [hD1, Array.getElem?_setIfInBounds_ne (Ne.symm hj)]
 have hD1s : D1[i * 4]? = some (.bool true) := by rw [hD1]; exact Array.getElem?_setIfInBounds_self_of_lt (by omega)
 have c1 : w1.cell? ⟨S, i * 4 + 1, none⟩ = some (.int .i64 0) := by rw [cell_of hs1, hD1o _ (by omega)]; exact he
 have z1 := frozen_of hs1 (i * 4 + 1)
 have b0 := cell_of hR1.box 0
 have b2 := cell_of hR1.box 2
 simp only [List.getElem?_toArray, List.getElem?_cons_zero, List.getElem?_cons_succ] at b0 b2
 rw [← hn] at b0 b2
 have fOS : Fr [O, S] w w1 := f1.mono (fun x hx => .inl (by simp at hx; simp [hx]))
 have H1 := Lib.hid (And.intro hR1 (And.intro hs1 (And.intro hD1o (And.intro hD1s (And.intro hov (And.intro fOS f1))))))
 clear hR hn hi hf hfo hp he hSw hsz hdp hw1 hD1 f1 hs1 hR1 hD1o hD1s hov fOS d0 z0
 have herr : ∀ (wz : World) (x : Nat), Fr [] w1 wz → 0 < x → RR = .error x → Fr [O, S] w (wz.setCell ⟨S, i * 4 + 1, none⟩ (.int .i64 (x : Nat))) ∧ ∃ C' D', Rb (wz.setCell ⟨S, i * 4 + 1, none⟩ (.int .i64 (x : Nat))) g O S gv tv la ms C' D' ∧ Fin w (wz.setCell ⟨S, i * 4 + 1, none⟩ (.int .i64 (x : Nat))) O S i C C' D D' RR := fun wz x fz hx hr => by
  have hRz := H1.out.1.fr fz
  have hsz := H.out.2.2.2.2.2.2.2.2.1
  have hD1z : D1.size = D.size := by rw [H1.out.1.sc, H.out.1.sc]
  refine ⟨(H1.out.2.2.2.2.2.1.trans (fz.mono (by simp))).setCell (by simp) _, C, D1.setIfInBounds (i * 4 + 1) (.int .i64 (x : Nat)), hRz.setS ((Fr.refl [S] wz).setCell (by simp) _) (setCell_of hRz.sb _) (by rw [Array.size_setIfInBounds]), fun j _ => rfl, fun j hj => ?_, ?_, ?_⟩
  ·rw [Array.getElem?_setIfInBounds_ne (by omega)]; exact H1.out.2.2.1 j (by omega)
  ·rw [Array.getElem?_setIfInBounds_ne (by omega)]; exact H1.out.2.2.2.1
  ·rw [hr]
   exact ⟨Array.getElem?_setIfInBounds_self_of_lt (by omega), hx⟩
 have HERR := Lib.hid herr
 clear herr
 by_cases h50 : 50 < dp
 ·have hr : RR = .error 3 := by rw [H1.out.2.2.2.2.1, if_pos h50]
  have g50 : decide ((50 : Int) < (dp : Int)) = true := by simp; omega
  have HX := Lib.hid (HERR.out w1 3 (Fr.refl _ _) (by decide) hr)
  clear hr h50 b0 b2
  go_wp2
  refine bodyPost_ret (results_none rfl _ _ _) rfl ?_
  exact ⟨rfl, HX.out⟩
 ·have g50 : decide ((50 : Int) < (dp : Int)) = false := by simp; omega
  have hr := H1.out.2.2.2.2.1
  rw [if_neg h50] at hr
  obtain ⟨gb, o, hla, hce⟩ := H1.out.1.ents.cell H.out.2.2.1
  have e4 := hce 4 _ (by decide) (show _ = some (.slice m.2 m.1.data.length m.1.data.length) from rfl)
  rw [← Nat.add_assoc] at e4
  subst hla
  have hap := delta.apply_all fa m.2 fc m.1.data.length from_ m.1.data 65536 w1 (H.out.2.2.2.1.frS H1.out.2.2.2.2.2.2 (fun x hx => by simp; exact (H.out.2.2.2.2.1 x hx).2)) (H1.out.1.ents.dat m (List.mem_of_getElem? H.out.2.2.1))
  unfold delta.Applied at hap
  have hal := apply_len from_ m.1.data 65536
  generalize delta.apply from_ m.1.data 65536 = y at *
  obtain ⟨out, x⟩ := y
  simp only at hap hr hal
  obtain ⟨dl, hdl⟩ : ∃ dl, dl = m.1.data.length := ⟨_, rfl⟩
  rw [← hdl] at hap e4
  obtain ⟨fl, hfl⟩ : ∃ fl, fl = from_.length := ⟨_, rfl⟩
  rw [← hfl] at hap ⊢
  have HB := Lib.hid (And.intro hap (And.intro hr hal))
  clear hap hr hce hdl hfl h50
  go_upto_region 5 with (go_at_call 112; refine HB.out.1.mono ?_; rintro e w2 ⟨a2, rfl, r2, n2, f2⟩; have H2 := Lib.hid (And.intro r2 (And.intro n2 f2)); clear r2 n2 f2)
  clear e4 b0 b2 g50
  have c1 := H2.out.2.2.cell c1 (by simp)
  have z1 := frozen_of (H2.out.2.2.blk H1.out.2.1 (by simp)) (i * 4 + 1)
  by_cases hx : x = 0
  ·subst hx
   have hr := HB.out.2.1
   rw [if_pos rfl] at hr
   have gx : ((0 : Int) != 0) = false := by decide
   have hRb2 := H1.out.1.fr H2.out.2.2
   have e2 : D1.size = D.size := by rw [H1.out.1.sc, H.out.1.sc]
   have hsz := H.out.2.2.2.2.2.2.2.2.1
   obtain ⟨x2, y2⟩ : ∃ x, w2.cell? ⟨S, i * 4 + 2, none⟩ = some x := ⟨D1[i * 4 + 2]'(by omega), by rw [cell_of hRb2.sb]; exact Array.getElem?_eq_getElem (by omega)⟩
   have z2 := frozen_of hRb2.sb (i * 4 + 2)
   obtain ⟨w3, hw3⟩ : ∃ w3, w3 = w2.setCell ⟨S, i * 4 + 2, none⟩ (.int .i64 (dp : Nat)) := ⟨_, rfl⟩
   obtain ⟨D2, hD2⟩ : ∃ D2, D2 = D1.setIfInBounds (i * 4 + 2) (.int .i64 (dp : Nat)) := ⟨_, rfl⟩
   have f3 : Fr [S] w2 w3 := by rw [hw3]; exact (Fr.refl [S] w2).setCell (by simp) _
   have hs3 : w3.heap[S]? = some (.cells D2 100 (0, 0)) := by rw [hw3, hD2]; exact setCell_of hRb2.sb _
   have hR3 := hRb2.setS f3 hs3 (by rw [hD2, Array.size_setIfInBounds])
   have hSw0 := lt_of_block H.out.1.sb
   have hw12 := H1.out.2.2.2.2.2.1.size
   have fOS3 : Fr [O, S] w w3 := (H1.out.2.2.2.2.2.1.trans (H2.out.2.2.mono (by simp))).trans (f3.mono (fun x hx => .inl (by simp at hx; simp [hx])))
   have hset := set_any g O S gv tv _ ms C D2 i m kd a2 out.length out w3 hR3 H.out.2.2.1 (H2.out.1.frS f3 (fun x hx hm => by have := (H2.out.2.1 x hx).1; simp at hm; omega)) (by omega) (H.out.2.2.2.2.2.2.2.1 _ fOS3)
   obtain ⟨ol, hol⟩ : ∃ ol, ol = out.length := ⟨_, rfl⟩
   rw [← hol] at hset ⊢
   have HS := Lib.hid (And.intro hset (And.intro fOS3 (And.intro hD2 (And.intro hr (And.intro hol (And.intro f3 e2))))))
   have HW := Lib.hid hw3
   clear hset fOS3 hD2 hr hol f3 hs3 hR3 hRb2 e2 hsz hw12 hSw0 c1 z1 hw3
   go_upto_region 8 with fail
   rw [← HW.out]
   clear y2 z2
   go_wp2_with (go_at_call 79; refine HS.out.1.mono ?_; rintro e w4 ⟨rfl, f4, C', hR4, hC1, hC2⟩; have H4 := Lib.hid (And.intro f4 (And.intro hR4 (And.intro hC1 hC2))); clear f4 hR4 hC1 hC2)
   go_end0
   obtain ⟨f4, hR4, hC1, hC2⟩ := H4.out
   obtain ⟨_, fOS3, hD2, hr, hol, f3, e2⟩ := HS.out
   have hsz := H.out.2.2.2.2.2.2.2.2.1
   have hO := lt_of_block H.out.1.ob
   have hS := lt_of_block H.out.1.sb
   have hs1 := H1.out.2.2.2.2.2.1.size
   refine ⟨rfl, fOS3.trans (f4.mono (fun x hx => .inl (by simp at hx; simp [hx]))), C', D2, hR4, hC1, fun j hj => ?_, ?_, ?_⟩
   ·rw [hD2, Array.getElem?_setIfInBounds_ne (by omega)]; exact H1.out.2.2.1 j (by omega)
   ·rw [hD2, Array.getElem?_setIfInBounds_ne (by omega)]; exact H1.out.2.2.2.1
   ·rw [hr]
    refine ⟨?_, ?_, a2, ol, fun j v hv => hC2 j v (by rw [hol] at hv ⊢; exact hv), ?_, fun y hy => ⟨?_, ?_⟩, ?_⟩
    ·rw [hD2, Array.getElem?_setIfInBounds_ne (by omega), H1.out.2.2.1 _ (by omega)]; exact H.out.2.2.2.2.2.2.1
    ·rw [hD2]; exact Array.getElem?_setIfInBounds_self_of_lt (by omega)
    ·show lib.Rd w4 a2 ol out
     rw [hol]
     exact (H2.out.1.frS f3 (fun x hx hm => by have := (H2.out.2.1 x hx).1; simp at hm; omega)).frS f4 (fun x hx hm => by have := (H2.out.2.1 x hx).1; simp at hm; omega)
    ·have := (H2.out.2.1 y hy).1; omega
    ·have := (H2.out.2.1 y hy).2; have := f3.size; have := f4.size; omega
    ·exact HB.out.2.2
  ·have hr := HB.out.2.1
   rw [if_neg hx] at hr
   have gx : ((x : Int) != 0) = true := by simp; omega
   have HX := Lib.hid (HERR.out w2 x H2.out.2.2 (by omega) hr)
   clear hr hx
   go_wp2
   refine bodyPost_ret (results_none rfl _ _ _) rfl ?_
   exact ⟨rfl, HX.out⟩
end Go.Proofs.YtkmpfgpfbmeihaaGreatDoor.pk
namespace Go.Proofs.YtkmpfgpfbmeihaaGreatDoor.obj
open Go Go.RowKit lib
set_option maxHeartbeats 4000000 in
theorem rid_any (k : Int) (bs : List UInt8) (w : World) (hl : bs.length ≤ 140737488354900) :
  Calls Tryz.prog 20 #[.int .i64 k, .string (str bs)] w fun e w' => e = .returned (.string (str (pk.oid k bs))) ∧ Fr [] w w' := by
 obtain ⟨L, hL⟩ : ∃ L, L = bs.length := ⟨_, rfl⟩
 have hsz : (str bs).size = L := by rw [hL]; simp [str, ByteArray.size]
 obtain ⟨hd, hhd⟩ : ∃ hd, hd = header k L := ⟨_, rfl⟩
 have hdl : hd.length ≤ 24 := by rw [hhd]; exact header_len k L (by omega)
 have hres : pk.oid k bs = pk.hexb (sha.sha1 (hd ++ bs)) := by rw [hhd, hL]; rfl
 rw [hres]
 have hh := fun w' => rheader_any k L w' (by omega)
 rw [← hhd] at hh
 have hcat : str hd ++ str bs = str (hd ++ bs) := (str_append hd bs)
 have hsh := fun w' => sha.rsha_any (hd ++ bs) w' (by rw [List.length_append]; omega)
 rw [← hcat] at hsh
 have hhs : (str hd).size ≤ 24 := by simpa [str, ByteArray.size] using hdl
 obtain ⟨A, hA⟩ : ∃ A, A = str hd := ⟨_, rfl⟩
 obtain ⟨B, hB⟩ : ∃ B, B = str bs := ⟨_, rfl⟩
 rw [← hA, ← hB] at hsh
 rw [← hA] at hh hhs
 rw [← hB] at hsz ⊢
 rw [← hL] at hl
 have H := Lib.hid (And.intro hh hsh)
 clear hh hsh hcat hA hB hhd hres hL
 go_enter Tryz.func20, Tryz.ntmps20
 go_wp2_with (first
  | (go_at_call 52; refine (H.out.1 _).mono ?_; rintro e w1 ⟨rfl, f1⟩; have H1 := Lib.hid f1; clear f1)
  | (go_at_call 51; refine (H.out.2 _).mono ?_; rintro e w2 ⟨⟨a2, c2, rfl, r2, n2⟩, f2⟩; have H2 := Lib.hid (And.intro r2 (H1.out.trans f2)); clear r2 n2 f2)
  | (go_at_call 50; refine (pk.rhex_any a2 c2 _ w2 H2.out.1 (by rw [sha.sha1_length]; decide)).mono ?_; rintro e w3 ⟨rfl, f3⟩; have H3 := Lib.hid f3; clear f3))
 go_ret
 exact ⟨rfl, H2.out.2.trans H3.out⟩
end Go.Proofs.YtkmpfgpfbmeihaaGreatDoor.obj
namespace Go.Proofs.YtkmpfgpfbmeihaaGreatDoor.pk
open Go Go.RowKit lib bm
theorem results_obj {fn : Func} {t : Tmp} (h : fn.results = #[.cell t 34]) (tmps : Array Value) (w : World) (g : Nat) (cs : Array Value) (fr : Nat × Nat) (hp : tmps.getD t undef = .pointer (some ⟨g, 0, none⟩)) (hg : w.heap[g]? = some (.cells cs 34 fr)) (hs : cs.size = 5) :
  (results fn tmps).run Tryz.prog w = .ok (.agg cs) w :=
 results_cell_row h tmps w g 34 cs fr _ hp hg Tryz.underlying34 rfl (by rw [infoObj, hs])
set_option maxHeartbeats 8000000 in
theorem rwhole_any (x : Ent) (kd : Int) (ba : Option Addr) (bc : Nat) (body : List UInt8) (w : World) (hb : lib.Rd w ba bc body) (hl : body.length ≤ 140737488354900) :
  Calls Tryz.prog 90 #[.agg (rentV x), .int .i64 kd, .slice ba body.length bc] w fun e w' => e = .returned (.agg (objV (whole x kd body) ba bc)) ∧ Fr [] w w' := by
 obtain ⟨bl, hbl⟩ : ∃ bl, bl = body.length := ⟨_, rfl⟩
 have hid := fun w' => obj.rid_any kd body w' hl
 obtain ⟨X, hX⟩ : ∃ X, X = str (oid kd body) := ⟨_, rfl⟩
 obtain ⟨sb, hsb⟩ : ∃ sb, sb = str body := ⟨_, rfl⟩
 rw [← hX, ← hsb] at hid
 have H := Lib.hid (And.intro hb (And.intro hid (And.intro hX (And.intro hsb hbl))))
 rw [← hbl]
 clear hb hid hX hsb hbl
 obtain ⟨xk, xa, xs, xc, xd, xb, xo⟩ := x
 simp only [rentV]
 go_enter Tryz.func90, Tryz.ntmps90
 go_upto_region 1 with fail
 obtain ⟨w1, hw1⟩ : ∃ w1, w1 = (w.alloc (Obj.cells #[.int .i64 (xk : Nat), .int .i64 (xa : Nat), .int .i64 (xs : Nat), .int .u32 (xc : Nat), .string (str xd), .string (str xb), .int .i64 (xo : Nat)] 107)).alloc (Obj.cells #[.int .i64 0, .slice none 0 0, .string ⟨#[]⟩, .int .i64 0, .int .u32 0] 34) := ⟨_, rfl⟩
 rw [← hw1]
 obtain ⟨B, hB⟩ : ∃ B, B = w.heap.size := ⟨_, rfl⟩
 rw [← hB]
 have f1 : Fr [] w w1 := by rw [hw1]; exact ((Fr.refl [] w).alloc _).alloc _
 have h0 : w1.heap[B]? = some (.cells #[.int .i64 (xk : Nat), .int .i64 (xa : Nat), .int .i64 (xs : Nat), .int .u32 (xc : Nat), .string (str xd), .string (str xb), .int .i64 (xo : Nat)] 107 (0, 0)) := by
  rw [hw1, hB]
  exact ((Fr.refl [] (w.alloc _)).alloc _).blk (alloc_at _ _) (by simp)
 have h1 : w1.heap[B + 1]? = some (.cells #[.int .i64 0, .slice none 0 0, .string ⟨#[]⟩, .int .i64 0, .int .u32 0] 34 (0, 0)) := by
  rw [hw1, hB]
  have := alloc_at (w.alloc (Obj.cells #[.int .i64 (xk : Nat), .int .i64 (xa : Nat), .int .i64 (xs : Nat), .int .u32 (xc : Nat), .string (str xd), .string (str xb), .int .i64 (xo : Nat)] 107)) (Obj.cells #[.int .i64 0, .slice none 0 0, .string ⟨#[]⟩, .int .i64 0, .int .u32 0] 34)
  simpa using this
 clear hw1
 have k1 := cell_of h0 1
 have k3 := cell_of h0 3
 simp only [List.getElem?_toArray, List.getElem?_cons_zero, List.getElem?_cons_succ] at k1 k3
 have hBn : B ∉ [B + 1] := by simp
 have s1 : ∀ x, (sup [B + 1] w1.drew x).cell? ⟨B, 1, none⟩ = some (.int .i64 (xa : Nat)) := fun x => (sup_fr [B + 1] w1.drew x).cell (show w1.drew.cell? _ = _ from k1) hBn
 have s3 : ∀ x, (sup [B + 1] w1.drew x).cell? ⟨B, 3, none⟩ = some (.int .u32 (xc : Nat)) := fun x => (sup_fr [B + 1] w1.drew x).cell (show w1.drew.cell? _ = _ from k3) hBn
 have H1 := Lib.hid (And.intro f1 (And.intro h1 hB))
 clear f1 h0 h1 hB k1 k3 hBn
 refine region_mix 12 [(false, 0), (false, 1), (false, 2), (false, 3), (false, 6), (false, 7), (false, 8), (false, 9), (true, 4), (true, 5), (true, 10), (true, 11)] [B + 1] (by kernel_rfl) (by kernel_rfl) (fun _ _ d _ _ h => by cases d <;> exact h) ?_
 simp only [List.map_cons, List.map_nil, List.getD_cons_zero, List.getD_cons_succ, List.drop_succ_cons, List.drop_zero, List.drop_nil]
 refine mix_seg 8 rfl ?_
 simp only [List.take_succ_cons, List.take_zero, List.drop_succ_cons, List.drop_zero, List.map_cons, List.map_nil]
 repeat (go_big_quiet_step (fail))
 refine wpQuiet_nil ?_
 clear s1 s3
 refine mix_eff rfl ?_
 intro X1 hX1
 have cv : ∀ c, (convert 23 9 (.slice ba bl c)).run Tryz.prog w1.drew = .ok (.string sb) w1.drew := by
  rw [H.out.2.2.2.1, H.out.2.2.2.2]
  exact run_conv w1.drew Tryz.underlying23 Tryz.underlying5 Tryz.underlying9 rfl (H.out.1.fr (H1.out.1.trans (Fr.drew1 [] w1))).cs
 go_wp2
 refine hX1.out _ _ (Fr.refl _ _) ?_
 clear hX1 X1 cv
 refine mix_eff rfl ?_
 intro X1 hX1
 go_wp2_with (go_at_call 20; refine (H.out.2.1 _).mono ?_; rintro e w2 ⟨rfl, f2⟩)
 refine hX1.out _ _ (f2.mono (by simp)) ?_
 clear hX1 X1
 have HF := Lib.hid ((Fr.drew1 [] w1).trans f2)
 clear f2
 refine mix_eff rfl ?_
 intro X1 hX1
 go_wp2
 refine hX1.out _ _ (Fr.refl _ _) ?_
 clear hX1 X1
 have ho2 := HF.out.blk H1.out.2.1 (by simp)
 refine mix_eff rfl ?_
 intro X1 hX1
 refine wp_store_row 34 (.tmp 6) (.tmp 17) rfl (B + 1) #[.int .i64 kd, .slice ba bl bc, .string X, .int .i64 (xa : Nat), .int .u32 (xc : Nat)] rfl rfl 34 _ ho2 infoObj rfl (by kernel_rfl) ?_
 simp only [Act.put, List.setIfInBounds_toArray, List.set_cons_succ, List.set_cons_zero]
 have fS : Fr [B + 1] w2 (w2.setRow (B + 1) #[.int .i64 kd, .slice ba bl bc, .string X, .int .i64 (xa : Nat), .int .u32 (xc : Nat)]) := (Fr.refl [B + 1] w2).setRow (by simp) _
 have hr := setRow_heap w2 (B + 1) _ #[.int .i64 kd, .slice ba bl bc, .string X, .int .i64 (xa : Nat), .int .u32 (xc : Nat)] _ _ ho2
 refine hX1.out _ _ fS ?_
 clear hX1 X1
 generalize w2.setRow (B + 1) _ = w3 at fS hr ⊢
 refine mix_nil ?_
 have fF : Fr [] w w3 := by
  have := H1.out.1.trans HF.out
  exact this.step fS (by have := H1.out.2.2; simp; omega)
 have HZ := Lib.hid fF
 clear fS ho2 fF
 go_wp2
 refine bodyPost_ret (results_obj rfl _ _ (B + 1) _ _ rfl hr rfl) rfl ?_
 refine ⟨?_, HZ.out⟩
 rw [H.out.2.2.1, H.out.2.2.2.2]
 rfl
end Go.Proofs.YtkmpfgpfbmeihaaGreatDoor.pk
namespace Go.Proofs.YtkmpfgpfbmeihaaGreatDoor.delta
open Go Go.RowKit lib bm
def b5 : List UInt8 := [98, 99, 120, 121, 122]
end Go.Proofs.YtkmpfgpfbmeihaaGreatDoor.delta
namespace Go.Proofs.YtkmpfgpfbmeihaaGreatDoor.delta
open Go Go.RowKit lib bm
def DNumbered (w : World) (d : List UInt8) (e : Ending) (w' : World) : Prop :=
 w = w' ∧ ∃ u : Nat, e = .returned (.tuple #[.int .i64 (delta.rd d).1, .int .i64 u, .int .i64 (delta.rd d).2.2]) ∧ ((delta.rd d).2.2 = 0 → (delta.rd d).2.1 = d.drop u) ∧ u ≤ d.length
theorem dnumbered_of {w : World} {d r : List UInt8} {n x u : Nat} (h : delta.rd d = (n, r, x)) (hu : x = 0 → r = d.drop u) (hl : u ≤ d.length) : DNumbered w d (.returned (.tuple #[.int .i64 n, .int .i64 u, .int .i64 x])) w := by
 unfold DNumbered
 rw [h]
 exact ⟨rfl, u, rfl, hu, hl⟩
theorem add_groups (n x i : Nat) (hi : i < 5) (hn : n < 128 ^ i) (hx : x < 128) : ∃ y, (n + y = n + x * 128 ^ i ∧ n + y < 128 ^ (i + 1)) ∧ n + y ≤ 34359738367 ∧ wrap64 ((x : Int) * 2 ^ (7 * i)) = (y : Int) := by
 have hp : 2 ^ (7 * i) = 128 ^ i := by rw [Nat.pow_mul]
 have h4 : 128 ^ i ≤ 128 ^ 4 := Nat.pow_le_pow_right (by decide) (by omega)
 have e4 : 128 ^ 4 = 268435456 := by decide
 have h1 : x * 128 ^ i ≤ 127 * 128 ^ i := Nat.mul_le_mul_right _ (by omega)
 have h5 := pow128 i
 refine ⟨x * 128 ^ i, ⟨rfl, by omega⟩, by omega, ?_⟩
 have : (x : Int) * 2 ^ (7 * i) = ((x * 2 ^ (7 * i) : Nat) : Int) := by rw [Int.natCast_mul, Int.natCast_pow]; rfl
 rw [this, hp]
 generalize x * 128 ^ i = y at *
 simp only [wrap64]
 omega
set_option maxHeartbeats 4000000 in
theorem drnumber_all (a : Option Addr) (cap : Nat) (d : List UInt8) (w : World) (h : Rd w a cap d) : Calls Tryz.prog 146 #[.slice a d.length cap] w (DNumbered w d) := by
 have hle := h.le
 have hmax := h.max
 unfold maxLen at hmax
 have H := Lib.hid h
 clear h
 go_enter Tryz.func146, Tryz.ntmps146
 go_wp2
 go_loopg [5, 6] 5 (fun k s5 s6 wr => ∃ i n, i + k = 5 ∧ s6 = .int .i64 (i : Nat) ∧ s5 = .int .i64 (n : Nat) ∧ i ≤ d.length ∧ n < 128 ^ i ∧ rdn k i n (d.drop i) = delta.rd d ∧ w = wr)
 case atStart => exact ⟨0, 0, rfl, rfl, rfl, Nat.zero_le _, by decide, rfl, rfl⟩
 case round =>
  obtain ⟨i, n, hi, rfl, rfl, hil, hn, hrd, rfl⟩ := hrel
  by_cases hi5 : i < 5
  ·obtain ⟨k, rfl⟩ : ∃ k, gk = k + 1 := ⟨gk - 1, by omega⟩
   by_cases hid : i < d.length
   ·obtain ⟨g, o, rfl, c0⟩ := H.out.at hid
    obtain ⟨c, hcc⟩ : ∃ c, c = d[i] := ⟨_, rfl⟩
    rw [← hcc] at c0
    have hdr : d.drop i = c :: d.drop (i + 1) := by rw [List.drop_eq_getElem_cons hid, hcc]
    rw [hdr, rdn] at hrd
    have ha := and127 c
    have hcn := UInt8.toNat_lt c
    obtain ⟨x, hx⟩ : ∃ x, x = c.toNat % 128 := ⟨_, rfl⟩
    rw [← hx] at ha hrd
    have hx128 : x < 128 := by omega
    generalize c.toNat = cn at *
    clear hx hcc hdr
    obtain ⟨y, hm, hm35, hor⟩ := add_groups n x i hi5 hn hx128
    rw [← hm.1] at hrd
    have HRD := Lib.hid hrd
    have HM := Lib.hid hm
    clear hm hn hrd
    have hny : (n : Int) + (y : Int) = ((n + y : Nat) : Int) := by omega
    by_cases h128 : cn < 128
    ·have hrd := HRD.out
     rw [if_pos h128] at hrd
     by_cases hbig : 2147483647 < n + y
     ·rw [if_pos hbig] at hrd
      have HD := Lib.hid hrd
      have hbig2 : decide ((2147483647 : Int) < (n : Int) + y) = true := by simp; omega
      clear hrd hny
      go_wp2
      go_ret3
      exact dnumbered_of (r := []) HD.out.symm (by simp) (Nat.zero_le _)
     ·rw [if_neg hbig] at hrd
      have HD := Lib.hid hrd
      have hbig2 : decide ((2147483647 : Int) < (n : Int) + y) = false := by simp; omega
      clear hrd hny
      go_wp2
      go_ret3
      exact dnumbered_of (u := i + 1) HD.out.symm (fun _ => rfl) (by omega)
    ·have hrd := HRD.out
     rw [if_neg h128] at hrd
     have HD := Lib.hid hrd
     clear hrd hny
     go_wp2
     go_roundg k
     case measure => omega
     case rel => exact ⟨i + 1, n + y, by omega, by go_num, by go_num, by omega, HM.out.2, HD.out, rfl⟩
   ·have hd : delta.rd d = (0, [], 4) := by rw [← hrd, List.drop_eq_nil_of_le (by omega)]; rfl
    have HD := Lib.hid hd
    clear hd hrd hn
    go_wp2
    go_ret3
    exact dnumbered_of (r := []) HD.out (by simp) (Nat.zero_le _)
  ·obtain rfl : i = 5 := by omega
   obtain rfl : gk = 0 := by omega
   have HD := Lib.hid hrd
   clear hrd hn
   go_wp2
   go_ret3
   exact dnumbered_of (r := []) (by rw [← HD.out]; rfl) (by simp) (Nat.zero_le _)
theorem put4 {wz : World} {R : Nat} {t : TypeId} {u0 u1 u2 u3 : Value} (hb : wz.heap[R]? = some (.cells #[u0, u1, u2, u3] t (0, 0))) (v0 v1 v2 v3 : Value) :
  ((((wz.setCell ⟨R, 0, none⟩ v0).setCell ⟨R, 1, none⟩ v1).setCell ⟨R, 2, none⟩ v2).setCell ⟨R, 3, none⟩ v3).heap[R]? = some (.cells #[v0, v1, v2, v3] t (0, 0)) ∧
   Fr [R] wz ((((wz.setCell ⟨R, 0, none⟩ v0).setCell ⟨R, 1, none⟩ v1).setCell ⟨R, 2, none⟩ v2).setCell ⟨R, 3, none⟩ v3) :=
 ⟨(setCell_of (setCell_of (setCell_of (setCell_of hb _) _) _) _).trans rfl, ((((Fr.refl [R] wz).setCell (by simp) _).setCell (by simp) _).setCell (by simp) _).setCell (by simp) _⟩
theorem infoHead : (Tryz.prog.info? 182).map (·.size) = some 4 := by kernel_rfl
theorem results_head {fn : Func} {p : Tmp} (h : fn.results = #[.cell p 182]) (tmps : Array Value) (w : World) (g : Nat) (cs : Array Value) (fr : Nat × Nat)
  (hp : tmps.getD p undef = .pointer (some ⟨g, 0, none⟩)) (hg : w.heap[g]? = some (.cells cs 182 fr)) (hs : cs.size = 4) : (results fn tmps).run Tryz.prog w = .ok (.agg cs) w :=
 results_cell_row h tmps w g 182 cs fr _ hp hg Tryz.underlying182 rfl (by rw [infoHead, hs])
def DSized (w : World) (d : List UInt8) (e : Ending) (w' : World) : Prop :=
 ∃ u : Nat, e = .returned (.agg #[.int .i64 (delta.sizes d).1, .int .i64 (delta.sizes d).2.1, .int .i64 u, .int .i64 (delta.sizes d).2.2.2]) ∧ ((delta.sizes d).2.2.2 = 0 → (delta.sizes d).2.2.1 = d.drop u) ∧ u ≤ d.length ∧ Fr [] w w'
theorem dsized_of {w w' : World} {d r : List UInt8} {n m x u : Nat} (h : delta.sizes d = (n, m, r, x)) (hu : x = 0 → r = d.drop u) (hl : u ≤ d.length) (f : Fr [] w w') : DSized w d (.returned (.agg #[.int .i64 n, .int .i64 m, .int .i64 u, .int .i64 x])) w' := by
 unfold DSized
 rw [h]
 exact ⟨u, rfl, hu, hl, f⟩
set_option maxHeartbeats 4000000 in
theorem drsizes_all (a : Option Addr) (cap : Nat) (d : List UInt8) (w : World) (h : Rd w a cap d) (hlim : d.length ≤ 2199023255552) : Calls Tryz.prog 115 #[.slice a d.length cap] w (DSized w d) := by
 have f0 : Fr [] w (w.alloc (.cells #[.int .i64 0, .int .i64 0, .int .i64 0, .int .i64 0] 182)) := (Fr.refl [] w).alloc _
 have hb0 := alloc_at w (.cells #[.int .i64 0, .int .i64 0, .int .i64 0, .int .i64 0] 182)
 have h0 := h.fr f0
 have hle := h.le
 have hcm := h.max
 unfold maxLen at hcm
 have hs : ∀ x y, delta.rd d = x → delta.rd x.2.1 = y → delta.sizes d = if x.2.2 = 0 then (if y.2.2 = 0 then (x.1, y.1, y.2.1, 0) else (0, 0, [], y.2.2)) else (0, 0, [], x.2.2) := by rintro x y rfl rfl; rfl
 have h1 := drnumber_all a cap d _ h0
 have h2 : ∀ u, u ≤ d.length → (delta.rd d).2.1 = d.drop u → Calls Tryz.prog 146 #[.slice (cutAtN a cap u 1) (d.length - u) (cap - u)] _ (DNumbered (w.alloc (.cells #[.int .i64 0, .int .i64 0, .int .i64 0, .int .i64 0] 182)) (delta.rd d).2.1) := fun u hu e => by
  have := drnumber_all (cutAtN a cap u 1) (cap - u) (d.drop u) _ (h0.drop u hu)
  rw [List.length_drop] at this
  rw [e]
  exact this
 unfold DNumbered at h1 h2
 obtain ⟨x, hx⟩ : ∃ x, delta.rd d = x := ⟨_, rfl⟩
 obtain ⟨y, hy⟩ : ∃ y, delta.rd x.2.1 = y := ⟨_, rfl⟩
 have hsz := hs x y hx hy
 rw [hx] at h1 h2
 rw [hy] at h2
 obtain ⟨n, r, e⟩ := x
 obtain ⟨m, s, e2⟩ := y
 simp only at h1 h2 hsz
 have H := Lib.hid (And.intro h1 (And.intro h2 (And.intro f0 hb0)))
 clear h1 h2 hs hx hy h h0
 have c0 := cell_of hb0 0
 have c1 := cell_of hb0 1
 have c2 := cell_of hb0 2
 have c3 := cell_of hb0 3
 have z0 := frozen_of hb0 0
 have z1 := frozen_of hb0 1
 have z2 := frozen_of hb0 2
 have z3 := frozen_of hb0 3
 simp only [List.getElem?_toArray, List.getElem?_cons_zero, List.getElem?_cons_succ] at c0 c1 c2 c3
 clear f0 hb0
 by_cases he : e = 0
 ·subst he
  rw [if_pos rfl] at hsz
  by_cases he2 : e2 = 0
  ·subst he2
   rw [if_pos rfl] at hsz
   have HS := Lib.hid hsz
   clear hsz
   have tok1 : True := trivial
   go_enter Tryz.func115, Tryz.ntmps115
   go_upto_region 1 with fail
   generalize (w.alloc (.cells #[.int .i64 0, .int .i64 0, .int .i64 0, .int .i64 0] 182)) = w0 at *
   generalize hR : w.heap.size = R at *
   have HR := Lib.hid hR
   clear hR
   go_wp2_with (first | (go_at_call 146; have _t := tok1; refine H.out.1.mono ?_; rintro e1 w1 ⟨rfl, u, rfl, hu, hl⟩; have H1 := Lib.hid hu; clear hu; clear tok1 _t) | (refine wpList_slice_from sliceU8 u rfl _ _ rfl a d.length cap _ rfl rfl rfl hl hle ?_) | (go_at_call 146; refine (H.out.2.1 u hl (H1.out (by trivial))).mono ?_; rintro e2 w2 ⟨rfl, u2, rfl, hu2, hl2⟩; have hl3 : u2 ≤ d.length - u := (by rw [H1.out (by trivial), List.length_drop] at hl2; exact hl2); have H2 := Lib.hid hu2; clear hu2 hl2))
   obtain ⟨p1, p2⟩ := put4 H.out.2.2.2 (.int .i64 n) (.int .i64 m) (.int .i64 ((u : Int) + u2)) (.int .i64 0)
   refine bodyPost_ret (results_head rfl _ _ R _ (0, 0) rfl p1 rfl) rfl ?_
   have f := H.out.2.2.1.step p2 fun y hy => .inr (by simp at hy; rw [hy, ← HR.out]; exact Nat.le_refl _)
   have h := dsized_of (u := u + u2) HS.out (fun _ => by rw [H2.out (by trivial), H1.out (by trivial), List.drop_drop]) (by omega) f
   rw [Int.natCast_add] at h
   exact h
  ·rw [if_neg he2] at hsz
   have HS := Lib.hid hsz
   have hb : ((e2 : Int) == 0) = false := by simp; omega
   have hb2 : ((e2 : Int) != 0) = true := by simp; omega
   clear hsz he2
   have tok1 : True := trivial
   go_enter Tryz.func115, Tryz.ntmps115
   go_upto_region 1 with fail
   generalize (w.alloc (.cells #[.int .i64 0, .int .i64 0, .int .i64 0, .int .i64 0] 182)) = w0 at *
   generalize hR : w.heap.size = R at *
   have HR := Lib.hid hR
   clear hR
   go_wp2_with (first | (go_at_call 146; have _t := tok1; refine H.out.1.mono ?_; rintro e1 w1 ⟨rfl, u, rfl, hu, hl⟩; have H1 := Lib.hid hu; clear hu; clear tok1 _t) | (refine wpList_slice_from sliceU8 u rfl _ _ rfl a d.length cap _ rfl rfl rfl hl hle ?_) | (go_at_call 146; refine (H.out.2.1 u hl (H1.out (by trivial))).mono ?_; rintro e2 w2 ⟨rfl, u2, rfl, hu2, hl2⟩; have hl3 : u2 ≤ d.length - u := (by rw [H1.out (by trivial), List.length_drop] at hl2; exact hl2); have H2 := Lib.hid hu2; clear hu2 hl2))
   obtain ⟨p1, p2⟩ := put4 H.out.2.2.2 (.int .i64 0) (.int .i64 0) (.int .i64 0) (.int .i64 e2)
   refine bodyPost_ret (results_head rfl _ _ R _ (0, 0) rfl p1 rfl) rfl ?_
   have f := H.out.2.2.1.step p2 fun y hy => .inr (by simp at hy; rw [hy, ← HR.out]; exact Nat.le_refl _)
   have hne : ¬ e2 = 0 := fun h => by rw [h] at hb; simp at hb
   exact dsized_of (n := 0) (m := 0) (u := 0) (r := []) HS.out (fun h => absurd h hne) (Nat.zero_le _) f
 ·rw [if_neg he] at hsz
  have HS := Lib.hid hsz
  have hb : ((e : Int) == 0) = false := by simp; omega
  have hb2 : ((e : Int) != 0) = true := by simp; omega
  clear hsz he
  have tok1 : True := trivial
  go_enter Tryz.func115, Tryz.ntmps115
  go_upto_region 1 with fail
  generalize (w.alloc (.cells #[.int .i64 0, .int .i64 0, .int .i64 0, .int .i64 0] 182)) = w0 at *
  generalize hR : w.heap.size = R at *
  have HR := Lib.hid hR
  clear hR
  go_wp2_with (first | (go_at_call 146; have _t := tok1; refine H.out.1.mono ?_; rintro e1 w1 ⟨rfl, u, rfl, hu, hl⟩; have H1 := Lib.hid hu; clear hu; clear tok1 _t))
  obtain ⟨p1, p2⟩ := put4 H.out.2.2.2 (.int .i64 0) (.int .i64 0) (.int .i64 0) (.int .i64 e)
  refine bodyPost_ret (results_head rfl _ _ R _ (0, 0) rfl p1 rfl) rfl ?_
  have f := H.out.2.2.1.step p2 fun y hy => .inr (by simp at hy; rw [hy, ← HR.out]; exact Nat.le_refl _)
  have hne : ¬ e = 0 := fun h => by rw [h] at hb; simp at hb
  exact dsized_of (n := 0) (m := 0) (u := 0) (r := []) HS.out (fun h => absurd h hne) (Nat.zero_le _) f
end Go.Proofs.YtkmpfgpfbmeihaaGreatDoor.delta
namespace Go.Proofs.YtkmpfgpfbmeihaaGreatDoor.delta
open Go Go.RowKit lib bm
def fld (op : Nat) : Nat → Nat → Nat → List UInt8 → Option (Nat × List UInt8)
 | 0, _, v, d => some (v, d)
 | f + 1, i, v, d => if op / 2 ^ i % 2 = 0 then fld op f (i + 1) v d else match d with
  | [] => none
  | c :: r => fld op f (i + 1) (v + c.toNat * 256 ^ i) r
theorem fld_skip {op f i v : Nat} {d : List UInt8} (h : op / 2 ^ i % 2 = 0) : fld op (f + 1) i v d = fld op f (i + 1) v d := by cases d <;> simp [fld, h]
theorem fld_nil {op f i v : Nat} (h : op / 2 ^ i % 2 = 1) : fld op (f + 1) i v [] = none := by simp [fld, h]
theorem fld_cons {op f i v : Nat} {c : UInt8} {r : List UInt8} (h : op / 2 ^ i % 2 = 1) : fld op (f + 1) i v (c :: r) = fld op f (i + 1) (v + c.toNat * 256 ^ i) r := by simp [fld, h]
theorem fld_congr {a b : Nat} : ∀ (f i v : Nat) (d : List UInt8), (∀ j, i ≤ j → j < i + f → a / 2 ^ j % 2 = b / 2 ^ j % 2) → fld a f i v d = fld b f i v d
 | 0, _, _, _, _ => rfl
 | f + 1, i, v, d, h => by
  have h0 := h i (Nat.le_refl _) (by omega)
  have h1 := fun v d => fld_congr f (i + 1) v d fun j h1 h2 => h j (by omega) (by omega)
  by_cases hb : a / 2 ^ i % 2 = 0
  ·rw [fld_skip hb, fld_skip (by omega), h1]
  ·have hb1 : a / 2 ^ i % 2 = 1 := by omega
   cases d with
   | nil => rw [fld_nil hb1, fld_nil (by omega)]
   | cons c r => rw [fld_cons hb1, fld_cons (by omega), h1]
theorem pl_hi (op p : Nat) : ∀ (f j n : Nat) (d : List UInt8), pl op f (j + 4) p n d = (fld (op / 16) f j n d).map fun x => (p, (if x.1 = 0 then 65536 else x.1), x.2)
 | 0, j, n, d => rfl
 | f + 1, j, n, d => by
  have e : op / 2 ^ (j + 4) % 2 = op / 16 / 2 ^ j % 2 := by rw [Nat.pow_add, Nat.mul_comm, ← Nat.div_div_eq_div_mul]
  by_cases hb : op / 2 ^ (j + 4) % 2 = 0
  ·rw [pl_skip hb, fld_skip (by omega), show j + 4 + 1 = j + 1 + 4 from by omega, pl_hi op p f]
  ·have hb1 : op / 2 ^ (j + 4) % 2 = 1 := by omega
   cases d with
   | nil => rw [pl_nil hb1, fld_nil (by omega)]; rfl
   | cons c r => rw [pl_cons hb1, fld_cons (by omega), if_neg (by omega), show j + 4 + 1 = j + 1 + 4 from by omega, pl_hi op p f, Nat.add_sub_cancel]
theorem pl_lo (op n : Nat) : ∀ (f i p : Nat) (d : List UInt8), f + i = 4 → pl op (f + 3) i p n d = (fld op f i p d).bind fun x => pl op 3 4 x.1 n x.2
 | 0, i, p, d, h => by
  obtain rfl : i = 4 := by omega
  rfl
 | f + 1, i, p, d, h => by
  by_cases hb : op / 2 ^ i % 2 = 0
  ·rw [show f + 1 + 3 = f + 3 + 1 from by omega, pl_skip hb, fld_skip hb, pl_lo op n f _ _ _ (by omega)]
  ·have hb1 : op / 2 ^ i % 2 = 1 := by omega
   cases d with
   | nil => rw [show f + 1 + 3 = f + 3 + 1 from by omega, pl_nil hb1, fld_nil hb1]; rfl
   | cons c r => rw [show f + 1 + 3 = f + 3 + 1 from by omega, pl_cons hb1, fld_cons hb1, if_pos (by omega), pl_lo op n f _ _ _ (by omega)]
theorem bit_mod (x : Nat) (m : Nat) : ∀ j, j < m → x % 2 ^ m / 2 ^ j % 2 = x / 2 ^ j % 2 := fun j hj => by
 have h1 := Nat.testBit_mod_two_pow x m j
 simp only [Nat.testBit, Nat.shiftRight_eq_div_pow] at h1
 have h2 : decide (j < m) = true := by simpa using hj
 rw [h2, Bool.true_and] at h1
 simp only [Nat.one_and_eq_mod_two] at h1
 have a := Nat.mod_two_eq_zero_or_one (x % 2 ^ m / 2 ^ j)
 have b := Nat.mod_two_eq_zero_or_one (x / 2 ^ j)
 rcases a with a | a <;> rcases b with b | b <;> rw [a, b] at h1 ⊢ <;> simp at h1
theorem pl_fields {c p n : Nat} {d r : List UInt8} (hc : c < 256) (h128 : 128 ≤ c) (h : pl (c - 128) 7 0 0 0 d = some (p, n, r)) :
  ∃ m q, fld (c % 16) 4 0 0 d = some (p, q) ∧ fld (c / 16 % 8) 3 0 0 q = some (m, r) ∧ n = if m = 0 then 65536 else m := by
 have h1 := pl_lo (c - 128) 0 4 0 0 d rfl
 rw [show 4 + 3 = 7 from rfl, h] at h1
 have e1 : fld (c - 128) 4 0 0 d = fld (c % 16) 4 0 0 d := fld_congr 4 0 0 d fun j _ hj => by
  rw [show c % 16 = (c - 128) % 2 ^ 4 from by omega, bit_mod _ 4 j (by omega)]
 rw [e1] at h1
 cases hx : fld (c % 16) 4 0 0 d with
 | none => rw [hx] at h1; cases h1
 | some x =>
  rw [hx] at h1
  obtain ⟨p', q⟩ := x
  simp only [Option.bind_some] at h1
  have h2 := pl_hi (c - 128) p' 3 0 0 q
  rw [← h1] at h2
  have e2 : fld ((c - 128) / 16) 3 0 0 q = fld (c / 16 % 8) 3 0 0 q := fld_congr 3 0 0 q fun j _ hj => by
   rw [show c / 16 % 8 = ((c - 128) / 16) % 2 ^ 3 from by omega, bit_mod _ 3 j (by omega)]
  rw [e2] at h2
  cases hy : fld (c / 16 % 8) 3 0 0 q with
  | none => rw [hy] at h2; cases h2
  | some y =>
   rw [hy] at h2
   obtain ⟨m, r'⟩ := y
   simp only [Option.map_some, Option.some.injEq, Prod.mk.injEq] at h2
   obtain ⟨rfl, rfl, rfl⟩ := h2
   exact ⟨m, q, rfl, hy, rfl⟩
theorem add_bytes (n x i : Nat) (hi : i < 4) (hn : n < 256 ^ i) (hx : x < 256) : ∃ y, (n + y = n + x * 256 ^ i ∧ n + y < 256 ^ (i + 1)) ∧ n + y < 4294967296 ∧ wrap64 ((x : Int) * 2 ^ (8 * i)) = (y : Int) := by
 have hp : 2 ^ (8 * i) = 256 ^ i := by rw [Nat.pow_mul]
 have h4 : 256 ^ i ≤ 256 ^ 3 := Nat.pow_le_pow_right (by decide) (by omega)
 have e4 : 256 ^ 3 = 16777216 := by decide
 have h1 : x * 256 ^ i ≤ 255 * 256 ^ i := Nat.mul_le_mul_right _ (by omega)
 have h5 := pow256 i
 refine ⟨x * 256 ^ i, ⟨rfl, by omega⟩, by omega, ?_⟩
 have : (x : Int) * 2 ^ (8 * i) = ((x * 2 ^ (8 * i) : Nat) : Int) := by rw [Int.natCast_mul, Int.natCast_pow]; rfl
 rw [this, hp]
 generalize x * 256 ^ i = y at *
 simp only [wrap64]
 omega
theorem wrap_sum (x m : Nat) (h : x + m < 4294967296) : wrap64 ((x : Int) + (m : Int)) = (x : Int) + m := IntWalk.wrap64_in _ ⟨by omega, by omega⟩
def Fielded (w : World) (v : Nat) (r : List UInt8) (a0 : Option Addr) (cap : Nat) (d : List UInt8) (e : Ending) (w' : World) : Prop :=
 w = w' ∧ ∃ a c, e = .returned (.tuple #[.int .i64 (v : Nat), .slice a r.length c, .bool true]) ∧ (∀ wz, Rd wz a0 cap d → Rd wz a c r) ∧ v < 4294967296
set_option maxHeartbeats 4000000 in
theorem field_good (bt n v : Nat) (r : List UInt8) (a : Option Addr) (cap : Nat) (d : List UInt8) (w : World) (hn : n ≤ 4) (hbt : bt < 256) (h : Rd w a cap d) (hf : fld bt n 0 0 d = some (v, r)) :
  Calls Tryz.prog 116 #[.slice a d.length cap, .int .i64 bt, .int .i64 n] w (Fielded w v r a cap d) := by
 have H0 := Lib.hid (And.intro h hf)
 clear h hf
 go_enter Tryz.func116, Tryz.ntmps116
 go_wp2
 go_loopg [0, 9, 10] n (fun k s0 s9 s10 wr => ∃ i x a' c q, i + k = n ∧ s10 = .int .i64 (i : Nat) ∧ s9 = .int .i64 (x : Nat) ∧ s0 = .slice a' q.length c ∧ (∀ wz, Rd wz a cap d → Rd wz a' c q) ∧ x < 256 ^ i ∧ x < 4294967296 ∧ fld bt k i x q = some (v, r) ∧ w = wr)
 case atStart => exact ⟨0, 0, a, cap, d, by omega, rfl, rfl, rfl, fun _ h => h, by decide, by decide, H0.out.2, rfl⟩
 case round =>
  obtain ⟨i, x, ar, cr, q, hi, rfl, rfl, rfl, hrr, hx, hx32, hfl, rfl⟩ := hrel
  have hr := hrr w H0.out.1
  have hrl := hr.le
  have hmax := hr.max
  unfold maxLen at hmax
  have H := Lib.hid hr
  have HRR := Lib.hid hrr
  have HX := Lib.hid hx
  clear hrr hr hx
  by_cases hin : i < n
  ·obtain ⟨k, rfl⟩ : ∃ k, gk = k + 1 := ⟨gk - 1, by omega⟩
   have hb : bits .and .i64 ((bt : Int) / 2 ^ i) 1 = ((bt / 2 ^ i % 2 : Nat) : Int) := (i64_mask _ 1 (by decide)).trans (by
    rw [Int.natCast_emod, Int.natCast_ediv, Int.natCast_pow]; rfl)
   by_cases hbit : bt / 2 ^ i % 2 = 0
   ·rw [fld_skip hbit] at hfl
    rw [hbit] at hb
    have HPL := Lib.hid hfl
    clear hfl hbit
    go_wp2
    go_roundg k
    case measure => omega
    case rel => exact ⟨i + 1, x, ar, cr, q, by omega, by go_num, rfl, rfl, HRR.out, Nat.lt_of_lt_of_le HX.out (Nat.pow_le_pow_right (by decide) (by omega)), hx32, HPL.out, rfl⟩
   ·have hbit1 : bt / 2 ^ i % 2 = 1 := by omega
    rw [hbit1] at hb
    cases q with
    | nil => rw [fld_nil hbit1] at hfl; cases hfl
    | cons y t =>
     rw [fld_cons hbit1] at hfl
     obtain ⟨g, o, rfl, hc⟩ := H.out.at (i := 0) (by simp)
     have hy : y.toNat < 256 := UInt8.toNat_lt y
     simp only [Nat.add_zero, List.getElem_cons_zero] at hc
     have hdr := fun wz (hz : Rd wz a cap d) => (HRR.out wz hz).drop 1 (by simp)
     simp only [List.drop_succ_cons, List.drop_zero] at hdr
     obtain ⟨yn, hyn⟩ : ∃ yn, yn = y.toNat := ⟨_, rfl⟩
     rw [← hyn] at hc hy hfl
     obtain ⟨m, hm, hm32, hw⟩ := add_bytes x yn i (by omega) HX.out hy
     rw [← hm.1] at hfl
     have HM := Lib.hid (And.intro hm (And.intro hfl hdr))
     simp only [List.length_cons] at hrl
     have hs : wrap64 ((x : Int) + (m : Int)) = (x : Int) + m := wrap_sum x m hm32
     have hi4 : i < 4 := by omega
     have HI := Lib.hid (And.intro hi hn)
     clear hyn hm hfl hbit hbit1 hdr hs hi hn
     go_wp2_with (refine wpList_slice_from sliceU8 1 rfl _ _ rfl (some ⟨g, o, none⟩) (t.length + 1) cr _ rfl rfl rfl (by omega) (by omega) ?_)
     go_roundg k
     case measure => omega
     case rel =>
      have hi := HI.out.1
      exact ⟨i + 1, x + m, _, _, t, by omega, by go_num, by first | go_num | (rw [wrap_sum x m hm32]; go_num), rfl, HM.out.2.2, HM.out.1.2, hm32, HM.out.2.1, rfl⟩
  ·obtain rfl : i = n := by omega
   obtain rfl : gk = 0 := by omega
   simp only [fld, Option.some.injEq, Prod.mk.injEq] at hfl
   obtain ⟨rfl, rfl⟩ := hfl
   go_wp2
   go_ret3
   exact ⟨rfl, ar, cr, rfl, HRR.out, hx32⟩
end Go.Proofs.YtkmpfgpfbmeihaaGreatDoor.delta
