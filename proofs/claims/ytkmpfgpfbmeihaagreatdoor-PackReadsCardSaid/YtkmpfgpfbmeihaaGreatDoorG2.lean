/-
  Texts of this proof, one behind the other: PackHead, HexB, RGet, ShaLaw, SumB, ShaMix, ShaMix2, ShaW, MixR, ShaSum, ShaWhole, DeltaLaw, PkLaw, PackTake, PkHead, DeltaNum.
-/
import Derived.Test.YtkmpfgpfbmeihaaGreatDoorG1
import Derived.Deep.DeepCutAuto
import Derived.Deep.CutBlock
import Derived.Deep.CondSized
import Derived.WalkMore
import Derived.Laws.MakeOwn
import Derived.Deep.LoopGhost
import Derived.Laws.ResultCell
import Derived.Laws.EntriesVeiled
set_option maxRecDepth 100000
set_option linter.unusedVariables false
set_option linter.unusedSimpArgs false
namespace Go.Proofs.YtkmpfgpfbmeihaaGreatDoor.pk
open Go Go.RowKit lib bm
theorem sliceU8 : SliceTy Tryz.prog 23 5 (.int .u8 0) 1 1 := SliceTy.of Tryz.underlying23 (by kernel_rfl) rfl (by decide)
theorem bv_one (bs : List UInt8) : ∀ u ∈ bs.map bv, u.oneCell' = true := by
 intro u hu
 obtain ⟨b, _, rfl⟩ := List.mem_map.1 hu
 rfl
structure Wr (w wr : World) (a : Option Addr) (c : Nat) (out : List UInt8) : Prop where
 own : wr.ownsRow 0 5 1 (.slice a out.length c) out.length (out.map bv)
 fr : Fr [] w wr
 new : ∀ x ∈ blk a, w.heap.size ≤ x
theorem wr_start (w w' : World) (f : Fr [] w w') : Wr w w' none 0 [] := ⟨World.ownsRow_nil _ _ _ _, f, by simp [blk]⟩
theorem Wr.step {w wr w1 w2 : World} {a a2 : Option Addr} {c c2 : Nat} {out : List UInt8} {x : UInt8} (h : Wr w wr a c out) (f : Fr [] wr w1) (A : Appended w1 w2 5 1 (blk a) a2 (out.length + 1) c2 (out.map bv ++ [bv x])) : Wr w w2 a2 c2 (out ++ [x]) := by
 refine ⟨by rw [List.length_append, List.map_append]; exact A.own, (h.fr.trans f).step A.fr fun y hy => .inr (h.new y hy), fun y hy => ?_⟩
 rcases A.at_ y hy with h1 | h1
 ·exact h.new y h1
 ·have := (h.fr.trans f).size
  omega
theorem lead_byte (kind size : Nat) (hk : kind ≤ 7) : bits .or .u8 (bits .and .i64 (kind : Int) 7 % 256 * 16 % 256) (bits .and .i64 (size : Int) 15 % 256) = ((kind % 8 * 16 + size % 16 : Nat) : Int) := by
 rw [show bits .and .i64 (kind : Int) 7 = (kind : Int) % 8 from i64_mask _ 3 (by decide), show bits .and .i64 (size : Int) 15 = (size : Int) % 16 from i64_mask _ 4 (by decide)]
 have h : ∀ (x : Fin 8) (y : Fin 16), bits .or .u8 (((x.1 : Nat) : Int) * 16) ((y.1 : Nat) : Int) = ((x.1 * 16 + y.1 : Nat) : Int) := by decide +kernel
 have e := h ⟨kind % 8, by omega⟩ ⟨size % 16, by omega⟩
 simp only at e
 rw [show (kind : Int) % 8 % 256 * 16 % 256 = ((kind % 8 : Nat) : Int) * 16 by omega, show (size : Int) % 16 % 256 = ((size % 16 : Nat) : Int) by omega, e]
theorem or_mark (c : Nat) (h : c ≤ 127) : bits .or .u8 (c : Int) 128 = (((UInt8.ofNat (c + 128)).toNat : Nat) : Int) := by
 have h2 : ∀ x : Fin 128, bits .or .u8 (x.1 : Int) 128 = ((x.1 + 128 : Nat) : Int) := by decide +kernel
 have e := h2 ⟨c, by omega⟩
 simp only at e
 rw [e, toNat_byte (by omega)]
theorem low7 (n : Nat) : bits .and .i64 (n : Int) 127 = ((n % 128 : Nat) : Int) := by
 rw [show bits .and .i64 (n : Int) 127 = (n : Int) % 128 from i64_mask _ 7 (by decide)]
 omega
theorem hdF_zero (f c : Nat) : hdF f c 0 = [UInt8.ofNat c] := by cases f <;> simp [hdF]
theorem hdF_step {f c n : Nat} (h : 0 < n) (hf : n ≤ f) : hdF f c n = UInt8.ofNat (c + 128) :: hdF f (n % 128) (n / 128) := by
 cases f with
 | zero => omega
 | succ f => rw [hdF, if_neg (by omega), hdF_fuel (f := f) (g := f + 1) (by omega) (by omega)]
set_option maxHeartbeats 2000000 in
theorem head_any (kind size : Nat) (w : World) (hk : kind ≤ 7) (hs : size ≤ 9007199254740992) : Calls Tryz.prog 10 #[.int .i64 (kind : Nat), .int .i64 (size : Nat)] w (NewBytes w (hd kind size)) := by
 have hl := lead_byte kind size hk
 obtain ⟨c0, hc0⟩ : ∃ c, c = kind % 8 * 16 + size % 16 := ⟨_, rfl⟩
 obtain ⟨bs, hbs⟩ : ∃ bs, bs = hd kind size := ⟨_, rfl⟩
 have hb2 : bs = hdF size c0 (size / 16) := by rw [hbs, hc0]; rfl
 have hbl : bs.length ≤ 9 := by rw [hb2]; exact hdF_le (k := 8) (by omega) (by omega)
 have hc127 : c0 ≤ 127 := by omega
 rw [← hc0] at hl
 rw [← hbs]
 have HB := Lib.hid (And.intro hb2 hbl)
 clear hb2 hbl hc0 hbs
 go_enter Tryz.func10, Tryz.ntmps10
 go_upto_region 2 with (refine wpList_max2 (size : Int) rfl _ _ _ rfl (size : Int) 0 rfl rfl (by split <;> omega) ?_)
 go_upto_block 0 with fail
 go_cut [5, 6] from 17 to 30 (fun s5 s6 wz => ∃ c a cap out, s5 = .int .u8 ((c : Nat) : Int) ∧ s6 = .slice a out.length cap ∧ c ≤ 127 ∧ Wr w wz a cap out ∧ bs = out ++ [UInt8.ofNat c])
 case first =>
  go_wp2
  go_loopg [1, 5, 6] size (fun k s1 s5 s6 wr => ∃ n c a cap out, s1 = .int .i64 (n : Nat) ∧ s5 = .int .u8 ((c : Nat) : Int) ∧ s6 = .slice a out.length cap ∧ n ≤ k ∧ n ≤ size ∧ c ≤ 127 ∧ Wr w wr a cap out ∧ bs = out ++ hdF size c n)
  case atStart => exact ⟨size / 16, c0, none, 0, [], by go_num, rfl, rfl, by omega, by omega, hc127, wr_start w w (Fr.refl _ _), HB.out.1⟩
  case round =>
   obtain ⟨n, c, a, cap, out, rfl, rfl, rfl, hk1, hns, hc, h, hall⟩ := hrel
   have H := Lib.hid (And.intro h hall)
   have hol : out.length ≤ 9 := by
    have := congrArg List.length hall
    rw [List.length_append] at this
    have := HB.out.2
    omega
   clear h hall
   by_cases h0 : 0 < n
   ·have ho := or_mark c hc
    have h7 := low7 n
    obtain ⟨x, hx⟩ : ∃ x, x = UInt8.ofNat (c + 128) := ⟨_, rfl⟩
    rw [← hx] at ho
    obtain ⟨S, hS⟩ : ∃ S, S = blk a := ⟨_, rfl⟩
    have HX := Lib.hid (And.intro hx hS)
    have f0 : Fr [] wr (wr.alloc (.cells #[.int .u8 (x.toNat : Nat)] 5)) := (Fr.refl [] wr).alloc _
    have ownA := ownsRow_fr H.out.1.own f0 (by simp)
    have cA : Cs (wr.alloc (.cells #[.int .u8 (x.toNat : Nat)] 5)) (some ⟨wr.heap.size, 0, none⟩) [bv x] := cs_one _ _ _ 5 (alloc_at wr _)
    have HA := Lib.hid (And.intro ownA (And.intro cA f0))
    clear ownA cA f0 hx hS
    go_wp2_with (refine wpList_append sliceU8 rfl _ _ rfl (.slice a out.length cap) out.length (out.map bv) S rfl (by rw [own_blk, HX.out.2]) HA.out.1 (some ⟨wr.heap.size, 0, none⟩) 1 1 [bv x] rfl (by decide) (by simp) HA.out.2.1 (by rfl) (bv_one [x]) (by omega) (by unfold maxLen; omega) ?_; intro a2 c2 w2 A1; have HA1 := Lib.hid A1; clear A1)
    go_roundg (n / 128)
    case measure => omega
    case rel =>
     have A1 := HA1.out
     rw [HX.out.2] at A1
     refine ⟨n / 128, n % 128, a2, c2, out ++ [x], by go_num, by go_num, by rw [List.length_append]; rfl, Nat.le_refl _, by omega, by omega, H.out.1.step HA.out.2.2 A1, ?_⟩
     rw [H.out.2, hdF_step h0 hns, HX.out.1, List.append_assoc]
     rfl
   ·go_wp2
    go_meet
    obtain rfl : n = 0 := by omega
    exact ⟨c, a, cap, out, rfl, rfl, hc, H.out.1, by rw [H.out.2, hdF_zero]⟩
 case rest =>
 obtain ⟨c, a, cap, out, rfl, rfl, hc, h, hall⟩ := hcut
 have H := Lib.hid h
 have hol : out.length + 1 = bs.length := by rw [hall]; simp
 have hol9 : out.length ≤ 9 := by have := HB.out.2; omega
 have HALL := Lib.hid (And.intro hall hol)
 clear h hall hol
 obtain ⟨x, hx⟩ : ∃ x, x = UInt8.ofNat c := ⟨_, rfl⟩
 have hbx : [bv x] = [.int .u8 (c : Int)] := by unfold bv; rw [hx, toNat_byte (by omega)]
 obtain ⟨S, hS⟩ : ∃ S, S = blk a := ⟨_, rfl⟩
 have HX := Lib.hid (And.intro hx hS)
 have f0 : Fr [] wc (wc.alloc (.cells #[.int .u8 (c : Int)] 5)) := (Fr.refl [] wc).alloc _
 have ownA := ownsRow_fr H.out.own f0 (by simp)
 have cA : Cs (wc.alloc (.cells #[.int .u8 (c : Int)] 5)) (some ⟨wc.heap.size, 0, none⟩) [bv x] := by rw [hbx]; exact cs_one _ _ _ 5 (alloc_at wc _)
 have HA := Lib.hid (And.intro ownA (And.intro cA f0))
 clear ownA cA f0 hx hS hbx
 go_wp2_with (refine wpList_append sliceU8 rfl _ _ rfl (.slice a out.length cap) out.length (out.map bv) S rfl (by rw [own_blk, HX.out.2]) HA.out.1 (some ⟨wc.heap.size, 0, none⟩) 1 1 [bv x] rfl (by decide) (by simp) HA.out.2.1 (by rfl) (bv_one [x]) (by omega) (by unfold maxLen; omega) ?_; intro a2 c2 w2 A1; have hcap := A1.le; have hcm := A1.max; have HA1 := Lib.hid A1; clear A1)
 go_ret
 have A1 := HA1.out
 rw [HX.out.2] at A1
 have h4 := H.out.step HA.out.2.2 A1
 rw [HX.out.1, ← HALL.out.1] at h4
 obtain ⟨r1, _⟩ := rd_of_owns h4.own
 rw [HALL.out.2]
 exact ⟨a2, rfl, ⟨r1.cs, Nat.le_refl _, Nat.le_trans r1.le r1.max, fun e => by have := r1.nil e; have := r1.le; omega⟩, fun y hy => ⟨h4.new y hy, owns_lt h4.own (blk_own hy)⟩, h4.fr⟩
end Go.Proofs.YtkmpfgpfbmeihaaGreatDoor.pk
namespace Go.Proofs.YtkmpfgpfbmeihaaGreatDoor.pk
open Go Go.RowKit lib bm
def hexd (k : Nat) : UInt8 := if k < 10 then UInt8.ofNat (48 + k) else UInt8.ofNat (87 + k)
def digs16 : ByteArray := ⟨#[48, 49, 50, 51, 52, 53, 54, 55, 56, 57, 97, 98, 99, 100, 101, 102]⟩
theorem digs16_at : ∀ k : Fin 16, ∀ h, digs16[k.1]'h = hexd k.1 := by decide
theorem index_hexu (k : Nat) (hk : k < 16) (w : World) : (Instr.index 9 (.string ⟨#[48, 49, 50, 51, 52, 53, 54, 55, 56, 57, 97, 98, 99, 100, 101, 102]⟩) (.int .u8 k)).run Tryz.prog w = .ok (.int .u8 ((hexd k).toNat : Nat)) w := by
 have hs : digs16.size = 16 := by decide
 have e := run_index_string (P := Tryz.prog) w 9 digs16 .u8 k Tryz.underlying9
 rw [dif_pos ⟨by omega, by rw [hs]; omega⟩] at e
 have h2 := digs16_at ⟨k, hk⟩ (by rw [hs]; exact hk)
 simp only [Int.toNat_natCast] at e
 rw [h2] at e
 exact e
def hex2 (b : UInt8) : List UInt8 := [hexd (b.toNat / 16), hexd (b.toNat % 16)]
def hexb (bs : List UInt8) : List UInt8 := bs.flatMap hex2
theorem hexb_length (bs : List UInt8) : (hexb bs).length = 2 * bs.length := by
 induction bs with
 | nil => rfl
 | cons b t ih => unfold hexb at *; rw [List.flatMap_cons, List.length_append, ih]; simp [hex2]; omega
theorem hexb_snoc (bs : List UInt8) (b : UInt8) : hexb (bs ++ [b]) = hexb bs ++ hex2 b := by unfold hexb; rw [List.flatMap_append]; simp
theorem make_cap (n : Nat) (hn : n ≤ 100000000) : ∃ A : Array Value, A.size = n ∧ ∀ w : World, (Instr.makeSlice 23 (.int .i64 0) (.int .i64 (n : Nat))).run Tryz.prog w = .ok (.slice (some ⟨w.heap.size, 0, none⟩) 0 n) (w.alloc (.cells A 5)) := by
 obtain ⟨hu, ⟨i, hi, hz, hs, hb⟩, _, _⟩ := sliceU8
 refine ⟨madeCells (Value.int .u8 0).cells n, size_madeCells _ _, fun w => ?_⟩
 have := run_make (P := Tryz.prog) w 23 5 i (.int .u8 0) Tryz.underlying23 hi hz .i64 .i64 0 (n : Nat) (Int.le_refl _) (by omega) (by rw [hb]; omega) (by omega)
 rw [hs, Int.toNat_natCast, Nat.mul_one] at this
 exact this
theorem hex2_cells (b : UInt8) : (hex2 b).map bv = [.int .u8 ((hexd (b.toNat / 16)).toNat : Nat), .int .u8 ((hexd (b.toNat % 16)).toNat : Nat)] := rfl
theorem Wr.step2 {w wr w1 w2 : World} {a a2 : Option Addr} {c c2 : Nat} {out xs : List UInt8} (h : Wr w wr a c out) (f : Fr [] wr w1) (A : Appended w1 w2 5 1 (blk a) a2 (out.length + xs.length) c2 (out.map bv ++ xs.map bv)) : Wr w w2 a2 c2 (out ++ xs) := by
 refine ⟨by rw [List.length_append, List.map_append]; exact A.own, (h.fr.trans f).step A.fr fun y hy => .inr (h.new y hy), fun y hy => ?_⟩
 rcases A.at_ y hy with h1 | h1
 ·exact h.new y h1
 ·have := (h.fr.trans f).size
  omega
theorem and15u (b : UInt8) : bits .and .u8 ((b.toNat : Nat) : Int) 15 = ((b.toNat % 16 : Nat) : Int) := by
 have h : ∀ x : Fin 256, bits .and .u8 (x.1 : Int) 15 = ((x.1 % 16 : Nat) : Int) := by decide +kernel
 exact h ⟨b.toNat, UInt8.toNat_lt b⟩
set_option maxHeartbeats 2000000 in
theorem hex_any (ao : Option Addr) (cap : Nat) (bs : List UInt8) (w : World) (h : lib.Rd w ao cap bs) (hlen : bs.length ≤ 10000000) :
  Calls Tryz.prog 46 #[.slice ao bs.length cap] w fun e w' => e = .returned (.string (str (hexb bs))) ∧ Fr [] w w' := by
 obtain ⟨L, hL⟩ : ∃ L, L = bs.length := ⟨_, rfl⟩
 obtain ⟨A, hAs, hmk⟩ := make_cap (2 * L) (by omega)
 obtain ⟨C, hC⟩ : ∃ C, C = 2 * L := ⟨_, rfl⟩
 have hLb : L ≤ 10000000 := by omega
 rw [← hC] at hmk hAs
 rw [show ((C : Nat) : Int) = 2 * (L : Int) by omega] at hmk
 have HI := Lib.hid (And.intro h (And.intro hL hAs))
 rw [← hL]
 clear h hL hAs hlen
 have HC := Lib.hid hC
 clear hC
 go_enter Tryz.func46, Tryz.ntmps46
 go_upto_region 2 with fail
 have o0 : Wr w (w.alloc (.cells A 5)) (some ⟨w.heap.size, 0, none⟩) C [] := ⟨⟨rfl, .inr ⟨w.heap.size, C, A, rfl, Nat.zero_le _, alloc_at _ _, Nat.zero_le _, by have := HC.out; unfold maxLen; omega, by rw [HI.out.2.2, Nat.mul_one], by simp⟩⟩, (Fr.refl _ _).alloc _, by simp [blk]⟩
 obtain ⟨w0, hw0⟩ : ∃ w0, w0 = w.alloc (.cells A 5) := ⟨_, rfl⟩
 rw [← hw0] at o0 ⊢
 have H0 := Lib.hid o0
 clear o0 hw0 hmk
 go_wp2
 go_loopg [3, 12] L (fun k s3 s12 wr => ∃ i a c out, s12 = .int .i64 (i : Nat) ∧ s3 = .slice a out.length c ∧ i + k = L ∧ Wr w wr a c out ∧ out = hexb (bs.take i))
 case atStart => exact ⟨0, _, C, [], rfl, rfl, by omega, H0.out, rfl⟩
 case round =>
  obtain ⟨i, a, c, out, rfl, rfl, hik, h, hout⟩ := hrel
  have hol : out.length = 2 * i := by rw [hout, hexb_length, List.length_take, ← HI.out.2.1]; omega
  have H := Lib.hid (And.intro h (And.intro hout hol))
  have hob : out.length ≤ 20000000 := by omega
  clear h hout hol
  by_cases hi : i < L
  ·obtain ⟨k, rfl⟩ : ∃ k, gk = k + 1 := ⟨gk - 1, by omega⟩
   have hil : i < bs.length := by rw [← HI.out.2.1]; exact hi
   obtain ⟨g, o, rfl, hc⟩ := (HI.out.1.cs.fr H.out.1.fr (by simp)).at (by rw [List.length_map]; omega)
   have hci := hc i (bv bs[i]) (by rw [List.getElem?_map, List.getElem?_eq_getElem hil]; rfl)
   unfold bv at hci
   have hx0 := index_hexu (bs[i].toNat / 16) (by have := UInt8.toNat_lt bs[i]; omega)
   have hx1 := index_hexu (bs[i].toNat % 16) (by omega)
   have e1 := and15u bs[i]
   have hb256 := UInt8.toNat_lt bs[i]
   have hcl := hex2_cells bs[i]
   have HT := Lib.hid (show bs.take (i + 1) = bs.take i ++ [bs[i]] from List.take_succ_eq_append_getElem hil)
   obtain ⟨b, hb⟩ : ∃ b, b = bs[i] := ⟨_, rfl⟩
   rw [← hb] at hci hx0 hx1 e1 hb256 hcl HT
   have HCL := Lib.hid hcl
   clear hc hil hb hcl
   have e0 : ((b.toNat : Nat) : Int) / 16 = ((b.toNat / 16 : Nat) : Int) := by omega
   go_upto_region 5 with fail
   generalize (hexd (b.toNat / 16)).toNat = h0 at *
   generalize (hexd (b.toNat % 16)).toNat = h1 at *
   generalize b.toNat % 16 = b1 at *
   generalize b.toNat / 16 = b0 at *
   obtain ⟨S, hS⟩ : ∃ S, S = blk a := ⟨_, rfl⟩
   refine region_mix 9 [(false, 0), (false, 1), (false, 2), (false, 3), (false, 4), (false, 5), (false, 6), (true, 7), (true, 8)] S (by kernel_rfl) (by kernel_rfl) (fun _ _ d _ _ h => by cases d <;> exact h) ?_
   simp only [List.map_cons, List.map_nil, List.getD_cons_zero, List.getD_cons_succ, List.drop_succ_cons, List.drop_zero, List.drop_nil]
   refine mix_seg 7 rfl ?_
   simp only [List.take_succ_cons, List.take_zero, List.drop_succ_cons, List.drop_zero, List.map_cons, List.map_nil]
   have HS := Lib.hid hS
   clear hS
   repeat (go_big_quiet_step (fail))
   refine wpQuiet_nil ?_
   clear e0 e1 hx0 hx1
   refine mix_eff rfl ?_
   intro X hX
   go_wp2
   refine hX.out _ _ ((Fr.refl _ wr.drew).alloc _) ?_
   clear hX X
   have fr0 : Fr [] wr (wr.drew.alloc (.cells #[.int .u8 (h0 : Nat), .int .u8 (h1 : Nat)] 5)) := (Fr.drew1 [] wr).alloc _
   have ownA := ownsRow_fr H.out.1.own fr0 (by simp)
   have cA : Cs (wr.drew.alloc (.cells #[.int .u8 (h0 : Nat), .int .u8 (h1 : Nat)] 5)) (some ⟨wr.drew.heap.size, 0, none⟩) ((hex2 b).map bv) := by
    rw [HCL.out]
    exact .inr ⟨wr.drew.heap.size, 0, rfl, fun j u hj => by rw [cell_of (alloc_at wr.drew _)]; simpa using hj⟩
   refine mix_eff rfl ?_
   intro X hX
   refine wp_append sliceU8 _ _ rfl (.slice a out.length c) out.length (out.map bv) S rfl (by rw [own_blk, HS.out]) ownA (some ⟨wr.drew.heap.size, 0, none⟩) 2 2 ((hex2 b).map bv) rfl (by decide) (by simp) cA (by rfl) (bv_one _) (by omega) (by unfold maxLen; omega) ?_
   intro a2 c2 w2 A1
   refine hX.out _ _ A1.fr ?_
   clear hX X
   refine mix_nil ?_
   have HA := Lib.hid (And.intro fr0 A1)
   clear fr0 A1 ownA cA
   go_wp2
   go_roundg k
   case measure => omega
   case rel =>
    have A1 := HA.out.2
    rw [HS.out] at A1
    exact ⟨i + 1, a2, c2, out ++ hex2 b, by go_num, by rw [List.length_append]; rfl, by omega, H.out.1.step2 HA.out.1 A1, by rw [HT.out, hexb_snoc, ← H.out.2.1]⟩
  ·obtain rfl : i = L := by omega
   obtain ⟨r1, _⟩ := rd_of_owns H.out.1.own
   have cv := run_conv wr Tryz.underlying23 Tryz.underlying5 Tryz.underlying9 (rfl : out.length = out.length) r1.cs
   have HO := Lib.hid (show out = hexb bs by rw [H.out.2.1, HI.out.2.1, List.take_length])
   clear r1
   go_wp2
   go_ret
   exact ⟨by rw [← HO.out]; rfl, H.out.1.fr⟩
end Go.Proofs.YtkmpfgpfbmeihaaGreatDoor.pk
namespace Go.Proofs.YtkmpfgpfbmeihaaGreatDoor.crc
open Go Go.RowKit lib
def getb (bs : List UInt8) : Nat := bs.foldl (fun n b => 256 * n + b.toNat) 0
theorem getb_le (bs : List UInt8) : getb bs < 256 ^ bs.length := by
 have : ∀ (bs : List UInt8) (n k : Nat), n < 256 ^ k → bs.foldl (fun n b => 256 * n + b.toNat) n < 256 ^ (k + bs.length) := by
  intro bs
  induction bs with
  | nil => intro n k h; exact h
  | cons b t ih =>
   intro n k h
   rw [List.foldl_cons, List.length_cons, show k + (t.length + 1) = (k + 1) + t.length by omega]
   refine ih _ _ ?_
   have := UInt8.toNat_lt b
   rw [Nat.pow_succ]
   omega
 have h := this bs 0 0 (by decide)
 rwa [Nat.zero_add] at h
set_option maxHeartbeats 2000000 in
theorem rget_any (a : Option Addr) (cap : Nat) (bs : List UInt8) (w : World) (h : lib.Rd w a cap bs) (hlen : bs.length ≤ 4) : Calls Tryz.prog 53 #[.slice a bs.length cap] w fun e w' => e = .returned (.int .u64 (getb bs : Nat)) ∧ Fr [] w w' := by
 obtain ⟨L, hL⟩ : ∃ L, L = bs.length := ⟨_, rfl⟩
 have hl4 : L ≤ 4 := by omega
 have HI := Lib.hid (And.intro h hL)
 rw [← hL]
 clear h hL hlen
 go_enter Tryz.func53, Tryz.ntmps53
 go_wp2
 go_loopg [3, 4] L (fun k s3 s4 wr => ∃ i n : Nat, s4 = .int .i64 (i : Nat) ∧ s3 = .int .u64 (n : Nat) ∧ i + k = L ∧ n = getb (bs.take i) ∧ Fr [] w wr)
 case atStart => exact ⟨0, 0, rfl, rfl, by omega, rfl, Fr.refl _ _⟩
 case round =>
  obtain ⟨i, n, rfl, rfl, hik, he, hf⟩ := hrel
  have hn : n < 4294967296 := by
   have h1 := getb_le (bs.take i)
   rw [← he] at h1
   have h2 : 256 ^ (bs.take i).length ≤ 256 ^ 4 := Nat.pow_le_pow_right (by decide) (by rw [List.length_take]; omega)
   have h3 : 256 ^ 4 = 4294967296 := by decide
   omega
  have H := Lib.hid (And.intro he hf)
  clear he hf
  by_cases hi : i < L
  ·obtain ⟨k, rfl⟩ : ∃ k, gk = k + 1 := ⟨gk - 1, by omega⟩
   have hil : i < bs.length := by rw [← HI.out.2]; exact hi
   obtain ⟨g, o, rfl, hc⟩ := (HI.out.1.fr H.out.2).at hil
   have hT : getb (bs.take (i + 1)) = 256 * n + bs[i].toNat := by
    unfold getb at *
    rw [List.take_succ_eq_append_getElem hil, List.foldl_append, H.out.1]; rfl
   have hb := UInt8.toNat_lt bs[i]
   generalize bs[i].toNat = b at *
   have HT := Lib.hid hT
   clear hT hil
   go_wp2
   go_roundg k
   case measure => omega
   case rel => exact ⟨i + 1, 256 * n + b, by go_num, by go_num, by omega, by rw [HT.out], H.out.2⟩
  ·obtain rfl : i = L := by omega
   have hg : getb bs = n := by rw [H.out.1, HI.out.2, List.take_length]
   have HG := Lib.hid hg
   clear hg
   go_wp2
   go_ret
   exact ⟨by rw [HG.out]; rfl, H.out.2⟩
end Go.Proofs.YtkmpfgpfbmeihaaGreatDoor.crc
namespace Go.Proofs.YtkmpfgpfbmeihaaGreatDoor.sha
open Go Go.RowKit lib
def rol (x : Int) (n : Nat) : Int := bits .or .u32 (x * 2 ^ n % 4294967296) (x / 2 ^ (32 - n))
def add32 (a b : Int) : Int := (a + b) % 4294967296
def not32 (a : Int) : Int := bits .xor .u32 IntKind.u32.max a
def ch (b c d : Int) : Int := bits .or .u32 (bits .and .u32 b c) (bits .and .u32 (not32 b) d)
def par (b c d : Int) : Int := bits .xor .u32 (bits .xor .u32 b c) d
def maj (b c d : Int) : Int := bits .or .u32 (bits .or .u32 (bits .and .u32 b c) (bits .and .u32 b d)) (bits .and .u32 c d)
def fsel (q : Nat) (b c d : Int) : Int := match q with
 | 0 => ch b c d
 | 1 => par b c d
 | 2 => maj b c d
 | _ => par b c d
def ksel (q : Nat) : Int := match q with
 | 0 => 1518500249
 | 1 => 1859775393
 | 2 => 2400959708
 | _ => 3395469782
def word (p : List UInt8) (i : Nat) : Int := (((p[i]?.getD 0).toNat * 16777216 + (p[i + 1]?.getD 0).toNat * 65536 + (p[i + 2]?.getD 0).toNat * 256 + (p[i + 3]?.getD 0).toNat : Nat) : Int)
def sched (p : List UInt8) : Nat → List Int
 | 0 => []
 | t + 1 => sched p t ++ [if t < 16 then word p (4 * t) else rol (bits .xor .u32 (bits .xor .u32 (bits .xor .u32 ((sched p t)[t - 3]?.getD 0) ((sched p t)[t - 8]?.getD 0)) ((sched p t)[t - 14]?.getD 0)) ((sched p t)[t - 16]?.getD 0)) 1]
theorem sched_length (p : List UInt8) : ∀ t, (sched p t).length = t
 | 0 => rfl
 | t + 1 => by rw [sched, List.length_append, sched_length p t]; rfl
theorem sched_get (p : List UInt8) (i : Nat) : ∀ t, i < t → (sched p t)[i]? = (sched p (i + 1))[i]?
 | 0, h => by omega
 | t + 1, h => by
  by_cases e : i = t
  ·rw [e]
  ·rw [← sched_get p i t (by omega)]
   conv => lhs; rw [sched]
   rw [List.getElem?_append_left (by rw [sched_length]; omega)]
structure H5 where
 a : Int
 b : Int
 c : Int
 d : Int
 e : Int
def round (p : List UInt8) (t : Nat) (s : H5) : H5 :=
 ⟨add32 (add32 (add32 (add32 (rol s.a 5) (fsel (t / 20) s.b s.c s.d)) s.e) (ksel (t / 20))) ((sched p 80)[t]?.getD 0), s.a, rol s.b 30, s.c, s.d⟩
def rounds (p : List UInt8) : Nat → H5 → H5
 | 0, s => s
 | t + 1, s => round p t (rounds p t s)
def mixH (h : H5) (p : List UInt8) : H5 :=
 ⟨add32 h.a (rounds p 80 h).a, add32 h.b (rounds p 80 h).b, add32 h.c (rounds p 80 h).c, add32 h.d (rounds p 80 h).d, add32 h.e (rounds p 80 h).e⟩
def H5.vals (h : H5) : Array Value := #[.int .u32 h.a, .int .u32 h.b, .int .u32 h.c, .int .u32 h.d, .int .u32 h.e]
def h0 : H5 := ⟨1732584193, 4023233417, 2562383102, 271733878, 3285377520⟩
def blocks : Nat → H5 → List UInt8 → H5
 | 0, h, _ => h
 | f + 1, h, p => if 64 ≤ p.length then blocks f (mixH h p) (p.drop 64) else h
end Go.Proofs.YtkmpfgpfbmeihaaGreatDoor.sha
namespace Go.Proofs.YtkmpfgpfbmeihaaGreatDoor.sums
open Go Go.RowKit lib bm
def be4 (x : Nat) : List UInt8 := [UInt8.ofNat (x / 16777216), UInt8.ofNat (x / 65536), UInt8.ofNat (x / 256), UInt8.ofNat x]
theorem be4_length (x : Nat) : (be4 x).length = 4 := rfl
theorem be4_map (x : Nat) (h : x < 4294967296) : (be4 x).map bv = [.int .u8 ((x : Int) / 16777216), .int .u8 ((x : Int) / 65536 % 256), .int .u8 ((x : Int) / 256 % 256), .int .u8 ((x : Int) % 256)] := by
 simp only [be4, List.map_cons, List.map_nil, bv, UInt8.toNat_ofNat']
 refine List.cons_eq_cons.2 ⟨int_eq (by omega), List.cons_eq_cons.2 ⟨int_eq (by omega), List.cons_eq_cons.2 ⟨int_eq (by omega), List.cons_eq_cons.2 ⟨int_eq (by omega), rfl⟩⟩⟩⟩
theorem be4_num (x : Nat) (h : x < 4294967296) (b : List UInt8) (hb : b = be4 x) : (b[0]?.getD 0).toNat * 16777216 + (b[1]?.getD 0).toNat * 65536 + (b[2]?.getD 0).toNat * 256 + (b[3]?.getD 0).toNat = x := by
 subst hb
 show (UInt8.ofNat (x / 16777216)).toNat * 16777216 + (UInt8.ofNat (x / 65536)).toNat * 65536 + (UInt8.ofNat (x / 256)).toNat * 256 + (UInt8.ofNat x).toNat = x
 simp only [UInt8.toNat_ofNat']
 omega
def Foured (w : World) (ao : Option Addr) (bs : List UInt8) (x : Nat) (e : Ending) (w' : World) : Prop :=
 ∃ a c, e = .returned (.slice a (bs.length + 4) c) ∧ OwnMore w w' 5 ao a c ((bs ++ be4 x).map bv)
set_option maxHeartbeats 1000000 in
theorem four_any (ao : Option Addr) (cap : Nat) (bs : List UInt8) (x : Nat) (w : World) (hx : x < 4294967296) (h : Own w 5 ao cap (bs.map bv)) (hm : bs.length ≤ 140737488351232) :
  Calls Tryz.prog 119 #[.slice ao bs.length cap, .int .u32 x] w (Foured w ao bs x) := by
 obtain ⟨L, hL⟩ : ∃ L, L = bs.length := ⟨_, rfl⟩
 obtain ⟨o1, o2, o3⟩ := h.shape
 rw [List.length_map, ← hL] at o1
 rw [← hL] at hm ⊢
 have hb4 := be4_map x hx
 have H := Lib.hid (And.intro h (And.intro hL hb4))
 have f1 : Fr [] w (w.alloc (.cells #[.int .u8 ((x : Int) / 16777216), .int .u8 ((x : Int) / 65536 % 256), .int .u8 ((x : Int) / 256 % 256), .int .u8 ((x : Int) % 256)] 5)) := (Fr.refl [] w).alloc _
 have HF := Lib.hid f1
 clear h hL hb4 f1
 go_enter Tryz.func119, Tryz.ntmps119
 go_wp2_with (refine wpList_append_mid sliceU8 rfl _ _ rfl ao L cap (bs.map bv) rfl (H.out.1.fr HF.out (by simp)) (by rw [List.length_map]; exact H.out.2.1.symm) (some ⟨w.heap.size, 0, none⟩) 4 4 ((be4 x).map bv) rfl (by omega) (by simp) (by rw [H.out.2.2]; exact cs_new w _ _ _) rfl (bv_one _) (by omega) (by unfold maxLen; omega) ?_; intro a1 c1 w1 A1; have H1 := Lib.hid A1; clear A1)
 go_ret
 unfold Foured
 rw [← H.out.2.1, List.map_append]
 refine ⟨a1, c1, rfl, H1.out.own, HF.out.mono (by simp) |>.step H1.out.fr (fun y hy => .inl hy), fun y hy => ?_⟩
 rcases H1.out.at_ y hy with k | k
 ·exact .inl k
 ·right
  rw [World.size_alloc] at k
  omega
theorem or_hi (n v k : Nat) (hv : v < 2 ^ k) (hk : k ≤ 32) (hn : n < 4294967296) (hd : n % 2 ^ k = 0) : bits .or .u32 (n : Int) (v : Int) = ((n + v : Nat) : Int) := by
 have h1 := pow_le k 32 hk
 rw [p32] at h1
 have e : n = n / 2 ^ k * 2 ^ k := by
  have := Nat.div_add_mod n (2 ^ k)
  rw [hd, Nat.add_zero, Nat.mul_comm] at this
  exact this.symm
 rw [u32_or_nat n v hn (by omega)]
 conv => lhs; rw [e, Nat.or_comm, or_add v _ k hv, Nat.mul_comm (2 ^ k), ← e, Nat.add_comm]
set_option maxHeartbeats 1000000 in
theorem number_four (a : Option Addr) (cap : Nat) (y0 y1 y2 y3 : UInt8) (w : World) (h : Rd w a cap [y0, y1, y2, y3]) :
  Calls Tryz.prog 111 #[.slice a 4 cap] w fun e w' => e = .returned (.int .u32 (y0.toNat * 16777216 + y1.toNat * 65536 + y2.toNat * 256 + y3.toNat : Nat)) ∧ Fr [] w w' := by
 obtain ⟨g, o, rfl, c0⟩ := h.at (i := 0) (by simp)
 obtain ⟨g1, o1, e1, c1⟩ := h.at (i := 1) (by simp)
 obtain ⟨g2, o2, e2, c2⟩ := h.at (i := 2) (by simp)
 obtain ⟨g3, o3, e3, c3⟩ := h.at (i := 3) (by simp)
 simp only [Option.some.injEq, Addr.mk.injEq, and_true] at e1 e2 e3
 obtain ⟨rfl, rfl⟩ := e1
 obtain ⟨rfl, rfl⟩ := e2
 obtain ⟨rfl, rfl⟩ := e3
 have hle := h.le
 simp only [List.length_cons, List.length_nil] at hle
 have l0 := UInt8.toNat_lt y0
 have l1 := UInt8.toNat_lt y1
 have l2 := UInt8.toNat_lt y2
 have l3 := UInt8.toNat_lt y3
 simp only [Nat.add_zero, List.getElem_cons_zero, List.getElem_cons_succ] at c0 c1 c2 c3
 generalize y0.toNat = x0 at *
 generalize y1.toNat = x1 at *
 generalize y2.toNat = x2 at *
 generalize y3.toNat = x3 at *
 obtain ⟨z1, hz1⟩ : ∃ z, z = x0 * 16777216 + x1 * 65536 := ⟨_, rfl⟩
 obtain ⟨z2, hz2⟩ : ∃ z, z = z1 + x2 * 256 := ⟨_, rfl⟩
 obtain ⟨z3, hz3⟩ : ∃ z, z = z2 + x3 := ⟨_, rfl⟩
 have r1 : bits .or .u32 ((x0 : Int) * 16777216) ((x1 : Int) * 65536) = (z1 : Int) := by
  have := or_hi (x0 * 16777216) (x1 * 65536) 24 (by omega) (by decide) (by omega) (by omega)
  rw [← hz1] at this
  simpa using this
 have r2 : bits .or .u32 (z1 : Int) ((x2 : Int) * 256) = (z2 : Int) := by
  have := or_hi z1 (x2 * 256) 16 (by omega) (by decide) (by omega) (by omega)
  rw [← hz2] at this
  simpa using this
 have r3 : bits .or .u32 (z2 : Int) (x3 : Int) = (z3 : Int) := by
  have := or_hi z2 x3 8 (by omega) (by decide) (by omega) (by omega)
  rw [← hz3] at this
  exact this
 have HZ : Hid (x0 * 16777216 + x1 * 65536 + x2 * 256 + x3 = z3) := Lib.hid (by omega)
 clear hz1 hz2 hz3 h
 go_enter Tryz.func111, Tryz.ntmps111
 go_wp2
 go_quiet (fail)
 go_wp2
 go_ret
 exact ⟨by rw [HZ.out]; rfl, Fr.drewN _ _ _⟩
theorem number_any (a : Option Addr) (cap x : Nat) (w : World) (hx : x < 4294967296) (h : Rd w a cap (be4 x)) :
  Calls Tryz.prog 111 #[.slice a 4 cap] w fun e w' => e = .returned (.int .u32 x) ∧ Fr [] w w' := by
 have h1 := number_four a cap _ _ _ _ w h
 have h2 := be4_num x hx _ rfl
 have e : (UInt8.ofNat (x / 16777216)).toNat * 16777216 + (UInt8.ofNat (x / 65536)).toNat * 65536 + (UInt8.ofNat (x / 256)).toNat * 256 + (UInt8.ofNat x).toNat = x := h2
 rw [e] at h1
 exact h1
set_option maxHeartbeats 1000000 in
theorem sum_adler (g a b : Nat) (w : World) (h : Ad w g a b) : Calls Tryz.prog 96 #[.pointer (some ⟨g, 0, none⟩)] w fun e w' => (∃ ao c, e = .returned (.slice ao 4 c) ∧ Rd w' ao c (be4 (b * 65536 + a))) ∧ Fr [] w w' := by
 obtain ⟨C, hC, hsz, hc0, ha, hb, hla, hlb⟩ := h
 have c0 := cell_of hC 0
 have c1 := cell_of hC 265
 have c2 := cell_of hC 266
 rw [hc0] at c0
 rw [ha] at c1
 rw [hb] at c2
 obtain ⟨z, hz⟩ : ∃ z, z = b * 65536 + a := ⟨_, rfl⟩
 have r1 : bits .or .u32 ((b : Int) * 65536) (a : Int) = (z : Int) := by
  have := or_hi (b * 65536) a 16 (by omega) (by decide) (by omega) (by omega)
  rw [← hz] at this
  simpa using this
 have hzl : z < 4294967296 := by omega
 rw [← hz]
 have HC := Lib.hid hC
 clear hz hC hsz hc0 ha hb
 go_enter Tryz.func96, Tryz.ntmps96
 go_upto_region 5 with fail
 have hgl := lt_of_block HC.out
 obtain ⟨B, hB⟩ : ∃ B, B = w.heap.size := ⟨_, rfl⟩
 have hgB : g ∉ [B] := by simp; omega
 have s1 : ∀ x, (sup [B] w.drew x).cell? ⟨g, 265, none⟩ = some (.int .u32 (a : Nat)) := fun x => (sup_fr [B] w.drew x).cell (show w.drew.cell? _ = _ from c1) hgB
 have s2 : ∀ x, (sup [B] w.drew x).cell? ⟨g, 266, none⟩ = some (.int .u32 (b : Nat)) := fun x => (sup_fr [B] w.drew x).cell (show w.drew.cell? _ = _ from c2) hgB
 have hmk : ∀ w : World, (Instr.makeSlice 23 (.int .i64 0) (.int .i64 4)).run Tryz.prog w = .ok (.slice (some ⟨w.heap.size, 0, none⟩) 0 4) (w.alloc (.cells #[.int .u8 0, .int .u8 0, .int .u8 0, .int .u8 0] 5)) := fun _ => by kernel_rfl
 have hfo : ∀ w, Own w 5 (some ⟨B, 0, none⟩) 4 (([] : List UInt8).map bv) → Calls Tryz.prog 119 #[.slice (some ⟨B, 0, none⟩) 0 4, .int .u32 z] w (Foured w (some ⟨B, 0, none⟩) [] z) := fun w h => four_any (some ⟨B, 0, none⟩) 4 [] z w hzl h (by simp)
 unfold Foured at hfo
 simp only [List.length_nil, Nat.zero_add, List.nil_append] at hfo
 have HB := Lib.hid (And.intro hB hfo)
 clear hB hfo c0 c1 c2
 refine region_mix 13 [(false, 1), (false, 2), (false, 3), (false, 4), (false, 5), (false, 6), (false, 7), (false, 8), (false, 9), (false, 10), (true, 0), (true, 11), (false, 12)] [B] (by kernel_rfl) (by kernel_rfl) (fun _ _ d _ _ h => by cases d <;> exact h) ?_
 simp only [List.map_cons, List.map_nil, List.getD_cons_zero, List.getD_cons_succ, List.drop_succ_cons, List.drop_zero, List.drop_nil]
 refine mix_seg 10 rfl ?_
 simp only [List.take_succ_cons, List.take_zero, List.drop_succ_cons, List.drop_zero, List.map_cons, List.map_nil]
 repeat (go_big_quiet_step (fail))
 refine wpQuiet_nil ?_
 refine mix_eff rfl ?_
 intro X hX
 have hBd : w.drew.heap.size = B := HB.out.1.symm
 go_wp2
 have f1 : Fr [B] w.drew ((w.alloc (.cells #[.int .u8 0, .int .u8 0, .int .u8 0, .int .u8 0] 5)).drew) := (Fr.refl [B] w.drew).alloc (.cells #[.int .u8 0, .int .u8 0, .int .u8 0, .int .u8 0] 5)
 have hown : Own ((w.alloc (.cells #[.int .u8 0, .int .u8 0, .int .u8 0, .int .u8 0] 5)).drew) 5 (some ⟨B, 0, none⟩) 4 (([] : List UInt8).map bv) := .inr ⟨B, 0, _, rfl, by rw [HB.out.1]; exact alloc_at w _, Nat.zero_le _, by decide, Nat.le_refl _, rfl⟩
 refine hX.out _ _ f1 ?_
 clear hX X s1 s2 hmk
 generalize (w.alloc (.cells #[.int .u8 0, .int .u8 0, .int .u8 0, .int .u8 0] 5)).drew = w1 at *
 have H1 := Lib.hid (And.intro (HB.out.2 w1 hown) f1)
 clear hown f1 hBd
 refine mix_eff rfl ?_
 intro X hX
 go_wp2_with (go_at_call 119; refine H1.out.1.mono ?_; rintro e w2 ⟨a2, c2, rfl, A2⟩)
 refine hX.out _ _ A2.fr ?_
 clear hX X
 have H2 := Lib.hid A2
 clear A2
 refine mix_seg 1 rfl ?_
 simp only [List.take_succ_cons, List.take_zero, List.drop_succ_cons, List.drop_zero, List.map_cons, List.map_nil]
 repeat (go_big_quiet_step (fail))
 refine wpQuiet_nil ?_
 refine mix_nil ?_
 go_wp2
 go_ret
 have hr : Rd w2 a2 c2 (be4 z) := H2.out.own.rd
 refine ⟨⟨a2, c2, rfl, hr.fr (by first | exact Fr.refl _ _ | exact Fr.drewN _ _ _)⟩, ?_⟩
 have f2 : Fr [] w w.drew := Fr.drew1 [] w
 exact ((f2.step H1.out.2 (fun y hy => .inr (by simp at hy; rw [hy, HB.out.1]; exact Nat.le_refl _))).step H2.out.fr (fun y hy => .inr (by simp [blk] at hy; rw [hy, HB.out.1]; exact Nat.le_refl _)))
set_option maxHeartbeats 1000000 in
theorem whole_adler (a : Option Addr) (cap : Nat) (bs : List UInt8) (w : World) (h : Rd w a cap bs) : Calls Tryz.prog 69 #[.int .i64 3, .slice a bs.length cap] w fun e w' => (∃ ao c, e = .returned (.slice ao 4 c) ∧ Rd w' ao c (be4 (adler bs))) ∧ Fr [] w w' := by
 have H := Lib.hid h
 clear h
 go_enter Tryz.func69, Tryz.ntmps69
 go_upto_region 2 with (go_at_call 106; refine (begun_three _).mono ?_; rintro e w1 ⟨rfl, A1, f1⟩)
 have hw := write_adler w.heap.size 1 0 cap a bs w1 A1 (H.out.fr f1) (fun hb x hx => by have := rd_lt H.out hb x hx; omega)
 have H1 := Lib.hid (And.intro hw f1)
 clear hw f1 A1
 go_upto_region 3 with (go_at_call 94; refine H1.out.1.mono ?_; rintro e w2 ⟨rfl, f2, A2⟩)
 have hs := sum_adler _ _ _ w2 A2
 have H2 := Lib.hid (And.intro hs f2)
 clear hs f2 A2
 go_wp2_with (go_at_call 96; refine H2.out.1.mono ?_; rintro e w3 ⟨⟨a3, c3, rfl, r3⟩, f3⟩)
 go_ret
 exact ⟨⟨a3, c3, rfl, r3⟩, (H1.out.2.step H2.out.2 (fun y hy => .inr (by simp at hy; rw [hy]; exact Nat.le_refl _))).trans f3⟩
theorem adler_any (a : Option Addr) (cap : Nat) (bs : List UInt8) (w : World) (h : Rd w a cap bs) : Calls Tryz.prog 104 #[.slice a bs.length cap] w fun e w' => e = .returned (.int .u32 (adler bs)) ∧ Fr [] w w' := by
 have hw := whole_adler a cap bs w h
 have hn := fun a cap w h => number_any a cap (adler bs) w (adler_lt bs) h
 have H := Lib.hid (And.intro hw hn)
 clear hw hn h
 go_enter Tryz.func104, Tryz.ntmps104
 go_wp2_with (first | (go_at_call 69; refine H.out.1.mono ?_; rintro e w1 ⟨⟨a1, c1, rfl, r1⟩, f1⟩; have H1 := Lib.hid (And.intro r1 f1); clear r1 f1) | (go_at_call 111; refine (H.out.2 a1 c1 _ H1.out.1).mono ?_; rintro e w2 ⟨rfl, f2⟩))
 go_ret
 exact ⟨rfl, H1.out.2.trans f2⟩
end Go.Proofs.YtkmpfgpfbmeihaaGreatDoor.sums
namespace Go.Proofs.YtkmpfgpfbmeihaaGreatDoor.sha
open Go Go.RowKit lib
theorem rotate_any (x : Int) (n : Nat) (w : World) (hn : n = 1 ∨ n = 5 ∨ n = 30) :
  Calls Tryz.prog 147 #[.int .u32 x, .int .i64 n] w fun e w' => e = .returned (.int .u32 (rol x n)) ∧ w' = w := by
 have h31 : bits .and .u64 (n : Int) 31 = (n : Int) := by rcases hn with rfl | rfl | rfl <;> decide +kernel
 have h0 : 1 ≤ n ∧ n ≤ 30 := by omega
 clear hn
 go_enter Tryz.func147, Tryz.ntmps147
 go_wp2
 go_ret
 exact ⟨rfl, rfl⟩
theorem par_any (b c d : Int) (w : World) : Calls Tryz.prog 178 #[.int .u32 b, .int .u32 c, .int .u32 d] w fun e w' => e = .returned (.int .u32 (par b c d)) ∧ w' = w := by
 go_enter Tryz.func178, Tryz.ntmps178
 go_wp2
 go_ret
 exact ⟨rfl, rfl⟩
theorem ch_any (b c d : Int) (w : World) : Calls Tryz.prog 179 #[.int .u32 b, .int .u32 c, .int .u32 d] w fun e w' => e = .returned (.int .u32 (ch b c d)) ∧ w' = w := by
 go_enter Tryz.func179, Tryz.ntmps179
 go_wp2
 go_ret
 exact ⟨rfl, rfl⟩
theorem maj_any (b c d : Int) (w : World) : Calls Tryz.prog 180 #[.int .u32 b, .int .u32 c, .int .u32 d] w fun e w' => e = .returned (.int .u32 (maj b c d)) ∧ w' = w := by
 go_enter Tryz.func180, Tryz.ntmps180
 go_wp2
 go_ret
 exact ⟨rfl, rfl⟩
def fns : Array Value := #[.func (.func 179) #[] #[], .func (.func 178) #[] #[], .func (.func 180) #[] #[], .func (.func 178) #[] #[]]
def kns : Array Value := #[.int .u32 1518500249, .int .u32 1859775393, .int .u32 2400959708, .int .u32 3395469782]
theorem steps_any (w : World) : Calls Tryz.prog 148 #[] w fun e w' => e = .returned (.tuple #[.agg fns, .agg kns]) ∧ Fr [] w w' := by
 go_enter Tryz.func148, Tryz.ntmps148
 go_wp2
 refine bodyPost_ret (v := .tuple #[.agg fns, .agg kns]) (by simp [results, Tryz.results148, go_sem, fns, kns]) rfl ?_
 exact ⟨rfl, ((Fr.refl [] w).alloc _).alloc _⟩
end Go.Proofs.YtkmpfgpfbmeihaaGreatDoor.sha
namespace Go.Proofs.YtkmpfgpfbmeihaaGreatDoor.sha
open Go Go.RowKit lib bm
def sv (p : List UInt8) (j : Nat) : Int := (sched p 80)[j]?.getD 0
theorem sv_at (p : List UInt8) (j t : Nat) (h : j < t) (ht : t ≤ 80) : (sched p t)[j]?.getD 0 = sv p j := by
 unfold sv
 rw [sched_get p j t h, sched_get p j 80 (by omega)]
theorem sv_lo (p : List UInt8) (j : Nat) (h : j < 16) : sv p j = word p (4 * j) := by
 rw [← sv_at p j (j + 1) (by omega) (by omega), sched, List.getElem?_append_right (by rw [sched_length]; exact Nat.le_refl _), sched_length, Nat.sub_self]
 simp [h]
theorem sv_hi (p : List UInt8) (j : Nat) (h : 16 ≤ j) (h2 : j < 80) : sv p j = rol (bits .xor .u32 (bits .xor .u32 (bits .xor .u32 (sv p (j - 3)) (sv p (j - 8))) (sv p (j - 14))) (sv p (j - 16))) 1 := by
 rw [← sv_at p j (j + 1) (by omega) (by omega), sched, List.getElem?_append_right (by rw [sched_length]; exact Nat.le_refl _), sched_length, Nat.sub_self]
 rw [sv_at p (j - 3) j (by omega) (by omega), sv_at p (j - 8) j (by omega) (by omega), sv_at p (j - 14) j (by omega) (by omega), sv_at p (j - 16) j (by omega) (by omega)]
 simp [show ¬ j < 16 from by omega]
structure Mx (w wr : World) (h : H5) (p : List UInt8) (B t : Nat) : Prop where
 fr : Fr [] w wr
 hb : wr.heap[B]? = some (.cells h.vals 185 (0, 0))
 rb : wr.heap[B + 1]? = some (.cells #[.int .u32 0, .int .u32 0, .int .u32 0, .int .u32 0, .int .u32 0] 185 (0, 0))
 wb : ∃ A, wr.heap[B + 2]? = some (.cells A 228 (0, 0)) ∧ A.size = 80 ∧ ∀ j, j < t → A[j]? = some (.int .u32 (sv p j))
 lo : w.heap.size = B
theorem Mx.store {w wr wd : World} {h : H5} {p : List UInt8} {B t : Nat} (m : Mx w wr h p B t) (f : Fr [] wr wd) (ht : t < 80) (v : Int) (hv : v = sv p t) : Mx w (wd.setCell ⟨B + 2, t, none⟩ (.int .u32 v)) h p B (t + 1) := by
 obtain ⟨A, hA, hAs, hAt⟩ := m.wb
 have f2 : Fr [B + 2] wd (wd.setCell ⟨B + 2, t, none⟩ (.int .u32 v)) := (Fr.refl [B + 2] wd).setCell (by simp) _
 refine ⟨(m.fr.trans f).step f2 fun y hy => .inr (by simp at hy; have := m.lo; omega), f2.blk (f.blk m.hb (by simp)) (by simp), f2.blk (f.blk m.rb (by simp)) (by simp), ⟨_, setCell_of (f.blk hA (by simp)) _, by simp [hAs], fun j hj => ?_⟩, m.lo⟩
 by_cases e : j = t
 ·subst e
  rw [Array.getElem?_setIfInBounds_self_of_lt (by omega), hv]
 ·rw [Array.getElem?_setIfInBounds_ne (by omega)]
  exact hAt j (by omega)
theorem Mx.fr0 {w wr wd : World} {h : H5} {p : List UInt8} {B t : Nat} (m : Mx w wr h p B t) (f : Fr [] wr wd) : Mx w wd h p B t := by
 obtain ⟨A, hA, hAs, hAt⟩ := m.wb
 exact ⟨m.fr.trans f, f.blk m.hb (by simp), f.blk m.rb (by simp), ⟨A, f.blk hA (by simp), hAs, hAt⟩, m.lo⟩
theorem put5 {wz : World} {R : Nat} {t : TypeId} {u0 u1 u2 u3 u4 : Value} (hb : wz.heap[R]? = some (.cells #[u0, u1, u2, u3, u4] t (0, 0))) (v0 v1 v2 v3 v4 : Value) :
  (((((wz.setCell ⟨R, 0, none⟩ v0).setCell ⟨R, 1, none⟩ v1).setCell ⟨R, 2, none⟩ v2).setCell ⟨R, 3, none⟩ v3).setCell ⟨R, 4, none⟩ v4).heap[R]? = some (.cells #[v0, v1, v2, v3, v4] t (0, 0)) ∧
   Fr [R] wz (((((wz.setCell ⟨R, 0, none⟩ v0).setCell ⟨R, 1, none⟩ v1).setCell ⟨R, 2, none⟩ v2).setCell ⟨R, 3, none⟩ v3).setCell ⟨R, 4, none⟩ v4) :=
 ⟨(setCell_of (setCell_of (setCell_of (setCell_of (setCell_of hb _) _) _) _) _).trans rfl, (((((Fr.refl [R] wz).setCell (by simp) _).setCell (by simp) _).setCell (by simp) _).setCell (by simp) _).setCell (by simp) _⟩
theorem info5 : (Tryz.prog.info? 185).map (·.size) = some 5 := by kernel_rfl
theorem results_five {fn : Func} {p : Tmp} (h : fn.results = #[.cell p 185]) (tmps : Array Value) (w : World) (g : Nat) (cs : Array Value) (fr : Nat × Nat)
  (hp : tmps.getD p undef = .pointer (some ⟨g, 0, none⟩)) (hg : w.heap[g]? = some (.cells cs 185 fr)) (hs : cs.size = 5) : (results fn tmps).run Tryz.prog w = .ok (.agg cs) w :=
 results_cell_row h tmps w g 185 cs fr _ hp hg Tryz.underlying185 rfl (by rw [info5, hs])
set_option maxHeartbeats 8000000 in
theorem mix_any (h : H5) (a : Option Addr) (len cap : Nat) (p : List UInt8) (w : World) (hr : Rd w a cap p) (hlen : p.length = len) (h64 : 64 ≤ len) :
  Calls Tryz.prog 117 #[.agg h.vals, .slice a len cap] w fun e w' => e = .returned (.agg (mixH h p).vals) ∧ Fr [] w w' := by
 have hle := hr.le
 have hmax := hr.max
 unfold maxLen at hmax
 rw [hlen] at hle
 obtain ⟨g, o, rfl⟩ : ∃ g o, a = some ⟨g, o, none⟩ := by
  obtain ⟨g, o, e, _⟩ := hr.at (i := 0) (by omega)
  exact ⟨g, o, e⟩
 have H := Lib.hid (And.intro hr hlen)
 clear hr hlen
 unfold H5.vals
 go_enter Tryz.func117, Tryz.ntmps117
 go_upto_block 0 with fail
 obtain ⟨B, w1, hB, hw1, hm⟩ : ∃ B w1, B = w.heap.size ∧ w1 = ((w.alloc (.cells #[.int .u32 h.a, .int .u32 h.b, .int .u32 h.c, .int .u32 h.d, .int .u32 h.e] 185)).alloc (.cells #[.int .u32 0, .int .u32 0, .int .u32 0, .int .u32 0, .int .u32 0] 185)).alloc (.cells Tryz.zeroCells228 228) ∧ Mx w w1 h p B 0 := by
  refine ⟨_, _, rfl, rfl, (((Fr.refl [] w).alloc _).alloc _).alloc _, alloc_old _ (alloc_old _ (alloc_at w _)), alloc_old _ (by have := alloc_at (w.alloc (.cells #[.int .u32 h.a, .int .u32 h.b, .int .u32 h.c, .int .u32 h.d, .int .u32 h.e] 185)) (.cells #[.int .u32 0, .int .u32 0, .int .u32 0, .int .u32 0, .int .u32 0] 185); rw [World.size_alloc] at this; exact this), ⟨_, by have := alloc_at ((w.alloc (.cells #[.int .u32 h.a, .int .u32 h.b, .int .u32 h.c, .int .u32 h.d, .int .u32 h.e] 185)).alloc (.cells #[.int .u32 0, .int .u32 0, .int .u32 0, .int .u32 0, .int .u32 0] 185)) (.cells Tryz.zeroCells228 228); rw [World.size_alloc, World.size_alloc] at this; exact this, by kernel_rfl, fun j hj => by omega⟩, rfl⟩
 rw [← hw1, show w.heap.size + 1 + 1 = B + 2 from by omega, ← hB]
 have HM := Lib.hid (And.intro hm (And.intro hB hw1))
 clear hm hB hw1
 go_wp2
 go_loopg [6, 17] 16 (fun k s6 s17 wr => ∃ t : Nat, s17 = .int .i64 (t : Nat) ∧ t + k = 16 ∧ Mx w wr h p B t)
 case atStart => exact ⟨0, rfl, rfl, HM.out.1⟩
 case round =>
  obtain ⟨t, rfl, htk, hm⟩ := hrel
  by_cases ht : t < 16
  ·obtain ⟨k, rfl⟩ : ∃ k, gk = k + 1 := ⟨gk - 1, by omega⟩
   have HMM := Lib.hid hm
   clear hm
   go_upto_region 5 with fail
   have hm := HMM.out
   obtain ⟨A, hA, hAs, hAt⟩ := hm.wb
   have zA := frozen_of hA t
   obtain ⟨x0, hx0⟩ : ∃ x, wr.cell? ⟨B + 2, t, none⟩ = some x := ⟨A[t]'(by omega), by rw [cell_of hA]; exact Array.getElem?_eq_getElem (by omega)⟩
   obtain ⟨m0, hm0⟩ : ∃ m, m = 4 * t := ⟨_, rfl⟩
   obtain ⟨m1, hm1⟩ : ∃ m, m = m0 + 1 := ⟨_, rfl⟩
   obtain ⟨m2, hm2⟩ : ∃ m, m = m0 + 2 := ⟨_, rfl⟩
   obtain ⟨m3, hm3⟩ : ∃ m, m = m0 + 3 := ⟨_, rfl⟩
   have e0 : (4 : Int) * (t : Int) = (m0 : Int) := by omega
   have e1 : (m0 : Int) + 1 = (m1 : Int) := by omega
   have e2 : (m0 : Int) + 2 = (m2 : Int) := by omega
   have e3 : (m0 : Int) + 3 = (m3 : Int) := by omega
   have w0 : IntKind.i64.wrap ((4 : Int) * (t : Int)) = (m0 : Int) := by rw [IntKind.wrap_i64]; omega
   have w1' : IntKind.i64.wrap ((m0 : Int) + 1) = (m1 : Int) := by rw [IntKind.wrap_i64]; omega
   have w2' : IntKind.i64.wrap ((m0 : Int) + 2) = (m2 : Int) := by rw [IntKind.wrap_i64]; omega
   have w3' : IntKind.i64.wrap ((m0 : Int) + 3) = (m3 : Int) := by rw [IntKind.wrap_i64]; omega
   have hpl := H.out.2
   have hrr := H.out.1.fr hm.fr
   have b0 : m0 < p.length := by omega
   have b1 : m1 < p.length := by omega
   have b2 : m2 < p.length := by omega
   have b3 : m3 < p.length := by omega
   obtain ⟨_, _, q0, X0⟩ := hrr.at b0
   obtain ⟨_, _, q1, X1⟩ := hrr.at b1
   obtain ⟨_, _, q2, X2⟩ := hrr.at b2
   obtain ⟨_, _, q3, X3⟩ := hrr.at b3
   simp only [Option.some.injEq, Addr.mk.injEq, and_true] at q0 q1 q2 q3
   obtain ⟨rfl, rfl⟩ := q0
   obtain ⟨rfl, rfl⟩ := q1
   obtain ⟨rfl, rfl⟩ := q2
   obtain ⟨rfl, rfl⟩ := q3
   have hw : word p m0 = ((p[m0].toNat * 16777216 + p[m1].toNat * 65536 + p[m2].toNat * 256 + p[m3].toNat : Nat) : Int) := by
    unfold word
    rw [← hm1, ← hm2, ← hm3, List.getElem?_eq_getElem b0, List.getElem?_eq_getElem b1, List.getElem?_eq_getElem b2, List.getElem?_eq_getElem b3]
    rfl
   have l0 := UInt8.toNat_lt p[m0]
   have l1 := UInt8.toNat_lt p[m1]
   have l2 := UInt8.toNat_lt p[m2]
   have l3 := UInt8.toNat_lt p[m3]
   generalize p[m0].toNat = y0 at *
   generalize p[m1].toNat = y1 at *
   generalize p[m2].toNat = y2 at *
   generalize p[m3].toNat = y3 at *
   obtain ⟨z1, hz1⟩ : ∃ z, z = y0 * 16777216 + y1 * 65536 := ⟨_, rfl⟩
   obtain ⟨z2, hz2⟩ : ∃ z, z = z1 + y2 * 256 := ⟨_, rfl⟩
   obtain ⟨z3, hz3⟩ : ∃ z, z = z2 + y3 := ⟨_, rfl⟩
   have r1 : bits .or .u32 ((y0 : Int) * 16777216) ((y1 : Int) * 65536) = (z1 : Int) := by
    have := sums.or_hi (y0 * 16777216) (y1 * 65536) 24 (by omega) (by decide) (by omega) (by omega)
    rw [← hz1] at this
    simpa using this
   have r2 : bits .or .u32 (z1 : Int) ((y2 : Int) * 256) = (z2 : Int) := by
    have := sums.or_hi z1 (y2 * 256) 16 (by omega) (by decide) (by omega) (by omega)
    rw [← hz2] at this
    simpa using this
   have r3 : bits .or .u32 (z2 : Int) (y3 : Int) = (z3 : Int) := by
    have := sums.or_hi z2 y3 8 (by omega) (by decide) (by omega) (by omega)
    rw [← hz3] at this
    exact this
   have HV : Hid ((z3 : Int) = sv p t) := Lib.hid (by rw [sv_lo p t ht, ← hm0, hw]; congr 1; omega)
   have i0 : (m0 : Int) < (len : Int) := by omega
   have i1 : (m1 : Int) < (len : Int) := by omega
   have i2 : (m2 : Int) < (len : Int) := by omega
   have i3 : (m3 : Int) < (len : Int) := by omega
   clear hm hA hAs hAt hrr hpl hw hz1 hz2 hz3 hm0 hm1 hm2 hm3 b0 b1 b2 b3
   refine region_tail 35 (by kernel_rfl) (by kernel_rfl) ?_
   simp only [List.take_succ_cons, List.take_zero, List.drop_succ_cons, List.drop_zero]
   repeat (go_big_quiet_step (fail))
   refine wpQuiet_nil ?_
   clear X0 X1 X2 X3 w0 w1' w2' w3' r1 r2 r3 e0 e1 e2 e3
   go_wp2
   go_roundg k
   case measure => omega
   case rel => exact ⟨t + 1, by go_num, by omega, HMM.out.store (Fr.drew1 [] wr) (by omega) _ HV.out⟩
  ·obtain rfl : t = 16 := by omega
   obtain rfl : gk = 0 := by omega
   have HM1 := Lib.hid hm
   clear hm
   obtain ⟨w2, rfl⟩ : ∃ w2 : World, w2 = wr := ⟨_, rfl⟩
   go_upto_block 2 with fail
   go_wp2
   go_loopg [7] 64 (fun k s7 wr => ∃ t : Nat, s7 = .int .i64 (t : Nat) ∧ t + k = 80 ∧ 16 ≤ t ∧ Mx w wr h p B t)
   case atStart => exact ⟨16, rfl, rfl, by omega, HM1.out⟩
   case round =>
    obtain ⟨t, rfl, htk, ht16, hm⟩ := hrel
    have HMM := Lib.hid hm
    clear hm
    by_cases ht : t < 80
    ·obtain ⟨k, rfl⟩ : ∃ k, gk = k + 1 := ⟨gk - 1, by omega⟩
     go_upto_region 10 with fail
     have hm := HMM.out
     obtain ⟨A, hA, hAs, hAt⟩ := hm.wb
     have zA := frozen_of hA t
     obtain ⟨x0, hx0⟩ : ∃ x, wr.cell? ⟨B + 2, t, none⟩ = some x := ⟨A[t]'(by omega), by rw [cell_of hA]; exact Array.getElem?_eq_getElem (by omega)⟩
     obtain ⟨n3, hn3⟩ : ∃ m, m = t - 3 := ⟨_, rfl⟩
     obtain ⟨n8, hn8⟩ : ∃ m, m = t - 8 := ⟨_, rfl⟩
     obtain ⟨n14, hn14⟩ : ∃ m, m = t - 14 := ⟨_, rfl⟩
     obtain ⟨n16, hn16⟩ : ∃ m, m = t - 16 := ⟨_, rfl⟩
     have e3 : (t : Int) - 3 = (n3 : Int) := by omega
     have e8 : (t : Int) - 8 = (n8 : Int) := by omega
     have e14 : (t : Int) - 14 = (n14 : Int) := by omega
     have e16 : (t : Int) - 16 = (n16 : Int) := by omega
     have w3 : IntKind.i64.wrap ((t : Int) - 3) = (n3 : Int) := by rw [IntKind.wrap_i64]; omega
     have w8 : IntKind.i64.wrap ((t : Int) - 8) = (n8 : Int) := by rw [IntKind.wrap_i64]; omega
     have w14 : IntKind.i64.wrap ((t : Int) - 14) = (n14 : Int) := by rw [IntKind.wrap_i64]; omega
     have w16 : IntKind.i64.wrap ((t : Int) - 16) = (n16 : Int) := by rw [IntKind.wrap_i64]; omega
     have x3 := (cell_of hA n3).trans (hAt n3 (by omega))
     have x8 := (cell_of hA n8).trans (hAt n8 (by omega))
     have x14 := (cell_of hA n14).trans (hAt n14 (by omega))
     have x16 := (cell_of hA n16).trans (hAt n16 (by omega))
     have i3 : (n3 : Int) < 80 := by omega
     have i8 : (n8 : Int) < 80 := by omega
     have i14 : (n14 : Int) < 80 := by omega
     have i16 : (n16 : Int) < 80 := by omega
     have it : (t : Int) < 80 := by omega
     have hv := sv_hi p t ht16 ht
     rw [← hn3, ← hn8, ← hn14, ← hn16] at hv
     have HV := Lib.hid hv
     clear hm hA hAs hAt hn3 hn8 hn14 hn16 hv
     refine region_tail 22 (by kernel_rfl) (by kernel_rfl) ?_
     simp only [List.take_succ_cons, List.take_zero, List.drop_succ_cons, List.drop_zero]
     repeat (go_big_quiet_step (exact rotate_any _ 1 _ (.inl rfl) _))
     refine wpQuiet_nil ?_
     clear x3 x8 x14 x16 w3 w8 w14 w16 e3 e8 e14 e16
     go_wp2
     go_roundg k
     case measure => omega
     case rel => exact ⟨t + 1, by go_num, by omega, by omega, HMM.out.store (Fr.drew1 [] wr) ht _ HV.out.symm⟩
    ·obtain rfl : t = 80 := by omega
     obtain rfl : gk = 0 := by omega
     obtain ⟨w3, rfl⟩ : ∃ w3 : World, w3 = wr := ⟨_, rfl⟩
     go_upto_region 12 with (go_at_call 148; refine (steps_any _).mono ?_; unfold fns kns; rintro e w4 ⟨rfl, f4⟩; have H4 := Lib.hid f4; clear f4)
     obtain ⟨Q, w5, hQ, hw5, f5, qf, qk⟩ : ∃ Q w5, Q = w4.heap.size ∧ w5 = (w4.alloc (.cells fns 231)).alloc (.cells kns 232) ∧ Fr [] w4 w5 ∧ w5.heap[Q]? = some (.cells fns 231 (0, 0)) ∧ w5.heap[Q + 1]? = some (.cells kns 232 (0, 0)) :=
      ⟨_, _, rfl, rfl, ((Fr.refl [] w4).alloc _).alloc _, alloc_old _ (alloc_at w4 _), by have := alloc_at (w4.alloc (.cells fns 231)) (.cells kns 232); rw [World.size_alloc] at this; exact this⟩
     unfold fns kns at hw5
     rw [← hw5, ← hQ]
     have hm5 := HMM.out.fr0 (H4.out.trans f5)
     have k0 := cell_of hm5.hb 0
     have k1 := cell_of hm5.hb 1
     have k2 := cell_of hm5.hb 2
     have k3 := cell_of hm5.hb 3
     have k4 := cell_of hm5.hb 4
     unfold H5.vals at k0 k1 k2 k3 k4
     simp only [List.getElem?_toArray, List.getElem?_cons_zero, List.getElem?_cons_succ] at k0 k1 k2 k3 k4
     have H5' := Lib.hid (And.intro hm5 (And.intro qf qk))
     clear hm5 qf qk hw5 hQ f5
     go_quiet (fail)
     clear k0 k1 k2 k3 k4
     go_upto_block 4 with fail
     go_wp2
     go_loopg [10, 11, 12, 13, 14, 15, 16, 96] 80 (fun k s10 s11 s12 s13 s14 s15 s16 s96 wr => ∃ t : Nat, s96 = .int .i64 (t : Nat) ∧ t + k = 80 ∧ s10 = .int .u32 (rounds p t h).a ∧ s11 = .int .u32 (rounds p t h).b ∧ s12 = .int .u32 (rounds p t h).c ∧ s13 = .int .u32 (rounds p t h).d ∧ s14 = .int .u32 (rounds p t h).e ∧ Fr [] w5 wr)
     case atStart => exact ⟨0, rfl, rfl, rfl, rfl, rfl, rfl, rfl, Fr.drewN [] w5 _⟩
     case round =>
      obtain ⟨t, rfl, htk, rfl, rfl, rfl, rfl, rfl, hf⟩ := hrel
      have HF := Lib.hid hf
      clear hf
      by_cases ht : t < 80
      ·obtain ⟨k, rfl⟩ : ∃ k, gk = k + 1 := ⟨gk - 1, by omega⟩
       have hro : rounds p (t + 1) h = round p t (rounds p t h) := rfl
       unfold round at hro
       have hsv : (sched p 80)[t]?.getD 0 = sv p t := rfl
       rw [hsv] at hro
       generalize rounds p t h = s at *
       obtain ⟨sa, sb, sc, sd, se⟩ := s
       simp only at hro
       have HR := Lib.hid hro
       clear hro hsv
       go_upto_region 16 with fail
       have hm6 := H5'.out.1.fr0 HF.out
       obtain ⟨A, hA, hAs, hAt⟩ := hm6.wb
       have xw := (cell_of hA t).trans (hAt t ht)
       have bf := HF.out.blk H5'.out.2.1 (by simp)
       have bk := HF.out.blk H5'.out.2.2 (by simp)
       have it : (t : Int) < 80 := by omega
       clear hm6 hA hAs hAt
       obtain ⟨q, hq⟩ : ∃ q, q = t / 20 := ⟨_, rfl⟩
       have hq4 : q < 4 := by omega
       have hqi : (t : Int) / 20 = (q : Int) := by omega
       rw [← hq] at HR
       rcases (show q = 0 ∨ q = 1 ∨ q = 2 ∨ q = 3 by omega) with rfl | rfl | rfl | rfl
       ·have xf := cell_of bf 0
        have xk := cell_of bk 0
        unfold fns at xf
        unfold kns at xk
        simp only [List.getElem?_toArray, List.getElem?_cons_zero, List.getElem?_cons_succ] at xf xk
        clear bf bk hq
        go_quiet ((first | (go_at_call 147; exact Calls.quiet_of_same (rotate_any _ 5 _ (.inr (.inl rfl)))) | (go_at_call 179; exact Calls.quiet_of_same (ch_any _ _ _ _)) | (go_at_call 178; exact Calls.quiet_of_same (par_any _ _ _ _)) | (go_at_call 180; exact Calls.quiet_of_same (maj_any _ _ _ _))))
        clear xf xk xw hqi
        go_wp2_with (go_at_call 147; refine (rotate_any _ 30 _ (.inr (.inr rfl))).mono ?_; rintro e w7 ⟨rfl, rfl⟩)
        go_roundg k
        case measure => omega
        case rel =>
         refine ⟨t + 1, by go_num, by omega, ?_, ?_, ?_, ?_, ?_, HF.out.trans (Fr.drewN _ _ _)⟩
         all_goals rw [HR.out]
         all_goals (first | rfl | (simp only [add32, Int.emod_add_emod, Int.add_emod_emod, fsel, ksel]))
       ·have xf := cell_of bf 1
        have xk := cell_of bk 1
        unfold fns at xf
        unfold kns at xk
        simp only [List.getElem?_toArray, List.getElem?_cons_zero, List.getElem?_cons_succ] at xf xk
        clear bf bk hq
        go_quiet ((first | (go_at_call 147; exact Calls.quiet_of_same (rotate_any _ 5 _ (.inr (.inl rfl)))) | (go_at_call 179; exact Calls.quiet_of_same (ch_any _ _ _ _)) | (go_at_call 178; exact Calls.quiet_of_same (par_any _ _ _ _)) | (go_at_call 180; exact Calls.quiet_of_same (maj_any _ _ _ _))))
        clear xf xk xw hqi
        go_wp2_with (go_at_call 147; refine (rotate_any _ 30 _ (.inr (.inr rfl))).mono ?_; rintro e w7 ⟨rfl, rfl⟩)
        go_roundg k
        case measure => omega
        case rel =>
         refine ⟨t + 1, by go_num, by omega, ?_, ?_, ?_, ?_, ?_, HF.out.trans (Fr.drewN _ _ _)⟩
         all_goals rw [HR.out]
         all_goals (first | rfl | (simp only [add32, Int.emod_add_emod, Int.add_emod_emod, fsel, ksel]))
       ·have xf := cell_of bf 2
        have xk := cell_of bk 2
        unfold fns at xf
        unfold kns at xk
        simp only [List.getElem?_toArray, List.getElem?_cons_zero, List.getElem?_cons_succ] at xf xk
        clear bf bk hq
        go_quiet ((first | (go_at_call 147; exact Calls.quiet_of_same (rotate_any _ 5 _ (.inr (.inl rfl)))) | (go_at_call 179; exact Calls.quiet_of_same (ch_any _ _ _ _)) | (go_at_call 178; exact Calls.quiet_of_same (par_any _ _ _ _)) | (go_at_call 180; exact Calls.quiet_of_same (maj_any _ _ _ _))))
        clear xf xk xw hqi
        go_wp2_with (go_at_call 147; refine (rotate_any _ 30 _ (.inr (.inr rfl))).mono ?_; rintro e w7 ⟨rfl, rfl⟩)
        go_roundg k
        case measure => omega
        case rel =>
         refine ⟨t + 1, by go_num, by omega, ?_, ?_, ?_, ?_, ?_, HF.out.trans (Fr.drewN _ _ _)⟩
         all_goals rw [HR.out]
         all_goals (first | rfl | (simp only [add32, Int.emod_add_emod, Int.add_emod_emod, fsel, ksel]))
       ·have xf := cell_of bf 3
        have xk := cell_of bk 3
        unfold fns at xf
        unfold kns at xk
        simp only [List.getElem?_toArray, List.getElem?_cons_zero, List.getElem?_cons_succ] at xf xk
        clear bf bk hq
        go_quiet ((first | (go_at_call 147; exact Calls.quiet_of_same (rotate_any _ 5 _ (.inr (.inl rfl)))) | (go_at_call 179; exact Calls.quiet_of_same (ch_any _ _ _ _)) | (go_at_call 178; exact Calls.quiet_of_same (par_any _ _ _ _)) | (go_at_call 180; exact Calls.quiet_of_same (maj_any _ _ _ _))))
        clear xf xk xw hqi
        go_wp2_with (go_at_call 147; refine (rotate_any _ 30 _ (.inr (.inr rfl))).mono ?_; rintro e w7 ⟨rfl, rfl⟩)
        go_roundg k
        case measure => omega
        case rel =>
         refine ⟨t + 1, by go_num, by omega, ?_, ?_, ?_, ?_, ?_, HF.out.trans (Fr.drewN _ _ _)⟩
         all_goals rw [HR.out]
         all_goals (first | rfl | (simp only [add32, Int.emod_add_emod, Int.add_emod_emod, fsel, ksel]))
      ·obtain rfl : t = 80 := by omega
       obtain rfl : gk = 0 := by omega
       have hm6 := H5'.out.1.fr0 HF.out
       have k0 := cell_of hm6.hb 0
       have k1 := cell_of hm6.hb 1
       have k2 := cell_of hm6.hb 2
       have k3 := cell_of hm6.hb 3
       have k4 := cell_of hm6.hb 4
       unfold H5.vals at k0 k1 k2 k3 k4
       simp only [List.getElem?_toArray, List.getElem?_cons_zero, List.getElem?_cons_succ] at k0 k1 k2 k3 k4
       have c0 := cell_of hm6.rb 0
       have c1 := cell_of hm6.rb 1
       have c2 := cell_of hm6.rb 2
       have c3 := cell_of hm6.rb 3
       have c4 := cell_of hm6.rb 4
       have z0 := frozen_of hm6.rb 0
       have z1 := frozen_of hm6.rb 1
       have z2 := frozen_of hm6.rb 2
       have z3 := frozen_of hm6.rb 3
       have z4 := frozen_of hm6.rb 4
       simp only [List.getElem?_toArray, List.getElem?_cons_zero, List.getElem?_cons_succ] at c0 c1 c2 c3 c4
       have hmx : mixH h p = ⟨add32 h.a (rounds p 80 h).a, add32 h.b (rounds p 80 h).b, add32 h.c (rounds p 80 h).c, add32 h.d (rounds p 80 h).d, add32 h.e (rounds p 80 h).e⟩ := rfl
       generalize rounds p 80 h = s at *
       unfold add32 at hmx
       have HX := Lib.hid (And.intro hmx hm6)
       clear hmx hm6
       go_wp2
       obtain ⟨p1, p2⟩ := put5 HX.out.2.rb (.int .u32 ((h.a + s.a) % 4294967296)) (.int .u32 ((h.b + s.b) % 4294967296)) (.int .u32 ((h.c + s.c) % 4294967296)) (.int .u32 ((h.d + s.d) % 4294967296)) (.int .u32 ((h.e + s.e) % 4294967296))
       refine bodyPost_ret (results_five rfl _ _ (B + 1) _ (0, 0) rfl p1 rfl) rfl ?_
       refine ⟨by rw [HX.out.1], HX.out.2.fr.step p2 fun y hy => .inr (by simp at hy; have := HX.out.2.lo; omega)⟩
end Go.Proofs.YtkmpfgpfbmeihaaGreatDoor.sha
namespace Go.Proofs.YtkmpfgpfbmeihaaGreatDoor.sha
open Go Go.RowKit lib bm
structure ShC (C : Array Value) (h : H5) (v : Value) (len : Nat) : Prop where
 size : C.size = 267
 k : C[0]? = some (.int .i64 1)
 a : C[1]? = some (.int .u32 h.a)
 b : C[2]? = some (.int .u32 h.b)
 c : C[3]? = some (.int .u32 h.c)
 d : C[4]? = some (.int .u32 h.d)
 e : C[5]? = some (.int .u32 h.e)
 r : C[6]? = some v
 n : C[7]? = some (.int .u64 (len : Nat))
theorem ShC.set6 {C : Array Value} {h : H5} {v : Value} {len : Nat} (s : ShC C h v len) (u : Value) : ShC (C.setIfInBounds 6 u) h u len := by
 obtain ⟨h1, h2, h3, h4, h5, h6, h7, h8, h9⟩ := s
 exact ⟨by simp [h1], by rw [Array.getElem?_setIfInBounds_ne (by decide), h2], by rw [Array.getElem?_setIfInBounds_ne (by decide), h3], by rw [Array.getElem?_setIfInBounds_ne (by decide), h4], by rw [Array.getElem?_setIfInBounds_ne (by decide), h5], by rw [Array.getElem?_setIfInBounds_ne (by decide), h6], by rw [Array.getElem?_setIfInBounds_ne (by decide), h7], Array.getElem?_setIfInBounds_self_of_lt (by omega), by rw [Array.getElem?_setIfInBounds_ne (by decide), h9]⟩
theorem ShC.set7 {C : Array Value} {h : H5} {v : Value} {len : Nat} (s : ShC C h v len) (l : Nat) : ShC (C.setIfInBounds 7 (.int .u64 (l : Nat))) h v l := by
 obtain ⟨h1, h2, h3, h4, h5, h6, h7, h8, h9⟩ := s
 exact ⟨by simp [h1], by rw [Array.getElem?_setIfInBounds_ne (by decide), h2], by rw [Array.getElem?_setIfInBounds_ne (by decide), h3], by rw [Array.getElem?_setIfInBounds_ne (by decide), h4], by rw [Array.getElem?_setIfInBounds_ne (by decide), h5], by rw [Array.getElem?_setIfInBounds_ne (by decide), h6], by rw [Array.getElem?_setIfInBounds_ne (by decide), h7], by rw [Array.getElem?_setIfInBounds_ne (by decide), h8], Array.getElem?_setIfInBounds_self_of_lt (by omega)⟩
theorem ShC.setH {C : Array Value} {h : H5} {v : Value} {len : Nat} (s : ShC C h v len) (a b c d e : Int) :
  ShC (((((C.setIfInBounds 1 (.int .u32 a)).setIfInBounds 2 (.int .u32 b)).setIfInBounds 3 (.int .u32 c)).setIfInBounds 4 (.int .u32 d)).setIfInBounds 5 (.int .u32 e)) ⟨a, b, c, d, e⟩ v len := by
 obtain ⟨h1, h2, h3, h4, h5, h6, h7, h8, h9⟩ := s
 exact ⟨by simp [h1], by rw [Array.getElem?_setIfInBounds_ne (by decide), Array.getElem?_setIfInBounds_ne (by decide), Array.getElem?_setIfInBounds_ne (by decide), Array.getElem?_setIfInBounds_ne (by decide), Array.getElem?_setIfInBounds_ne (by decide), h2], by rw [Array.getElem?_setIfInBounds_ne (by decide), Array.getElem?_setIfInBounds_ne (by decide), Array.getElem?_setIfInBounds_ne (by decide), Array.getElem?_setIfInBounds_ne (by decide)]; exact Array.getElem?_setIfInBounds_self_of_lt (by simp [h1]), by rw [Array.getElem?_setIfInBounds_ne (by decide), Array.getElem?_setIfInBounds_ne (by decide), Array.getElem?_setIfInBounds_ne (by decide)]; exact Array.getElem?_setIfInBounds_self_of_lt (by simp [h1]), by rw [Array.getElem?_setIfInBounds_ne (by decide), Array.getElem?_setIfInBounds_ne (by decide)]; exact Array.getElem?_setIfInBounds_self_of_lt (by simp [h1]), by rw [Array.getElem?_setIfInBounds_ne (by decide)]; exact Array.getElem?_setIfInBounds_self_of_lt (by simp [h1]), Array.getElem?_setIfInBounds_self_of_lt (by simp [h1]), by rw [Array.getElem?_setIfInBounds_ne (by decide), Array.getElem?_setIfInBounds_ne (by decide), Array.getElem?_setIfInBounds_ne (by decide), Array.getElem?_setIfInBounds_ne (by decide), Array.getElem?_setIfInBounds_ne (by decide), h8], by rw [Array.getElem?_setIfInBounds_ne (by decide), Array.getElem?_setIfInBounds_ne (by decide), Array.getElem?_setIfInBounds_ne (by decide), Array.getElem?_setIfInBounds_ne (by decide), Array.getElem?_setIfInBounds_ne (by decide), h9]⟩
structure Sh (w : World) (g : Nat) (h : H5) (ra : Option Addr) (rc : Nat) (rs : List UInt8) (len : Nat) : Prop where
 blk : ∃ C, w.heap[g]? = some (.cells C 188 (0, 0)) ∧ ShC C h (.slice ra rs.length rc) len
 own : Own w 5 ra rc (rs.map bv)
 ne : g ∉ lib.blk ra
def leftOf : Nat → List UInt8 → List UInt8
 | 0, p => p
 | f + 1, p => if 64 ≤ p.length then leftOf f (p.drop 64) else p
set_option maxHeartbeats 1000000 in
theorem begun_one (w : World) : Calls Tryz.prog 106 #[.int .i64 1] w fun e w' => e = .returned (.pointer (some ⟨w.heap.size, 0, none⟩)) ∧ Sh w' w.heap.size h0 none 0 [] 0 ∧ Fr [] w w' := by
 go_enter Tryz.func106, Tryz.ntmps106
 go_wp2
 go_ret
 exact ⟨rfl, ⟨⟨_, alloc_at w _, ⟨rfl, rfl, rfl, rfl, rfl, rfl, rfl, rfl, rfl⟩⟩, Own.nil _ _, by simp [lib.blk]⟩, (Fr.refl [] w).alloc _⟩
set_option maxHeartbeats 4000000 in
theorem write_sha (g : Nat) (h : H5) (ra : Option Addr) (rc : Nat) (rs : List UInt8) (len cap : Nat) (ao : Option Addr) (bs : List UInt8) (w : World) (hs : Sh w g h ra rc rs len) (hr : Rd w ao cap bs) (hng : bs ≠ [] → ∀ x ∈ lib.blk ao, x ≠ g)
  (hl : len + bs.length ≤ 140737488355328) (hrl : rs.length + bs.length ≤ 140737488355328) :
  Calls Tryz.prog 94 #[.pointer (some ⟨g, 0, none⟩), .slice ao bs.length cap] w fun e w' => e = .returned (.tuple #[]) ∧ Fr (g :: lib.blk ra) w w' ∧
   ∃ ra' rc', Sh w' g (blocks (rs ++ bs).length h (rs ++ bs)) ra' rc' (leftOf (rs ++ bs).length (rs ++ bs)) (len + bs.length) ∧ ∀ x ∈ lib.blk ra', x ∈ lib.blk ra ∨ w.heap.size ≤ x := by
 obtain ⟨L, hL⟩ : ∃ L, L = bs.length := ⟨_, rfl⟩
 obtain ⟨R, hR⟩ : ∃ R, R = rs.length := ⟨_, rfl⟩
 have hle := hr.le
 have hmax := hr.max
 unfold maxLen at hmax
 obtain ⟨C, hC, hc⟩ := hs.blk
 obtain ⟨o1, o2, o3⟩ := hs.own.shape
 rw [List.length_map] at o1
 rw [← hR] at o1 hc hrl
 rw [← hL] at hle hl hrl ⊢
 have c0 := (cell_of hC 0).trans hc.k
 have c6 := (cell_of hC 6).trans hc.r
 have c7 := (cell_of hC 7).trans hc.n
 have z7 := frozen_of hC 7
 have H := Lib.hid (And.intro hC (And.intro hc (And.intro hs (And.intro hr (And.intro hng (And.intro hL hR))))))
 clear hC hc hs hr hng hL hR
 go_enter Tryz.func94, Tryz.ntmps94
 go_upto_region 3 with fail
 have f1 : Fr [g] w (w.setCell ⟨g, 7, none⟩ (.int .u64 ((len + L : Nat) : Int))) := (Fr.refl [g] w).setCell (by simp) _
 have hC1 := setCell_of (o := 7) H.out.1 (.int .u64 ((len + L : Nat) : Int))
 have hc1 := H.out.2.1.set7 (len + L)
 have ecast : ((len + L : Nat) : Int) = (len : Int) + (L : Int) := by omega
 rw [ecast] at f1 hC1
 generalize w.setCell ⟨g, 7, none⟩ (.int .u64 ((len : Int) + (L : Int))) = w1 at *
 rw [← ecast] at hC1
 obtain ⟨C1, hCC⟩ : ∃ C1, C1 = C.setIfInBounds 7 (.int .u64 ((len + L : Nat) : Int)) := ⟨_, rfl⟩
 rw [← hCC] at hC1 hc1
 have c6' := (cell_of hC1 6).trans hc1.r
 have z6 := frozen_of hC1 6
 have ho1 : Own w1 5 ra rc (rs.map bv) := H.out.2.2.1.own.fr f1 (fun x hx hm => by simp at hm; rw [hm] at hx; exact H.out.2.2.1.ne hx)
 have hr1 : Rd w1 ao cap bs := rd_frE H.out.2.2.2.1 f1 (fun hb x hx hm => by simp at hm; exact H.out.2.2.2.2.1 hb x hx hm)
 have H1 := Lib.hid (And.intro hC1 (And.intro hc1 (And.intro f1 (And.intro ho1 hr1))))
 clear hC1 hc1 f1 ho1 hr1 hCC c0 c6 c7 z7 ecast
 go_upto_block 1 with (refine wpList_append_mid sums.sliceU8 rfl _ _ rfl ra R rc (rs.map bv) rfl H1.out.2.2.2.1 (by rw [List.length_map]; exact H.out.2.2.2.2.2.2.symm) ao L cap (bs.map bv) rfl hle H1.out.2.2.2.2.nil H1.out.2.2.2.2.cs (by rw [List.length_map]; exact H.out.2.2.2.2.2.1.symm) (sums.bv_one _) (by omega) (by unfold maxLen; omega) ?_; intro a2 q2 w2 A2; have c62 := A2.fr.cell c6' H.out.2.2.1.ne; have z62 : w2.frozen? ⟨g, 6, none⟩ = false := frozen_of (A2.fr.blk H1.out.1 H.out.2.2.1.ne) 6; have H2 := Lib.hid A2; clear A2)
 have hlen2 : (rs ++ bs).length = R + L := by rw [List.length_append, ← H.out.2.2.2.2.2.2, ← H.out.2.2.2.2.2.1]
 have hsh : Sh (w2.setCell ⟨g, 6, none⟩ (.slice a2 (R + L) q2)) g h a2 q2 (rs ++ bs) (len + L) ∧ Fr (g :: lib.blk ra) w (w2.setCell ⟨g, 6, none⟩ (.slice a2 (R + L) q2)) ∧ ∀ x ∈ lib.blk a2, x ∈ lib.blk ra ∨ w.heap.size ≤ x := by
  have hg2 : g ∉ lib.blk a2 := fun hm => by
   rcases H2.out.at_ g hm with k | k
   ·exact H.out.2.2.1.ne k
   ·have := lt_of_block H1.out.1
    omega
  have f6 : Fr [g] w2 (w2.setCell ⟨g, 6, none⟩ (.slice a2 (R + L) q2)) := (Fr.refl [g] w2).setCell (by simp) _
  have hb2 := H2.out.fr.blk H1.out.1 H.out.2.2.1.ne
  refine ⟨⟨⟨_, setCell_of hb2 _, by rw [hlen2]; exact H1.out.2.1.set6 _⟩, by rw [List.map_append]; exact H2.out.own.fr f6 (fun x hx hm => by simp at hm; rw [hm] at hx; exact hg2 hx), hg2⟩, ((H1.out.2.2.1.mono (by simp)).step H2.out.fr (fun y hy => .inl (by simp [hy]))).step f6 (fun y hy => .inl (by simp at hy; simp [hy])), fun x hx => ?_⟩
  rcases H2.out.at_ x hx with k | k
  ·exact .inl k
  ·exact .inr (Nat.le_trans H1.out.2.2.1.size k)
 generalize w2.setCell ⟨g, 6, none⟩ (.slice a2 (R + L) q2) = w3 at *
 have HS := Lib.hid (And.intro hsh hlen2)
 clear hsh hlen2 c62 z62 c6' z6
 go_wp2
 go_loopg [] (R + L) (fun k wr => ∃ (h' : H5) (ra' : Option Addr) (rc' : Nat) (ps : List UInt8), Sh wr g h' ra' rc' ps (len + L) ∧ Fr (g :: lib.blk ra) w wr ∧ (∀ x ∈ lib.blk ra', x ∈ lib.blk ra ∨ w.heap.size ≤ x) ∧ ps.length ≤ k ∧ blocks k h' ps = blocks (rs ++ bs).length h (rs ++ bs) ∧ leftOf k ps = leftOf (rs ++ bs).length (rs ++ bs))
 case atStart => exact ⟨h, a2, q2, rs ++ bs, HS.out.1.1, HS.out.1.2.1, HS.out.1.2.2, by rw [HS.out.2]; exact Nat.le_refl _, by rw [HS.out.2], by rw [HS.out.2]⟩
 case round =>
  obtain ⟨h', ra', rc', ps, hs, hf, hn, hk, hbl, hdo⟩ := hrel
  obtain ⟨P, hP⟩ : ∃ P, P = ps.length := ⟨_, rfl⟩
  obtain ⟨C', hC, hc⟩ := hs.blk
  obtain ⟨o1', o2', o3'⟩ := hs.own.shape
  rw [List.length_map] at o1'
  rw [← hP] at hc hk o1'
  have c6 := (cell_of hC 6).trans hc.r
  have HR := Lib.hid (And.intro hs (And.intro hf (And.intro hn (And.intro hbl (And.intro hdo (And.intro hP (And.intro hC hc)))))))
  clear hs hf hn hbl hdo hP
  by_cases h64 : 64 ≤ P
  ·obtain ⟨k, rfl⟩ : ∃ k, gk = k + 1 := ⟨gk - 1, by omega⟩
   have d1 : decide ((64 : Int) ≤ P) = true := by simp; omega
   go_upto_region 5 with fail
   have c1 := (cell_of hC 1).trans hc.a
   have c2 := (cell_of hC 2).trans hc.b
   have c3 := (cell_of hC 3).trans hc.c
   have c4 := (cell_of hC 4).trans hc.d
   have c5 := (cell_of hC 5).trans hc.e
   have hmx := fun w' (f : Fr [] wr w') => mix_any h' ra' P rc' ps w' (HR.out.1.own.rd.fr f) HR.out.2.2.2.2.2.1.symm h64
   unfold H5.vals at hmx
   have HM := Lib.hid hmx
   clear hmx hC hc
   refine region_mix 12 [(false, 0), (false, 1), (false, 2), (false, 3), (false, 4), (false, 5), (false, 6), (false, 7), (false, 8), (true, 9), (false, 10), (false, 11)] [] (by kernel_rfl) (by kernel_rfl) (fun _ _ d _ _ h => by cases d <;> exact h) ?_
   simp only [List.map_cons, List.map_nil, List.getD_cons_zero, List.getD_cons_succ, List.drop_succ_cons, List.drop_zero, List.drop_nil]
   refine mix_seg 9 rfl ?_
   simp only [List.take_succ_cons, List.take_zero, List.drop_succ_cons, List.drop_zero, List.map_cons, List.map_nil]
   repeat (go_big_quiet_step (fail))
   refine wpQuiet_nil ?_
   refine mix_eff rfl ?_
   intro X hX
   go_wp2_with (go_at_call 117; refine (HM.out _ (Fr.drew1 [] wr)).mono ?_; rintro e w5 ⟨rfl, f5⟩)
   refine hX.out _ _ f5 ?_
   clear hX X c1 c2 c3 c4 c5 c6
   refine mix_seg 2 rfl ?_
   simp only [List.take_succ_cons, List.take_zero, List.drop_succ_cons, List.drop_zero, List.map_cons, List.map_nil]
   repeat (go_big_quiet_step (fail))
   refine wpQuiet_nil ?_
   refine mix_nil ?_
   have hb5 := f5.blk (show wr.drew.heap[g]? = _ from HR.out.2.2.2.2.2.2.1) (by simp)
   have hcc := HR.out.2.2.2.2.2.2.2
   have c1 := (cell_of hb5 1).trans hcc.a
   have c2 := (cell_of hb5 2).trans hcc.b
   have c3 := (cell_of hb5 3).trans hcc.c
   have c4 := (cell_of hb5 4).trans hcc.d
   have c5 := (cell_of hb5 5).trans hcc.e
   have z1 := frozen_of hb5 1
   have z2 := frozen_of hb5 2
   have z3 := frozen_of hb5 3
   have z4 := frozen_of hb5 4
   have z5 := frozen_of hb5 5
   obtain ⟨mh, hmh⟩ : ∃ mh, mh = mixH h' ps := ⟨_, rfl⟩
   rw [← hmh]
   obtain ⟨ma, mb, mc, md, me⟩ := mh
   simp only
   have H5' := Lib.hid (And.intro hb5 (And.intro hcc (And.intro f5 hmh)))
   clear hb5 hcc f5 hmh
   go_upto_region 6 with fail
   have f6 : Fr [g] w5 (((((w5.setCell ⟨g, 1, none⟩ (.int .u32 ma)).setCell ⟨g, 2, none⟩ (.int .u32 mb)).setCell ⟨g, 3, none⟩ (.int .u32 mc)).setCell ⟨g, 4, none⟩ (.int .u32 md)).setCell ⟨g, 5, none⟩ (.int .u32 me)) := (((((Fr.refl [g] w5).setCell (by simp) _).setCell (by simp) _).setCell (by simp) _).setCell (by simp) _).setCell (by simp) _
   have hb6 := setCell_of (o := 5) (setCell_of (o := 4) (setCell_of (o := 3) (setCell_of (o := 2) (setCell_of (o := 1) H5'.out.1 (.int .u32 ma)) (.int .u32 mb)) (.int .u32 mc)) (.int .u32 md)) (.int .u32 me)
   have hc6 := H5'.out.2.1.setH ma mb mc md me
   clear c1 c2 c3 c4 c5 z1 z2 z3 z4 z5
   generalize ((((w5.setCell ⟨g, 1, none⟩ (.int .u32 ma)).setCell ⟨g, 2, none⟩ (.int .u32 mb)).setCell ⟨g, 3, none⟩ (.int .u32 mc)).setCell ⟨g, 4, none⟩ (.int .u32 md)).setCell ⟨g, 5, none⟩ (.int .u32 me) = w6 at *
   have c6 := (cell_of hb6 6).trans hc6.r
   have z6 := frozen_of hb6 6
   have H6 := Lib.hid (And.intro hb6 (And.intro hc6 f6))
   clear hb6 hc6 f6
   have hca : cutAtN ra' rc' 64 1 = if rc' = 64 then ra' else Option.map (fun x => x.add (64 * 1)) ra' := rfl
   have HCA := Lib.hid hca
   clear hca
   go_wp2_with (refine wpList_slice_from sums.sliceU8 64 rfl _ _ rfl ra' P rc' _ rfl rfl rfl h64 o1' ?_)
   go_roundg k
   case measure => omega
   case rel =>
    have f7 : Fr [g] w6 (w6.setCell ⟨g, 6, none⟩ (.slice (cutAtN ra' rc' 64 1) (P - 64) (rc' - 64))) := (Fr.refl [g] w6).setCell (by simp) _
    have hdl : (ps.drop 64).length = P - 64 := by rw [List.length_drop, ← HR.out.2.2.2.2.2.1]
    have fAll : Fr (g :: lib.blk ra) w (w6.setCell ⟨g, 6, none⟩ (.slice (cutAtN ra' rc' 64 1) (P - 64) (rc' - 64))) := (((HR.out.2.1.trans ((Fr.drew1 [] wr).mono (by simp))).trans (H5'.out.2.2.1.mono (by simp))).step H6.out.2.2 (fun y hy => .inl (by simp at hy; simp [hy]))).step f7 (fun y hy => .inl (by simp at hy; simp [hy]))
    have hne : g ∉ lib.blk (cutAtN ra' rc' 64 1) := by rw [cutAtN_blk]; exact HR.out.1.ne
    have how : Own (w6.setCell ⟨g, 6, none⟩ (.slice (cutAtN ra' rc' 64 1) (P - 64) (rc' - 64))) 5 (cutAtN ra' rc' 64 1) (rc' - 64) ((ps.drop 64).map bv) := by
     have h1 := ((HR.out.1.own.fr (Fr.drew1 [] wr) (by simp)).fr H5'.out.2.2.1 (by simp)).drop 64 (by rw [List.length_map, ← HR.out.2.2.2.2.2.1]; exact h64)
     rw [← List.map_drop] at h1
     exact (h1.fr H6.out.2.2 (fun x hx hm => by simp at hm; rw [hm] at hx; exact hne hx)).fr f7 (fun x hx hm => by simp at hm; rw [hm] at hx; exact hne hx)
    refine ⟨⟨ma, mb, mc, md, me⟩, _, _, ps.drop 64, ⟨⟨_, setCell_of H6.out.1 _, by rw [hdl]; exact H6.out.2.1.set6 _⟩, how, hne⟩, fAll, fun x hx => HR.out.2.2.1 x (by rw [cutAtN_blk] at hx; exact hx), by rw [hdl]; omega, ?_, ?_⟩
    ·have := HR.out.2.2.2.1
     rw [blocks, if_pos (by rw [← HR.out.2.2.2.2.2.1]; exact h64), ← H5'.out.2.2.2] at this
     exact this
    ·have := HR.out.2.2.2.2.1
     rw [leftOf, if_pos (by rw [← HR.out.2.2.2.2.2.1]; exact h64)] at this
     exact this
  ·have d1 : decide ((64 : Int) ≤ P) = false := by simp; omega
   have hb0 : blocks gk h' ps = h' := by
    cases gk with
    | zero => rfl
    | succ k => rw [blocks, if_neg (by rw [← HR.out.2.2.2.2.2.1]; exact h64)]
   have hd0 : leftOf gk ps = ps := by
    cases gk with
    | zero => rfl
    | succ k => rw [leftOf, if_neg (by rw [← HR.out.2.2.2.2.2.1]; exact h64)]
   have HZ := Lib.hid (And.intro hb0 hd0)
   clear hb0 hd0 hC hc
   go_wp2
   go_end0
   refine ⟨rfl, HR.out.2.1, ra', rc', ?_, HR.out.2.2.1⟩
   rw [← HR.out.2.2.2.1, ← HR.out.2.2.2.2.1, HZ.out.1, HZ.out.2]
   exact HR.out.1
end Go.Proofs.YtkmpfgpfbmeihaaGreatDoor.sha
namespace Go.Proofs.YtkmpfgpfbmeihaaGreatDoor.lib
open Go
theorem Fr.from_drew {S : List Nat} {w w' : World} (h : Fr S w w') : Fr S w.drew w' := ⟨h.os, h.tape, h.output, h.size, h.block⟩
section
variable {P : Program} {ops : Array Oper} {Q : Exit → Act → World → Prop} {md : Region.Mode}
def mixR (P : Program) (ops : Array Oper) (S : List Nat) (Q : Exit → Act → World → Prop) (tail : List Oper) : List (Bool × Oper) → World → Act → World → Prop
 | [], _, a, w => wpList P ops Q tail a w
 | (false, o) :: rest, b, a, w => if Region.wanted o (yielded ops a.tmps) then o.quiet P a (Sup S b) (fun a' => mixR P ops S Q tail rest b a' w) else mixR P ops S Q tail rest b (a.put o.dst undef) w
 | (true, o) :: rest, b, a, w => if Region.wanted o (yielded ops a.tmps) then o.wp P a w (fun a' w' => ∃ b', Fr S b b' ∧ Fr S b' w' ∧ mixR P ops S Q tail rest b' a' w') Q else mixR P ops S Q tail rest b (a.put o.dst undef) w
theorem mx_walkR {n : Nat} {S : List Nat} {l : List Oper} (hl : ops = l.toArray) (hsel : Region.noSelect ops = true) (hQ : ∀ c a d v w, Q (.panic c) (Act.put a d v) w → Q (.panic c) a w)
  (hT : ∀ i, i < n → ∀ listed, HeadInv md ops n listed → listed.getD i true = false → ∀ t, n ≤ t → t ∉ Region.ready md ops listed) :
  ∀ (order : List (Bool × Nat)) (listed : Array Bool) (b : World) (a : Act) (w : World), Fr S b w → HeadInv md ops n listed → mixB md ops n order listed = true →
   mixR P ops S Q (l.drop n) (order.map fun x => (x.1, l.getD x.2 default)) b a w → wpMx P md ops Q n (Sup S b) (order.length + (ops.size - n)) listed a w
 | [], listed, b, a, w, _, _, hB, h => by
  have hlen : (l.drop n).length = ops.size - n := by rw [hl]; simp
  have := wpMx_of_seq (P := P) (Q := Q) (md := md) (ops := ops) (n := n) (C := Sup S b) (l.drop n) n listed a w (Nat.le_refl _) (fun j => by rw [hl]; simp [List.getElem?_drop]) (by rw [hlen]; exact hB) h
  simpa [hlen] using this
 | (e, i) :: rest, listed, b, a, w, hfr, inv, hB, h => by
  simp only [mixB, Bool.and_eq_true, decide_eq_true_eq] at hB
  obtain ⟨⟨hin, he⟩, hrest⟩ := hB
  have hlen : ((e, i) :: rest).length + (ops.size - n) = rest.length + (ops.size - n) + 1 := by simp; omega
  rw [hlen]
  have hC : Sup S b w := Sup.of hfr
  cases e with
  | false =>
   simp only [Bool.and_eq_true] at he
   obtain ⟨⟨hr, hf⟩, hk⟩ := he
   have hr' : i ∈ Region.ready md ops listed := by simpa using hr
   obtain ⟨_, oi, hoi, _⟩ := mem_ready.1 hr'
   rw [hoi] at hk
   have hd : l.getD i default = oi := by
    rw [hl] at hoi
    simp at hoi
    simp [List.getD, hoi]
   simp only [List.map_cons, hd, mixR] at h
   by_cases hw : Region.wanted oi (yielded ops a.tmps) = true
   ·rw [if_pos hw] at h
    obtain ⟨v, h1, h2⟩ := h
    have hy : QY P ops (Sup S b) oi v a := .inl ⟨hw, fun u hu => runs_of_quiet hk (h1 u hu)⟩
    exact wpMx_first hoi (Region.noSelect_spec hsel) hQ hin (hT i hin) _ listed a w inv (Region.free_spec hoi hf) hr' hy hC (mx_walkR hl hsel hQ hT rest _ b _ w hfr (inv.set hr' hin) hrest h2)
   ·rw [if_neg hw] at h
    have hy : QY P ops (Sup S b) oi undef a := .inr ⟨by simpa using hw, rfl⟩
    exact wpMx_first hoi (Region.noSelect_spec hsel) hQ hin (hT i hin) _ listed a w inv (Region.free_spec hoi hf) hr' hy hC (mx_walkR hl hsel hQ hT rest _ b _ w hfr (inv.set hr' hin) hrest h)
  | true =>
   simp only [decide_eq_true_eq] at he
   have hr' : i ∈ Region.ready md ops listed := by rw [he]; simp
   obtain ⟨_, oi, hoi, _⟩ := mem_ready.1 hr'
   have hd : l.getD i default = oi := by
    rw [hl] at hoi
    simp at hoi
    simp [List.getD, hoi]
   simp only [List.map_cons, hd, mixR] at h
   refine ⟨fun h0 => (by rw [h0] at hr'; cases hr'), fun j hj => ?_⟩
   rw [he] at hj
   have hji : j = i := by simpa using hj
   subst hji
   unfold wpOp
   simp only [hoi]
   by_cases hw : Region.wanted oi (yielded ops a.tmps) = true
   ·rw [if_pos hw] at h
    rw [if_pos hw]
    left
    exact Oper.wp_mono (fun a' w' h' => by
     obtain ⟨b', g1, g2, h'⟩ := h'
     exact ⟨fun _ => Sup.of (g1.trans g2), wpMx_mono (Sup.sub g1) _ _ _ _ (mx_walkR hl hsel hQ hT rest _ b' a' w' g2 (inv.set hr' hin) hrest h')⟩) h
   ·rw [if_neg hw] at h
    rw [if_neg hw]
    exact ⟨fun _ => hC, mx_walkR hl hsel hQ hT rest _ b _ w hfr (inv.set hr' hin) hrest h⟩
theorem region_mixR {id : Nat} {a : Act} {w : World} {l : List Oper} (n : Nat) (order : List (Bool × Nat)) (S : List Nat) (hm : P.follows .mixedOrders = true) (hB : mixAll .any l.toArray n order = true)
  (hQ : ∀ c a d v w, Q (.panic c) (Act.put a d v) w → Q (.panic c) a w)
  (h : mixR P l.toArray S Q (l.drop n) (order.map fun x => (x.1, l.getD x.2 default)) w.drew a w.drew) : (Code.region id l.toArray true).wp P Q a w := by
 simp only [mixAll, Bool.and_eq_true, decide_eq_true_eq, Bool.or_eq_true] at hB
 obtain ⟨⟨⟨hsel, hn⟩, hlen⟩, hmix⟩ := hB
 have inv0 : HeadInv .any l.toArray n (Array.replicate l.toArray.size false) :=
  ⟨by simp, fun j oj _ hl => (by rw [getD_replicate_false] at hl; cases hl), fun t _ ht => getD_in (by simpa using ht) (getD_replicate_false _ _)⟩
 have hT : ∀ i, i < n → ∀ listed, HeadInv .any l.toArray n listed → listed.getD i true = false → ∀ t, n ≤ t → t ∉ Region.ready .any l.toArray listed := by
  intro i hi listed inv hun t ht hr
  rcases hn with hn | ⟨⟨hn, hs⟩, hc⟩
  ·obtain ⟨_, o, ho, _⟩ := mem_ready.1 hr
   have := (Array.getElem?_eq_some_iff.1 ho).1
   omega
  ·exact tail_waits hs hc hn inv _ i rfl hi hun t ht hr
 refine wp_region_any hm (wpAny_of_mx (n := n) (C := Sup S w.drew) _ _ _ _ ?_)
 have := mx_walkR (P := P) (Q := Q) (md := .any) (n := n) (S := S) rfl hsel hQ hT order _ w.drew a w.drew (Fr.refl _ _) inv0 hmix h
 rw [hlen] at this
 exact this
theorem mixR_seg {S : List Nat} {tail : List Oper} {items : List (Bool × Oper)} {b : World} {a : Act} {w : World} (k : Nat) (h0 : ((items.take k).all fun x => !x.1) = true)
  (h : wpQuiet P ops (Sup S b) (fun a' => mixR P ops S Q tail (items.drop k) b a' w) ((items.take k).map (·.2)) a) : mixR P ops S Q tail items b a w := by
 induction k generalizing items a with
 | zero => exact h
 | succ k ih =>
  cases items with
  | nil => exact h
  | cons x rest =>
   obtain ⟨e, o⟩ := x
   simp only [List.take_succ_cons, List.all_cons, Bool.and_eq_true, Bool.not_eq_true'] at h0
   obtain ⟨rfl, h0⟩ := h0
   simp only [List.take_succ_cons, List.map_cons, List.drop_succ_cons, wpQuiet] at h
   unfold mixR
   by_cases hw : Region.wanted o (yielded ops a.tmps) = true
   ·rw [if_pos hw] at h ⊢
    obtain ⟨v, h1, h2⟩ := h
    exact ⟨v, h1, ih h0 h2⟩
   ·rw [if_neg hw] at h ⊢
    exact ih h0 h
theorem mixR_eff {S : List Nat} {tail : List Oper} {rest : List (Bool × Oper)} {o : Oper} {b : World} {a : Act} {w : World} (hw : Region.wanted o (yielded ops a.tmps) = true)
  (h : ∀ K : Act → World → Prop, Go.RowKit.Hid (∀ a' w' b', Fr S b b' → Fr S b' w' → mixR P ops S Q tail rest b' a' w' → K a' w') → o.wp P a w K Q) : mixR P ops S Q tail ((true, o) :: rest) b a w := by
 unfold mixR
 rw [if_pos hw]
 exact h _ fun _ _ b' h1 h2 h3 => ⟨b', h1, h2, h3⟩
theorem mixR_nil {S : List Nat} {tail : List Oper} {b : World} {a : Act} {w : World} (h : wpList P ops Q tail a w) : mixR P ops S Q tail [] b a w := h
end
end Go.Proofs.YtkmpfgpfbmeihaaGreatDoor.lib
namespace Go.Proofs.YtkmpfgpfbmeihaaGreatDoor.sha
open Go Go.RowKit lib bm
def zer (n : Nat) : Nat := (56 + 64 - n % 64) % 64
def padTo (rs : List UInt8) : List UInt8 := rs ++ [128] ++ List.replicate (zer (rs.length + 1)) 0
def padded (rs : List UInt8) (len : Nat) : List UInt8 := padTo rs ++ sums.be4 (len / 536870912) ++ sums.be4 (len * 8 % 4294967296)
theorem padTo_length (rs : List UInt8) : (padTo rs).length % 64 = 56 := by
 unfold padTo zer
 simp only [List.length_append, List.length_singleton, List.length_replicate]
 omega
theorem padded_length (rs : List UInt8) (len : Nat) : (padded rs len).length % 64 = 0 := by
 have := padTo_length rs
 unfold padded
 rw [List.length_append, List.length_append, sums.be4_length, sums.be4_length]
 omega
def Rng (h : H5) : Prop := (0 ≤ h.a ∧ h.a < 4294967296) ∧ (0 ≤ h.b ∧ h.b < 4294967296) ∧ (0 ≤ h.c ∧ h.c < 4294967296) ∧ (0 ≤ h.d ∧ h.d < 4294967296) ∧ (0 ≤ h.e ∧ h.e < 4294967296)
theorem add32_rng (a b : Int) : 0 ≤ add32 a b ∧ add32 a b < 4294967296 := by unfold add32; omega
theorem mixH_rng (h : H5) (p : List UInt8) : Rng (mixH h p) := ⟨add32_rng _ _, add32_rng _ _, add32_rng _ _, add32_rng _ _, add32_rng _ _⟩
theorem h0_rng : Rng h0 := by unfold Rng h0; decide
theorem blocks_rng : ∀ (f : Nat) (h : H5) (p : List UInt8), Rng h → Rng (blocks f h p)
 | 0, _, _, h => h
 | f + 1, h, p, hr => by
  rw [blocks]
  split
  ·exact blocks_rng f _ _ (mixH_rng h p)
  ·exact hr
def dig5 (h : H5) : List UInt8 := sums.be4 h.a.toNat ++ sums.be4 h.b.toNat ++ sums.be4 h.c.toNat ++ sums.be4 h.d.toNat ++ sums.be4 h.e.toNat
set_option maxHeartbeats 4000000 in
theorem sum_sha (g : Nat) (h : H5) (ra : Option Addr) (rc : Nat) (rs : List UInt8) (len : Nat) (w : World) (hs : Sh w g h ra rc rs len) (hrl : rs.length < 64) (hrng : Rng h) (hlen : len ≤ 140737488355328) :
  Calls Tryz.prog 96 #[.pointer (some ⟨g, 0, none⟩)] w fun e w' => (∃ ao c, e = .returned (.slice ao 20 c) ∧ Rd w' ao c (dig5 (blocks (padded rs len).length h (padded rs len)))) ∧ Fr [] w w' := by
 obtain ⟨R, hR⟩ : ∃ R, R = rs.length := ⟨_, rfl⟩
 obtain ⟨C, hC, hc⟩ := hs.blk
 obtain ⟨o1, o2, o3⟩ := hs.own.shape
 rw [List.length_map, ← hR] at o1
 rw [← hR] at hc hrl
 have c0 := (cell_of hC 0).trans hc.k
 have c6 := (cell_of hC 6).trans hc.r
 have hrd := hs.own.rd
 have H := Lib.hid (And.intro hC (And.intro hc (And.intro hs (And.intro hR hrd))))
 clear hC hc hs hR hrd
 go_enter Tryz.func96, Tryz.ntmps96
 have tok1 : True := trivial
 go_upto_block 1 with (first | (have _t := tok1; refine wpList_append_mid sums.sliceU8 rfl _ _ rfl none 0 0 [] rfl (Own.nil _ _) rfl ra R rc (rs.map bv) rfl o1 o3 H.out.2.2.2.2.cs (by rw [List.length_map]; exact H.out.2.2.2.1.symm) (sums.bv_one _) (by omega) (by unfold maxLen; omega) ?_; intro a1 q1 w1 A1; rw [List.nil_append] at A1; have H1 := Lib.hid A1; clear A1; clear tok1 _t) | (refine wpList_append_mid sums.sliceU8 rfl _ _ rfl a1 R q1 (rs.map bv) rfl (H1.out.own.fr ((Fr.refl [] w1).alloc (.cells #[.int .u8 128] 5)) (by simp)) (by rw [List.length_map]; exact H.out.2.2.2.1.symm) (some ⟨w1.heap.size, 0, none⟩) 1 1 [.int .u8 128] rfl (by omega) (by simp) (cs_new w1 _ _ _) rfl (by simp [Value.oneCell']) (by omega) (by unfold maxLen; omega) ?_; intro a2 q2 w2 A2; have H2 := Lib.hid A2; clear A2))
 have fw2 : Fr [] w w2 := ((H1.out.fr.mono (T := []) (by simp [lib.blk])).trans ((Fr.refl [] w1).alloc (.cells #[.int .u8 128] 5))).step H2.out.fr (fun y hy => by
  rcases H1.out.at_ y hy with k | k
  ·simp [lib.blk] at k
  ·exact .inr k)
 have hnew2 : ∀ x ∈ lib.blk a2, w.heap.size ≤ x := fun x hx => by
  have h1 := H1.out.fr.size
  rcases H2.out.at_ x hx with k | k
  ·rcases H1.out.at_ x k with k2 | k2
   ·simp [lib.blk] at k2
   ·exact k2
  ·rw [World.size_alloc] at k; omega
 have hown2 : Own w2 5 a2 q2 ((rs ++ [128]).map bv) := by rw [List.map_append]; exact H2.out.own
 obtain ⟨Z, hZ⟩ : ∃ Z, Z = zer (R + 1) := ⟨_, rfl⟩
 have hZ2 : Z < 64 ∧ (R + 1 + Z) % 64 = 56 := by rw [hZ]; unfold zer; omega
 have HW := Lib.hid (And.intro fw2 (And.intro hnew2 (And.intro hown2 hZ)))
 clear fw2 hnew2 hown2 hZ c6 H1 H2
 go_wp2
 go_loopg [3] Z (fun k s3 wr => ∃ (j N : Nat) (a : Option Addr) (q : Nat), s3 = .slice a N q ∧ N = R + 1 + j ∧ j + k = Z ∧ Own wr 5 a q ((rs ++ [128] ++ List.replicate j 0).map bv) ∧ Fr [] w wr ∧ ∀ x ∈ lib.blk a, w.heap.size ≤ x)
 case atStart => exact ⟨0, R + 1, a2, q2, rfl, rfl, by omega, by simpa using HW.out.2.2.1, HW.out.1, HW.out.2.1⟩
 case round =>
  obtain ⟨j, N, a, q, rfl, hN, hjk, hown, hf, hnew⟩ := hrel
  obtain ⟨p1, p2, p3⟩ := hown.shape
  have hll : (rs ++ [128] ++ List.replicate j (0 : UInt8)).length = N := by
   simp only [List.length_append, List.length_singleton, List.length_replicate]
   rw [← H.out.2.2.2.1, hN]
  rw [List.length_map, hll] at p1
  have HR := Lib.hid (And.intro hown (And.intro hf (And.intro hnew hll)))
  clear hown hf hnew hll
  by_cases hj : j < Z
  ·obtain ⟨k, rfl⟩ : ∃ k, gk = k + 1 := ⟨gk - 1, by omega⟩
   have hne : ¬ (N % 64 = 56) := by omega
   have d1 : ((N : Int) % 64 != 56) = true := by simp; omega
   have HN := Lib.hid (And.intro hN hjk)
   have hNb : N ≤ 200 := by omega
   clear hne hN hjk
   go_wp2_with (refine wpList_append_mid sums.sliceU8 rfl _ _ rfl a N q ((rs ++ [128] ++ List.replicate j 0).map bv) rfl (HR.out.1.fr ((Fr.refl [] wr).alloc (.cells #[.int .u8 0] 5)) (by simp)) (by rw [List.length_map]; exact HR.out.2.2.2) (some ⟨wr.heap.size, 0, none⟩) 1 1 [.int .u8 0] rfl (by omega) (by simp) (cs_new wr _ _ _) rfl (by simp [Value.oneCell']) (by omega) (by unfold maxLen; omega) ?_; intro a4 q4 w4 A4; have H4 := Lib.hid A4; clear A4)
   go_roundg k
   case measure => omega
   case rel =>
    obtain ⟨hN, hjk⟩ := HN.out
    refine ⟨j + 1, N + 1, a4, q4, rfl, by omega, by omega, ?_, (HR.out.2.1.trans ((Fr.refl [] wr).alloc (.cells #[.int .u8 0] 5))).step H4.out.fr (fun y hy => .inr (HR.out.2.2.1 y hy)), fun x hx => ?_⟩
    ·rw [List.replicate_succ', ← List.append_assoc, List.map_append]
     exact H4.out.own
    ·have h1 := HR.out.2.1.size
     rcases H4.out.at_ x hx with k | k
     ·exact HR.out.2.2.1 x k
     ·rw [World.size_alloc] at k; omega
  ·obtain rfl : j = Z := by omega
   obtain rfl : gk = 0 := by omega
   have d1 : ((N : Int) % 64 != 56) = false := by simp; omega
   have hNb : N ≤ 200 := by omega
   have HN := Lib.hid hN
   clear hN hjk
   go_upto_region 9 with fail
   clear d1
   obtain ⟨x1, hx1⟩ : ∃ x, x = len / 536870912 := ⟨_, rfl⟩
   obtain ⟨x2, hx2⟩ : ∃ x, x = len * 8 % 4294967296 := ⟨_, rfl⟩
   have e1 : (len : Int) / 536870912 = (x1 : Int) := by omega
   have e2 : ((len : Int) * 8) % 4294967296 = (x2 : Int) := by omega
   obtain ⟨bs, hbs⟩ : ∃ bs, bs = rs ++ [128] ++ List.replicate j (0 : UInt8) := ⟨_, rfl⟩
   have hpt : bs = padTo rs := by rw [hbs, padTo, ← H.out.2.2.2.1, ← HW.out.2.2.2]
   have hbl : bs.length = N := by rw [hbs]; exact HR.out.2.2.2
   have hob := HR.out.1
   rw [← hbs] at hob
   have hbg := HR.out.2.1.blk H.out.1 (by simp)
   have hgs : g < w.heap.size := lt_of_block H.out.1
   have hga : g ∉ lib.blk a := fun hm => by have := HR.out.2.2.1 g hm; omega
   obtain ⟨S, hS⟩ : ∃ S, S = lib.blk a := ⟨_, rfl⟩
   have s7 : ∀ x, (sup S wr.drew x).cell? ⟨g, 7, none⟩ = some (.int .u64 (len : Nat)) := fun x => (sup_fr S wr.drew x).cell (show wr.drew.cell? _ = _ from (cell_of hbg 7).trans H.out.2.1.n) (by rw [hS]; exact hga)
   have hf1 : Calls Tryz.prog 119 #[.slice a N q, .int .u32 x1] wr.drew (sums.Foured wr.drew a bs x1) := by
    have := sums.four_any a q bs x1 wr.drew (by omega) hob (by omega)
    rw [hbl] at this
    exact this
   have hf2 := fun w' a' q' (ho : Own w' 5 a' q' ((bs ++ sums.be4 x1).map bv)) => sums.four_any a' q' (bs ++ sums.be4 x1) x2 w' (by omega) ho (by rw [List.length_append, sums.be4_length]; omega)
   rw [show (bs ++ sums.be4 x1).length = N + 4 from by rw [List.length_append, sums.be4_length, hbl]] at hf2
   unfold sums.Foured at hf1 hf2
   rw [hbl] at hf1
   have hx2l : x2 < 4294967296 := by omega
   have HF := Lib.hid (And.intro hf1 (And.intro hf2 (And.intro hbg (And.intro hga (And.intro hS (And.intro hpt (And.intro hbl (And.intro hx1 hx2))))))))
   clear hf1 hf2 hbg hga hS hpt hbl hbs hob hx1 hx2
   refine region_mixR 16 [(false, 0), (false, 1), (false, 2), (false, 3), (false, 4), (false, 5), (false, 6), (false, 8), (false, 9), (false, 10), (false, 11), (false, 12), (false, 13), (true, 7), (true, 14), (false, 15)] S (by kernel_rfl) (by kernel_rfl) (fun _ _ d _ _ h => by cases d <;> exact h) ?_
   simp only [List.map_cons, List.map_nil, List.getD_cons_zero, List.getD_cons_succ, List.drop_succ_cons, List.drop_zero, List.drop_nil]
   refine mixR_seg 13 rfl ?_
   simp only [List.take_succ_cons, List.take_zero, List.drop_succ_cons, List.drop_zero, List.map_cons, List.map_nil]
   repeat (go_big_quiet_step (fail))
   refine wpQuiet_nil ?_
   have HE2 := Lib.hid e2
   clear s7 e1 e2
   refine mixR_eff rfl ?_
   intro X hX
   go_wp2_with (go_at_call 119; refine HF.out.1.mono ?_; rintro e w5 ⟨a5, q5, rfl, A5⟩)
   have fb1 : Fr S wr.drew w5 := by rw [HF.out.2.2.2.2.1]; exact A5.fr
   refine hX.out _ _ wr.drew (Fr.refl _ _) fb1 ?_
   clear hX X
   have HA5 := Lib.hid A5
   clear A5
   refine mixR_eff rfl ?_
   intro X hX
   have hf2 := HF.out.2.1 _ a5 q5 HA5.out.own
   rw [← HE2.out, show (bs ++ sums.be4 x1).length = N + 4 from by rw [List.length_append, sums.be4_length, HF.out.2.2.2.2.2.2.1]] at hf2
   have HF2 := Lib.hid hf2
   clear hf2
   go_wp2_with (go_at_call 119; go_loud (with_reducible refine HF2.out.mono ?_); rintro e w6 ⟨a6, q6, rfl, A6⟩)
   have fb2 : Fr S wr.drew w6 := fb1.step A6.fr fun y hy => by
    rcases HA5.out.at_ y hy with k | k
    ·exact .inl (by rw [HF.out.2.2.2.2.1]; exact k)
    ·exact .inr k
   refine hX.out _ _ wr.drew (Fr.refl _ _) fb2 ?_
   clear hX X
   have HA6 := Lib.hid A6
   clear A6
   refine mixR_seg 1 rfl ?_
   simp only [List.take_succ_cons, List.take_zero, List.drop_succ_cons, List.drop_zero, List.map_cons, List.map_nil]
   repeat (go_big_quiet_step (fail))
   refine wpQuiet_nil ?_
   refine mixR_nil ?_
   have fw6 : Fr [] w w6 := (HR.out.2.1.trans (Fr.drew1 [] wr)).step fb2 (fun y hy => .inr (by rw [HF.out.2.2.2.2.1] at hy; exact HR.out.2.2.1 y hy))
   have hbg := fw6.blk H.out.1 (by simp)
   have c1 := (cell_of hbg 1).trans H.out.2.1.a
   have c2 := (cell_of hbg 2).trans H.out.2.1.b
   have c3 := (cell_of hbg 3).trans H.out.2.1.c
   have c4 := (cell_of hbg 4).trans H.out.2.1.d
   have c5 := (cell_of hbg 5).trans H.out.2.1.e
   obtain ⟨pd, hpd⟩ : ∃ pd, pd = padded rs len := ⟨_, rfl⟩
   have hpd2 : bs ++ sums.be4 x1 ++ sums.be4 x2 = pd := by rw [hpd, padded, HF.out.2.2.2.2.2.1, HF.out.2.2.2.2.2.2.2.1, HF.out.2.2.2.2.2.2.2.2]
   have hpl : pd.length = N + 4 + 4 := by rw [← hpd2, List.length_append, List.length_append, sums.be4_length, sums.be4_length, HF.out.2.2.2.2.2.2.1]
   have hpm : pd.length % 64 = 0 := by rw [hpd]; exact padded_length rs len
   have hop : Own w6 5 a6 q6 (pd.map bv) := by rw [← hpd2]; exact HA6.out.own
   have hnp : ∀ x ∈ lib.blk a6, w.heap.size ≤ x := fun x hx => by
    have k0 := HR.out.2.1.size
    rcases HA6.out.at_ x hx with k | k
    ·rcases HA5.out.at_ x k with k2 | k2
     ·exact HR.out.2.2.1 x k2
     ·exact Nat.le_trans k0 k2
    ·exact Nat.le_trans (Nat.le_trans k0 fb1.size) k
   rw [← hpl]
   have HP := Lib.hid (And.intro fw6 (And.intro hop (And.intro hnp (And.intro hpd (And.intro hpl hpm)))))
   clear fw6 hop hnp hpd hpl hpm hpd2 hbg fb1 fb2 HA5 HA6
   go_upto_block 3 with fail
   clear c1 c2 c3 c4 c5
   obtain ⟨Q, w7, hQ, hw7, f7, b7⟩ : ∃ Q w7, Q = w6.heap.size ∧ w7 = w6.alloc (.cells #[.int .u32 h.a, .int .u32 h.b, .int .u32 h.c, .int .u32 h.d, .int .u32 h.e] 185) ∧ Fr [] w6 w7 ∧ w7.heap[Q]? = some (.cells h.vals 185 (0, 0)) := ⟨_, _, rfl, rfl, (Fr.refl [] w6).alloc _, alloc_at w6 _⟩
   rw [← hw7, ← hQ]
   have H7 := Lib.hid (And.intro f7 (And.intro b7 hQ))
   clear hw7 hQ f7 b7
   go_wp2
   go_loopg [3] pd.length (fun k s3 wr => ∃ (h' : H5) (ps : List UInt8) (P : Nat) (a : Option Addr) (q : Nat), s3 = .slice a P q ∧ P = ps.length ∧ P % 64 = 0 ∧ P ≤ k ∧ Own w7 5 a q (ps.map bv) ∧ Q ∉ lib.blk a ∧ wr.heap[Q]? = some (.cells h'.vals 185 (0, 0)) ∧ Fr [Q] w7 wr ∧ Rng h' ∧ blocks k h' ps = blocks pd.length h pd)
   case atStart => exact ⟨h, pd, pd.length, a6, q6, rfl, rfl, HP.out.2.2.2.2.2, Nat.le_refl _, HP.out.2.1.fr H7.out.1 (by simp), fun hm => by have := HP.out.2.1.lt _ hm; rw [H7.out.2.2] at this; omega, H7.out.2.1, Fr.refl _ _, hrng, rfl⟩
   case round =>
    obtain ⟨h', ps, P, a, q, rfl, hP, hP64, hPk, hown, hQa, hbQ, hf, hrg, hbl⟩ := hrel
    obtain ⟨p1, p2, p3⟩ := hown.shape
    rw [List.length_map, ← hP] at p1
    have HL := Lib.hid (And.intro hown (And.intro hQa (And.intro hbQ (And.intro hf (And.intro hrg (And.intro hbl (And.intro hP hP64)))))))
    have c0 := cell_of hbQ 0
    have c1 := cell_of hbQ 1
    have c2 := cell_of hbQ 2
    have c3 := cell_of hbQ 3
    have c4 := cell_of hbQ 4
    unfold H5.vals at c0 c1 c2 c3 c4
    simp only [List.getElem?_toArray, List.getElem?_cons_zero, List.getElem?_cons_succ] at c0 c1 c2 c3 c4
    by_cases h0 : 0 < P
    ·have h64 : 64 ≤ P := by omega
     obtain ⟨k, rfl⟩ : ∃ k, gk = k + 1 := ⟨gk - 1, by omega⟩
     clear hown hQa hbQ hf hrg hbl hP hP64
     have hmx := mix_any h' a P q ps wr (HL.out.1.fr HL.out.2.2.2.1 (fun x hx hm => by simp at hm; rw [hm] at hx; exact HL.out.2.1 hx)).rd HL.out.2.2.2.2.2.2.1.symm h64
     unfold H5.vals at hmx
     have HM := Lib.hid hmx
     clear hmx
     go_wp2_with (first | (go_at_call 117; refine HM.out.mono ?_; rintro e w8 ⟨rfl, f8⟩; have hb8 := f8.blk HL.out.2.2.1 (by simp); have d0 := cell_of hb8 0; have d1 := cell_of hb8 1; have d2 := cell_of hb8 2; have d3 := cell_of hb8 3; have d4 := cell_of hb8 4; have y0 := frozen_of hb8 0; have y1 := frozen_of hb8 1; have y2 := frozen_of hb8 2; have y3 := frozen_of hb8 3; have y4 := frozen_of hb8 4; unfold H5.vals at d0 d1 d2 d3 d4; simp only [List.getElem?_toArray, List.getElem?_cons_zero, List.getElem?_cons_succ] at d0 d1 d2 d3 d4; have H8 := Lib.hid (And.intro f8 hb8); clear f8 hb8 c0 c1 c2 c3 c4) | (refine wpList_slice_from sums.sliceU8 64 rfl _ _ rfl a P q _ rfl rfl rfl h64 p1 ?_))
     obtain ⟨k1, k2⟩ := put5 H8.out.2 (.int .u32 (mixH h' ps).a) (.int .u32 (mixH h' ps).b) (.int .u32 (mixH h' ps).c) (.int .u32 (mixH h' ps).d) (.int .u32 (mixH h' ps).e)
     have HK := Lib.hid (And.intro k1 k2)
     clear k1 k2
     go_roundg k
     case measure => omega
     case rel =>
      have hd := HL.out.1.drop 64 (by rw [List.length_map, ← HL.out.2.2.2.2.2.2.1]; exact h64)
      rw [← List.map_drop] at hd
      refine ⟨mixH h' ps, ps.drop 64, P - 64, _, _, rfl, by rw [List.length_drop, ← HL.out.2.2.2.2.2.2.1], by have := HL.out.2.2.2.2.2.2.2; omega, by omega, hd, by rw [cutAtN_blk]; exact HL.out.2.1, HK.out.1, (HL.out.2.2.2.1.trans (H8.out.1.mono (by simp))).trans HK.out.2, mixH_rng _ _, ?_⟩
      have := HL.out.2.2.2.2.2.1
      rw [blocks, if_pos (by rw [← HL.out.2.2.2.2.2.2.1]; exact h64)] at this
      exact this
    ·have hbz : blocks gk h' ps = h' := by
      cases gk with
      | zero => rfl
      | succ k => rw [blocks, if_neg (by rw [← hP]; omega)]
     rw [hbz] at hbl
     obtain ⟨ha, hb, hc, hd, he⟩ := h'
     obtain ⟨⟨r1, l1⟩, ⟨r2, l2⟩, ⟨r3, l3⟩, ⟨r4, l4⟩, ⟨r5, l5⟩⟩ := hrg
     simp only at r1 r2 r3 r4 r5 l1 l2 l3 l4 l5 c0 c1 c2 c3 c4
     obtain ⟨na, rfl⟩ := Int.eq_ofNat_of_zero_le r1
     obtain ⟨nb, rfl⟩ := Int.eq_ofNat_of_zero_le r2
     obtain ⟨nc, rfl⟩ := Int.eq_ofNat_of_zero_le r3
     obtain ⟨nd, rfl⟩ := Int.eq_ofNat_of_zero_le r4
     obtain ⟨ne, rfl⟩ := Int.eq_ofNat_of_zero_le r5
     have fwr : Fr [] w wr := (HP.out.1.trans H7.out.1).step hf (fun y hy => .inr (by simp at hy; rw [hy, H7.out.2.2]; exact HP.out.1.size))
     have hdg : dig5 (blocks pd.length h pd) = sums.be4 na ++ sums.be4 nb ++ sums.be4 nc ++ sums.be4 nd ++ sums.be4 ne := by rw [← hbl]; rfl
     have HD := Lib.hid (And.intro fwr hdg)
     have HL5 : Hid ((na < 4294967296 ∧ nb < 4294967296) ∧ (nc < 4294967296 ∧ nd < 4294967296 ∧ ne < 4294967296)) := Lib.hid (by omega)
     clear hown hQa hbQ hf hbl hP hP64 hbz fwr hdg HL r1 r2 r3 r4 r5 l1 l2 l3 l4 l5
     have hmk : ∀ w : World, (Instr.makeSlice 23 (.int .i64 0) (.int .i64 20)).run Tryz.prog w = .ok (.slice (some ⟨w.heap.size, 0, none⟩) 0 20) (w.alloc (.cells #[.int .u8 0, .int .u8 0, .int .u8 0, .int .u8 0, .int .u8 0, .int .u8 0, .int .u8 0, .int .u8 0, .int .u8 0, .int .u8 0, .int .u8 0, .int .u8 0, .int .u8 0, .int .u8 0, .int .u8 0, .int .u8 0, .int .u8 0, .int .u8 0, .int .u8 0, .int .u8 0] 5)) := fun _ => by kernel_rfl
     go_upto_region 15 with fail
     obtain ⟨Bo, w9, hBo, hw9, f9, b9⟩ : ∃ Bo w9, Bo = wr.heap.size ∧ w9 = wr.alloc (.cells #[.int .u8 0, .int .u8 0, .int .u8 0, .int .u8 0, .int .u8 0, .int .u8 0, .int .u8 0, .int .u8 0, .int .u8 0, .int .u8 0, .int .u8 0, .int .u8 0, .int .u8 0, .int .u8 0, .int .u8 0, .int .u8 0, .int .u8 0, .int .u8 0, .int .u8 0, .int .u8 0] 5) ∧ Fr [] wr w9 ∧ w9.heap[Bo]? = some (.cells #[.int .u8 0, .int .u8 0, .int .u8 0, .int .u8 0, .int .u8 0, .int .u8 0, .int .u8 0, .int .u8 0, .int .u8 0, .int .u8 0, .int .u8 0, .int .u8 0, .int .u8 0, .int .u8 0, .int .u8 0, .int .u8 0, .int .u8 0, .int .u8 0, .int .u8 0, .int .u8 0] 5 (0, 0)) := ⟨_, _, rfl, rfl, (Fr.refl [] wr).alloc _, alloc_at wr _⟩
     rw [← hw9, ← hBo]
     have e0 := f9.cell c0 (by simp)
     have e1 := f9.cell c1 (by simp)
     have e2 := f9.cell c2 (by simp)
     have e3 := f9.cell c3 (by simp)
     have e4 := f9.cell c4 (by simp)
     have o9 : Own w9 5 (some ⟨Bo, 0, none⟩) 20 (([] : List UInt8).map bv) := .inr ⟨Bo, 0, _, rfl, b9, Nat.zero_le _, by decide, Nat.le_refl _, rfl⟩
     have n9 : w.heap.size ≤ Bo := by rw [hBo]; exact HD.out.1.size
     have H9 := Lib.hid (And.intro (HD.out.1.trans f9) (And.intro o9 n9))
     clear hw9 hBo f9 b9 o9 n9 c0 c1 c2 c3 c4 hmk
     go_upto_block 5 with fail
     clear e0 e1 e2 e3 e4
     go_wp2
     go_loopg [5, 7, 78] 5 (fun k s5 s7 s78 wr => ∃ (j n : Nat) (a : Option Addr) (q : Nat) (out : List UInt8), s78 = .int .i64 (j : Nat) ∧ s5 = .slice a n q ∧ n = out.length ∧ j + k = 5 ∧ n = 4 * j ∧ Own wr 5 a q (out.map bv) ∧ Fr [] w wr ∧ (∀ x ∈ lib.blk a, w.heap.size ≤ x) ∧ out = ([na, nb, nc, nd, ne].take j).flatMap sums.be4)
     case atStart => exact ⟨0, 0, _, 20, [], rfl, rfl, rfl, rfl, rfl, H9.out.2.1, H9.out.1, fun x hx => by simp [lib.blk] at hx; rw [hx]; exact H9.out.2.2, rfl⟩
     case round =>
      obtain ⟨j, n, a, q, out, rfl, rfl, hn, hjk, hn4, hown, hf, hnew, hout⟩ := hrel
      by_cases hj : j < 5
      ·obtain ⟨k, rfl⟩ : ∃ k, gk = k + 1 := ⟨gk - 1, by omega⟩
       obtain ⟨⟨m1, m2⟩, m3, m4, m5⟩ := HL5.out
       have hfour := fun x (hx : x < 4294967296) => sums.four_any a q out x wr hx hown (by omega)
       rw [← hn] at hfour
       unfold sums.Foured at hfour
       rw [← hn] at hfour
       have HFO := Lib.hid (And.intro hfour (And.intro hf (And.intro hnew (And.intro hout hn))))
       clear hfour hf hnew hout hown hn
       have key : ∀ (x : Nat) (w' : World) (a' : Option Addr) (q' : Nat), ([na, nb, nc, nd, ne].take (j + 1)).flatMap sums.be4 = out ++ sums.be4 x → OwnMore wr w' 5 a a' q' ((out ++ sums.be4 x).map bv) →
         ∃ out', n + 4 = out'.length ∧ n + 4 = 4 * (j + 1) ∧ Own w' 5 a' q' (out'.map bv) ∧ Fr [] w w' ∧ (∀ x ∈ lib.blk a', w.heap.size ≤ x) ∧ out' = ([na, nb, nc, nd, ne].take (j + 1)).flatMap sums.be4 := fun x w' a' q' hx A =>
        ⟨out ++ sums.be4 x, by rw [List.length_append, sums.be4_length, HFO.out.2.2.2.2], by omega, A.own, HFO.out.2.1.step A.fr (fun y hy => .inr (HFO.out.2.2.1 y hy)), fun y hy => by
         rcases A.at_ y hy with k | k
         ·exact HFO.out.2.2.1 y k
         ·exact Nat.le_trans HFO.out.2.1.size k, hx.symm⟩
       have HK := Lib.hid key
       have HJ := Lib.hid (And.intro hn4 hjk)
       clear key hn4 hjk
       rcases (show j = 0 ∨ j = 1 ∨ j = 2 ∨ j = 3 ∨ j = 4 by omega) with rfl | rfl | rfl | rfl | rfl
       ·have ix : ∀ w : World, (Instr.index 185 (.agg #[.int .u32 (na : Nat), .int .u32 (nb : Nat), .int .u32 (nc : Nat), .int .u32 (nd : Nat), .int .u32 (ne : Nat)]) (.int .i64 0)).run Tryz.prog w = .ok (.int .u32 (na : Nat)) w := fun _ => by kernel_rfl
        go_wp2_with (go_at_call 119; (with_reducible refine (HFO.out.1 na m1).mono ?_); rintro e w10 ⟨a10, q10, rfl, A10⟩; have HA10 := Lib.hid A10; clear A10)
        go_roundg k
        case measure => have := HJ.out.2; omega
        case rel =>
         have hjk := HJ.out.2
         obtain ⟨out', t1, t2, t3, t4, t5, t6⟩ := HK.out na _ _ _ (by rw [HFO.out.2.2.2.1]; simp) HA10.out
         exact ⟨1, n + 4, a10, q10, out', rfl, rfl, t1, by omega, t2, t3, t4, t5, t6⟩
       ·have ix : ∀ w : World, (Instr.index 185 (.agg #[.int .u32 (na : Nat), .int .u32 (nb : Nat), .int .u32 (nc : Nat), .int .u32 (nd : Nat), .int .u32 (ne : Nat)]) (.int .i64 1)).run Tryz.prog w = .ok (.int .u32 (nb : Nat)) w := fun _ => by kernel_rfl
        go_wp2_with (go_at_call 119; (with_reducible refine (HFO.out.1 nb m2).mono ?_); rintro e w10 ⟨a10, q10, rfl, A10⟩; have HA10 := Lib.hid A10; clear A10)
        go_roundg k
        case measure => have := HJ.out.2; omega
        case rel =>
         have hjk := HJ.out.2
         obtain ⟨out', t1, t2, t3, t4, t5, t6⟩ := HK.out nb _ _ _ (by rw [HFO.out.2.2.2.1]; simp) HA10.out
         exact ⟨2, n + 4, a10, q10, out', rfl, rfl, t1, by omega, t2, t3, t4, t5, t6⟩
       ·have ix : ∀ w : World, (Instr.index 185 (.agg #[.int .u32 (na : Nat), .int .u32 (nb : Nat), .int .u32 (nc : Nat), .int .u32 (nd : Nat), .int .u32 (ne : Nat)]) (.int .i64 2)).run Tryz.prog w = .ok (.int .u32 (nc : Nat)) w := fun _ => by kernel_rfl
        go_wp2_with (go_at_call 119; (with_reducible refine (HFO.out.1 nc m3).mono ?_); rintro e w10 ⟨a10, q10, rfl, A10⟩; have HA10 := Lib.hid A10; clear A10)
        go_roundg k
        case measure => have := HJ.out.2; omega
        case rel =>
         have hjk := HJ.out.2
         obtain ⟨out', t1, t2, t3, t4, t5, t6⟩ := HK.out nc _ _ _ (by rw [HFO.out.2.2.2.1]; simp) HA10.out
         exact ⟨3, n + 4, a10, q10, out', rfl, rfl, t1, by omega, t2, t3, t4, t5, t6⟩
       ·have ix : ∀ w : World, (Instr.index 185 (.agg #[.int .u32 (na : Nat), .int .u32 (nb : Nat), .int .u32 (nc : Nat), .int .u32 (nd : Nat), .int .u32 (ne : Nat)]) (.int .i64 3)).run Tryz.prog w = .ok (.int .u32 (nd : Nat)) w := fun _ => by kernel_rfl
        go_wp2_with (go_at_call 119; (with_reducible refine (HFO.out.1 nd m4).mono ?_); rintro e w10 ⟨a10, q10, rfl, A10⟩; have HA10 := Lib.hid A10; clear A10)
        go_roundg k
        case measure => have := HJ.out.2; omega
        case rel =>
         have hjk := HJ.out.2
         obtain ⟨out', t1, t2, t3, t4, t5, t6⟩ := HK.out nd _ _ _ (by rw [HFO.out.2.2.2.1]; simp) HA10.out
         exact ⟨4, n + 4, a10, q10, out', rfl, rfl, t1, by omega, t2, t3, t4, t5, t6⟩
       ·have ix : ∀ w : World, (Instr.index 185 (.agg #[.int .u32 (na : Nat), .int .u32 (nb : Nat), .int .u32 (nc : Nat), .int .u32 (nd : Nat), .int .u32 (ne : Nat)]) (.int .i64 4)).run Tryz.prog w = .ok (.int .u32 (ne : Nat)) w := fun _ => by kernel_rfl
        go_wp2_with (go_at_call 119; (with_reducible refine (HFO.out.1 ne m5).mono ?_); rintro e w10 ⟨a10, q10, rfl, A10⟩; have HA10 := Lib.hid A10; clear A10)
        go_roundg k
        case measure => have := HJ.out.2; omega
        case rel =>
         have hjk := HJ.out.2
         obtain ⟨out', t1, t2, t3, t4, t5, t6⟩ := HK.out ne _ _ _ (by rw [HFO.out.2.2.2.1]; simp) HA10.out
         exact ⟨5, n + 4, a10, q10, out', rfl, rfl, t1, by omega, t2, t3, t4, t5, t6⟩
      ·obtain rfl : j = 5 := by omega
       have HZ := Lib.hid (And.intro hown (And.intro hf (And.intro hout hn)))
       have hn20 : n = 20 := by omega
       subst hn20
       clear hown hf hout hn hnew hn4 hjk
       go_wp2
       go_ret
       refine ⟨⟨a, q, rfl, ?_⟩, HZ.out.2.1⟩
       have e : out = dig5 (blocks (padded rs len).length h (padded rs len)) := by
        rw [← HP.out.2.2.2.1, HD.out.2, HZ.out.2.2.1]
        simp
       rw [← e]
       exact HZ.out.1.rd
end Go.Proofs.YtkmpfgpfbmeihaaGreatDoor.sha
namespace Go.Proofs.YtkmpfgpfbmeihaaGreatDoor.sha
open Go Go.RowKit lib bm
theorem leftOf_lt : ∀ (f : Nat) (p : List UInt8), p.length ≤ f → (leftOf f p).length < 64
 | 0, p, h => by rw [leftOf]; omega
 | f + 1, p, h => by
  rw [leftOf]
  split
  ·exact leftOf_lt f _ (by rw [List.length_drop]; omega)
  ·omega
def sha1 (b : List UInt8) : List UInt8 :=
 dig5 (blocks (padded (leftOf b.length b) b.length).length (blocks b.length h0 b) (padded (leftOf b.length b) b.length))
theorem sha1_length (b : List UInt8) : (sha1 b).length = 20 := rfl
set_option maxHeartbeats 1000000 in
theorem whole_sha (a : Option Addr) (cap : Nat) (bs : List UInt8) (w : World) (h : Rd w a cap bs) (hl : bs.length ≤ 140737488355328) :
  Calls Tryz.prog 69 #[.int .i64 1, .slice a bs.length cap] w fun e w' => (∃ ao c, e = .returned (.slice ao 20 c) ∧ Rd w' ao c (sha1 bs)) ∧ Fr [] w w' := by
 have H := Lib.hid h
 clear h
 go_enter Tryz.func69, Tryz.ntmps69
 go_upto_region 2 with (go_at_call 106; refine (begun_one _).mono ?_; rintro e w1 ⟨rfl, A1, f1⟩)
 have hw := write_sha w.heap.size h0 none 0 [] 0 cap a bs w1 A1 (H.out.fr f1) (fun hb x hx => by have := rd_lt H.out hb x hx; omega) (by omega) (by simp; omega)
 simp only [List.nil_append, Nat.zero_add] at hw
 have H1 := Lib.hid (And.intro hw f1)
 clear hw f1 A1
 go_upto_region 3 with (go_at_call 94; refine H1.out.1.mono ?_; rintro e w2 ⟨rfl, f2, ra, rc, A2, n2⟩)
 have hs := sum_sha _ _ _ _ _ _ w2 A2 (leftOf_lt _ _ (Nat.le_refl _)) (blocks_rng _ _ _ h0_rng) hl
 have H2 := Lib.hid (And.intro hs f2)
 clear hs f2 A2 n2
 go_wp2_with (go_at_call 96; refine H2.out.1.mono ?_; rintro e w3 ⟨⟨a3, c3, rfl, r3⟩, f3⟩)
 go_ret
 exact ⟨⟨a3, c3, rfl, r3⟩, (H1.out.2.step H2.out.2 (fun y hy => .inr (by simp [lib.blk] at hy; rw [hy]; exact Nat.le_refl _))).trans f3⟩
theorem sha1_any (a : Option Addr) (cap : Nat) (bs : List UInt8) (w : World) (h : Rd w a cap bs) (hl : bs.length ≤ 140737488355328) :
  Calls Tryz.prog 35 #[.slice a bs.length cap] w fun e w' => (∃ ao c, e = .returned (.slice ao 20 c) ∧ Rd w' ao c (sha1 bs)) ∧ Fr [] w w' := by
 have hw := Lib.hid (whole_sha a cap bs w h hl)
 clear h
 go_enter Tryz.func35, Tryz.ntmps35
 go_wp2_with (go_at_call 69; refine hw.out.mono ?_; rintro e w1 ⟨⟨a1, c1, rfl, r1⟩, f1⟩)
 go_ret
 exact ⟨⟨a1, c1, rfl, r1⟩, f1⟩
end Go.Proofs.YtkmpfgpfbmeihaaGreatDoor.sha
namespace Go.Proofs.YtkmpfgpfbmeihaaGreatDoor.delta
open Go Go.RowKit lib
def numb (n : Nat) : List UInt8 := if n ≤ 127 then [UInt8.ofNat n] else UInt8.ofNat (n % 128 + 128) :: numb (n / 128)
termination_by n
decreasing_by omega
theorem numb_small {n : Nat} (h : n ≤ 127) : numb n = [UInt8.ofNat n] := by rw [numb, if_pos h]
theorem numb_big {n : Nat} (h : 127 < n) : numb n = UInt8.ofNat (n % 128 + 128) :: numb (n / 128) := by rw [numb, if_neg (by omega)]
def rdn : Nat → Nat → Nat → List UInt8 → Nat × List UInt8 × Nat
 | 0, _, _, _ => (0, [], 3)
 | _ + 1, _, _, [] => (0, [], 4)
 | f + 1, i, n, c :: r => if c.toNat < 128 then (if 2147483647 < n + c.toNat % 128 * 128 ^ i then (0, [], 3) else (n + c.toNat % 128 * 128 ^ i, r, 0)) else rdn f (i + 1) (n + c.toNat % 128 * 128 ^ i) r
def rd (d : List UInt8) : Nat × List UInt8 × Nat := rdn 5 0 0 d
def sizes (d : List UInt8) : Nat × Nat × List UInt8 × Nat :=
 if (rd d).2.2 = 0 then (if (rd (rd d).2.1).2.2 = 0 then ((rd d).1, (rd (rd d).2.1).1, (rd (rd d).2.1).2.1, 0) else (0, 0, [], (rd (rd d).2.1).2.2)) else (0, 0, [], (rd d).2.2)
def pl (op : Nat) : Nat → Nat → Nat → Nat → List UInt8 → Option (Nat × Nat × List UInt8)
 | 0, _, p, n, d => some (p, (if n = 0 then 65536 else n), d)
 | f + 1, i, p, n, d => if op / 2 ^ i % 2 = 0 then pl op f (i + 1) p n d else match d with
  | [] => none
  | c :: r => if i < 4 then pl op f (i + 1) (p + c.toNat * 256 ^ i) n r else pl op f (i + 1) p (n + c.toNat * 256 ^ (i - 4)) r
def app (base : List UInt8) (tn : Nat) : Nat → List UInt8 → List UInt8 → List UInt8 × Nat
 | _, [], out => if out.length < tn then ([], 3) else (out, 0)
 | 0, _ :: _, _ => ([], 3)
 | f + 1, c :: r, out => if 128 ≤ c.toNat then match pl (c.toNat - 128) 7 0 0 0 r with
   | none => ([], 4)
   | some (p, n, rest) => if base.length < p ∨ base.length - p < n ∨ tn - out.length < n then ([], 3) else app base tn f rest (out ++ (base.drop p).take n)
  else if c.toNat = 0 ∨ tn - out.length < c.toNat then ([], 3) else if r.length < c.toNat then ([], 4) else app base tn f (r.drop c.toNat) (out ++ r.take c.toNat)
def apply (base d : List UInt8) (bound : Int) : List UInt8 × Nat :=
 if (sizes d).2.2.2 ≠ 0 then ([], (sizes d).2.2.2) else if (sizes d).1 ≠ base.length then ([], 3) else if bound.toNat < (sizes d).2.1 then ([], 5) else app base (sizes d).2.1 (sizes d).2.2.1.length (sizes d).2.2.1 []
theorem rdn_rest : ∀ (f i n : Nat) (d : List UInt8), ∃ k, (rdn f i n d).2.1.length + k = d.length ∧ ((rdn f i n d).2.2 = 0 → (rdn f i n d).2.1 = d.drop k ∧ (rdn f i n d).1 ≤ 2147483647)
 | 0, _, _, d => ⟨d.length, by simp [rdn], by simp [rdn]⟩
 | f + 1, i, n, [] => ⟨0, by simp [rdn], by simp [rdn]⟩
 | f + 1, i, n, c :: r => by
  rw [rdn]
  split
  ·split
   ·exact ⟨(c :: r).length, by simp, by simp⟩
   ·refine ⟨1, by simp, fun _ => ⟨by simp, by simp only; omega⟩⟩
  ·obtain ⟨k, h1, h2⟩ := rdn_rest f (i + 1) (n + c.toNat % 128 * 128 ^ i) r
   exact ⟨k + 1, by simp only [List.length_cons]; omega, fun h => by simpa using h2 h⟩
theorem sizes_to (d : List UInt8) : (sizes d).2.1 ≤ 2147483647 ∧ (sizes d).2.2.1.length ≤ d.length := by
 obtain ⟨k, h1, h2⟩ := rdn_rest 5 0 0 d
 unfold sizes
 split
 ·rename_i h0
  obtain ⟨k', h3, h4⟩ := rdn_rest 5 0 0 (rd d).2.1
  split
  ·rename_i h5
   refine ⟨(h4 h5).2, ?_⟩
   simp only
   unfold rd at *
   omega
  ·simp
 ·simp
theorem u8_nat {n : Nat} (h : n < 256) : (UInt8.ofNat n).toNat = n := by rw [UInt8.toNat_ofNat']; omega
theorem pow128 (i : Nat) : 128 ^ (i + 1) = 128 * 128 ^ i := by rw [Nat.pow_succ, Nat.mul_comm]
end Go.Proofs.YtkmpfgpfbmeihaaGreatDoor.delta
namespace Go.Proofs.YtkmpfgpfbmeihaaGreatDoor.pk
open Go lib
structure Ent where
 kind : Nat
 at_ : Nat
 size : Nat
 crc : Nat
 data : List UInt8
 base : List UInt8
 off : Nat
def phF (bs : List UInt8) : Nat → Nat → Nat → Nat → Except Nat (Nat × Nat × Nat)
 | 0, _, _, _ => .error 3
 | f + 1, i, kind, size => match bs[i]? with
  | none => .error 4
  | some c =>
   if i = 0 then
    if c.toNat / 16 % 8 = 0 ∨ c.toNat / 16 % 8 = 5 then .error 3
    else if 128 ≤ c.toNat then phF bs f 1 (c.toNat / 16 % 8) (c.toNat % 16) else .ok (c.toNat / 16 % 8, c.toNat % 16, 1)
   else if 128 ≤ c.toNat then phF bs f (i + 1) kind (size + c.toNat % 128 * 2 ^ (7 * i - 3))
   else if 2147483647 < size + c.toNat % 128 * 2 ^ (7 * i - 3) then .error 3
   else if 65536 < size + c.toNat % 128 * 2 ^ (7 * i - 3) then .error 5
   else .ok (kind, size + c.toNat % 128 * 2 ^ (7 * i - 3), i + 1)
def phead (bs : List UInt8) : Except Nat (Nat × Nat × Nat) := phF bs 5 0 0 0
def pbF (bs : List UInt8) : Nat → Nat → Nat → Except Nat (Nat × Nat)
 | 0, _, _ => .error 3
 | f + 1, i, v => match bs[i]? with
  | none => .error 4
  | some c => if c.toNat < 128 then .ok ((if 0 < i then (v + 1) * 128 else 0) + c.toNat % 128, i + 1) else pbF bs f (i + 1) ((if 0 < i then (v + 1) * 128 else 0) + c.toNat % 128)
def pback (bs : List UInt8) : Except Nat (Nat × Nat) := pbF bs 5 0 0
def pbase (bs : List UInt8) (at_ kind p : Nat) : Except Nat (List UInt8 × Nat × Nat) :=
 if kind = 6 then match pback (bs.drop p) with
  | .error e => .error e
  | .ok (v, k) => if v < 1 ∨ at_ < v then .error 3 else .ok ([], at_ - v, p + k)
 else if kind = 7 then if bs.length - p < 20 then .error 4 else .ok (hexb ((bs.drop p).take 20), 0, p + 20)
 else .ok ([], 0, p)
def pentry (bs : List UInt8) (at_ : Nat) : Except Nat (Ent × Nat) :=
 match phead (bs.drop at_) with
 | .error e => .error e
 | .ok (kind, size, n) => match pbase bs at_ kind (at_ + n) with
  | .error e => .error e
  | .ok (base, off, q) => match inf.izlib (bs.drop q) 65536 with
   | .error e => .error e
   | .ok (out, k) => if out.length = size then .ok (⟨kind, at_, size, crc.crc ((bs.drop at_).take (q + k - at_)), out, base, off⟩, q + k) else .error 3
def pents (bs : List UInt8) : Nat → Nat → List Ent → Except Nat (List Ent × Nat)
 | 0, at_, l => .ok (l, at_)
 | n + 1, at_, l => match pentry bs at_ with
  | .error e => .error e
  | .ok (x, p) => pents bs n p (l ++ [x])
def begin8 : List UInt8 := [80, 65, 67, 75, 0, 0, 0, 2]
def pread (bs : List UInt8) : Except Nat (List Ent × List UInt8) :=
 if 1048576 < bs.length then .error 5
 else if bs.take 8 ≠ begin8.take bs.length then .error 3
 else if bs.length < 12 then .error 4
 else if 4096 < crc.getb ((bs.drop 8).take 4) then .error 5
 else match pents bs (crc.getb ((bs.drop 8).take 4)) 12 [] with
  | .error e => .error e
  | .ok (l, at_) => if bs.length - at_ < 20 then .error 4
   else if (bs.drop at_).take 20 ≠ sha.sha1 (bs.take at_) then .error 6
   else if at_ + 20 < bs.length then .error 3
   else .ok (l, hexb (sha.sha1 (bs.take at_)))
structure Obj where
 kind : Int
 body : List UInt8
 id : List UInt8
 at_ : Nat
 crc : Nat
structure Kn where
 kind : Int
 body : List UInt8
 id : List UInt8
def oid (kind : Int) (body : List UInt8) : List UInt8 := hexb (sha.sha1 (obj.header kind body.length ++ body))
def whole (r : Ent) (kind : Int) (body : List UInt8) : Obj := ⟨kind, body, oid kind body, r.at_, r.crc⟩
abbrev St := Option (Except Nat (Obj × Nat))
def over (r : Ent) (kind : Int) (base : List UInt8) (d : Nat) : Except Nat (Obj × Nat) :=
 if 50 < d + 1 then .error 3 else if (delta.apply base r.data 65536).2 = 0 then .ok (whole r kind (delta.apply base r.data 65536).1, d + 1) else .error (delta.apply base r.data 65536).2
def atOf (l : List Ent) (i off : Nat) : Option Nat := (List.range i).find? fun k => match l[k]? with
 | some y => y.at_ == off
 | none => false
def idIs (id : List UInt8) : St → Bool
 | some (.ok (o, _)) => o.id == id
 | _ => false
def first1 (l : List Ent) (i : Nat) (x : Ent) : St :=
 if x.kind = 6 then (match atOf l i x.off with
  | none => some (.error 3)
  | some _ => none)
 else if x.kind = 7 then none else some (.ok (whole x x.kind x.data, 0))
def firsts (l : List Ent) : List St := (List.range l.length).map fun i => match l[i]? with
 | some x => first1 l i x
 | none => none
def onto (x : Ent) : St → St
 | none => none
 | some (.error e) => some (.error e)
 | some (.ok (o, d)) => some (over x o.kind o.body d)
def try1 (l : List Ent) (W : List St) (i : Nat) (x : Ent) : St :=
 if x.kind = 6 then (match atOf l i x.off with
  | none => none
  | some k => onto x (W[k]?.getD none))
 else onto x ((W.find? (idIs x.base)).getD none)
def pass (l : List Ent) : Nat → Nat → List St → Bool → List St × Bool
 | 0, _, W, more => (W, more)
 | n + 1, i, W, more => match l[i]?, W[i]? with
  | some x, some none => (match try1 l W i x with
   | none => pass l n (i + 1) W more
   | some s => pass l n (i + 1) (W.set i (some s)) true)
  | _, _ => pass l n (i + 1) W more
def kfind (kn : List Kn) (id : List UInt8) : Option Kn := kn.find? fun k => k.id == id && oid k.kind k.body == id
def ask (l : List Ent) (kn : List Kn) : Nat → Nat → List St → Option (List St)
 | 0, _, _ => none
 | n + 1, i, W => match l[i]?, W[i]? with
  | some x, some none => if x.kind = 7 then (match kfind kn x.base with
    | some k => some (W.set i (some (over x k.kind k.body 0)))
    | none => ask l kn n (i + 1) W) else ask l kn n (i + 1) W
  | _, _ => ask l kn n (i + 1) W
def resF (l : List Ent) (kn : List Kn) : Nat → List St → List St
 | 0, W => W
 | f + 1, W => if (pass l l.length 0 W false).2 then resF l kn f (pass l l.length 0 W false).1 else match ask l kn l.length 0 (pass l l.length 0 W false).1 with
  | some W2 => resF l kn f W2
  | none => (pass l l.length 0 W false).1
def gather : List St → Except Nat (List Obj)
 | [] => .ok []
 | none :: _ => .error 61
 | some (.error e) :: _ => .error e
 | some (.ok (o, _)) :: t => match gather t with
  | .error e => .error e
  | .ok r => .ok (o :: r)
def resolve (l : List Ent) (kn : List Kn) : Except Nat (List Obj) := gather (resF l kn (l.length + 1) (firsts l))
theorem phF_le (bs : List UInt8) : ∀ (f i kind size : Nat) {k s n : Nat}, phF bs f i kind size = .ok (k, s, n) → i < n ∧ n ≤ i + f ∧ n ≤ bs.length ∧ s ≤ 65536
 | 0, i, kind, size, k, s, n, h => by cases h
 | f + 1, i, kind, size, k, s, n, h => by
  rw [phF] at h
  split at h
  ·cases h
  ·rename_i c hc
   have hlt := (List.getElem?_eq_some_iff.1 hc).1
   split at h
   ·split at h
    ·cases h
    ·split at h
     ·obtain ⟨h1, h2, h3, h4⟩ := phF_le bs f _ _ _ h
      exact ⟨by omega, by omega, h3, h4⟩
     ·simp only [Except.ok.injEq, Prod.mk.injEq] at h
      omega
   ·split at h
    ·obtain ⟨h1, h2, h3, h4⟩ := phF_le bs f _ _ _ h
     exact ⟨by omega, by omega, h3, h4⟩
    ·split at h
     ·cases h
     ·split at h
      ·cases h
      ·simp only [Except.ok.injEq, Prod.mk.injEq] at h
       obtain ⟨_, h2, h3⟩ := h
       exact ⟨by omega, by omega, by omega, by omega⟩
theorem pbF_le (bs : List UInt8) : ∀ (f i v : Nat) {x n : Nat}, pbF bs f i v = .ok (x, n) → i < n ∧ n ≤ bs.length
 | 0, i, v, x, n, h => by cases h
 | f + 1, i, v, x, n, h => by
  rw [pbF] at h
  split at h
  ·cases h
  ·rename_i c hc
   have hlt := (List.getElem?_eq_some_iff.1 hc).1
   split at h
   ·simp only [Except.ok.injEq, Prod.mk.injEq] at h
    omega
   ·obtain ⟨h1, h2⟩ := pbF_le bs f _ _ h
    exact ⟨by omega, h2⟩
theorem pbase_le {bs : List UInt8} {at_ kind p : Nat} {base : List UInt8} {off q : Nat} (hp : p ≤ bs.length) (h : pbase bs at_ kind p = .ok (base, off, q)) : p ≤ q ∧ q ≤ bs.length ∧ base.length ≤ 40 ∧ off ≤ at_ := by
 unfold pbase at h
 split at h
 ·split at h
  ·cases h
  ·rename_i v k hb
   obtain ⟨h1, h2⟩ := pbF_le _ _ _ _ hb
   rw [List.length_drop] at h2
   split at h
   ·cases h
   ·simp only [Except.ok.injEq, Prod.mk.injEq] at h
    obtain ⟨rfl, rfl, rfl⟩ := h
    exact ⟨by omega, by omega, by simp, by omega⟩
 ·split at h
  ·split at h
   ·cases h
   ·simp only [Except.ok.injEq, Prod.mk.injEq] at h
    obtain ⟨rfl, rfl, rfl⟩ := h
    exact ⟨by omega, by omega, by rw [hexb_length, List.length_take]; omega, by omega⟩
  ·simp only [Except.ok.injEq, Prod.mk.injEq] at h
   obtain ⟨rfl, rfl, rfl⟩ := h
   exact ⟨by omega, hp, by simp, by omega⟩
end Go.Proofs.YtkmpfgpfbmeihaaGreatDoor.pk
namespace Go.Proofs.YtkmpfgpfbmeihaaGreatDoor.pk
open Go Go.RowKit lib bm
structure Rdr (w : World) (r : Nat) (a : Option Addr) (cap : Nat) (bs : List UInt8) (at_ : Nat) : Prop where
 box : w.heap[r]? = some (.cells #[.slice a bs.length cap, .int .i64 (at_ : Nat)] 85 (0, 0))
 rd : lib.Rd w a cap bs
 le : at_ ≤ bs.length
 off : bs ≠ [] → ∀ x ∈ blk a, x ≠ r
theorem Rdr.fr {w w' : World} {r : Nat} {a : Option Addr} {cap at_ : Nat} {bs : List UInt8} (h : Rdr w r a cap bs at_) (f : Fr [] w w') : Rdr w' r a cap bs at_ :=
 ⟨f.blk h.box (by simp), h.rd.fr f, h.le, h.off⟩
set_option maxHeartbeats 1000000 in
theorem take_bad (r : Nat) (a : Option Addr) (cap : Nat) (bs : List UInt8) (at_ n : Nat) (w : World) (h : Rdr w r a cap bs at_) (hlen : bs.length ≤ 100000000) (hn : bs.length < at_ + n) :
  Calls Tryz.prog 43 #[.pointer (some ⟨r, 0, none⟩), .int .i64 (n : Nat)] w fun e w' => e = .returned (.tuple #[.slice none 0 0, .int .i64 4]) ∧ Fr [] w w' := by
 obtain ⟨L, hL⟩ : ∃ L, L = bs.length := ⟨_, rfl⟩
 have c0 : w.cell? ⟨r, 0, none⟩ = some (.slice a L cap) := by rw [cell_of h.box, hL]; rfl
 have c1 : w.cell? ⟨r, 1, none⟩ = some (.int .i64 (at_ : Nat)) := by rw [cell_of h.box]; rfl
 have hle := h.le
 rw [← hL] at hle hlen hn
 have d : decide ((n : Int) > (L : Int) - at_) = true := by simp; omega
 clear hL h
 go_enter Tryz.func43, Tryz.ntmps43
 go_upto_region 1 with fail
 go_quiet (fail)
 go_wp2
 go_ret2
 exact ⟨rfl, Fr.drewN _ _ _⟩
set_option maxHeartbeats 1000000 in
theorem take_good (r : Nat) (a : Option Addr) (cap : Nat) (bs : List UInt8) (at_ n : Nat) (w : World) (h : Rdr w r a cap bs at_) (hlen : bs.length ≤ 100000000) (hn : at_ + n ≤ bs.length) :
  Calls Tryz.prog 43 #[.pointer (some ⟨r, 0, none⟩), .int .i64 (n : Nat)] w fun e w' => e = .returned (.tuple #[.slice (cutAt a cap at_) n (cap - at_), .int .i64 0]) ∧ Rdr w' r a cap bs (at_ + n) ∧ Fr [r] w w' := by
 obtain ⟨L, hL⟩ : ∃ L, L = bs.length := ⟨_, rfl⟩
 have c0 : w.cell? ⟨r, 0, none⟩ = some (.slice a L cap) := by rw [cell_of h.box, hL]; rfl
 have c1 : w.cell? ⟨r, 1, none⟩ = some (.int .i64 (at_ : Nat)) := by rw [cell_of h.box]; rfl
 have z1 := frozen_of h.box 1
 have hle := h.le
 have hcap := h.rd.le
 have HH := Lib.hid (And.intro h hL)
 rw [← hL] at hle hlen hn hcap
 have d : decide ((n : Int) > (L : Int) - at_) = false := by simp; omega
 clear hL h
 go_enter Tryz.func43, Tryz.ntmps43
 go_upto_region 1 with fail
 go_quiet (fail)
 go_upto_region 4 with fail
 have hrun := fun w' => lib.run_slice_lh sliceU8 at_ n a L cap ((at_ : Int) + n - n) ((at_ : Int) + n) (by omega) rfl (by omega) w'
 rw [show (at_ : Int) + n - n = (at_ : Int) by omega] at hrun
 have e2 : wrap64 ((at_ : Int) + n - n) = (at_ : Int) := by unfold wrap64; omega
 have e3 : (at_ : Int) + n - n = (at_ : Int) := by omega
 obtain ⟨w2, hw2⟩ : ∃ w2, w2 = (w.drewN nq).setCell ⟨r, 1, none⟩ (.int .i64 ((at_ : Int) + n)) := ⟨_, rfl⟩
 rw [← hw2]
 have hb := setCell_of (w := w.drewN nq) (o := 1) (show (w.drewN nq).heap[r]? = _ from HH.out.1.box) (.int .i64 ((at_ : Int) + n))
 rw [← hw2] at hb
 have f2 : Fr [r] w w2 := by rw [hw2]; exact (Fr.drewN [r] w nq).setCell (by simp) _
 have c0' : w2.cell? ⟨r, 0, none⟩ = some (.slice a L cap) := by rw [cell_of hb, HH.out.2]; rfl
 have c1' : w2.cell? ⟨r, 1, none⟩ = some (.int .i64 ((at_ : Int) + n)) := by rw [cell_of hb]; rfl
 have H2 := Lib.hid (And.intro hb f2)
 clear hb f2 hw2 c0 c1 z1 d
 go_quiet (fail)
 go_wp2
 go_ret2
 refine ⟨rfl, ⟨?_, rd_frE HH.out.1.rd (H2.out.2.step (Fr.drewN [r] w2 _) (fun x hx => .inl hx)) (fun hb x hx hm => HH.out.1.off hb x hx (by simpa using hm)), by rw [← HH.out.2]; omega, HH.out.1.off⟩, H2.out.2.trans (Fr.drewN _ _ _)⟩
 have := H2.out.1
 simpa using this
end Go.Proofs.YtkmpfgpfbmeihaaGreatDoor.pk
namespace Go.Proofs.YtkmpfgpfbmeihaaGreatDoor.pk
open Go Go.RowKit lib bm
theorem u8_and7 (x : Nat) (h : x < 16) : bits .and .u8 ((x : Nat) : Int) 7 = ((x % 8 : Nat) : Int) := by
 have hall : ∀ y : Fin 16, bits .and .u8 ((y.val : Nat) : Int) 7 = ((y.val % 8 : Nat) : Int) := by decide +kernel
 exact hall ⟨x, h⟩
theorem u8_and127 (x : Nat) (h : x < 256) : bits .and .u8 ((x : Nat) : Int) 127 = ((x % 128 : Nat) : Int) := by
 have hall : ∀ y : Fin 256, bits .and .u8 ((y.val : Nat) : Int) 127 = ((y.val % 128 : Nat) : Int) := by decide +kernel
 exact hall ⟨x, h⟩
theorem i64_over (n v k : Nat) (hk : k ≤ 62) (hn : n < 2 ^ k) (hv : v * 2 ^ k < 9223372036854775808) : bits .or .i64 (n : Int) ((v : Int) * ((2 ^ k : Nat) : Int)) = ((n + v * 2 ^ k : Nat) : Int) := by
 have h1 := pow_le k 62 hk
 have e62 : 2 ^ 62 = 4611686018427387904 := by decide
 rw [e62] at h1
 rw [← Int.natCast_mul, i64_or_nat _ _ (by omega) hv, or_add n v k hn, Nat.mul_comm v, Nat.add_comm]
def PHead (w : World) (r : Nat) (a : Option Addr) (cap : Nat) (bs : List UInt8) (at_ : Nat) (P : Except Nat (Nat × Nat × Nat)) (e : Ending) (w' : World) : Prop :=
 Fr [r] w w' ∧ ((∃ x, P = .error x ∧ 0 < x ∧ x < 100 ∧ e = .returned (.tuple #[.int .i64 0, .int .i64 0, .int .i64 (x : Nat)])) ∨
  ∃ k s n, P = .ok (k, s, n) ∧ k < 8 ∧ s ≤ 65536 ∧ e = .returned (.tuple #[.int .i64 (k : Nat), .int .i64 (s : Nat), .int .i64 0]) ∧ Rdr w' r a cap bs (at_ + n))
theorem drop_at (bs : List UInt8) (a i : Nat) : (bs.drop a)[i]? = bs[a + i]? := by rw [List.getElem?_drop]
set_option maxHeartbeats 8000000 in
theorem head_read (r : Nat) (a : Option Addr) (cap : Nat) (bs : List UInt8) (at_ : Nat) (w : World) (h : Rdr w r a cap bs at_) (hlen : bs.length ≤ 100000000) :
  Calls Tryz.prog 73 #[.pointer (some ⟨r, 0, none⟩)] w (PHead w r a cap bs at_ (phead (bs.drop at_))) := by
 obtain ⟨P, hP⟩ : ∃ P, P = phead (bs.drop at_) := ⟨_, rfl⟩
 rw [← hP]
 have hP0 : phF (bs.drop at_) 5 0 0 0 = P := hP.symm
 have H := Lib.hid (And.intro h (And.intro hlen hP0))
 clear h hlen hP hP0
 go_enter Tryz.func73, Tryz.ntmps73
 go_upto_block 0 with fail
 go_wp2
 go_loopg [2, 3, 8] 5 (fun k s2 s3 s8 wr => ∃ i kd sz : Nat, s2 = .int .i64 (kd : Nat) ∧ s3 = .int .i64 (sz : Nat) ∧ s8 = .int .i64 (i : Nat) ∧ i + k = 5 ∧ kd < 8 ∧ (0 < i → sz < 2 ^ (7 * i - 3)) ∧ phF (bs.drop at_) k i kd sz = P ∧ Rdr wr r a cap bs (at_ + i) ∧ Fr [r] w wr)
 case atStart => exact ⟨0, 0, 0, rfl, rfl, rfl, rfl, by decide, by simp, H.out.2.2, H.out.1, Fr.refl _ _⟩
 case round =>
  obtain ⟨i, kd, sz, rfl, rfl, rfl, hik, hkd, hsz, hph, hr, hf⟩ := hrel
  by_cases hi : i < 5
  ·obtain ⟨k, rfl⟩ : ∃ k, gk = k + 1 := ⟨gk - 1, by omega⟩
   by_cases hin : at_ + i < bs.length
   ·have ht := take_good r a cap bs (at_ + i) 1 wr hr H.out.2.1 (by omega)
    obtain ⟨g, o, rfl, hc⟩ := hr.rd.at hin
    have hcap := hr.rd.le
    have hgr := hr.off (fun e => by rw [e] at hin; simp at hin) g (by simp [blk])
    have ec : cutAt (some ⟨g, o, none⟩) cap (at_ + i) = some ⟨g, o + (at_ + i), none⟩ := by unfold cutAt; rw [if_neg (by omega)]; simp [addr_add]
    rw [ec] at ht
    obtain ⟨p, hp⟩ : ∃ p, p = o + (at_ + i) := ⟨_, rfl⟩
    rw [← hp] at ht hc
    have hbi : (bs.drop at_)[i]? = some bs[at_ + i] := by rw [drop_at, List.getElem?_eq_getElem hin]
    have hb := UInt8.toNat_lt bs[at_ + i]
    obtain ⟨b, hbv⟩ : ∃ b, b = bs[at_ + i] := ⟨_, rfl⟩
    rw [← hbv] at hc hbi hb
    obtain ⟨c, hcv⟩ : ∃ c, c = b.toNat := ⟨_, rfl⟩
    rw [← hcv] at hc hb
    rw [phF, hbi] at hph
    simp only [← hcv] at hph
    have HT := Lib.hid (And.intro ht (And.intro hc (And.intro hph (And.intro hf hgr))))
    clear ht hc hph hf hgr hbi hbv hcv hr ec hcap hp
    go_upto_region 5 with (go_at_call 43; refine HT.out.1.mono ?_; rintro e w3 ⟨rfl, rd3, f3⟩)
    have hc3 := f3.cell HT.out.2.1 (by simp; exact HT.out.2.2.2.2)
    have H3 := Lib.hid (And.intro rd3 (And.intro (HT.out.2.2.2.1.trans f3) hc3))
    clear rd3 f3
    have h127 := u8_and127 c hb
    obtain ⟨y, hy⟩ : ∃ y, y = c % 128 := ⟨_, rfl⟩
    rw [← hy] at h127
    by_cases h0 : i = 0
    ·subst h0
     have h7 := u8_and7 (c / 16) (by omega)
     have h15 := inf.u8_and15 c hb
     obtain ⟨y1, hy1⟩ : ∃ y, y = c / 16 % 8 := ⟨_, rfl⟩
     obtain ⟨y2, hy2⟩ : ∃ y, y = c % 16 := ⟨_, rfl⟩
     have hph := HT.out.2.2.1
     rw [if_pos rfl, ← hy1, ← hy2] at hph
     rw [← hy1, show ((c / 16 : Nat) : Int) = (c : Int) / 16 by omega] at h7
     rw [← hy2] at h15
     have hy1b : y1 < 8 := by omega
     have hy2b : y2 < 16 := by omega
     have HP := Lib.hid hph
     clear hph hy hy1 hy2 hsz
     go_upto_region 8 with fail
     go_quiet (fail)
     clear h7 h15 h127 hc3
     obtain ⟨w4, hw4⟩ : ∃ w4, w4 = w3.drewN nq := ⟨_, rfl⟩
     rw [← hw4]
     have f4 : Fr [] w3 w4 := by rw [hw4]; exact Fr.drewN [] w3 nq
     have rd4 := H3.out.1.fr f4
     have hc4 := f4.cell H3.out.2.2 (by simp)
     have H4 := Lib.hid (And.intro rd4 (H3.out.2.1.step f4 (by simp)))
     clear hw4 f4 rd4
     by_cases hk0 : y1 = 0
     ·subst hk0
      go_wp2
      go_ret3
      exact ⟨H4.out.2, .inl ⟨3, by rw [← HP.out]; simp, by decide, by decide, rfl⟩⟩
     ·have d0 : ((y1 : Int) == 0) = false := by simp; omega
      by_cases hk5 : y1 = 5
      ·subst hk5
       go_wp2
       go_ret3
       exact ⟨H4.out.2, .inl ⟨3, by rw [← HP.out]; simp, by decide, by decide, rfl⟩⟩
      ·have d5 : ((y1 : Int) == 5) = false := by simp; omega
       have hph := HP.out
       rw [if_neg (by omega)] at hph
       by_cases h128 : 128 ≤ c
       ·rw [if_pos h128] at hph
        have HP2 := Lib.hid hph
        clear hph hk0 hk5
        go_wp2
        go_roundg k
        case measure => omega
        case rel => exact ⟨1, y1, y2, by go_num, by go_num, rfl, by omega, hy1b, fun _ => by omega, HP2.out, H4.out.1, H4.out.2⟩
       ·rw [if_neg h128] at hph
        have HP2 := Lib.hid hph
        have hL : decide (128 ≤ (c : Int)) = false := by simp; omega
        have hs1 : decide ((2147483647 : Int) < y2) = false := by simp; omega
        have hs2 : decide ((65536 : Int) < y2) = false := by simp; omega
        clear hph hk0 hk5
        go_wp2
        go_ret3
        exact ⟨H4.out.2, .inr ⟨y1, y2, 1, HP2.out.symm, hy1b, by omega, rfl, H4.out.1⟩⟩
    ·have hph := HT.out.2.2.1
     rw [if_neg h0, ← hy] at hph
     have hsz1 := hsz (by omega)
     have d0 : ((i : Int) == 0) = false := by simp; omega
     obtain ⟨m, hm⟩ : ∃ m, m = 7 * i - 3 := ⟨_, rfl⟩
     obtain ⟨q, hq⟩ : ∃ q, q = 2 ^ m := ⟨_, rfl⟩
     have hm25 : m ≤ 25 := by omega
     have hqb : q ≤ 33554432 := by
      have := Nat.pow_le_pow_right (n := 2) (by decide) hm25
      rw [hq]; simpa using this
     have hor := i64_over sz y m (by omega) (by rw [hm]; exact hsz1) (by
      rw [← hq]
      have : y * q ≤ 127 * q := Nat.mul_le_mul_right _ (by omega)
      omega)
     rw [← hm, ← hq] at hph hsz1
     rw [← hq] at hor
     obtain ⟨z, hz⟩ : ∃ z, z = sz + y * q := ⟨_, rfl⟩
     rw [← hz] at hph hor
     have hyq : y * q ≤ 127 * q := Nat.mul_le_mul_right _ (by omega)
     have hzb : z < 4294967296 ∧ (i < 4 → z < 2 ^ (7 * (i + 1) - 3)) := by
      refine ⟨by omega, fun _ => ?_⟩
      rw [show 7 * (i + 1) - 3 = m + 7 by omega, Nat.pow_add, ← hq]
      omega
     have em : (7 : Int) * (i : Int) - 3 = (m : Int) := by omega
     have ew : wrap64 ((7 : Int) * (i : Int) - 3) = (m : Int) := by unfold wrap64; omega
     have esh : wrap64 ((y : Int) * 2 ^ m) = (y : Int) * (q : Int) := by
      have e1 : (y : Int) * 2 ^ m = ((y * q : Nat) : Int) := by rw [hq, Int.natCast_mul, Int.natCast_pow]; rfl
      rw [e1]; unfold wrap64; omega
     have hor2 : bits .or .i64 (sz : Int) (wrap64 ((y : Int) * 2 ^ (7 * i - 3))) = (z : Int) := by rw [← hm, esh, hor]
     have hyb : y < 128 := by omega
     have HP := Lib.hid (And.intro hph (And.intro hzb.2 (And.intro hq hm)))
     have hzb1 := hzb.1
     clear hor em ew esh hm25 hqb
     clear hm
     clear hph hsz hsz1 hy hz hzb hyq hq
     by_cases h128 : 128 ≤ c
     ·have HP2 := Lib.hid ((if_pos h128).symm.trans HP.out.1)
      go_wp2
      go_roundg k
      case measure => omega
      case rel => exact ⟨i + 1, kd, z, by go_num, by go_num, by go_num, by omega, hkd, fun _ => by
       by_cases hi4 : i < 4
       ·exact HP.out.2.1 hi4
       ·obtain rfl : i = 4 := by omega
        exact hzb1, HP2.out, H3.out.1, H3.out.2.1⟩
     ·have hph := (if_neg h128).symm.trans HP.out.1
      have dL : decide (128 ≤ (c : Int)) = false := by simp; omega
      by_cases hz3 : 2147483647 < z
      ·have HP2 := Lib.hid ((if_pos hz3).symm.trans hph)
       have d1 : decide ((2147483647 : Int) < z) = true := by simp; omega
       clear hph
       go_wp2
       go_ret3
       exact ⟨H3.out.2.1, .inl ⟨3, HP2.out.symm, by decide, by decide, rfl⟩⟩
      ·have hph := (if_neg hz3).symm.trans hph
       have d1 : decide ((2147483647 : Int) < z) = false := by simp; omega
       by_cases hz5 : 65536 < z
       ·have HP2 := Lib.hid ((if_pos hz5).symm.trans hph)
        have d2 : decide ((65536 : Int) < z) = true := by simp; omega
        clear hph
        go_wp2
        go_ret3
        exact ⟨H3.out.2.1, .inl ⟨5, HP2.out.symm, by decide, by decide, rfl⟩⟩
       ·have HP2 := Lib.hid ((if_neg hz5).symm.trans hph)
        have d2 : decide ((65536 : Int) < z) = false := by simp; omega
        clear hph
        go_wp2
        go_ret3
        exact ⟨H3.out.2.1, .inr ⟨kd, z, i + 1, HP2.out.symm, hkd, by omega, rfl, H3.out.1⟩⟩
   ·have ht := take_bad r a cap bs (at_ + i) 1 wr hr H.out.2.1 (by omega)
    have hbi : (bs.drop at_)[i]? = none := by rw [drop_at]; exact List.getElem?_eq_none (by omega)
    rw [phF, hbi] at hph
    have HT := Lib.hid (And.intro ht (And.intro hph hf))
    clear ht hbi hph hf hr hsz
    go_wp2_with (go_at_call 43; refine HT.out.1.mono ?_; rintro e w3 ⟨rfl, f3⟩)
    go_ret3
    exact ⟨HT.out.2.2.step f3 (by simp), .inl ⟨4, HT.out.2.1.symm, by decide, by decide, rfl⟩⟩
  ·obtain rfl : i = 5 := by omega
   obtain rfl : gk = 0 := by omega
   rw [phF] at hph
   have HT := Lib.hid (And.intro hph hf)
   clear hph hf hr hsz
   go_wp2
   go_ret3
   exact ⟨HT.out.2, .inl ⟨3, HT.out.1.symm, by decide, by decide, rfl⟩⟩
end Go.Proofs.YtkmpfgpfbmeihaaGreatDoor.pk
namespace Go.Proofs.YtkmpfgpfbmeihaaGreatDoor.delta
open Go Go.RowKit lib bm
theorem sliceU8 : SliceTy Tryz.prog 23 5 (.int .u8 0) 1 1 := SliceTy.of Tryz.underlying23 (by kernel_rfl) rfl (by decide)
theorem bv_one (bs : List UInt8) : ∀ u ∈ bs.map bv, u.oneCell' = true := by
 intro u hu
 obtain ⟨b, _, rfl⟩ := List.mem_map.1 hu
 rfl
theorem numb_le : ∀ (k n : Nat), n < 128 ^ (k + 1) → (numb n).length ≤ k + 1
 | 0, n, h => by rw [numb_small (by simp at h; omega)]; simp
 | k + 1, n, h => by
  by_cases hn : n ≤ 127
  ·rw [numb_small hn]; simp
  ·rw [numb_big (by omega), List.length_cons]
   have := numb_le k (n / 128) ((Nat.div_lt_iff_lt_mul (by decide)).2 (by rw [Nat.mul_comm, ← pow128]; exact h))
   omega
theorem or128 (n : Nat) : bits .or .u8 ((n : Int) % 256) 128 = (((UInt8.ofNat (n % 128 + 128)).toNat : Nat) : Int) := by
 have h : ∀ x : Fin 256, bits .or .u8 (x.1 : Int) 128 = ((x.1 % 128 + 128 : Nat) : Int) := by decide +kernel
 have e := h ⟨n % 256, by omega⟩
 simp only at e
 rw [u8_nat (by omega), show (n : Int) % 256 = ((n % 256 : Nat) : Int) from by omega, e]
 omega
structure Nb (w wr : World) (n0 n : Nat) (a : Option Addr) (c : Nat) (out : List UInt8) : Prop where
 own : wr.ownsRow 0 5 1 (.slice a out.length c) out.length (out.map bv)
 fr : Fr [] w wr
 new : ∀ x ∈ blk a, w.heap.size ≤ x
 all : out ++ numb n = numb n0
theorem nb_start (w : World) (n : Nat) : Nb w w n n none 0 [] := ⟨World.ownsRow_nil _ _ _ _, Fr.refl _ _, by simp [blk], rfl⟩
theorem Nb.step {w wr w1 w2 : World} {n0 n n' : Nat} {a a2 : Option Addr} {c c2 : Nat} {out : List UInt8} {x : UInt8} (h : Nb w wr n0 n a c out) (f : Fr [] wr w1) (A : Appended w1 w2 5 1 (blk a) a2 (out.length + 1) c2 (out.map bv ++ [bv x])) :
  w2.ownsRow 0 5 1 (.slice a2 (out ++ [x]).length c2) (out ++ [x]).length ((out ++ [x]).map bv) ∧ Fr [] w w2 ∧ ∀ y ∈ blk a2, w.heap.size ≤ y := by
 refine ⟨by rw [List.length_append, List.map_append]; exact A.own, (h.fr.trans f).step A.fr fun y hy => .inr (h.new y hy), fun y hy => ?_⟩
 rcases A.at_ y hy with h1 | h1
 ·exact h.new y h1
 ·have := (h.fr.trans f).size
  omega
set_option maxHeartbeats 2000000 in
theorem number_all (n : Int) (w : World) (hn : n ≤ 9223372036854775807) : Calls Tryz.prog 97 #[.int .i64 n] w (NewBytes w (numb n.toNat)) := by
 obtain ⟨n0, hn0⟩ : ∃ n0, n0 = n.toNat := ⟨_, rfl⟩
 have hm : ((n0 : Nat) : Int) = if 0 > n then 0 else n := by rw [hn0]; split <;> omega
 have hlt : n0 ≤ 9223372036854775807 := by omega
 have hl9 := numb_le 8 n0 (Nat.lt_of_le_of_lt hlt (by decide))
 have HM := Lib.hid hm
 rw [← hn0]
 clear hm hn0
 go_enter Tryz.func97, Tryz.ntmps97
 go_upto_block 0 with (refine wpList_max2 (n0 : Int) rfl _ _ _ rfl n 0 rfl rfl HM.out ?_)
 go_cut [0, 3] from 6 to 16 (fun s0 s3 wz => ∃ n a c out, s0 = .int .i64 (n : Nat) ∧ s3 = .slice a out.length c ∧ n ≤ 127 ∧ Nb w wz n0 n a c out)
 case first =>
  go_wp2
  go_loopg [0, 3] n0 (fun k s0 s3 wr => ∃ n a c out, s0 = .int .i64 (n : Nat) ∧ s3 = .slice a out.length c ∧ n ≤ k ∧ n ≤ 9223372036854775807 ∧ Nb w wr n0 n a c out)
  case atStart => exact ⟨n0, none, 0, [], rfl, rfl, Nat.le_refl _, hlt, nb_start w n0⟩
  case round =>
   obtain ⟨m, a, c, out, rfl, rfl, hk, hm9, h⟩ := hrel
   have H := Lib.hid h
   have hol : out.length ≤ 9 := by
    have := congrArg List.length h.all
    rw [List.length_append] at this
    omega
   clear h
   by_cases h127 : 127 < m
   ·have ho := or128 m
    obtain ⟨x, hx⟩ : ∃ x, x = UInt8.ofNat (m % 128 + 128) := ⟨_, rfl⟩
    rw [← hx] at ho
    obtain ⟨S, hS⟩ : ∃ S, S = blk a := ⟨_, rfl⟩
    have HX := Lib.hid (And.intro hx hS)
    have f0 : Fr [] wr (wr.alloc (.cells #[.int .u8 (x.toNat : Nat)] 5)) := (Fr.refl [] wr).alloc _
    have ownA := ownsRow_fr H.out.own f0 (by simp)
    have cA : Cs (wr.alloc (.cells #[.int .u8 (x.toNat : Nat)] 5)) (some ⟨wr.heap.size, 0, none⟩) [bv x] := cs_one _ _ _ 5 (alloc_at wr _)
    have HA := Lib.hid (And.intro ownA (And.intro cA f0))
    clear ownA cA f0 hx hS
    go_wp2_with (refine wpList_append sliceU8 rfl _ _ rfl (.slice a out.length c) out.length (out.map bv) S rfl (by rw [own_blk, HX.out.2]) HA.out.1 (some ⟨wr.heap.size, 0, none⟩) 1 1 [bv x] rfl (by decide) (by simp) HA.out.2.1 (by rfl) (bv_one [x]) (by omega) (by unfold maxLen; omega) ?_; intro a2 c2 w2 A1; have HA1 := Lib.hid A1; clear A1)
    go_roundg (m / 128)
    case measure => omega
    case rel =>
     have A1 := HA1.out
     rw [HX.out.2] at A1
     obtain ⟨h1, h2, h3⟩ := H.out.step (n' := 0) HA.out.2.2 A1
     refine ⟨m / 128, a2, c2, out ++ [x], by go_num, by rw [List.length_append]; rfl, Nat.le_refl _, by omega, h1, h2, h3, ?_⟩
     rw [← H.out.all, numb_big h127, HX.out.1, List.append_assoc]
     rfl
   ·go_wp2
    go_meet
    exact ⟨m, a, c, out, rfl, rfl, by omega, H.out⟩
 case rest =>
 obtain ⟨m, a, c, out, rfl, rfl, hm, h⟩ := hcut
 have H := Lib.hid h
 have hall := h.all
 rw [numb_small hm] at hall
 have hol : out.length + 1 = (numb n0).length := by rw [← hall]; simp
 have HALL := Lib.hid hall
 have hol9 : out.length ≤ 9 := by omega
 have HOL := Lib.hid hol
 clear h hall hol
 obtain ⟨x, hx⟩ : ∃ x, x = UInt8.ofNat m := ⟨_, rfl⟩
 have hbx : [bv x] = [.int .u8 (m : Int)] := by unfold bv; rw [hx, u8_nat (by omega)]
 obtain ⟨S, hS⟩ : ∃ S, S = blk a := ⟨_, rfl⟩
 have HX := Lib.hid (And.intro hx hS)
 have f0 : Fr [] wc (wc.alloc (.cells #[.int .u8 (m : Int)] 5)) := (Fr.refl [] wc).alloc _
 have ownA := ownsRow_fr H.out.own f0 (by simp)
 have cA : Cs (wc.alloc (.cells #[.int .u8 (m : Int)] 5)) (some ⟨wc.heap.size, 0, none⟩) [bv x] := by rw [hbx]; exact cs_one _ _ _ 5 (alloc_at wc _)
 have HA := Lib.hid (And.intro ownA (And.intro cA f0))
 clear ownA cA f0 hx hS hbx
 go_wp2_with (refine wpList_append sliceU8 rfl _ _ rfl (.slice a out.length c) out.length (out.map bv) S rfl (by rw [own_blk, HX.out.2]) HA.out.1 (some ⟨wc.heap.size, 0, none⟩) 1 1 [bv x] rfl (by decide) (by simp) HA.out.2.1 (by rfl) (bv_one [x]) (by omega) (by unfold maxLen; omega) ?_; intro a2 c2 w2 A1; have hcap := A1.le; have hcm := A1.max; have HA1 := Lib.hid A1; clear A1)
 go_ret
 have A1 := HA1.out
 rw [HX.out.2] at A1
 obtain ⟨h1, h2, h3⟩ := H.out.step (n' := 0) HA.out.2.2 A1
 rw [HX.out.1, HALL.out] at h1
 obtain ⟨r1, _⟩ := rd_of_owns h1
 rw [HOL.out]
 exact ⟨a2, rfl, ⟨r1.cs, Nat.le_refl _, Nat.le_trans r1.le r1.max, fun e => by have := r1.nil e; have := r1.le; omega⟩, fun y hy => ⟨h3 y hy, owns_lt h1 (blk_own hy)⟩, h2⟩
theorem and127 (c : UInt8) : bits .and .u8 ((c.toNat : Nat) : Int) 127 = ((c.toNat % 128 : Nat) : Int) := by
 have h : ∀ x : Fin 256, bits .and .u8 (x.1 : Int) 127 = ((x.1 % 128 : Nat) : Int) := by decide +kernel
 exact h ⟨c.toNat, UInt8.toNat_lt c⟩
theorem or_shl (v x k : Nat) (hv : v < 2 ^ k) (hx : x * 2 ^ k < 9223372036854775808) (hk : k ≤ 62) : bits .or .i64 (v : Int) ((x * 2 ^ k : Nat) : Int) = ((v + x * 2 ^ k : Nat) : Int) := by
 have h1 := pow_le k 62 hk
 have e62 : 2 ^ 62 = 4611686018427387904 := by decide
 rw [e62] at h1
 rw [i64_or_nat _ _ (by omega) hx, or_add v x k hv, Nat.mul_comm]
theorem or_groups (n x i : Nat) (hi : i < 5) (hn : n < 128 ^ i) (hx : x < 128) : ∃ m, (m = n + x * 128 ^ i ∧ m < 128 ^ (i + 1)) ∧ m ≤ 34359738367 ∧ bits .or .i64 (n : Int) (wrap64 ((x : Int) * 2 ^ (7 * i))) = (m : Int) := by
 have hp : 2 ^ (7 * i) = 128 ^ i := by rw [Nat.pow_mul]
 have h4 : 128 ^ i ≤ 128 ^ 4 := Nat.pow_le_pow_right (by decide) (by omega)
 have e4 : 128 ^ 4 = 268435456 := by decide
 have hpos : 0 < 128 ^ i := Nat.pow_pos (by decide)
 have h1 : x * 128 ^ i ≤ 127 * 128 ^ i := Nat.mul_le_mul_right _ (by omega)
 have h5 := pow128 i
 refine ⟨n + x * 128 ^ i, ⟨rfl, by omega⟩, by omega, ?_⟩
 have e : wrap64 ((x : Int) * 2 ^ (7 * i)) = ((x * 2 ^ (7 * i) : Nat) : Int) := by
  have : (x : Int) * 2 ^ (7 * i) = ((x * 2 ^ (7 * i) : Nat) : Int) := by rw [Int.natCast_mul, Int.natCast_pow]; rfl
  rw [this, hp]
  generalize x * 128 ^ i = y at *
  simp only [wrap64]
  omega
 rw [e, or_shl n x (7 * i) (by rw [hp]; exact hn) (by rw [hp]; omega) (by omega), hp]
def Numbered (w : World) (d : List UInt8) (e : Ending) (w' : World) : Prop :=
 ∃ a c, e = .returned (.tuple #[.int .i64 (delta.rd d).1, .slice a (delta.rd d).2.1.length c, .int .i64 (delta.rd d).2.2]) ∧ Rd w' a c (delta.rd d).2.1 ∧ Fr [] w w'
theorem numbered_of {w w' : World} {d r : List UInt8} {n x : Nat} {a : Option Addr} {c : Nat} (h : delta.rd d = (n, r, x)) (hr : Rd w' a c r) (f : Fr [] w w') : Numbered w d (.returned (.tuple #[.int .i64 n, .slice a r.length c, .int .i64 x])) w' := by
 unfold Numbered
 rw [h]
 exact ⟨a, c, rfl, hr, f⟩
set_option maxHeartbeats 4000000 in
theorem rnumber_all (a : Option Addr) (cap : Nat) (d : List UInt8) (w : World) (h : Rd w a cap d) : Calls Tryz.prog 169 #[.slice a d.length cap] w (Numbered w d) := by
 have hle := h.le
 have hmax := h.max
 unfold maxLen at hmax
 have H := Lib.hid h
 clear h
 go_enter Tryz.func169, Tryz.ntmps169
 go_wp2
 go_loopg [2, 5, 6] 5 (fun k s2 s5 s6 wr => ∃ i n, i + k = 5 ∧ s6 = .int .i64 (i : Nat) ∧ s2 = .int .i64 (n : Nat) ∧ i ≤ d.length ∧ n < 128 ^ i ∧ rdn k i n (d.drop i) = delta.rd d ∧ Fr [] w wr)
 case atStart => exact ⟨0, 0, rfl, rfl, rfl, Nat.zero_le _, by decide, rfl, Fr.refl _ _⟩
 case round =>
  obtain ⟨i, n, hi, rfl, rfl, hil, hn, hrd, hfr⟩ := hrel
  have F := Lib.hid hfr
  clear hfr
  by_cases hi5 : i < 5
  ·obtain ⟨k, rfl⟩ : ∃ k, gk = k + 1 := ⟨gk - 1, by omega⟩
   by_cases hid : i < d.length
   ·obtain ⟨g, o, rfl, hc⟩ := H.out.at hid
    have c0 := F.out.cell hc (by simp)
    obtain ⟨c, hcc⟩ : ∃ c, c = d[i] := ⟨_, rfl⟩
    rw [← hcc] at c0
    have hdr : d.drop i = c :: d.drop (i + 1) := by rw [List.drop_eq_getElem_cons hid, hcc]
    rw [hdr, rdn] at hrd
    have ha := and127 c
    have hcn := UInt8.toNat_lt c
    obtain ⟨x, hx⟩ : ∃ x, x = c.toNat % 128 := ⟨_, rfl⟩
    rw [← hx] at ha hrd
    have hx128 : x < 128 := by omega
    generalize c.toNat = cn at *
    have HX := Lib.hid (And.intro hx (And.intro hcc hdr))
    clear hx hcc hdr hc
    have HRD := Lib.hid hrd
    clear hrd
    obtain ⟨m, hm, hm35, hor⟩ := or_groups n x i hi5 hn hx128
    have HM := Lib.hid hm
    rw [← hm.1] at HRD
    have hsl := fun w => run_slice_from sliceU8 (i + 1) (some ⟨g, o, none⟩) d.length cap ((i : Int) + 1) (by omega) (by omega) hle w
    clear hm hn
    by_cases h128 : cn < 128
    ·have hrd := HRD.out
     rw [if_pos h128] at hrd
     by_cases hbig : 2147483647 < m
     ·rw [if_pos hbig] at hrd
      have HD := Lib.hid hrd
      clear hrd hsl
      go_wp2
      go_ret3
      exact numbered_of (r := []) HD.out.symm (Rd.none _) F.out
     ·rw [if_neg hbig] at hrd
      have HD := Lib.hid hrd
      clear hrd
      go_upto_region 10 with fail
      go_quiet (fail)
      clear hsl
      go_wp2
      go_ret3
      have hl : (d.drop (i + 1)).length = d.length - (i + 1) := by simp
      have h := fun (wz : World) (f : Fr [] wr wz) => numbered_of HD.out.symm ((H.out.fr (F.out.trans f)).drop (i + 1) (by omega)) (F.out.trans f)
      simp only [hl] at h
      exact h _ (Fr.drewN [] wr _)
    ·have hrd := HRD.out
     rw [if_neg h128] at hrd
     have HD := Lib.hid hrd
     clear hrd hsl
     go_wp2
     go_roundg k
     case measure => omega
     case rel => exact ⟨i + 1, m, by omega, by go_num, rfl, by omega, HM.out.2, HD.out, F.out⟩
   ·have hd : delta.rd d = (0, [], 4) := by rw [← hrd, List.drop_eq_nil_of_le (by omega)]; rfl
    have HD := Lib.hid hd
    clear hd hrd hn
    go_wp2
    go_ret3
    exact numbered_of (r := []) HD.out (Rd.none _) F.out
  ·obtain rfl : i = 5 := by omega
   obtain rfl : gk = 0 := by omega
   have HD := Lib.hid hrd
   clear hrd hn
   go_wp2
   go_ret3
   exact numbered_of (r := []) (by rw [← HD.out]; rfl) (Rd.none _) F.out
theorem results_tmp4 {fn : Func} {t u v x : Tmp} (h : fn.results = #[.tmp t, .tmp u, .tmp v, .tmp x]) (tmps : Array Value) (P : Program) (w : World) :
  (results fn tmps).run P w = .ok (.tuple #[tmps.getD t undef, tmps.getD u undef, tmps.getD v undef, tmps.getD x undef]) w := by
 simp [results, h]
def Sized4 (w : World) (d : List UInt8) (e : Ending) (w' : World) : Prop :=
 ∃ a c, e = .returned (.tuple #[.int .i64 (delta.sizes d).1, .int .i64 (delta.sizes d).2.1, .slice a (delta.sizes d).2.2.1.length c, .int .i64 (delta.sizes d).2.2.2]) ∧ Rd w' a c (delta.sizes d).2.2.1 ∧ Fr [] w w'
theorem sized_of {w w' : World} {d r : List UInt8} {n m x : Nat} {a : Option Addr} {c : Nat} (h : delta.sizes d = (n, m, r, x)) (hr : Rd w' a c r) (f : Fr [] w w') : Sized4 w d (.returned (.tuple #[.int .i64 n, .int .i64 m, .slice a r.length c, .int .i64 x])) w' := by
 unfold Sized4
 rw [h]
 exact ⟨a, c, rfl, hr, f⟩
set_option maxHeartbeats 4000000 in
theorem sizes_all (a : Option Addr) (cap : Nat) (d : List UInt8) (w : World) (h : Rd w a cap d) : Calls Tryz.prog 137 #[.slice a d.length cap] w (Sized4 w d) := by
 have h1 := rnumber_all a cap d w h
 have hs : ∀ x y, delta.rd d = x → delta.rd x.2.1 = y → delta.sizes d = if x.2.2 = 0 then (if y.2.2 = 0 then (x.1, y.1, y.2.1, 0) else (0, 0, [], y.2.2)) else (0, 0, [], x.2.2) := by rintro x y rfl rfl; rfl
 have h2 := fun a c w => rnumber_all a c (delta.rd d).2.1 w
 unfold Numbered at h1 h2
 obtain ⟨x, hx⟩ : ∃ x, delta.rd d = x := ⟨_, rfl⟩
 obtain ⟨y, hy⟩ : ∃ y, delta.rd x.2.1 = y := ⟨_, rfl⟩
 have hsz := hs x y hx hy
 rw [hx] at h1 h2
 rw [hy] at h2
 obtain ⟨n, r, e⟩ := x
 obtain ⟨m, s, e2⟩ := y
 simp only at h1 h2 hsz
 have H := Lib.hid (And.intro h1 h2)
 clear h1 h2 hs hx hy h
 by_cases he : e = 0
 ·subst he
  rw [if_pos rfl] at hsz
  by_cases he2 : e2 = 0
  ·subst he2
   rw [if_pos rfl] at hsz
   have HS := Lib.hid hsz
   clear hsz
   have tok1 : True := trivial
   go_enter Tryz.func137, Tryz.ntmps137
   go_wp2_with (first | (go_at_call 169; have _t := tok1; refine H.out.1.mono ?_; rintro e1 w1 ⟨a1, c1, rfl, r1, f1⟩; have H1 := Lib.hid (And.intro r1 f1); clear r1 f1 tok1 _t) | (go_at_call 169; refine (H.out.2 a1 c1 _ H1.out.1).mono ?_; rintro e2 w2 ⟨a2, c2, rfl, r2, f2⟩; have H2 := Lib.hid (And.intro r2 (H1.out.2.trans f2)); clear r2 f2))
   refine bodyPost_ret (results_tmp4 rfl _ _ _) rfl ?_
   exact sized_of HS.out H2.out.1 H2.out.2
  ·rw [if_neg he2] at hsz
   have HS := Lib.hid hsz
   have hb : ((e2 : Int) == 0) = false := by simp; omega
   have hb2 : ((e2 : Int) != 0) = true := by simp; omega
   clear hsz he2
   have tok1 : True := trivial
   go_enter Tryz.func137, Tryz.ntmps137
   go_wp2_with (first | (go_at_call 169; have _t := tok1; refine H.out.1.mono ?_; rintro e1 w1 ⟨a1, c1, rfl, r1, f1⟩; have H1 := Lib.hid (And.intro r1 f1); clear r1 f1 tok1 _t) | (go_at_call 169; refine (H.out.2 a1 c1 _ H1.out.1).mono ?_; rintro e2 w2 ⟨a2, c2, rfl, r2, f2⟩; have H2 := Lib.hid (And.intro r2 (H1.out.2.trans f2)); clear r2 f2))
   refine bodyPost_ret (results_tmp4 rfl _ _ _) rfl ?_
   exact sized_of (n := 0) (m := 0) (r := []) HS.out (Rd.none _) H2.out.2
 ·rw [if_neg he] at hsz
  have HS := Lib.hid hsz
  have hb : ((e : Int) == 0) = false := by simp; omega
  have hb2 : ((e : Int) != 0) = true := by simp; omega
  clear hsz he
  go_enter Tryz.func137, Tryz.ntmps137
  go_wp2_with (go_at_call 169; refine H.out.1.mono ?_; rintro e1 w1 ⟨a1, c1, rfl, r1, f1⟩; have H1 := Lib.hid (And.intro r1 f1); clear r1 f1)
  refine bodyPost_ret (results_tmp4 rfl _ _ _) rfl ?_
  exact sized_of (n := 0) (m := 0) (r := []) HS.out (Rd.none _) H1.out.2
end Go.Proofs.YtkmpfgpfbmeihaaGreatDoor.delta
