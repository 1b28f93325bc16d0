/-
  Texts of this proof, one behind the other: HexB, PackRd0, Awake11.
-/
import Derived.Test.YtkmpfgpfbmeihaaGreatDoorG2
import Derived.Laws.MakeOwn
set_option linter.unusedVariables false
set_option linter.unusedSimpArgs false
/-
  sum.Hex: bytes as digits.
-/
namespace Go.Proofs.YtkmpfgpfbmeihaaGreatDoor.pk
open Go Go.RowKit Go.Proofs.YtkmpfgpfbmeihaaGreatDoor.lib Go.Proofs.YtkmpfgpfbmeihaaGreatDoor.bm

def hexd (k : Nat) : UInt8 := if k < 10 then UInt8.ofNat (48 + k) else UInt8.ofNat (87 + k)
def digs16 : ByteArray := ⟨#[48, 49, 50, 51, 52, 53, 54, 55, 56, 57, 97, 98, 99, 100, 101, 102]⟩
theorem digs16_at : ∀ k : Fin 16, ∀ h, digs16[k.1]'h = hexd k.1 := by decide
theorem index_hexu (k : Nat) (hk : k < 16) (w : World) : (Instr.index 9 (.string ⟨#[48, 49, 50, 51, 52, 53, 54, 55, 56, 57, 97, 98, 99, 100, 101, 102]⟩) (.int .u8 k)).run Tryz.prog w = .ok (.int .u8 ((hexd k).toNat : Nat)) w := by
  have hs : digs16.size = 16 := by decide
  have e := run_index_string (P := Tryz.prog) w 9 digs16 .u8 k Tryz.underlying9
  rw [dif_pos ⟨by omega, by rw [hs]; omega⟩] at e
  have h2 := digs16_at ⟨k, hk⟩ (by rw [hs]; exact hk)
  simp only [Int.toNat_natCast] at e
  rw [h2] at e
  exact e
def hex2 (b : UInt8) : List UInt8 := [hexd (b.toNat / 16), hexd (b.toNat % 16)]
def hexb (bs : List UInt8) : List UInt8 := bs.flatMap hex2
theorem hexb_length (bs : List UInt8) : (hexb bs).length = 2 * bs.length := by
  induction bs with
  | nil => rfl
  | cons b t ih => unfold hexb at *; rw [List.flatMap_cons, List.length_append, ih]; simp [hex2]; omega
theorem hexb_snoc (bs : List UInt8) (b : UInt8) : hexb (bs ++ [b]) = hexb bs ++ hex2 b := by unfold hexb; rw [List.flatMap_append]; simp
theorem make_cap (n : Nat) (hn : n ≤ 100000000) : ∃ A : Array Value, A.size = n ∧ ∀ w : World, (Instr.makeSlice 23 (.int .i64 0) (.int .i64 (n : Nat))).run Tryz.prog w = .ok (.slice (some ⟨w.heap.size, 0, none⟩) 0 n) (w.alloc (.cells A 5)) := by
  obtain ⟨hu, ⟨i, hi, hz, hs, hb⟩, _, _⟩ := sliceU8
  refine ⟨madeCells (Value.int .u8 0).cells n, size_madeCells _ _, fun w => ?_⟩
  have := run_make (P := Tryz.prog) w 23 5 i (.int .u8 0) Tryz.underlying23 hi hz .i64 .i64 0 (n : Nat) (Int.le_refl _) (by omega) (by rw [hb]; omega) (by omega)
  rw [hs, Int.toNat_natCast, Nat.mul_one] at this
  exact this
theorem hex2_cells (b : UInt8) : (hex2 b).map bv = [.int .u8 ((hexd (b.toNat / 16)).toNat : Nat), .int .u8 ((hexd (b.toNat % 16)).toNat : Nat)] := rfl
theorem Wr.step2 {w wr w1 w2 : World} {a a2 : Option Addr} {c c2 : Nat} {out xs : List UInt8} (h : Wr w wr a c out) (f : Fr [] wr w1) (A : Appended w1 w2 5 1 (blk a) a2 (out.length + xs.length) c2 (out.map bv ++ xs.map bv)) : Wr w w2 a2 c2 (out ++ xs) := by
  refine ⟨by rw [List.length_append, List.map_append]; exact A.own, (h.fr.trans f).step A.fr fun y hy => .inr (h.new y hy), fun y hy => ?_⟩
  rcases A.at_ y hy with h1 | h1
  · exact h.new y h1
  · have := (h.fr.trans f).size
    omega
theorem and15u (b : UInt8) : bits .and .u8 ((b.toNat : Nat) : Int) 15 = ((b.toNat % 16 : Nat) : Int) := by
  have h : ∀ x : Fin 256, bits .and .u8 (x.1 : Int) 15 = ((x.1 % 16 : Nat) : Int) := by decide +kernel
  exact h ⟨b.toNat, UInt8.toNat_lt b⟩
set_option maxRecDepth 100000 in
set_option maxHeartbeats 2000000 in
theorem hex_any (ao : Option Addr) (cap : Nat) (bs : List UInt8) (w : World) (h : lib.Rd w ao cap bs) (hlen : bs.length ≤ 10000000) :
    Calls Tryz.prog 46 #[.slice ao bs.length cap] w fun e w' => e = .returned (.string (str (hexb bs))) ∧ Fr [] w w' := by
  obtain ⟨L, hL⟩ : ∃ L, L = bs.length := ⟨_, rfl⟩
  obtain ⟨A, hAs, hmk⟩ := make_cap (2 * L) (by omega)
  obtain ⟨C, hC⟩ : ∃ C, C = 2 * L := ⟨_, rfl⟩
  have hLb : L ≤ 10000000 := by omega
  rw [← hC] at hmk hAs
  rw [show ((C : Nat) : Int) = 2 * (L : Int) by omega] at hmk
  have HI := Lib.hid (And.intro h (And.intro hL hAs))
  rw [← hL]
  clear h hL hAs hlen
  have HC := Lib.hid hC
  clear hC
  go_enter Tryz.func46, Tryz.ntmps46
  go_upto_region 2 with fail
  have o0 : Wr w (w.alloc (.cells A 5)) (some ⟨w.heap.size, 0, none⟩) C [] := ⟨⟨rfl, .inr ⟨w.heap.size, C, A, rfl, Nat.zero_le _, alloc_at _ _, Nat.zero_le _, by have := HC.out; unfold maxLen; omega, by rw [HI.out.2.2, Nat.mul_one], by simp⟩⟩, (Fr.refl _ _).alloc _, by simp [blk]⟩
  obtain ⟨w0, hw0⟩ : ∃ w0, w0 = w.alloc (.cells A 5) := ⟨_, rfl⟩
  rw [← hw0] at o0 ⊢
  have H0 := Lib.hid o0
  clear o0 hw0 hmk
  go_wp2
  go_loopg [3, 12] L (fun k s3 s12 wr => ∃ i a c out, s12 = .int .i64 (i : Nat) ∧ s3 = .slice a out.length c ∧ i + k = L ∧ Wr w wr a c out ∧ out = hexb (bs.take i))
  case atStart => exact ⟨0, _, C, [], rfl, rfl, by omega, H0.out, rfl⟩
  case round =>
    obtain ⟨i, a, c, out, rfl, rfl, hik, h, hout⟩ := hrel
    have hol : out.length = 2 * i := by rw [hout, hexb_length, List.length_take, ← HI.out.2.1]; omega
    have H := Lib.hid (And.intro h (And.intro hout hol))
    have hob : out.length ≤ 20000000 := by omega
    clear h hout hol
    by_cases hi : i < L
    · obtain ⟨k, rfl⟩ : ∃ k, gk = k + 1 := ⟨gk - 1, by omega⟩
      have hil : i < bs.length := by rw [← HI.out.2.1]; exact hi
      obtain ⟨g, o, rfl, hc⟩ := (HI.out.1.cs.fr H.out.1.fr (by simp)).at (by rw [List.length_map]; omega)
      have hci := hc i (bv bs[i]) (by rw [List.getElem?_map, List.getElem?_eq_getElem hil]; rfl)
      unfold bv at hci
      have hx0 := index_hexu (bs[i].toNat / 16) (by have := UInt8.toNat_lt bs[i]; omega)
      have hx1 := index_hexu (bs[i].toNat % 16) (by omega)
      have e1 := and15u bs[i]
      have hb256 := UInt8.toNat_lt bs[i]
      have hcl := hex2_cells bs[i]
      have HT := Lib.hid (show bs.take (i + 1) = bs.take i ++ [bs[i]] from List.take_succ_eq_append_getElem hil)
      obtain ⟨b, hb⟩ : ∃ b, b = bs[i] := ⟨_, rfl⟩
      rw [← hb] at hci hx0 hx1 e1 hb256 hcl HT
      have HCL := Lib.hid hcl
      clear hc hil hb hcl
      have e0 : ((b.toNat : Nat) : Int) / 16 = ((b.toNat / 16 : Nat) : Int) := by omega
      go_upto_region 5 with fail
      generalize (hexd (b.toNat / 16)).toNat = h0 at *
      generalize (hexd (b.toNat % 16)).toNat = h1 at *
      generalize b.toNat % 16 = b1 at *
      generalize b.toNat / 16 = b0 at *
      obtain ⟨S, hS⟩ : ∃ S, S = blk a := ⟨_, rfl⟩
      refine region_mix 9 [(false, 0), (false, 1), (false, 2), (false, 3), (false, 4), (false, 5), (false, 6), (true, 7), (true, 8)] S (by kernel_rfl) (by kernel_rfl) (fun _ _ d _ _ h => by cases d <;> exact h) ?_
      simp only [List.map_cons, List.map_nil, List.getD_cons_zero, List.getD_cons_succ, List.drop_succ_cons, List.drop_zero, List.drop_nil]
      refine mix_seg 7 rfl ?_
      simp only [List.take_succ_cons, List.take_zero, List.drop_succ_cons, List.drop_zero, List.map_cons, List.map_nil]
      have HS := Lib.hid hS
      clear hS
      repeat (go_big_quiet_step (fail))
      refine wpQuiet_nil ?_
      clear e0 e1 hx0 hx1
      refine mix_eff rfl ?_
      intro X hX
      go_wp2
      refine hX.out _ _ ((Fr.refl _ wr.drew).alloc _) ?_
      clear hX X
      have fr0 : Fr [] wr (wr.drew.alloc (.cells #[.int .u8 (h0 : Nat), .int .u8 (h1 : Nat)] 5)) := (Fr.drew1 [] wr).alloc _
      have ownA := ownsRow_fr H.out.1.own fr0 (by simp)
      have cA : Cs (wr.drew.alloc (.cells #[.int .u8 (h0 : Nat), .int .u8 (h1 : Nat)] 5)) (some ⟨wr.drew.heap.size, 0, none⟩) ((hex2 b).map bv) := by
        rw [HCL.out]
        exact .inr ⟨wr.drew.heap.size, 0, rfl, fun j u hj => by rw [cell_of (alloc_at wr.drew _)]; simpa using hj⟩
      refine mix_eff rfl ?_
      intro X hX
      refine wp_append sliceU8 _ _ rfl (.slice a out.length c) out.length (out.map bv) S rfl (by rw [own_blk, HS.out]) ownA (some ⟨wr.drew.heap.size, 0, none⟩) 2 2 ((hex2 b).map bv) rfl (by decide) (by simp) cA (by rfl) (bv_one _) (by omega) (by unfold maxLen; omega) ?_
      intro a2 c2 w2 A1
      refine hX.out _ _ A1.fr ?_
      clear hX X
      refine mix_nil ?_
      have HA := Lib.hid (And.intro fr0 A1)
      clear fr0 A1 ownA cA
      go_wp2
      go_roundg k
      case measure => omega
      case rel =>
        have A1 := HA.out.2
        rw [HS.out] at A1
        exact ⟨i + 1, a2, c2, out ++ hex2 b, by go_num, by rw [List.length_append]; rfl, by omega, H.out.1.step2 HA.out.1 A1, by rw [HT.out, hexb_snoc, ← H.out.2.1]⟩
    · obtain rfl : i = L := by omega
      obtain ⟨r1, _⟩ := rd_of_owns H.out.1.own
      have cv := run_conv wr Tryz.underlying23 Tryz.underlying5 Tryz.underlying9 (rfl : out.length = out.length) r1.cs
      have HO := Lib.hid (show out = hexb bs by rw [H.out.2.1, HI.out.2.1, List.take_length])
      clear r1
      go_wp2
      go_ret
      exact ⟨by rw [← HO.out]; rfl, H.out.1.fr⟩
end Go.Proofs.YtkmpfgpfbmeihaaGreatDoor.pk
/-
  pack.Read of a pack of no objects.
-/
namespace Go.Proofs.YtkmpfgpfbmeihaaGreatDoor.pk
open Go Go.RowKit Go.Proofs.YtkmpfgpfbmeihaaGreatDoor.lib Go.Proofs.YtkmpfgpfbmeihaaGreatDoor.bm

theorem clip_raw (w : World) : Calls Tryz.prog 45 #[.slice none 0 0] w fun e w' => e = .returned (.slice none 0 0) ∧ w' = w := by
  go_enter Tryz.func45, Tryz.ntmps45
  go_wp2
  go_ret
  exact ⟨rfl, rfl⟩
theorem slice_begin (w : World) : (Instr.slice 9 (.string ⟨#[80, 65, 67, 75, 0, 0, 0, 2]⟩) none (some (.int .i64 8)) none).run Tryz.prog w = .ok (.string ⟨#[80, 65, 67, 75, 0, 0, 0, 2]⟩) w := by
  kernel_rfl
set_option maxRecDepth 100000 in
set_option maxHeartbeats 4000000 in
theorem read_nil (a : Option Addr) (w : World) (h : lib.Rd w a 32 (begin12 ++ sha.sha1 begin12)) (hlow : ∀ x ∈ blk a, x < w.heap.size) :
    Calls Tryz.prog 18 #[.slice a 32 32] w fun e w' => (∃ s : ByteArray, s.size = 40 ∧ e = .returned (.tuple #[.slice none 0 0, .string s, .int .i64 0])) ∧ Fr [] w w' := by
  have hlen : (begin12 ++ sha.sha1 begin12).length = 32 := by rw [List.length_append, sha.sha1_length]; rfl
  obtain ⟨bs, hbs⟩ : ∃ bs, bs = begin12 ++ sha.sha1 begin12 := ⟨_, rfl⟩
  have e8 : bs.take 8 = [80, 65, 67, 75, 0, 0, 0, 2] := by rw [hbs]; rfl
  have e12 : bs.take 12 = begin12 := by rw [hbs]; rfl
  have e84 : (bs.drop 8).take 4 = [0, 0, 0, 0] := by rw [hbs]; rfl
  have e20 : (bs.drop 12).take 20 = sha.sha1 begin12 := by rw [hbs]; exact List.take_of_length_le (Nat.le_of_eq (sha.sha1_length _))
  rw [← hbs] at h hlen
  clear hbs
  obtain ⟨g, o, rfl, _⟩ := h.cs.at (by rw [List.length_map, hlen]; decide)
  have r8 := h.take 8
  rw [e8] at r8
  have cv8 : ∀ x c, (convert 23 9 (.slice (some ⟨g, o, none⟩) 8 c)).run Tryz.prog (w.drewN x) = .ok (.string ⟨#[80, 65, 67, 75, 0, 0, 0, 2]⟩) (w.drewN x) := fun x c => run_conv (w.drewN x) Tryz.underlying23 Tryz.underlying5 Tryz.underlying9 rfl (r8.cs.fr (Fr.drewN [] w x) (by simp)) c
  have hs8 := fun w' => lib.run_slice_to sliceU8 8 (some ⟨g, o, none⟩) 32 32 8 rfl (by decide) w'
  have hsb := slice_begin
  have HH := Lib.hid (And.intro h (And.intro hlen (And.intro (hlow g (by simp [blk])) (And.intro e12 (And.intro e84 e20)))))
  clear h hlen hlow e8 e12 e84 e20 r8
  go_enter Tryz.func18, Tryz.ntmps18
  go_upto_region 4 with fail
  go_quiet (fail)
  go_upto_region 7 with fail
  obtain ⟨R, w2, hR, hw2, f2, q2⟩ : ∃ R w2, R = w.heap.size ∧ w2 = (w.drewN nq).alloc (.cells #[.slice (some ⟨g, o, none⟩) 32 32, .int .i64 8] 85) ∧ Fr [] w w2 ∧ w2.heap[R]? = some (.cells #[.slice (some ⟨g, o, none⟩) 32 32, .int .i64 8] 85 (0, 0)) := ⟨_, _, rfl, rfl, (Fr.drewN [] w nq).alloc _, alloc_at (w.drewN nq) _⟩
  rw [← hw2, ← hR]
  have hgR : g ≠ R := by have := HH.out.2.2.1; omega
  have rdr : Rdr w2 R (some ⟨g, o, none⟩) 32 bs 8 := ⟨by rw [HH.out.2.1]; exact q2, HH.out.1.fr f2, by rw [HH.out.2.1]; decide, fun x hx => by simp only [blk, List.mem_singleton] at hx; rw [hx]; exact hgR⟩
  have ht := take_good R (some ⟨g, o, none⟩) 32 bs 8 4 w2 rdr (by rw [HH.out.2.1]; decide) (by rw [HH.out.2.1]; decide)
  have c8 : cutAt (some ⟨g, o, none⟩) 32 8 = some ⟨g, o + 8, none⟩ := by unfold cutAt; simp [addr_add]
  rw [c8] at ht
  have H2 := Lib.hid (And.intro f2 (And.intro ht (And.intro hgR hR)))
  clear hw2 hR f2 q2 rdr ht hgR c8 cv8 hs8 hsb
  go_upto_region 8 with (go_at_call 43; refine H2.out.2.1.mono ?_; rintro e w3 ⟨rfl, rd3, f3⟩)
  have f3w : Fr [] w w3 := H2.out.1.step f3 (fun y hy => .inr (by simp only [List.mem_singleton] at hy; rw [hy, H2.out.2.2.2]; exact Nat.le_refl _))
  have rz := rd3.rd.mid 8 4 (by rw [HH.out.2.1]; decide)
  rw [HH.out.2.2.2.2.1, show cutAt (some ⟨g, o, none⟩) 32 8 = some ⟨g, o + 8, none⟩ by unfold cutAt; simp [addr_add]] at rz
  have z : ∀ i, i < 4 → w3.cell? ⟨g, o + 8 + i, none⟩ = some (.int .u8 0) := fun i hi => by
    obtain ⟨g', o', e, hc⟩ := rz.at (i := i) (by simpa using hi)
    cases e
    rw [hc]
    match i, hi with
    | 0, _ => rfl
    | 1, _ => rfl
    | 2, _ => rfl
    | 3, _ => rfl
  have z0 := z 0 (by decide)
  rw [Nat.add_zero] at z0
  have z1 := z 1 (by decide)
  have z2 := z 2 (by decide)
  have z3 := z 3 (by decide)
  have ob : bits .or .i64 0 0 = 0 := by decide
  have H3 := Lib.hid (And.intro rd3 f3w)
  clear rd3 f3 f3w rz z
  go_upto_region 10 with fail
  go_quiet (fail)
  clear z0 z1 z2 z3 ob
  obtain ⟨w4, hw4⟩ : ∃ w4, w4 = w3.drewN nq := ⟨_, rfl⟩
  rw [← hw4]
  have f4 : Fr [] w3 w4 := by rw [hw4]; exact Fr.drewN [] w3 nq
  have rd4 := H3.out.1.fr f4
  have c1 : w4.cell? ⟨R, 1, none⟩ = some (.int .i64 12) := by rw [cell_of rd4.box]; rfl
  have r12 := rd4.rd.take 12
  rw [HH.out.2.2.2.1] at r12
  have hsh := sha.sha1_any (some ⟨g, o, none⟩) 32 begin12 w4 r12 (by decide)
  have hs12 := fun w' => lib.run_slice_to sliceU8 12 (some ⟨g, o, none⟩) 32 32 12 rfl (by decide) w'
  have H4 := Lib.hid (And.intro rd4 (And.intro (H3.out.2.trans f4) hsh))
  clear rd4 f4 hw4 r12 hsh
  go_wp2
  go_loopg [2, 66] 0 (fun k s2 s66 wr => s2 = .slice none 0 0 ∧ s66 = .int .i64 0 ∧ wr = w4)
  case atStart => exact ⟨rfl, rfl, rfl⟩
  case round =>
  obtain ⟨rfl, rfl, rfl⟩ := hrel
  go_upto_region 21 with (go_at_call 35; refine H4.out.2.2.mono ?_; rintro e w5 ⟨⟨a5, c5, rfl, r5⟩, f5⟩)
  have rd5 := H4.out.1.fr f5
  have ht := take_good R (some ⟨g, o, none⟩) 32 bs 12 20 w5 rd5 (by rw [HH.out.2.1]; decide) (by rw [HH.out.2.1]; decide)
  have c12 : cutAt (some ⟨g, o, none⟩) 32 12 = some ⟨g, o + 12, none⟩ := by unfold cutAt; simp [addr_add]
  rw [c12] at ht
  have hnew : R ∉ blk a5 := by
    obtain ⟨g5, o5, rfl, hc5⟩ := r5.cs.at (by rw [List.length_map, sha.sha1_length]; decide)
    simp only [blk, List.mem_singleton]
    rintro rfl
    obtain ⟨x, t, hx⟩ : ∃ x t, sha.sha1 begin12 = x :: t := by
      cases hh : sha.sha1 begin12 with
      | nil => have := congrArg List.length hh; rw [sha.sha1_length] at this; cases this
      | cons x t => exact ⟨x, t, rfl⟩
    have h0 := hc5 0 (bv x) (by rw [hx]; rfl)
    rw [cell_of rd5.box] at h0
    match o5, h0 with
    | 0, h0 => simp [bv] at h0
    | 1, h0 => simp [bv] at h0
    | n + 2, h0 => simp at h0
  have H5 := Lib.hid (And.intro r5 (And.intro f5 (And.intro ht hnew)))
  clear r5 f5 rd5 ht c12 hs12 c1 hnew
  go_upto_region 22 with (go_at_call 43; refine H5.out.2.2.1.mono ?_; rintro e w6 ⟨rfl, rd6, f6⟩)
  obtain ⟨S, hS⟩ : ∃ S, S = str (sha.sha1 begin12) := ⟨_, rfl⟩
  have r6 := H5.out.1.frS f6 (fun x hx hm => by simp only [List.mem_singleton] at hm; exact H5.out.2.2.2 (hm ▸ hx))
  have rm := rd6.rd.mid 12 20 (by rw [HH.out.2.1]; decide)
  rw [HH.out.2.2.2.2.2, show cutAt (some ⟨g, o, none⟩) 32 12 = some ⟨g, o + 12, none⟩ by unfold cutAt; simp [addr_add]] at rm
  have cvA := run_conv w6 Tryz.underlying23 Tryz.underlying5 Tryz.underlying9 (sha.sha1_length begin12) rm.cs
  have cvB := run_conv w6 Tryz.underlying23 Tryz.underlying5 Tryz.underlying9 (sha.sha1_length begin12) r6.cs
  rw [← hS] at cvA cvB
  have hss : (S == S) = true := by rw [hS, str_beq]; exact beq_self_eq_true _
  have k1 : w6.cell? ⟨R, 1, none⟩ = some (.int .i64 32) := by rw [cell_of rd6.box]; rfl
  have hex := hex_any a5 c5 (sha.sha1 begin12) w6 r6 (by decide)
  rw [sha.sha1_length] at hex
  obtain ⟨X, hX⟩ : ∃ X, X = str (hexb (sha.sha1 begin12)) := ⟨_, rfl⟩
  rw [← hX] at hex
  have hXs : X.size = 40 := by
    have : (str (hexb (sha.sha1 begin12))).size = (hexb (sha.sha1 begin12)).length := by simp [str, ByteArray.size]
    rw [hX, this, hexb_length, sha.sha1_length]
  have hf : Fr [] w w6 := (H4.out.2.1.trans H5.out.2.1).step f6 (fun y hy => .inr (by simp only [List.mem_singleton] at hy; rw [hy, H2.out.2.2.2]; exact Nat.le_refl _))
  have H6 := Lib.hid (And.intro hex (And.intro hXs hf))
  clear hex hXs hf hX rm r6 rd6 f6 hS
  go_wp2_with (first
    | (go_at_call 45; refine (clip_raw _).mono ?_; rintro e w7 ⟨rfl, hw⟩; obtain rfl := hw.symm)
    | (go_at_call 46; refine H6.out.1.mono ?_; rintro e w8 ⟨rfl, f8⟩))
  go_ret3
  exact ⟨⟨X, H6.out.2.1, rfl⟩, H6.out.2.2.trans f8⟩
end Go.Proofs.YtkmpfgpfbmeihaaGreatDoor.pk
/-
  stemmalaw11.awake answers true.
-/
namespace Go.Proofs.YtkmpfgpfbmeihaaGreatDoor.pk
open Go Go.RowKit Go.Proofs.YtkmpfgpfbmeihaaGreatDoor.lib Go.Proofs.YtkmpfgpfbmeihaaGreatDoor.bm

set_option maxRecDepth 100000 in
set_option maxHeartbeats 4000000 in
theorem awake_any (w : World) : Calls Tryz.prog 8 #[] w fun e w' => e = .returned (.bool true) ∧ Fr [] w w' := by
  have hlen : (begin12 ++ sha.sha1 begin12).length = 32 := by rw [List.length_append, sha.sha1_length]; rfl
  have hwr := write_nil w
  unfold NewBytes at hwr
  rw [hlen] at hwr
  have hh := fun w' => head_any 3 20 w' (by decide) (by decide)
  have hb := fun w' => back_any 128 w' (by decide)
  unfold NewBytes at hh hb
  have eh : hd 3 20 = [180, 1] := by decide
  have eb : (bk 128).reverse = [128, 0] := by decide
  rw [eh] at hh
  rw [eb] at hb
  have H0 := Lib.hid (And.intro hwr (And.intro hh hb))
  clear hwr hh hb eh eb hlen
  go_enter Tryz.func8, Tryz.ntmps8
  go_upto_region 2 with (go_at_call 15; refine H0.out.1.mono ?_; rintro e w1 ⟨a1, rfl, rd1, nb1, f1⟩)
  have hrd := read_nil a1 w1 rd1 (fun x hx => (nb1 x hx).2)
  have H1 := Lib.hid (And.intro hrd f1)
  clear hrd f1 rd1 nb1
  go_upto_region 3 with (go_at_call 18; refine H1.out.1.mono ?_; rintro e w2 ⟨⟨s, hs, rfl⟩, f2⟩)
  go_wp2_with (first
    | (go_at_call 10; refine (H0.out.2.1 _).mono ?_; rintro e w3 ⟨a3, rfl, rd3, nb3, f3⟩; have cv3 : ∀ c, (convert 23 9 (.slice a3 2 c)).run Tryz.prog w3 = .ok (.string ⟨#[180, 1]⟩) w3 := run_conv w3 Tryz.underlying23 Tryz.underlying5 Tryz.underlying9 (n := 2) (bs := [180, 1]) rfl rd3.cs)
    | (go_at_call 9; refine (H0.out.2.2 _).mono ?_; rintro e w4 ⟨a4, rfl, rd4, nb4, f4⟩; have cv4 : ∀ c, (convert 23 9 (.slice a4 2 c)).run Tryz.prog w4 = .ok (.string ⟨#[128, 0]⟩) w4 := run_conv w4 Tryz.underlying23 Tryz.underlying5 Tryz.underlying9 (n := 2) (bs := [128, 0]) rfl rd4.cs))
  go_ret
  exact ⟨by first | rfl | simp, H1.out.2.trans (f2.trans (f3.trans f4))⟩
end Go.Proofs.YtkmpfgpfbmeihaaGreatDoor.pk
