/-
  sum.four, number; the whole Adler sum.
-/
import Derived.Test.YtolkoidbkaidkaaSumA
import Derived.Test.YtolkoidbkaidkaaMix
namespace Go.Proofs.Ytolkoidbkaidkaa.sums
open Go Go.RowKit Go.Proofs.Ytolkoidbkaidkaa.lib Go.Proofs.Ytolkoidbkaidkaa.bm

/-- A number of 32 bits as four bytes, the highest first. -/
def be4 (x : Nat) : List UInt8 := [UInt8.ofNat (x / 16777216), UInt8.ofNat (x / 65536), UInt8.ofNat (x / 256), UInt8.ofNat x]
theorem be4_length (x : Nat) : (be4 x).length = 4 := rfl
theorem be4_map (x : Nat) (h : x < 4294967296) : (be4 x).map bv = [.int .u8 ((x : Int) / 16777216), .int .u8 ((x : Int) / 65536 % 256), .int .u8 ((x : Int) / 256 % 256), .int .u8 ((x : Int) % 256)] := by
  simp only [be4, List.map_cons, List.map_nil, bv, UInt8.toNat_ofNat']
  refine List.cons_eq_cons.2 ⟨int_eq (by omega), List.cons_eq_cons.2 ⟨int_eq (by omega), List.cons_eq_cons.2 ⟨int_eq (by omega), List.cons_eq_cons.2 ⟨int_eq (by omega), rfl⟩⟩⟩⟩
theorem be4_num (x : Nat) (h : x < 4294967296) (b : List UInt8) (hb : b = be4 x) : (b[0]?.getD 0).toNat * 16777216 + (b[1]?.getD 0).toNat * 65536 + (b[2]?.getD 0).toNat * 256 + (b[3]?.getD 0).toNat = x := by
  subst hb
  show (UInt8.ofNat (x / 16777216)).toNat * 16777216 + (UInt8.ofNat (x / 65536)).toNat * 65536 + (UInt8.ofNat (x / 256)).toNat * 256 + (UInt8.ofNat x).toNat = x
  simp only [UInt8.toNat_ofNat']
  omega
def Foured (w : World) (ao : Option Addr) (bs : List UInt8) (x : Nat) (e : Ending) (w' : World) : Prop :=
  ∃ a c, e = .returned (.slice a (bs.length + 4) c) ∧ OwnMore w w' 5 ao a c ((bs ++ be4 x).map bv)
set_option maxRecDepth 100000 in
set_option maxHeartbeats 1000000 in
theorem four_any (ao : Option Addr) (cap : Nat) (bs : List UInt8) (x : Nat) (w : World) (hx : x < 4294967296) (h : Own w 5 ao cap (bs.map bv)) (hm : bs.length ≤ 140737488351232) :
    Calls Try.prog 62 #[.slice ao bs.length cap, .int .u32 x] w (Foured w ao bs x) := by
  obtain ⟨L, hL⟩ : ∃ L, L = bs.length := ⟨_, rfl⟩
  obtain ⟨o1, o2, o3⟩ := h.shape
  rw [List.length_map, ← hL] at o1
  rw [← hL] at hm ⊢
  have hb4 := be4_map x hx
  have H := Lib.hid (And.intro h (And.intro hL hb4))
  have f1 : Fr [] w (w.alloc (.cells #[.int .u8 ((x : Int) / 16777216), .int .u8 ((x : Int) / 65536 % 256), .int .u8 ((x : Int) / 256 % 256), .int .u8 ((x : Int) % 256)] 5)) := (Fr.refl [] w).alloc _
  have HF := Lib.hid f1
  clear h hL hb4 f1
  go_enter Try.func62, Try.ntmps62
  go_wp2_with (refine wpList_append_mid sliceU8 rfl _ _ rfl ao L cap (bs.map bv) rfl (H.out.1.fr HF.out (by simp)) (by rw [List.length_map]; exact H.out.2.1.symm) (some ⟨w.heap.size, 0, none⟩) 4 4 ((be4 x).map bv) rfl (by omega) (by simp) (by rw [H.out.2.2]; exact cs_new w _ _ _) rfl (bv_one _) (by omega) (by unfold maxLen; omega) ?_; intro a1 c1 w1 A1; have H1 := Lib.hid A1; clear A1)
  go_ret
  unfold Foured
  rw [← H.out.2.1, List.map_append]
  refine ⟨a1, c1, rfl, H1.out.own, HF.out.mono (by simp) |>.step H1.out.fr (fun y hy => .inl hy), fun y hy => ?_⟩
  rcases H1.out.at_ y hy with k | k
  · exact .inl k
  · right
    rw [World.size_alloc] at k
    omega
theorem or_hi (n v k : Nat) (hv : v < 2 ^ k) (hk : k ≤ 32) (hn : n < 4294967296) (hd : n % 2 ^ k = 0) : bits .or .u32 (n : Int) (v : Int) = ((n + v : Nat) : Int) := by
  have h1 := pow_le k 32 hk
  rw [p32] at h1
  have e : n = n / 2 ^ k * 2 ^ k := by
    have := Nat.div_add_mod n (2 ^ k)
    rw [hd, Nat.add_zero, Nat.mul_comm] at this
    exact this.symm
  rw [u32_or_nat n v hn (by omega)]
  conv => lhs; rw [e, Nat.or_comm, or_add v _ k hv, Nat.mul_comm (2 ^ k), ← e, Nat.add_comm]
set_option maxRecDepth 100000 in
set_option maxHeartbeats 1000000 in
theorem number_four (a : Option Addr) (cap : Nat) (y0 y1 y2 y3 : UInt8) (w : World) (h : Rd w a cap [y0, y1, y2, y3]) :
    Calls Try.prog 37 #[.slice a 4 cap] w fun e w' => e = .returned (.int .u32 (y0.toNat * 16777216 + y1.toNat * 65536 + y2.toNat * 256 + y3.toNat : Nat)) ∧ Fr [] w w' := by
  obtain ⟨g, o, rfl, c0⟩ := h.at (i := 0) (by simp)
  obtain ⟨g1, o1, e1, c1⟩ := h.at (i := 1) (by simp)
  obtain ⟨g2, o2, e2, c2⟩ := h.at (i := 2) (by simp)
  obtain ⟨g3, o3, e3, c3⟩ := h.at (i := 3) (by simp)
  simp only [Option.some.injEq, Addr.mk.injEq, and_true] at e1 e2 e3
  obtain ⟨rfl, rfl⟩ := e1
  obtain ⟨rfl, rfl⟩ := e2
  obtain ⟨rfl, rfl⟩ := e3
  have hle := h.le
  simp only [List.length_cons, List.length_nil] at hle
  have l0 := UInt8.toNat_lt y0
  have l1 := UInt8.toNat_lt y1
  have l2 := UInt8.toNat_lt y2
  have l3 := UInt8.toNat_lt y3
  simp only [Nat.add_zero, List.getElem_cons_zero, List.getElem_cons_succ] at c0 c1 c2 c3
  generalize y0.toNat = x0 at *
  generalize y1.toNat = x1 at *
  generalize y2.toNat = x2 at *
  generalize y3.toNat = x3 at *
  obtain ⟨z1, hz1⟩ : ∃ z, z = x0 * 16777216 + x1 * 65536 := ⟨_, rfl⟩
  obtain ⟨z2, hz2⟩ : ∃ z, z = z1 + x2 * 256 := ⟨_, rfl⟩
  obtain ⟨z3, hz3⟩ : ∃ z, z = z2 + x3 := ⟨_, rfl⟩
  have r1 : bits .or .u32 ((x0 : Int) * 16777216) ((x1 : Int) * 65536) = (z1 : Int) := by
    have := or_hi (x0 * 16777216) (x1 * 65536) 24 (by omega) (by decide) (by omega) (by omega)
    rw [← hz1] at this
    simpa using this
  have r2 : bits .or .u32 (z1 : Int) ((x2 : Int) * 256) = (z2 : Int) := by
    have := or_hi z1 (x2 * 256) 16 (by omega) (by decide) (by omega) (by omega)
    rw [← hz2] at this
    simpa using this
  have r3 : bits .or .u32 (z2 : Int) (x3 : Int) = (z3 : Int) := by
    have := or_hi z2 x3 8 (by omega) (by decide) (by omega) (by omega)
    rw [← hz3] at this
    exact this
  have HZ : Hid (x0 * 16777216 + x1 * 65536 + x2 * 256 + x3 = z3) := Lib.hid (by omega)
  clear hz1 hz2 hz3 h
  go_enter Try.func37, Try.ntmps37
  go_wp2
  go_quiet (fail)
  go_wp2
  go_ret
  exact ⟨by rw [HZ.out]; rfl, Fr.drewN _ _ _⟩
theorem number_any (a : Option Addr) (cap x : Nat) (w : World) (hx : x < 4294967296) (h : Rd w a cap (be4 x)) :
    Calls Try.prog 37 #[.slice a 4 cap] w fun e w' => e = .returned (.int .u32 x) ∧ Fr [] w w' := by
  have h1 := number_four a cap _ _ _ _ w h
  have h2 := be4_num x hx _ rfl
  have e : (UInt8.ofNat (x / 16777216)).toNat * 16777216 + (UInt8.ofNat (x / 65536)).toNat * 65536 + (UInt8.ofNat (x / 256)).toNat * 256 + (UInt8.ofNat x).toNat = x := h2
  rw [e] at h1
  exact h1
set_option maxRecDepth 100000 in
set_option maxHeartbeats 1000000 in
theorem sum_adler (g a b : Nat) (w : World) (h : Ad w g a b) : Calls Try.prog 51 #[.pointer (some ⟨g, 0, none⟩)] w fun e w' => (∃ ao c, e = .returned (.slice ao 4 c) ∧ Rd w' ao c (be4 (b * 65536 + a))) ∧ Fr [] w w' := by
  obtain ⟨C, hC, hsz, hc0, ha, hb, hla, hlb⟩ := h
  have c0 := cell_of hC 0
  have c1 := cell_of hC 265
  have c2 := cell_of hC 266
  rw [hc0] at c0
  rw [ha] at c1
  rw [hb] at c2
  obtain ⟨z, hz⟩ : ∃ z, z = b * 65536 + a := ⟨_, rfl⟩
  have r1 : bits .or .u32 ((b : Int) * 65536) (a : Int) = (z : Int) := by
    have := or_hi (b * 65536) a 16 (by omega) (by decide) (by omega) (by omega)
    rw [← hz] at this
    simpa using this
  have hzl : z < 4294967296 := by omega
  rw [← hz]
  have HC := Lib.hid hC
  clear hz hC hsz hc0 ha hb
  go_enter Try.func51, Try.ntmps51
  go_upto_region 5 with fail
  have hgl := lt_of_block HC.out
  obtain ⟨B, hB⟩ : ∃ B, B = w.heap.size := ⟨_, rfl⟩
  have hgB : g ∉ [B] := by simp; omega
  have s1 : ∀ x, (sup [B] w.drew x).cell? ⟨g, 265, none⟩ = some (.int .u32 (a : Nat)) := fun x => (sup_fr [B] w.drew x).cell (show w.drew.cell? _ = _ from c1) hgB
  have s2 : ∀ x, (sup [B] w.drew x).cell? ⟨g, 266, none⟩ = some (.int .u32 (b : Nat)) := fun x => (sup_fr [B] w.drew x).cell (show w.drew.cell? _ = _ from c2) hgB
  have hmk : ∀ w : World, (Instr.makeSlice 22 (.int .i64 0) (.int .i64 4)).run Try.prog w = .ok (.slice (some ⟨w.heap.size, 0, none⟩) 0 4) (w.alloc (.cells #[.int .u8 0, .int .u8 0, .int .u8 0, .int .u8 0] 5)) := fun _ => by kernel_rfl
  have hfo : ∀ w, Own w 5 (some ⟨B, 0, none⟩) 4 (([] : List UInt8).map bv) → Calls Try.prog 62 #[.slice (some ⟨B, 0, none⟩) 0 4, .int .u32 z] w (Foured w (some ⟨B, 0, none⟩) [] z) := fun w h => four_any (some ⟨B, 0, none⟩) 4 [] z w hzl h (by simp)
  unfold Foured at hfo
  simp only [List.length_nil, Nat.zero_add, List.nil_append] at hfo
  have HB := Lib.hid (And.intro hB hfo)
  clear hB hfo c0 c1 c2
  refine region_mix 13 [(false, 1), (false, 2), (false, 3), (false, 4), (false, 5), (false, 6), (false, 7), (false, 8), (false, 9), (false, 10), (true, 0), (true, 11), (false, 12)] [B] (by kernel_rfl) (by kernel_rfl) (fun _ _ d _ _ h => by cases d <;> exact h) ?_
  simp only [List.map_cons, List.map_nil, List.getD_cons_zero, List.getD_cons_succ, List.drop_succ_cons, List.drop_zero, List.drop_nil]
  refine mix_seg 10 rfl ?_
  simp only [List.take_succ_cons, List.take_zero, List.drop_succ_cons, List.drop_zero, List.map_cons, List.map_nil]
  repeat (go_big_quiet_step (fail))
  refine wpQuiet_nil ?_
  refine mix_eff rfl ?_
  intro X hX
  have hBd : w.drew.heap.size = B := HB.out.1.symm
  go_wp2
  have f1 : Fr [B] w.drew ((w.alloc (.cells #[.int .u8 0, .int .u8 0, .int .u8 0, .int .u8 0] 5)).drew) := (Fr.refl [B] w.drew).alloc (.cells #[.int .u8 0, .int .u8 0, .int .u8 0, .int .u8 0] 5)
  have hown : Own ((w.alloc (.cells #[.int .u8 0, .int .u8 0, .int .u8 0, .int .u8 0] 5)).drew) 5 (some ⟨B, 0, none⟩) 4 (([] : List UInt8).map bv) := .inr ⟨B, 0, _, rfl, by rw [HB.out.1]; exact alloc_at w _, Nat.zero_le _, by decide, Nat.le_refl _, rfl⟩
  refine hX.out _ _ f1 ?_
  clear hX X s1 s2 hmk
  generalize (w.alloc (.cells #[.int .u8 0, .int .u8 0, .int .u8 0, .int .u8 0] 5)).drew = w1 at *
  have H1 := Lib.hid (And.intro (HB.out.2 w1 hown) f1)
  clear hown f1 hBd
  refine mix_eff rfl ?_
  intro X hX
  go_wp2_with (go_at_call 62; refine H1.out.1.mono ?_; rintro e w2 ⟨a2, c2, rfl, A2⟩)
  refine hX.out _ _ A2.fr ?_
  clear hX X
  have H2 := Lib.hid A2
  clear A2
  refine mix_seg 1 rfl ?_
  simp only [List.take_succ_cons, List.take_zero, List.drop_succ_cons, List.drop_zero, List.map_cons, List.map_nil]
  repeat (go_big_quiet_step (fail))
  refine wpQuiet_nil ?_
  refine mix_nil ?_
  go_wp2
  go_ret
  have hr : Rd w2 a2 c2 (be4 z) := H2.out.own.rd
  refine ⟨⟨a2, c2, rfl, hr.fr (by first | exact Fr.refl _ _ | exact Fr.drewN _ _ _)⟩, ?_⟩
  have f2 : Fr [] w w.drew := Fr.drew1 [] w
  exact ((f2.step H1.out.2 (fun y hy => .inr (by simp at hy; rw [hy, HB.out.1]; exact Nat.le_refl _))).step H2.out.fr (fun y hy => .inr (by simp [blk] at hy; rw [hy, HB.out.1]; exact Nat.le_refl _)))
set_option maxRecDepth 100000 in
set_option maxHeartbeats 1000000 in
theorem whole_adler (a : Option Addr) (cap : Nat) (bs : List UInt8) (w : World) (h : Rd w a cap bs) : Calls Try.prog 38 #[.int .i64 3, .slice a bs.length cap] w fun e w' => (∃ ao c, e = .returned (.slice ao 4 c) ∧ Rd w' ao c (be4 (adler bs))) ∧ Fr [] w w' := by
  have H := Lib.hid h
  clear h
  go_enter Try.func38, Try.ntmps38
  go_upto_region 2 with (go_at_call 49; refine (begun_three _).mono ?_; rintro e w1 ⟨rfl, A1, f1⟩)
  have hw := write_adler w.heap.size 1 0 cap a bs w1 A1 (H.out.fr f1) (fun hb x hx => by have := rd_lt H.out hb x hx; omega)
  have H1 := Lib.hid (And.intro hw f1)
  clear hw f1 A1
  go_upto_region 3 with (go_at_call 50; refine H1.out.1.mono ?_; rintro e w2 ⟨rfl, f2, A2⟩)
  have hs := sum_adler _ _ _ w2 A2
  have H2 := Lib.hid (And.intro hs f2)
  clear hs f2 A2
  go_wp2_with (go_at_call 51; refine H2.out.1.mono ?_; rintro e w3 ⟨⟨a3, c3, rfl, r3⟩, f3⟩)
  go_ret
  exact ⟨⟨a3, c3, rfl, r3⟩, (H1.out.2.step H2.out.2 (fun y hy => .inr (by simp at hy; rw [hy]; exact Nat.le_refl _))).trans f3⟩
set_option maxRecDepth 100000 in
theorem adler_any (a : Option Addr) (cap : Nat) (bs : List UInt8) (w : World) (h : Rd w a cap bs) : Calls Try.prog 23 #[.slice a bs.length cap] w fun e w' => e = .returned (.int .u32 (adler bs)) ∧ Fr [] w w' := by
  have hw := whole_adler a cap bs w h
  have hn := fun a cap w h => number_any a cap (adler bs) w (adler_lt bs) h
  have H := Lib.hid (And.intro hw hn)
  clear hw hn h
  go_enter Try.func23, Try.ntmps23
  go_wp2_with (first | (go_at_call 38; refine H.out.1.mono ?_; rintro e w1 ⟨⟨a1, c1, rfl, r1⟩, f1⟩; have H1 := Lib.hid (And.intro r1 f1); clear r1 f1) | (go_at_call 37; refine (H.out.2 a1 c1 _ H1.out.1).mono ?_; rintro e w2 ⟨rfl, f2⟩))
  go_ret
  exact ⟨rfl, H1.out.2.trans f2⟩
end Go.Proofs.Ytolkoidbkaidkaa.sums
