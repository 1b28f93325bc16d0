/-
  The document's own writer of bits (stemmaref5.Writer): it does what bits.Writer does.
-/
import Derived.Test.YtcfhebhbgllphaaRef5
import Derived.Test.YtcfhebhbgllphaaTail
namespace Go.Proofs.Ytcfhebhbgllphaa.bits
open Go Go.RowKit Go.Proofs.Ytcfhebhbgllphaa.lib Go.Proofs.Ytcfhebhbgllphaa.bm

/-- The document's writer into which L bits were put, as a number M; v: its bytes. -/
def WfV (w : World) (p : Nat) (v : Value) (M L : Nat) : Prop :=
  w.heap[p]? = some (.cells #[v, .int .i64 L] 51 (0, 0)) ∧
    w.ownsRow 0 5 1 v ((L + 7) / 8) ((dig ((L + 7) / 8) M).map bv) ∧ v.ownBlock ≠ some p ∧ M < 2 ^ L
def Wf (w : World) (p : Nat) (F : List Nat) (M L : Nat) : Prop := ∃ v, WfV w p v M L ∧ F = p :: v.ownBlock.toList
def WfPost (p : Nat) (F : List Nat) (w : World) (M L : Nat) (e : Ending) (w' : World) : Prop :=
  e = .returned (.tuple #[]) ∧ Fr F w w' ∧ ∃ F', Wf w' p F' M L ∧ ∀ y ∈ F', y ∈ F ∨ w.heap.size ≤ y
theorem wf_fr {w w' : World} {p : Nat} {F S : List Nat} {M L : Nat} (h : Wf w p F M L) (hf : Fr S w w') (hn : ∀ x ∈ F, x ∉ S) : Wf w' p F M L := by
  obtain ⟨v, ⟨hr, hown, hpb, hM⟩, rfl⟩ := h
  exact ⟨v, ⟨hf.blk hr (hn p (by simp)), ownsRow_fr hown hf (fun k hk => hn k (by simp [hk])), hpb, hM⟩, rfl⟩
theorem wf_lt {w : World} {p : Nat} {F : List Nat} {M L : Nat} (h : Wf w p F M L) : ∀ x ∈ F, x < w.heap.size := by
  obtain ⟨v, ⟨hr, hown, hpb, hM⟩, rfl⟩ := h
  intro x hx
  rcases List.mem_cons.1 hx with rfl | hx
  · exact lt_of_block hr
  · exact owns_lt hown (by simpa using hx)

/-! ### One bit -/
theorem u8_bit (W x s : Nat) (hs : s < 8) (hW : W < 2 ^ s) :
    bits .or .u8 (W : Int) (IntKind.u8.wrap (IntKind.u8.wrap (bits .and .u32 (x : Int) 1) * 2 ^ s)) = ((W + 2 ^ s * (x % 2) : Nat) : Int) ∨ 4294967296 ≤ x := by
  by_cases hx : x < 4294967296
  · left
    have h1 := u32_and_nat x 1 hx (by decide)
    rw [Nat.and_one_is_mod] at h1
    have h1' : bits .and .u32 (x : Int) 1 = ((x % 2 : Nat) : Int) := h1
    have h2 := pow_le s 7 (by omega)
    have e7 : 2 ^ 7 = 128 := by decide
    rw [e7] at h2
    have hy : x % 2 < 2 := Nat.mod_lt _ (by decide)
    have hp : x % 2 * 2 ^ s ≤ 1 * 128 := Nat.mul_le_mul (by omega) h2
    have h3 : IntKind.u8.wrap ((x % 2 : Nat) : Int) = ((x % 2 : Nat) : Int) := by rw [IntKind.wrap_u8']; omega
    have h4 : IntKind.u8.wrap (((x % 2 : Nat) : Int) * 2 ^ s) = ((x % 2 * 2 ^ s : Nat) : Int) := by
      rw [cast_pow, ← Int.natCast_mul, IntKind.wrap_u8']
      omega
    rw [h1', h3, h4, u8_or_nat _ _ (by omega) (by omega), or_add _ _ _ hW]
  · right; omega
theorem bit_dig (M L y : Nat) : (dig (L / 8 + 1) (M + 2 ^ L * y)) = dig (L / 8) M ++ [UInt8.ofNat (M / 2 ^ (8 * (L / 8)) + 2 ^ (L % 8) * y)] := by
  rw [dig_snoc, put_div]
  congr 1
  rw [show 2 ^ L = 2 ^ (8 * (L / 8)) * 2 ^ (L % 8) from by rw [← Nat.pow_add, Nat.div_add_mod], Nat.mul_assoc, dig_add]
theorem set_last {α : Type} (l : List α) (x y : α) : (l ++ [x]).set l.length y = l ++ [y] := by
  induction l with
  | nil => rfl
  | cons a l ih => simp [ih]

set_option maxHeartbeats 1000000 in
set_option maxRecDepth 100000 in
theorem wone_any (p : Nat) (F : List Nat) (M L : Nat) (x : Int) (w : World) (hW : Wf w p F M L) (hx0 : 0 ≤ x) (hx : x < 4294967296) (hL : L ≤ 562949953421312) :
    Calls Try.prog 28 #[.pointer (some ⟨p, 0, none⟩), .int .u32 x] w (WfPost p F w (M + 2 ^ L * (x.toNat % 2)) (L + 1)) := by
  obtain ⟨x, rfl⟩ := Int.eq_ofNat_of_zero_le hx0
  rw [Int.toNat_natCast]
  obtain ⟨v, ⟨hr, hown, hpb, hM⟩, rfl⟩ := hW
  have c0 := cell_of hr 0
  have c1 := cell_of hr 1
  have f0 := frozen_of hr 0
  simp only [List.getElem?_toArray, List.getElem?_cons_zero, List.getElem?_cons_succ] at c0 c1
  have Hr := Lib.hid hr
  clear hr
  have HM := Lib.hid hM
  clear hM
  -- behind the first statement there is room for the bit's byte
  go_enter Try.func28, Try.ntmps28
  go_upto_if 9 with fail
  go_cut [] (fun wc => ∃ ao cap, wc.heap[p]? = some (.cells #[.slice ao (L / 8 + 1) cap, .int .i64 L] 51 (0, 0)) ∧ wc.ownsRow 0 5 1 (.slice ao (L / 8 + 1) cap) (L / 8 + 1) ((dig (L / 8 + 1) M).map bv) ∧ p ∉ blk ao ∧
    Fr (p :: v.ownBlock.toList) w wc ∧ ∀ y ∈ blk ao, y ∈ v.ownBlock.toList ∨ w.heap.size ≤ y)
  case first =>
    by_cases h8 : L % 8 = 0
    · have hq : (L + 7) / 8 = L / 8 := by omega
      rw [hq] at hown
      rw [show ((L : Int) % 8 == 0) = true from by simp; omega]
      have Ho := Lib.hid hown
      have hps : p < w.heap.size := lt_of_block Hr.out
      have ea : p ≠ w.heap.size := Nat.ne_of_lt hps
      go_wp2_with (refine wpList_append sliceU8 rfl _ _ rfl v (L / 8) _ _ rfl rfl (Ho.out.alloc _) _ 1 1 _ rfl (by decide) (by simp) (by exact cs_one _ _ _ _ (alloc_at _ _)) (by rfl) (by simp [Value.oneCell']) (by omega) (by unfold maxLen; omega) ?_; intro ao1 cap1 w1 A1; have hb1 := A1.fr.blk (alloc_old _ Hr.out) (by simpa using hpb); have g0 := cell_of hb1 0; have g1 := frozen_of hb1 0; simp only [List.getElem?_toArray, List.getElem?_cons_zero] at g0)
      go_meet
      have hat := A1.at_
      simp only [World.size_alloc] at hat
      have hne : p ∉ blk ao1 := fun h => by
        rcases hat p h with h | h
        · exact hpb (by simpa using h)
        · omega
      have hz : M / 2 ^ (8 * (L / 8)) = 0 := Nat.div_eq_of_lt (by rw [show 8 * (L / 8) = L from by omega]; exact HM.out)
      refine ⟨ao1, cap1, (setCell_of hb1 _).trans rfl, ?_, hne, (((Fr.refl _ w).alloc _).step A1.fr (fun y hy => .inl (by simp [Option.mem_toList.1 hy]))).setCell (by simp) _, fun y hy => ?_⟩
      · have h := ownsRow_setCell_other (a := ⟨p, 0, none⟩) A1.own (fun h => hne (by rw [← own_blk ao1 (L / 8 + 1) cap1, h]; simp)) (.slice ao1 (L / 8 + 1) cap1)
        rw [dig_snoc, hz, List.map_append]
        exact h
      · rcases hat y hy with h | h
        · exact .inl h
        · right; omega
    · have hq : (L + 7) / 8 = L / 8 + 1 := by omega
      rw [hq] at hown
      rw [show ((L : Int) % 8 == 0) = false from by simp; omega]
      obtain ⟨ao, cap, rfl, _, _, _⟩ := owns_form hown
      have Ho := Lib.hid hown
      clear hown
      go_wp2
      go_meet
      exact ⟨ao, cap, Hr.out, Ho.out, fun h => hpb (blk_own h), Fr.refl _ _, fun y hy => .inl (by rw [own_blk]; exact hy)⟩
  case rest =>
  clear c0 c1 f0 hown
  obtain ⟨ao, cap, hr, hown, hpb2, fr1, hbl⟩ := hcut
  obtain ⟨g, o, rfl, hc⟩ := (cs_of_owns hown).at (by simp [dig_length])
  obtain rfl : o = 0 := by
    rcases hown.2 with ⟨h, _⟩ | ⟨g', cap', cur, h, _⟩
    · simp at h
    · simp only [Value.slice.injEq, Option.some.injEq, Addr.mk.injEq] at h
      exact h.1.2.1
  obtain ⟨W, hWd⟩ : ∃ W, M / 2 ^ (8 * (L / 8)) = W := ⟨_, rfl⟩
  have hWs : W < 2 ^ (L % 8) := by
    rw [← hWd]
    refine Nat.div_lt_of_lt_mul ?_
    rw [← Nat.pow_add, Nat.div_add_mod]
    exact HM.out
  have hW7 : W < 128 := Nat.lt_of_lt_of_le hWs (by have := pow_le (L % 8) 7 (by omega); simpa using this)
  have hrow := dig_row (L / 8) M
  rw [hWd] at hrow
  have cd : wc.cell? ⟨g, L / 8, none⟩ = some (.int .u8 W) := by
    have h := hc (L / 8) (.int .u8 (IntKind.u8.wrap (W : Int))) (by rw [hrow, List.getElem?_append_right (by simp [dig_length])]; simp [dig_length])
    rw [Nat.zero_add] at h
    rw [h, show IntKind.u8.wrap (W : Int) = W from by rw [IntKind.wrap_u8']; omega]
  have fz := hown.frozenAt (L / 8)
  have c0 := cell_of hr 0
  have c1 := cell_of hr 1
  have f1 := frozen_of hr 1
  simp only [List.getElem?_toArray, List.getElem?_cons_zero, List.getElem?_cons_succ] at c0 c1
  have Hr' := Lib.hid hr
  have Ho := Lib.hid hown
  have HWs := Lib.hid hWs
  have Hrow := Lib.hid hrow
  have HWd := Lib.hid hWd
  clear hr hown hc hrow hWd hWs
  have hpg : p ≠ g := fun h => hpb2 (by simp [blk, h])
  go_wp2
  refine region_tail 31 (by kernel_rfl) (by kernel_rfl) ?_
  simp only [List.take_succ_cons, List.take_zero, List.drop_succ_cons, List.drop_zero]
  repeat (go_big_quiet_step (fail))
  refine wpQuiet_nil ?_
  go_wp2
  go_end0
  have hb2 : x % 2 < 2 := Nat.mod_lt _ (by decide)
  have hbit := u8_bit W x (L % 8) (by omega) HWs.out
  have hW' : W + 2 ^ (L % 8) * (x % 2) < 256 := by
    have h7 := pow_le (L % 8) 7 (by omega)
    have e7 : 2 ^ 7 = 128 := by decide
    rw [e7] at h7
    have := Nat.mul_le_mul h7 (show x % 2 ≤ 1 by omega)
    omega
  have hst := (Ho.out.stored (L / 8) (.int .u8 (W + 2 ^ (L % 8) * (x % 2) : Nat))).1
  have e8 : (L + 1 + 7) / 8 = L / 8 + 1 := by omega
  have hrow2 : ((dig (L / 8 + 1) M).map bv).set (L / 8) (.int .u8 (W + 2 ^ (L % 8) * (x % 2) : Nat)) = (dig (L / 8 + 1) (M + 2 ^ L * (x % 2))).map bv := by
    have h := set_last ((dig (L / 8) M).map bv) (.int .u8 (IntKind.u8.wrap (W : Int))) (.int .u8 (W + 2 ^ (L % 8) * (x % 2) : Nat))
    rw [List.length_map, dig_length] at h
    rw [Hrow.out, h, bit_dig, List.map_append, HWd.out]
    simp only [List.map_cons, List.map_nil, List.append_cancel_left_eq]
    rw [← bv_ofNat, show IntKind.u8.wrap ((W + 2 ^ (L % 8) * (x % 2) : Nat) : Int) = ((W + 2 ^ (L % 8) * (x % 2) : Nat) : Int) from by rw [IntKind.wrap_u8']; omega]
  rw [hrow2] at hst
  have hv : (bits .or .u8 (W : Int) (bits .and .u32 (x : Int) 1 % 256 * 2 ^ (L % 8) % 256)) = ((W + 2 ^ (L % 8) * (x % 2) : Nat) : Int) := by
    rcases hbit with h | h
    · rw [IntKind.wrap_u8', IntKind.wrap_u8'] at h
      exact h
    · omega
  rw [hv]
  refine ⟨rfl, ((fr1.setCell (p := ⟨g, L / 8, none⟩) (by
    rcases hbl g (by simp [blk]) with h | h
    · left; exact List.mem_cons_of_mem _ h
    · exact .inr h) _).setCell (by simp) _).drew, p :: blk (some ⟨g, 0, none⟩), ⟨.slice (some ⟨g, 0, none⟩) (L / 8 + 1) cap, ⟨?_, ?_, ?_, ?_⟩, by rw [own_blk]⟩, ?_⟩
  · refine (setCell_of (w := wc.setCell ⟨g, L / 8, none⟩ _) (by rw [setCell_other hpg]; exact Hr'.out) _).trans rfl
  · rw [e8]
    refine (ownsRow_setCell_other hst (by simp [Value.ownBlock]; exact fun h => hpg h.symm) _).drew
  · simp [Value.ownBlock]; exact fun h => hpg h.symm
  · rw [Nat.pow_succ]
    have := Nat.mul_le_mul_left (2 ^ L) (show x % 2 ≤ 1 by omega)
    have := HM.out
    omega
  · intro y hy
    rcases List.mem_cons.1 hy with rfl | hy
    · simp
    · rcases hbl y hy with h | h
      · left; simp [h]
      · exact .inr h
end Go.Proofs.Ytcfhebhbgllphaa.bits
