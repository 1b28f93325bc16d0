/-
  (*bits.Writer): what a writer is in memory, and Put.
-/
import Derived.Test.YtolkoidbkaidkaaAppend
import Derived.Test.YtolkoidbkaidkaaBitsOps
import Derived.Deep.DeepCutAuto
import Derived.StillTailTactics
namespace Go.Proofs.Ytolkoidbkaidkaa.bits
open Go Go.RowKit Go.Proofs.Ytolkoidbkaidkaa.lib Go.Proofs.Ytolkoidbkaidkaa.bm

theorem sliceU8 : SliceTy Try.prog 22 5 (.int .u8 0) 1 1 := SliceTy.of Try.underlying22 (by kernel_rfl) rfl (by decide)

/-- A writer into which L bits were put, as a number M; v: its whole bytes. -/
def Wv (w : World) (p : Nat) (v : Value) (M L : Nat) : Prop :=
  w.heap[p]? = some (.cells #[v, .int .u64 (M / 2 ^ (8 * (L / 8)) : Nat), .int .i64 (L % 8 : Nat)] 68 (0, 0)) ∧
    w.ownsRow 0 5 1 v (L / 8) ((dig (L / 8) M).map bv) ∧ v.ownBlock ≠ some p ∧ M < 2 ^ L
/-- The same, with the blocks that it lies in. -/
def Wr (w : World) (p : Nat) (F : List Nat) (M L : Nat) : Prop := ∃ v, Wv w p v M L ∧ F = p :: v.ownBlock.toList

theorem bv_ofNat (W : Nat) : Value.int .u8 (IntKind.u8.wrap (W : Int)) = bv (UInt8.ofNat W) := by
  unfold bv
  rw [IntKind.wrap_u8', UInt8.toNat_ofNat']
  exact int_eq (by omega)
theorem dig_row (q N : Nat) : (dig (q + 1) N).map bv = (dig q N).map bv ++ [Value.int .u8 (IntKind.u8.wrap ((N / 2 ^ (8 * q) : Nat) : Int))] := by
  rw [dig_snoc, List.map_append, bv_ofNat]
  rfl
theorem sub_tail (K q : Nat) : K - 8 * q - 8 = K - 8 * (q + 1) := by omega
theorem div_tail (N q : Nat) : N / 2 ^ (8 * q) / 2 ^ 8 = N / 2 ^ (8 * (q + 1)) := by
  rw [Nat.div_div_eq_div_mul, ← Nat.pow_add, Nat.mul_add]

set_option maxHeartbeats 1000000 in
theorem put_ok (p : Nat) (F : List Nat) (M L : Nat) (x : Nat) (n : Int) (w : World) (hW : Wr w p F M L) (hx : x < 4294967296) (hL : L ≤ 562949953421312) :
    Calls Try.prog 95 #[.pointer (some ⟨p, 0, none⟩), .int .u32 x, .int .i64 n] w fun e w' =>
      e = .returned (.tuple #[]) ∧ Fr F w w' ∧ ∃ F', Wr w' p F' (M + 2 ^ L * (x % 2 ^ (min n.toNat 32))) (L + min n.toNat 32) ∧ ∀ y ∈ F', y ∈ F ∨ w.heap.size ≤ y := by
  obtain ⟨v, ⟨hr, hown, hpb, hM⟩, rfl⟩ := hW
  have c0 := cell_of hr 0
  have c1 := cell_of hr 1
  have c2 := cell_of hr 2
  simp only [List.getElem?_toArray, List.getElem?_cons_zero, List.getElem?_cons_succ] at c0 c1 c2
  have f1 := frozen_of hr 1
  have f2 := frozen_of hr 2
  have Hr := Lib.hid hr
  clear hr
  obtain ⟨W, hW⟩ : ∃ W : Nat, W = M / 2 ^ (8 * (L / 8)) := ⟨_, rfl⟩
  rw [← hW] at c1
  have HW := Lib.hid hW
  clear hW
  go_enter Try.func95, Try.ntmps95
  go_upto_region 0 with fail
  obtain ⟨m, hm, hm32⟩ : ∃ m : Nat, m = min n.toNat 32 ∧ m ≤ 32 := ⟨_, rfl, by omega⟩
  have Hm := Lib.hid hm
  clear hm
  go_cut [2] (fun n2 wc => n2 = .int .i64 m ∧ w = wc)
  case first =>
    go_wp2
    all_goals (go_meet; exact ⟨int_eq (by have := Hm.out; omega), rfl⟩)
  case rest =>
  obtain ⟨rfl, rfl⟩ := hcut
  go_upto_region 1 with fail
  have hl8 : L % 8 < 8 := by omega
  go_cut [] (fun wc => wc.heap[p]? = some (.cells #[v, .int .u64 ((M + 2 ^ L * (x % 2 ^ m)) / 2 ^ (8 * (L / 8)) : Nat), .int .i64 (L % 8 : Nat)] 68 (0, 0)) ∧ Fr [p] w wc)
  case first =>
    go_region
    all_goals go_wp2
    go_meet
    refine ⟨(setCell_of Hr.out _).trans ?_, ((Fr.refl _ w).setCell (by simp) _).drew⟩
    have e := put_word M L x m hM hx hm32
    rw [← HW.out] at e
    rw [e]
    rfl
  case rest =>
  obtain ⟨hr1, fr1⟩ := hcut
  clear c2 f2
  have c2 := cell_of hr1 2
  have f2 := frozen_of hr1 2
  simp only [List.getElem?_toArray, List.getElem?_cons_zero, List.getElem?_cons_succ] at c2
  go_upto_region 2 with fail
  go_cut [] (fun wz => wz.heap[p]? = some (.cells #[v, .int .u64 ((M + 2 ^ L * (x % 2 ^ m)) / 2 ^ (8 * (L / 8)) : Nat), .int .i64 (L % 8 + m : Nat)] 68 (0, 0)) ∧ Fr [p] w wz)
  case first =>
    have Hr1 := Lib.hid hr1
    clear hr1
    go_wp2
    go_meet
    exact ⟨(setCell_of Hr1.out _).trans rfl, fr1.setCell (by simp) _⟩
  case rest =>
  obtain ⟨hr2, fr2⟩ := hcut
  have hN := put_lt M L x m hM
  have hdig : dig (L / 8) (M + 2 ^ L * (x % 2 ^ m)) = dig (L / 8) M := by
    rw [show 2 ^ L = 2 ^ (8 * (L / 8)) * 2 ^ (L % 8) from by rw [← Nat.pow_add, Nat.div_add_mod], Nat.mul_assoc, dig_add]
  rw [← hdig] at hown
  clear hdig
  have Hm' := Lib.hid Hm
  clear hr1 c2 f2 Hm Hr c0 c1 f1
  obtain ⟨N, hNe⟩ : ∃ N, N = M + 2 ^ L * (x % 2 ^ m) := ⟨_, rfl⟩
  rw [← hNe] at hr2 hN hown
  have HN := Lib.hid hNe
  clear hNe
  have hK : L / 8 * 8 ≤ L + m := by omega
  have own2 := ownsRow_fr (hown) fr2 (by intro k hk; simp; rintro rfl; exact hpb hk)
  have HM := Lib.hid hM
  have HR2 := Lib.hid hr2
  clear hM hr2 hown
  go_wp2
  go_loopg [] 5 (fun k wr => ∃ (u : Value) (q : Nat), k + q = L / 8 + 5 ∧ L / 8 ≤ q ∧ 8 * q ≤ L + m ∧
    wr.heap[p]? = some (.cells #[u, .int .u64 (N / 2 ^ (8 * q) : Nat), .int .i64 (L + m - 8 * q : Nat)] 68 (0, 0)) ∧
    wr.ownsRow 0 5 1 u q ((dig q N).map bv) ∧ u.ownBlock ≠ some p ∧ Fr (p :: v.ownBlock.toList) w wr ∧ (∀ y, u.ownBlock = some y → v.ownBlock = some y ∨ w.heap.size ≤ y))
  case atStart =>
    exact ⟨v, L / 8, by omega, by omega, by omega, by rw [HR2.out, show L + m - 8 * (L / 8) = L % 8 + m from by omega], own2, hpb, fr2.mono (by simp), fun y hy => .inl hy⟩
  case round =>
    obtain ⟨u, q, hgk, hq1, hq2, hr, hown, hub, hfr, hown'⟩ := hrel
    have c0 := cell_of hr 0
    have c1 := cell_of hr 1
    have c2 := cell_of hr 2
    simp only [List.getElem?_toArray, List.getElem?_cons_zero, List.getElem?_cons_succ] at c0 c1 c2
    have f0 := frozen_of hr 0
    have f1 := frozen_of hr 1
    have f2 := frozen_of hr 2
    have Hr := Lib.hid hr
    clear hr
    by_cases hlt : 8 ≤ L + m - 8 * q
    · obtain ⟨W, hW⟩ : ∃ W : Nat, W = N / 2 ^ (8 * q) := ⟨_, rfl⟩
      rw [← hW] at c1
      have HW := Lib.hid hW
      clear hW
      have hps : p < wr.heap.size := lt_of_block Hr.out
      have ea : p ≠ wr.heap.size := Nat.ne_of_lt hps
      go_upto_region 5 with fail
      go_cut [] (fun wz => ∃ u', wz.heap[p]? = some (.cells #[u', .int .u64 (N / 2 ^ (8 * q) : Nat), .int .i64 (L + m - 8 * q : Nat)] 68 (0, 0)) ∧
         wz.ownsRow 0 5 1 u' (q + 1) ((dig (q + 1) N).map bv) ∧ u'.ownBlock ≠ some p ∧ Fr (p :: v.ownBlock.toList) w wz ∧ (∀ y, u'.ownBlock = some y → v.ownBlock = some y ∨ w.heap.size ≤ y))
      case first =>
        go_region_law (refine step_append sliceU8 rfl (.tmp 51) (.tmp 57) rfl u q ((dig q N).map bv) _ (by rfl) (by rfl) (by first | exact hown.alloc _ | exact hown.drew.alloc _) _ 1 1 _ (by rfl) (by decide) (by simp) (by exact cs_one _ _ _ _ (alloc_at _ _)) (by rfl) (by simp [Value.oneCell']) (by omega) (by unfold maxLen; omega) ?_; intro ao1 cap1 w1 A1; have hb1 := A1.fr.blk (alloc_old _ Hr.out) (by simpa using hub); have g0 := cell_of hb1 0; have g1 := frozen_of hb1 0; simp only [List.getElem?_toArray, List.getElem?_cons_zero] at g0)
        all_goals go_wp2
        all_goals go_meet
        all_goals
          have hsz := hfr.size
          have hat := A1.at_
          simp only [World.size_drew, World.size_alloc] at hat
          have hne : (Value.slice ao1 (q + 1) cap1).ownBlock ≠ some p := by
            intro h
            rcases hat p (by rw [← own_blk ao1 (q + 1) cap1, h]; simp) with h | h
            · exact hub (by simpa using h)
            · omega
          refine ⟨_, (setCell_of hb1 _).trans rfl, ?_, hne, ?_, ?_⟩
          · rw [dig_row, ← HW.out]
            exact ownsRow_setCell_other A1.own hne _
          · refine Fr.setCell (((hfr.alloc _).drew).step A1.fr ?_) (by simp) _
            intro k hk
            rcases hown' k (by simpa using hk) with h | h
            · left; simp [h]
            · right; exact h
          · intro y hy
            rcases hat y (by rw [← own_blk ao1 (q + 1) cap1, hy]; simp) with h | h
            · exact hown' y (by simpa using h)
            · right; omega
      case rest =>
      obtain ⟨u', hr', own', hub', fr', ob'⟩ := hcut
      clear c0 c1 c2 f0 f1 f2 hown hub hfr hown' ea hps
      have c1 := cell_of hr' 1
      have c2 := cell_of hr' 2
      simp only [List.getElem?_toArray, List.getElem?_cons_zero, List.getElem?_cons_succ] at c1 c2
      have f1 := frozen_of hr' 1
      have f2 := frozen_of hr' 2
      have Hr' := Lib.hid hr'
      clear hr'
      rw [← HW.out] at c1
      go_wp2
      go_roundg (gk - 1)
      case measure => omega
      case rel =>
        refine ⟨u', q + 1, by omega, by omega, by omega, (setCell_of (setCell_of Hr'.out _) _).trans ?_, ownsRow_setCell_other (ownsRow_setCell_other own' hub' _) hub' _, hub', Fr.setCell (fr'.setCell (by simp) _) (by simp) _, ob'⟩
        rw [← div_tail, ← HW.out, ← sub_tail]
        have e1 : ((W : Int) / 256) = ((W / 2 ^ 8 : Nat) : Int) := by omega
        have e2 : ((L + m - 8 * q : Nat) : Int) - 8 = ((L + m - 8 * q - 8 : Nat) : Int) := by omega
        rw [e1, e2]
        rfl
    · obtain rfl : q = (L + m) / 8 := by omega
      have Ho := Lib.hid hown
      clear hown
      go_wp2
      go_end0
      refine ⟨rfl, hfr, p :: u.ownBlock.toList, ?_, ?_⟩
      · rw [← Hm'.out.out, ← HN.out]
        refine ⟨u, ⟨?_, Ho.out, hub, hN⟩, rfl⟩
        rw [Hr.out, show L + m - 8 * ((L + m) / 8) = (L + m) % 8 from by omega]
      · intro y hy
        rcases List.mem_cons.1 hy with rfl | hy
        · simp
        · rcases hown' y (by simpa using hy) with h | h
          · left; simp [h]
          · right; exact h
end Go.Proofs.Ytolkoidbkaidkaa.bits
