/-
  Texts of this proof, one behind the other: RfA, RfD, RfE, RfF, RfG, RfH, RfI, RfJ.
-/
import Derived.Test.YtolkoidbkaidkaaGreatG8
set_option linter.unusedVariables false
set_option linter.unusedSimpArgs false
/-
  The document's inflate (stemmaref6.Work): its state in the heap; fail, take, put, symbol.
-/
namespace Go.Proofs.YtolkoidbkaidkaaGreat.inf
open Go Go.RowKit Go.Proofs.YtolkoidbkaidkaaGreat.lib Go.Proofs.YtolkoidbkaidkaaGreat.bm Go.Proofs.YtolkoidbkaidkaaGreat.bl Go.Proofs.YtolkoidbkaidkaaGreat.huf

/-- The work: its bits, what it made, how much it may, its first error. -/
structure Sw (w : World) (R p : Nat) (F : List Nat) (bs : List UInt8) (at_ : Nat) (out : List UInt8) (oa : Option Addr) (oc most E : Nat) : Prop where
  box : w.heap[R]? = some (.cells #[.pointer (some ⟨p, 0, none⟩), .slice oa out.length oc, .int .i64 (most : Nat), .int .i64 (E : Nat)] 61 (0, 0))
  rd : bits.Rf w p F bs at_
  own : w.ownsRow 0 5 1 (.slice oa out.length oc) out.length (out.map bv)
  r1 : R ∉ F
  r2 : R ∉ blk oa
  r3 : ∀ x ∈ blk oa, x ∉ F
  low : ∀ x ∈ F, x < w.heap.size
  sm : most ≤ 100000000
  sb : bs.length ≤ 100000000
  om : out.length ≤ most
theorem Sw.fr {w w' : World} {R p : Nat} {F S : List Nat} {bs out : List UInt8} {at_ oc most E : Nat} {oa : Option Addr} (h : Sw w R p F bs at_ out oa oc most E) (f : Fr S w w') (hR : R ∉ S) (hF : ∀ x ∈ F, x ∉ S) (ho : ∀ x ∈ blk oa, x ∉ S) : Sw w' R p F bs at_ out oa oc most E :=
  ⟨f.blk h.box hR, bits.rd_fr h.rd f hF, ownsRow_fr h.own f (fun k hk => ho k (by rw [← own_blk oa out.length oc, hk]; simp)), h.r1, h.r2, h.r3, fun x hx => Nat.lt_of_lt_of_le (h.low x hx) f.size, h.sm, h.sb, h.om⟩
theorem Sw.fr0 {w w' : World} {R p : Nat} {F : List Nat} {bs out : List UInt8} {at_ oc most E : Nat} {oa : Option Addr} (h : Sw w R p F bs at_ out oa oc most E) (f : Fr [] w w') : Sw w' R p F bs at_ out oa oc most E := h.fr f (by simp) (by simp) (by simp)
theorem Sw.pF {w : World} {R p : Nat} {F : List Nat} {bs out : List UInt8} {at_ oc most E : Nat} {oa : Option Addr} (h : Sw w R p F bs at_ out oa oc most E) : p ∈ F ∧ at_ ≤ 8 * bs.length := by
  obtain ⟨ao, cap, hr, hcs, rfl, hpb, hlen, hat, hcap, hmax⟩ := h.rd
  exact ⟨by simp, hat⟩
/-- The reader's bits have moved. -/
theorem Sw.take {w w' : World} {R p : Nat} {F : List Nat} {bs out : List UInt8} {at_ a' oc most E : Nat} {oa : Option Addr} (h : Sw w R p F bs at_ out oa oc most E) (f : Fr [p] w w') (hr : bits.Rf w' p F bs a') : Sw w' R p F bs a' out oa oc most E := by
  have hp := h.pF.1
  refine ⟨f.blk h.box (by simp; rintro rfl; exact h.r1 hp), hr, ownsRow_fr h.own f (fun k hk => ?_), h.r1, h.r2, h.r3, fun x hx => Nat.lt_of_lt_of_le (h.low x hx) f.size, h.sm, h.sb, h.om⟩
  have hk2 : k ∈ blk oa := by rw [← own_blk oa out.length oc, hk]; simp
  simp
  rintro rfl
  exact h.r3 _ hk2 hp
/-- An error is laid down. -/
theorem Sw.err {w : World} {R p : Nat} {F : List Nat} {bs out : List UInt8} {at_ oc most E : Nat} {oa : Option Addr} (h : Sw w R p F bs at_ out oa oc most E) (E' : Nat) : Sw (w.setCell ⟨R, 3, none⟩ (.int .i64 (E' : Nat))) R p F bs at_ out oa oc most E' := by
  have f : Fr [R] w (w.setCell ⟨R, 3, none⟩ (.int .i64 (E' : Nat))) := (Fr.refl [R] w).setCell (by simp) _
  refine ⟨setCell_of h.box _, bits.rd_fr h.rd f (fun x hx => by simp; rintro rfl; exact h.r1 hx), ownsRow_fr h.own f (fun k hk => ?_), h.r1, h.r2, h.r3, fun x hx => Nat.lt_of_lt_of_le (h.low x hx) f.size, h.sm, h.sb, h.om⟩
  have hk2 : k ∈ blk oa := by rw [← own_blk oa out.length oc, hk]; simp
  simp
  rintro rfl
  exact h.r2 hk2
theorem Sw.put {w1 w2 : World} {R p n : Nat} {F : List Nat} {bs out : List UInt8} {at_ oc most cp2 E : Nat} {oa ao2 : Option Addr} {c : UInt8} {o : Obj} (h : Sw w1 R p F bs at_ out oa oc most E) (hn : n = out.length) (hl : n < most)
    (A : Appended (w1.alloc o) w2 5 1 (blk oa) ao2 (n + 1) cp2 (out.map bv ++ [bv c])) :
    Sw (w2.setCell ⟨R, 1, none⟩ (.slice ao2 (n + 1) cp2)) R p F bs at_ (out ++ [c]) ao2 cp2 most E ∧ Way w1 R p oa (w2.setCell ⟨R, 1, none⟩ (.slice ao2 (n + 1) cp2)) ao2 := by
  have f2 : Fr (blk oa) w1 w2 := ((Fr.refl _ w1).alloc _).trans A.fr
  have fR : Fr [R] w2 (w2.setCell ⟨R, 1, none⟩ (.slice ao2 (n + 1) cp2)) := (Fr.refl [R] w2).setCell (by simp) _
  have b2 := f2.blk h.box h.r2
  have hRw : R < w1.heap.size := lt_of_block h.box
  have hR2 : R ∉ blk ao2 := fun hx => by
    rcases A.at_ R hx with k | k
    · exact h.r2 k
    · rw [World.size_alloc] at k; omega
  have e : (out ++ [c]).length = n + 1 := by rw [hn]; simp
  have hpF := h.pF.1
  refine ⟨⟨?_, ?_, ?_, h.r1, hR2, fun x hx hF => ?_, fun x hx => Nat.lt_of_lt_of_le (h.low x hx) (Nat.le_trans f2.size fR.size), h.sm, h.sb, by rw [e]; omega⟩, ⟨?_, fun x hx => ?_⟩⟩
  · rw [setCell_of b2, e]; rfl
  · exact bits.rd_fr (bits.rd_fr h.rd f2 (fun x hx hb => h.r3 x hb hx)) fR (fun x hx hb => by simp at hb; rw [hb] at hx; exact h.r1 hx)
  · rw [e, List.map_append]
    exact ownsRow_fr A.own fR (fun k hk => by
      have hk2 : k ∈ blk ao2 := by rw [← own_blk ao2 (n + 1) cp2, hk]; simp
      simp
      rintro rfl
      exact hR2 hk2)
  · rcases A.at_ x hx with k | k
    · exact h.r3 x k hF
    · rw [World.size_alloc] at k
      have := h.low x hF
      omega
  · exact (f2.mono (fun x hx => .inl (by simp [hx]))).trans (fR.mono (by simp))
  · rcases A.at_ x hx with k | k
    · exact .inl k
    · rw [World.size_alloc] at k; exact .inr (by omega)
theorem Way.ofR (w w' : World) (R p : Nat) (oa : Option Addr) (f : Fr [R] w w') : Way w R p oa w' oa := ⟨f.mono (by simp), fun _ h => .inl h⟩
theorem Way.ofRp (w w' : World) (R p : Nat) (oa : Option Addr) (f : Fr [R, p] w w') : Way w R p oa w' oa := ⟨f.mono (by simp), fun _ h => .inl h⟩
set_option maxHeartbeats 1000000 in
theorem fail_any (R p : Nat) (F : List Nat) (bs out : List UInt8) (at_ oc most E c : Nat) (oa : Option Addr) (w : World) (h : Sw w R p F bs at_ out oa oc most E) :
    Calls Tryz.prog 25 #[.pointer (some ⟨R, 0, none⟩), .int .i64 (c : Nat)] w fun e w' => e = .returned (.tuple #[]) ∧ Sw w' R p F bs at_ out oa oc most (if E = 0 then c else E) ∧ Fr [R] w w' := by
  have c3 := cell_of h.box 3
  have z3 := frozen_of h.box 3
  simp only [List.getElem?_toArray, List.getElem?_cons_zero, List.getElem?_cons_succ] at c3
  have H := Lib.hid h
  clear h
  by_cases h0 : E = 0
  · subst h0
    go_enter Tryz.func25, Tryz.ntmps25
    go_wp2
    go_end0
    exact ⟨rfl, by first | exact H.out.err c | (rw [if_pos rfl]; exact H.out.err c), (Fr.refl [R] w).setCell (by simp) _⟩
  · have d0 : ((E : Int) == 0) = false := by simp; omega
    go_enter Tryz.func25, Tryz.ntmps25
    go_wp2
    go_end0
    exact ⟨rfl, by first | exact H.out | (rw [if_neg h0]; exact H.out), Fr.refl _ _⟩
/-- take: with no error yet. -/
def TakeR (w : World) (R p : Nat) (F : List Nat) (bs out : List UInt8) (oa : Option Addr) (oc most : Nat) (m : Except Nat (Nat × Nat)) (e : Ending) (w' : World) : Prop :=
  (∃ a, m = .error 4 ∧ e = .returned (.int .i64 0) ∧ Sw w' R p F bs a out oa oc most 4 ∧ Fr [R, p] w w') ∨
  (∃ v a, m = .ok (v, a) ∧ e = .returned (.int .i64 (v : Nat)) ∧ Sw w' R p F bs a out oa oc most 0 ∧ Fr [R, p] w w')
set_option maxHeartbeats 1000000 in
theorem rtake_any (R p : Nat) (F : List Nat) (bs out : List UInt8) (at_ oc most n : Nat) (oa : Option Addr) (w : World) (h : Sw w R p F bs at_ out oa oc most 0) (hn : n ≤ 31) :
    Calls Tryz.prog 20 #[.pointer (some ⟨R, 0, none⟩), .int .i64 (n : Nat)] w (TakeR w R p F bs out oa oc most (itake bs at_ n)) := by
  have c0 := cell_of h.box 0
  simp only [List.getElem?_toArray, List.getElem?_cons_zero, List.getElem?_cons_succ] at c0
  have H := Lib.hid h
  clear h
  by_cases hl : at_ + n ≤ 8 * bs.length
  · have hv : bval (((bytesBits bs).drop at_).take n) < 4294967296 := Nat.lt_of_lt_of_le (bval_take_lt _ _) (Nat.le_trans (Nat.pow_le_pow_right (by decide) (show n ≤ 32 by omega)) (by decide))
    obtain ⟨v, hv2⟩ : ∃ v, v = bval (((bytesBits bs).drop at_).take n) := ⟨_, rfl⟩
    have ht := bits.rtake_good p F bs at_ n w H.out.rd (by omega) (by omega) (by omega)
    rw [Int.toNat_natCast, num_bits bs at_ n hl, ← hv2] at ht
    have e : itake bs at_ n = .ok (v, at_ + n) := by unfold itake; rw [if_pos hl, hv2]
    rw [e]
    rw [← hv2] at hv
    have HT := Lib.hid ht
    clear ht hv2 e
    go_enter Tryz.func20, Tryz.ntmps20
    go_wp2_with (go_at_call 44; refine HT.out.mono ?_; rintro e w1 ⟨rfl, hr, f1⟩)
    go_ret
    exact .inr ⟨v, at_ + n, rfl, rfl, H.out.take f1 hr, f1.mono (by simp)⟩
  · have ht := bits.rtake_bad p F bs at_ n w H.out.rd (.inr (.inr (by omega)))
    have e : itake bs at_ n = .error 4 := by unfold itake; rw [if_neg hl]
    rw [e]
    have HT := Lib.hid ht
    clear ht e
    go_enter Tryz.func20, Tryz.ntmps20
    go_upto_region 2 with (go_at_call 44; refine HT.out.mono ?_; rintro e w1 ⟨rfl, hr, f1⟩)
    have S1 : Sw w1 R p F bs at_ out oa oc most 0 := H.out.take (f1.mono (by simp)) hr
    have c3 := cell_of S1.box 3
    have z3 := frozen_of S1.box 3
    simp only [List.getElem?_toArray, List.getElem?_cons_zero, List.getElem?_cons_succ] at c3
    have HS := Lib.hid (And.intro S1 f1)
    clear S1 hr f1
    go_wp2
    go_ret
    exact .inl ⟨at_, rfl, rfl, HS.out.1.err 4, (HS.out.2.mono (by simp)).trans ((Fr.refl [R, p] w1).setCell (by simp) _)⟩
set_option maxHeartbeats 1000000 in
/-- take: behind an error. -/
theorem rtake_err (R p : Nat) (F : List Nat) (bs out : List UInt8) (at_ oc most n E : Nat) (oa : Option Addr) (w : World) (h : Sw w R p F bs at_ out oa oc most E) (hE : E ≠ 0) (hn : n ≤ 31) :
    Calls Tryz.prog 20 #[.pointer (some ⟨R, 0, none⟩), .int .i64 (n : Nat)] w fun e w' => ∃ v a : Nat, e = .returned (.int .i64 (v : Nat)) ∧ v < 2147483648 ∧ Sw w' R p F bs a out oa oc most E ∧ Fr [R, p] w w' := by
  have c0 := cell_of h.box 0
  simp only [List.getElem?_toArray, List.getElem?_cons_zero, List.getElem?_cons_succ] at c0
  have d0 : ((E : Int) == 0) = false := by simp; omega
  have H := Lib.hid h
  clear h
  by_cases hl : at_ + n ≤ 8 * bs.length
  · have hv : bval (((bytesBits bs).drop at_).take n) < 2147483648 := Nat.lt_of_lt_of_le (bval_take_lt _ _) (Nat.le_trans (Nat.pow_le_pow_right (by decide) hn) (by decide))
    obtain ⟨v, hv2⟩ : ∃ v, v = bval (((bytesBits bs).drop at_).take n) := ⟨_, rfl⟩
    have ht := bits.rtake_good p F bs at_ n w H.out.rd (by omega) (by omega) (by omega)
    rw [Int.toNat_natCast, num_bits bs at_ n hl, ← hv2] at ht
    rw [← hv2] at hv
    have HT := Lib.hid ht
    clear ht hv2
    go_enter Tryz.func20, Tryz.ntmps20
    go_wp2_with (go_at_call 44; refine HT.out.mono ?_; rintro e w1 ⟨rfl, hr, f1⟩)
    go_ret
    exact ⟨v, at_ + n, rfl, hv, H.out.take f1 hr, f1.mono (by simp)⟩
  · have ht := bits.rtake_bad p F bs at_ n w H.out.rd (.inr (.inr (by omega)))
    have HT := Lib.hid ht
    clear ht
    go_enter Tryz.func20, Tryz.ntmps20
    go_upto_region 2 with (go_at_call 44; refine HT.out.mono ?_; rintro e w1 ⟨rfl, hr, f1⟩)
    have S1 : Sw w1 R p F bs at_ out oa oc most E := H.out.take (f1.mono (by simp)) hr
    have c3 := cell_of S1.box 3
    simp only [List.getElem?_toArray, List.getElem?_cons_zero, List.getElem?_cons_succ] at c3
    have HS := Lib.hid (And.intro S1 f1)
    clear S1 hr f1
    go_wp2
    go_ret
    exact ⟨0, at_, rfl, by decide, HS.out.1, HS.out.2.mono (by simp)⟩
/-- What a step that makes something leaves. -/
def RetW (w : World) (R p : Nat) (F : List Nat) (bs : List UInt8) (oa : Option Addr) (most : Nat) (m : Except Nat (List UInt8 × Nat)) (w' : World) : Prop :=
  ∃ a out oa' oc' E, Sw w' R p F bs a out oa' oc' most E ∧ Way w R p oa w' oa' ∧ ((m = .error E ∧ 0 < E ∧ E < 100) ∨ (m = .ok (out, a) ∧ E = 0))
set_option maxHeartbeats 1000000 in
theorem rput_any (R p : Nat) (F : List Nat) (bs out : List UInt8) (at_ oc most : Nat) (oa : Option Addr) (c : UInt8) (w : World) (h : Sw w R p F bs at_ out oa oc most 0) :
    Calls Tryz.prog 46 #[.pointer (some ⟨R, 0, none⟩), .int .u8 (c.toNat : Nat)] w fun e w' => e = .returned (.tuple #[]) ∧ RetW w R p F bs oa most ((iput most out c).map fun o => (o, at_)) w' := by
  have c1 := cell_of h.box 1
  have c2 := cell_of h.box 2
  simp only [List.getElem?_toArray, List.getElem?_cons_zero, List.getElem?_cons_succ] at c1 c2
  obtain ⟨n, hn⟩ : ∃ n, n = out.length := ⟨_, rfl⟩
  have hs := h.sm
  rw [← hn] at c1
  have H := Lib.hid (And.intro h hn)
  clear h
  by_cases hl : most ≤ n
  · have e : iput most out c = .error 5 := by unfold iput; rw [if_pos (by omega)]
    rw [e]
    have hfl := fun w' (f : Fr [] w w') => fail_any R p F bs out at_ oc most 0 5 oa w' (H.out.1.fr0 f)
    have HF := Lib.hid hfl
    clear e hn hfl
    go_enter Tryz.func46, Tryz.ntmps46
    go_upto_region 0 with fail
    go_quiet (fail)
    go_wp2_with (go_at_call 25; refine (HF.out _ (Fr.drewN _ _ _)).mono ?_; rintro e w1 ⟨rfl, S1, f1⟩)
    refine bodyPost_ret (results_none rfl _ _ _) rfl ?_
    exact ⟨rfl, at_, out, oa, oc, 5, S1, (Way.of0 _ _ _ _ _ (Fr.drewN _ _ _)).trans (Way.ofR _ _ _ _ _ f1), .inl ⟨rfl, by decide, by decide⟩⟩
  · have e : iput most out c = .ok (out ++ [c]) := by unfold iput; rw [if_neg (by omega)]
    rw [e]
    clear e hn
    go_enter Tryz.func46, Tryz.ntmps46
    go_upto_region 0 with fail
    go_quiet (fail)
    obtain ⟨w1, hw1⟩ : ∃ w1, w1 = w.drewN nq := ⟨_, rfl⟩
    have f1 : Fr [] w w1 := by rw [hw1]; exact .drewN _ _ _
    have S1 := H.out.1.fr0 f1
    have c1' := f1.cell c1 (by simp)
    rw [← hw1]
    clear hw1 c1 c2
    have HS := Lib.hid (And.intro f1 S1)
    clear f1 S1
    go_wp2_with (at_builtin; go_loud (refine wpList_append bits.sliceU8 rfl _ _ rfl (.slice oa n oc) n (out.map bv) (blk oa) rfl (own_blk oa n oc) (by rw [H.out.2]; exact ownsRow_fr HS.out.2.own ((Fr.refl [] w1).alloc _) (by simp)) (some ⟨w1.heap.size, 0, none⟩) 1 1 [bv c] (by first | rfl | simp) (Nat.le_refl _) (fun h => by cases h) (cs_one _ _ _ _ (alloc_at _ _)) rfl (by intro u hu; simp only [List.mem_singleton] at hu; rw [hu]; rfl) (by omega) (by unfold maxLen; omega) ?_); intro ao2 cp2 w2 A2; have f2 : Fr (blk oa) w1 w2 := (Fr.refl _ w1).trans (((Fr.refl _ w1).alloc _).trans A2.fr); have b2 := f2.blk HS.out.2.box H.out.1.r2; have z1 := frozen_of b2 1; have d1 := cell_of b2 1; rw [← H.out.2] at d1; simp only [List.getElem?_toArray, List.getElem?_cons_zero, List.getElem?_cons_succ] at d1; have HA := Lib.hid (And.intro A2 (And.intro f2 b2)); clear A2 f2 b2 c1')
    go_end0
    have hP := HS.out.2.put H.out.2 (by omega) HA.out.1
    exact ⟨rfl, _, _, ao2, cp2, 0, hP.1, (Way.of0 _ _ _ _ _ HS.out.1).trans hP.2, .inr ⟨rfl, rfl⟩⟩
/-- symbol: with no error yet. -/
def SymR (w : World) (R p : Nat) (F : List Nat) (bs out : List UInt8) (oa : Option Addr) (oc most : Nat) (m : Except Nat (Nat × Nat)) (e : Ending) (w' : World) : Prop :=
  (∃ a c, m = .error c ∧ 0 < c ∧ c < 100 ∧ e = .returned (.int .i64 0) ∧ Sw w' R p F bs a out oa oc most c ∧ Fr [R, p] w w') ∨
  (∃ v a, m = .ok (v, a) ∧ e = .returned (.int .i64 (v : Nat)) ∧ Sw w' R p F bs a out oa oc most 0 ∧ Fr [R, p] w w')
theorem hread_bad (ls : List Nat) : ∀ (f n v : Nat) (bits : List Bool), (hread ls f n v bits).2.2 ≠ 0 → (hread ls f n v bits).1 = 0
  | 0, n, v, bits, h => by
    cases hs : hsym ls n v with
    | some s => rw [hread_hit hs] at h; exact absurd rfl h
    | none => rw [hread_end hs]
  | f + 1, n, v, bits, h => by
    cases hs : hsym ls n v with
    | some s => rw [hread_hit hs] at h; exact absurd rfl h
    | none =>
      by_cases hm : hmore ls n v = true
      · cases bits with
        | nil => rw [hread_torn hs hm]
        | cons b t => rw [hread_step hs hm] at h ⊢; exact hread_bad ls f (n + 1) _ t h
      · rw [hread_form hs (by simpa using hm)]
set_option maxRecDepth 100000 in
set_option maxHeartbeats 2000000 in
theorem rsymbol_any (R p : Nat) (F : List Nat) (bs out : List UInt8) (at_ oc most : Nat) (oa : Option Addr) (a : Option Addr) (cap : Nat) (ls : List Nat) (w : World) (h : Sw w R p F bs at_ out oa oc most 0) (hl : Ri w a cap ls) (hle : ∀ l ∈ ls, l ≤ 15) (hlen : ls.length ≤ 400) (hw : weight ls ≤ 32768) (hap : ∀ x ∈ blk a, x ≠ p) :
    Calls Tryz.prog 47 #[.pointer (some ⟨R, 0, none⟩), .slice a ls.length cap] w (SymR w R p F bs out oa oc most (isym bs ls at_)) := by
  have c0 := cell_of h.box 0
  have c3 := cell_of h.box 3
  simp only [List.getElem?_toArray, List.getElem?_cons_zero, List.getElem?_cons_succ] at c0 c3
  have hsp := hread_spec ls 15 0 0 ((bytesBits bs).drop at_)
  have hbd := hread_bad ls 15 0 0 ((bytesBits bs).drop at_)
  obtain ⟨r, hr0⟩ : ∃ r, r = hread ls 15 0 0 ((bytesBits bs).drop at_) := ⟨_, rfl⟩
  unfold isym
  rw [← hr0] at hsp hbd ⊢
  obtain ⟨s, m, c⟩ := r
  have hrd := rread_any a cap ls p F bs at_ w hl hle hlen hw h.rd hap h.low s m c hr0.symm
  simp only at hsp hbd ⊢
  obtain ⟨L, hL⟩ : ∃ L, L = ls.length := ⟨_, rfl⟩
  rw [← hL] at hrd ⊢
  obtain ⟨M, hM⟩ : ∃ M : Except Nat (Nat × Nat), M = if c = 0 then .ok (s, at_ + m) else .error c := ⟨_, rfl⟩
  rw [← hM]
  have HM := Lib.hid hM
  clear hM
  have H := Lib.hid (And.intro h (And.intro hrd (And.intro hsp hbd)))
  clear h hl hle hap hr0 hrd hsp hbd hw hL hlen
  have hc4 : c = 0 ∨ c = 3 ∨ c = 4 := H.out.2.2.1.1
  go_enter Tryz.func47, Tryz.ntmps47
  go_upto_region 4 with (go_at_call 66; refine H.out.2.1.mono ?_; rintro e w1 ⟨rfl, hr, f1⟩)
  have S1 : Sw w1 R p F bs (at_ + m) out oa oc most 0 := H.out.1.take f1 hr
  have HS := Lib.hid (And.intro S1 (And.intro f1 (fail_any R p F bs out (at_ + m) oc most 0 c oa w1 S1)))
  clear S1 hr f1 c0 c3
  go_wp2_with (go_at_call 25; refine HS.out.2.2.mono ?_; rintro e w2 ⟨rfl, S2, f2⟩; have HS2 := Lib.hid (And.intro S2 f2); clear S2 f2)
  go_ret
  have f3 : Fr [R, p] w w2 := (HS.out.2.1.mono (by simp)).trans (HS2.out.2.mono (by simp))
  have S3 : Sw w2 R p F bs (at_ + m) out oa oc most c := HS2.out.1
  by_cases hc : c = 0
  · subst hc
    exact .inr ⟨s, at_ + m, by rw [HM.out, if_pos rfl], rfl, S3, f3⟩
  · have hs0 : s = 0 := H.out.2.2.2 hc
    subst hs0
    exact .inl ⟨at_ + m, c, by rw [HM.out, if_neg hc], by omega, by omega, rfl, S3, f3⟩
end Go.Proofs.YtolkoidbkaidkaaGreat.inf
/-
  The document's inflate: where lengths and distances begin; symbol behind an error; a match.
-/
namespace Go.Proofs.YtolkoidbkaidkaaGreat.inf
open Go Go.RowKit Go.Proofs.YtolkoidbkaidkaaGreat.lib Go.Proofs.YtolkoidbkaidkaaGreat.bm Go.Proofs.YtolkoidbkaidkaaGreat.bl Go.Proofs.YtolkoidbkaidkaaGreat.huf

def bw (k g st : Nat) : Nat := if k < st then 0 else (k - st) / g + 1
def bsum (first g st : Nat) : Nat → Nat
  | 0 => first
  | k + 1 => bsum first g st k + 2 ^ bw k g st
theorem bits_any (k g st : Nat) (w : World) (hk : k ≤ 30) (hg : 2 ≤ g) (hg2 : g ≤ 4) (hs : st ≤ 8) :
    Calls Tryz.prog 81 #[.int .i64 (k : Nat), .int .i64 (g : Nat), .int .i64 (st : Nat)] w fun e w' => e = .returned (.int .i64 (bw k g st : Nat)) ∧ w' = w := by
  by_cases h : k < st
  · go_enter Tryz.func81, Tryz.ntmps81
    go_wp2
    go_ret
    exact ⟨by unfold bw; rw [if_pos h]; rfl, rfl⟩
  · obtain ⟨d, hd⟩ : ∃ d, d = k - st := ⟨_, rfl⟩
    have e1 : (k : Int) - (st : Int) = (d : Int) := by omega
    have hb : bw k g st = d / g + 1 := by unfold bw; rw [if_neg h, hd]
    have hdb : d / g ≤ 30 := Nat.le_trans (Nat.div_le_self _ _) (by omega)
    have e2 : (d : Int) / (g : Int) = ((d / g : Nat) : Int) := by push_cast; rfl
    obtain ⟨q, hq⟩ : ∃ q, q = d / g := ⟨_, rfl⟩
    rw [← hq] at hb hdb e2
    have e3 : Int.tdiv (d : Int) (g : Int) = (q : Int) := by rw [Int.tdiv_eq_ediv_of_nonneg (by omega)]; exact e2
    rw [hb]
    have g0 : ((g : Int) == 0) = false := by simp; omega
    clear hd hq hb
    go_enter Tryz.func81, Tryz.ntmps81
    go_wp2
    go_ret
    exact ⟨by first | rfl | go_num, rfl⟩
theorem bw_le {k g st : Nat} (hk : k ≤ 30) (hg : 2 ≤ g) : bw k g st ≤ 16 := by
  unfold bw
  split
  · omega
  · have : (k - st) / g ≤ (k - st) / 2 := Nat.div_le_div_left hg (by decide)
    omega
theorem bsum_le {first g st : Nat} (hg : 2 ≤ g) : ∀ k, k ≤ 31 → bsum first g st k ≤ first + k * 65536
  | 0, _ => by simp [bsum]
  | k + 1, h => by
    have := bsum_le (first := first) (st := st) hg k (by omega)
    have h2 : 2 ^ bw k g st ≤ 65536 := Nat.le_trans (Nat.pow_le_pow_right (by decide) (bw_le (by omega) hg)) (by decide)
    rw [bsum]
    omega
set_option maxRecDepth 100000 in
theorem base_any (first k g st : Nat) (w : World) (hf : first ≤ 3) (hk : k ≤ 30) (hg : 2 ≤ g) (hg2 : g ≤ 4) (hs : st ≤ 8) :
    Calls Tryz.prog 67 #[.int .i64 (first : Nat), .int .i64 (k : Nat), .int .i64 (g : Nat), .int .i64 (st : Nat)] w fun e w' => e = .returned (.tuple #[.int .i64 (bsum first g st k : Nat), .int .i64 (bw k g st : Nat)]) ∧ w = w' := by
  obtain ⟨A0, hA0⟩ : ∃ A, A = bsum first g st k := ⟨_, rfl⟩
  obtain ⟨b0, hb0⟩ : ∃ b, b = bw k g st := ⟨_, rfl⟩
  rw [← hA0, ← hb0]
  have H0 := Lib.hid (And.intro hA0 hb0)
  clear hA0 hb0
  go_enter Tryz.func67, Tryz.ntmps67
  go_wp2
  go_loopg [10, 11] k (fun j s10 s11 wr => ∃ i : Nat, s11 = .int .i64 (i : Nat) ∧ s10 = .int .i64 (bsum first g st i : Nat) ∧ i + j = k ∧ w = wr)
  case atStart => exact ⟨0, rfl, rfl, by omega, rfl⟩
  case round =>
    obtain ⟨i, rfl, rfl, hij, rfl⟩ := hrel
    have hbl := bsum_le (first := first) (st := st) hg i (by omega)
    by_cases hi : i < k
    · obtain ⟨j, rfl⟩ : ∃ j, gk = j + 1 := ⟨gk - 1, by omega⟩
      have hst : bsum first g st (i + 1) = bsum first g st i + 2 ^ bw i g st := rfl
      have hbw := bw_le (k := i) (st := st) (by omega) hg
      have hcl := bits_any i g st w (by omega) hg hg2 hs
      obtain ⟨z, hz⟩ : ∃ z, z = 2 ^ bw i g st := ⟨_, rfl⟩
      have hzb : z ≤ 65536 := by rw [hz]; exact Nat.le_trans (Nat.pow_le_pow_right (by decide) hbw) (by decide)
      have e2 : (2 : Int) ^ (bw i g st) = (z : Int) := by rw [hz]; exact cast_pow _
      rw [← hz] at hst
      generalize bsum first g st i = A at *
      generalize bw i g st = b at *
      have HC := Lib.hid (And.intro hcl hst)
      clear hcl hst hz
      go_wp2_with (go_at_call 81; refine HC.out.1.mono ?_; rintro e w1 ⟨rfl, rfl⟩)
      go_roundg j
      case measure => omega
      case rel => exact ⟨i + 1, by go_num, by rw [HC.out.2]; first | go_num | rfl, by omega, rfl⟩
    · obtain rfl : i = k := by omega
      have hcl := bits_any i g st w hk hg hg2 hs
      rw [← H0.out.2] at hcl
      rw [← H0.out.1] at hbl ⊢
      have HC := Lib.hid hcl
      clear hcl
      go_wp2_with (go_at_call 81; refine HC.out.mono ?_; rintro e w1 ⟨rfl, rfl⟩)
      go_ret2
      exact ⟨rfl, rfl⟩
/-- Where a length's symbol begins, and its bits. -/
def ln (s : Nat) : Nat := if s = 285 then 258 else bsum 3 4 8 (s - 257)
def lk (s : Nat) : Nat := if s = 285 then 0 else bw (s - 257) 4 8
theorem take_zero {bs : List UInt8} {a : Nat} (h : a ≤ 8 * bs.length) : itake bs a 0 = .ok (0, a) := by
  unfold itake
  rw [if_pos (by omega)]
  rfl
theorem ln_all : ∀ s : Fin 286, 257 ≤ s.val → (s.val < 265 → ln s.val = s.val - 254 ∧ lk s.val = 0) ∧ (¬ s.val < 265 → s.val ≠ 285 → ln s.val = 3 + (4 + (s.val - 265) % 4) * 2 ^ ((s.val - 261) / 4) ∧ lk s.val = (s.val - 261) / 4) ∧ ln s.val ≤ 258 ∧ lk s.val ≤ 5 := by decide +kernel
theorem dn_all : ∀ t : Fin 30, (t.val < 4 → bsum 1 2 4 t.val = t.val + 1 ∧ bw t.val 2 4 = 0) ∧ (¬ t.val < 4 → bsum 1 2 4 t.val = 1 + (2 + t.val % 2) * 2 ^ ((t.val - 2) / 2) ∧ bw t.val 2 4 = (t.val - 2) / 2) ∧ bsum 1 2 4 t.val ≤ 24577 ∧ bw t.val 2 4 ≤ 13 := by decide +kernel
theorem ilength_by {bs : List UInt8} {s a : Nat} (h1 : 257 ≤ s) (h2 : s < 286) (ha : a ≤ 8 * bs.length) :
    ilength bs s a = match itake bs a (lk s) with | .error e => .error e | .ok (v, a1) => .ok (ln s + v, a1) := by
  obtain ⟨k1, k2, _, _⟩ := ln_all ⟨s, h2⟩ h1
  unfold ilength
  by_cases h3 : s < 265
  · obtain ⟨e1, e2⟩ := k1 h3
    rw [if_pos h3, e1, e2, take_zero ha]
    dsimp only
    rw [Nat.add_zero]
  · rw [if_neg h3]
    by_cases h4 : s = 285
    · subst h4
      rw [if_pos rfl, show lk 285 = 0 from if_pos rfl, show ln 285 = 258 from if_pos rfl, take_zero ha]
    · obtain ⟨e1, e2⟩ := k2 h3 h4
      rw [if_neg h4, e1, e2]
      rfl
theorem idist_by {bs : List UInt8} {t a : Nat} (h2 : t < 30) (ha : a ≤ 8 * bs.length) :
    idist bs t a = match itake bs a (bw t 2 4) with | .error e => .error e | .ok (v, a1) => .ok (bsum 1 2 4 t + v, a1) := by
  obtain ⟨k1, k2, _, _⟩ := dn_all ⟨t, h2⟩
  unfold idist
  by_cases h3 : t < 4
  · obtain ⟨e1, e2⟩ := k1 h3
    rw [if_pos h3, e1, e2, take_zero ha]
  · obtain ⟨e1, e2⟩ := k2 h3
    rw [if_neg h3, e1, e2]
    rfl
/-- A list that the work's steps leave alone. -/
structure Ld (w : World) (a : Option Addr) (cap : Nat) (ls : List Nat) (X : List Nat) : Prop where
  ri : Ri w a cap ls
  low : ∀ x ∈ blk a, x < w.heap.size ∧ x ∉ X
  le : ∀ l ∈ ls, l ≤ 15
  len : ls.length ≤ 400
  wt : weight ls ≤ 32768
theorem Ld.fr {S : List Nat} {w w' : World} {a : Option Addr} {cap : Nat} {ls X : List Nat} (h : Ld w a cap ls X) (f : Fr S w w') (hS : ∀ x ∈ S, x ∈ X ∨ w.heap.size ≤ x) : Ld w' a cap ls X := by
  refine ⟨⟨h.ri.cs.fr f (fun x hx hx2 => ?_), h.ri.le, h.ri.max, h.ri.nil⟩, fun x hx => ⟨Nat.lt_of_lt_of_le (h.low x hx).1 f.size, (h.low x hx).2⟩, h.le, h.len, h.wt⟩
  rcases hS x hx2 with k | k
  · exact (h.low x hx).2 k
  · have := (h.low x hx).1; omega
theorem Ld.way {w w' : World} {R p : Nat} {oa oa' : Option Addr} {a : Option Addr} {cap : Nat} {ls : List Nat} (h : Ld w a cap ls (R :: p :: blk oa)) (f : Way w R p oa w' oa') : Ld w' a cap ls (R :: p :: blk oa') :=
  ⟨⟨h.ri.cs.fr f.fr (fun x hx => (h.low x hx).2), h.ri.le, h.ri.max, h.ri.nil⟩, fun x hx => ⟨Nat.lt_of_lt_of_le (h.low x hx).1 f.fr.size, f.old (h.low x hx).1 (h.low x hx).2⟩, h.le, h.len, h.wt⟩
theorem Ld.rp {w w' : World} {R p : Nat} {oa : Option Addr} {a : Option Addr} {cap : Nat} {ls : List Nat} (h : Ld w a cap ls (R :: p :: blk oa)) (f : Fr [R, p] w w') : Ld w' a cap ls (R :: p :: blk oa) :=
  h.way (Way.ofRp _ _ _ _ _ f)
theorem Ld.ne {w : World} {R p : Nat} {oa : Option Addr} {a : Option Addr} {cap : Nat} {ls : List Nat} (h : Ld w a cap ls (R :: p :: blk oa)) : ∀ x ∈ blk a, x ≠ p := fun x hx e => (h.low x hx).2 (by simp [e])
theorem sym_any' (R p : Nat) (F : List Nat) (bs out : List UInt8) (at_ oc most : Nat) (oa : Option Addr) (a : Option Addr) (cap L : Nat) (ls : List Nat) (w : World) (h : Sw w R p F bs at_ out oa oc most 0) (hl : Ld w a cap ls (R :: p :: blk oa)) (hL : L = ls.length) :
    Calls Tryz.prog 47 #[.pointer (some ⟨R, 0, none⟩), .slice a L cap] w (SymR w R p F bs out oa oc most (isym bs ls at_)) := by
  subst hL
  exact rsymbol_any R p F bs out at_ oc most oa a cap ls w h hl.ri hl.le hl.len hl.wt hl.ne
set_option maxHeartbeats 1000000 in
/-- symbol: behind an error. -/
theorem rsymbol_err (R p : Nat) (F : List Nat) (bs out : List UInt8) (at_ oc most E : Nat) (oa : Option Addr) (v : Value) (w : World) (h : Sw w R p F bs at_ out oa oc most E) (hE : E ≠ 0) :
    Calls Tryz.prog 47 #[.pointer (some ⟨R, 0, none⟩), v] w fun e w' => e = .returned (.int .i64 0) ∧ w' = w := by
  have c3 := cell_of h.box 3
  simp only [List.getElem?_toArray, List.getElem?_cons_zero, List.getElem?_cons_succ] at c3
  have d0 : ((E : Int) != 0) = true := by simp; omega
  clear h hE
  go_enter Tryz.func47, Tryz.ntmps47
  go_wp2
  go_ret
  exact ⟨rfl, rfl⟩
end Go.Proofs.YtolkoidbkaidkaaGreat.inf
/-
  The document's inflate: a match.
-/
namespace Go.Proofs.YtolkoidbkaidkaaGreat.inf
open Go Go.RowKit Go.Proofs.YtolkoidbkaidkaaGreat.lib Go.Proofs.YtolkoidbkaidkaaGreat.bm Go.Proofs.YtolkoidbkaidkaaGreat.bl Go.Proofs.YtolkoidbkaidkaaGreat.huf

theorem Sw.byte {w : World} {R p : Nat} {F : List Nat} {bs out : List UInt8} {at_ oc most E : Nat} {oa : Option Addr} (h : Sw w R p F bs at_ out oa oc most E) {i : Nat} (hi : i < out.length) : ∃ g o, oa = some ⟨g, o, none⟩ ∧ w.cell? ⟨g, o + i, none⟩ = some (.int .u8 ((out[i]?.getD 0).toNat : Nat)) := by
  obtain ⟨g, o, rfl, hc⟩ := (cs_of_owns h.own).at (by simp; omega)
  refine ⟨g, o, rfl, hc i _ ?_⟩
  rw [List.getElem?_map, List.getElem?_eq_getElem hi]
  rfl
/-- What a match makes, behind its symbol. -/
def imatch' (bs : List UInt8) (most : Nat) (dl : List Nat) (s : Nat) (out : List UInt8) (a : Nat) : Except Nat (List UInt8 × Nat) :=
  if 286 ≤ s then .error 3 else imatch bs most dl s out a
set_option maxRecDepth 100000 in
set_option maxHeartbeats 8000000 in
theorem rmatch_any (R p : Nat) (F : List Nat) (bs out : List UInt8) (da : Option Addr) (dcap D : Nat) (dl : List Nat) (at_ oc most s : Nat) (oa : Option Addr) (w : World) (h : Sw w R p F bs at_ out oa oc most 0) (hT : Ld w da dcap dl (R :: p :: blk oa)) (hD : D = dl.length) (h1 : 257 ≤ s) (h2 : s < 400) :
    Calls Tryz.prog 48 #[.pointer (some ⟨R, 0, none⟩), .int .i64 (s : Nat), .slice da D dcap] w fun e w' => e = .returned (.tuple #[]) ∧ RetW w R p F bs oa most (imatch' bs most dl s out at_) w' := by
  obtain ⟨M, hM⟩ : ∃ M, M = imatch' bs most dl s out at_ := ⟨_, rfl⟩
  rw [← hM]
  by_cases hbig : 286 ≤ s
  · have hM3 : M = .error 3 := by rw [hM]; unfold imatch'; rw [if_pos hbig]
    have d0 : decide ((285 : Int) < s) = true := by simp; omega
    have H := Lib.hid (And.intro (fail_any R p F bs out at_ oc most 0 3 oa w h) hM3)
    clear h hT hM hM3 hD hbig
    go_enter Tryz.func48, Tryz.ntmps48
    go_wp2_with (go_at_call 25; refine H.out.1.mono ?_; rintro e w1 ⟨rfl, S1, f1⟩)
    refine bodyPost_ret (results_none rfl _ _ _) rfl ?_
    exact ⟨rfl, at_, out, oa, oc, 3, S1, Way.ofR _ _ _ _ _ f1, .inl ⟨H.out.2, by decide, by decide⟩⟩
  · have d0 : decide ((285 : Int) < s) = false := by simp; omega
    have hn0 : ln s ≤ 258 := (ln_all ⟨s, by omega⟩ h1).2.2.1
    have hk0 : lk s ≤ 5 := (ln_all ⟨s, by omega⟩ h1).2.2.2
    have hil := ilength_by (bs := bs) (a := at_) h1 (show s < 286 by omega) h.pF.2
    have hMi : M = imatch bs most dl s out at_ := by rw [hM]; unfold imatch'; rw [if_neg hbig]
    obtain ⟨q, hq⟩ : ∃ q, q = s - 257 := ⟨_, rfl⟩
    have eq1 : (s : Int) - 257 = (q : Int) := by omega
    obtain ⟨n0, hn0'⟩ : ∃ n0, n0 = ln s := ⟨_, rfl⟩
    obtain ⟨k0, hk0'⟩ : ∃ k0, k0 = lk s := ⟨_, rfl⟩
    have hbase := base_any 3 q 4 8 w (by decide) (by omega) (by decide) (by decide) (by decide)
    have hnb : s ≠ 285 → bsum 3 4 8 q = n0 ∧ bw q 4 8 = k0 := fun hs => by rw [hn0', hk0', hq]; unfold ln lk; rw [if_neg hs, if_neg hs]; exact ⟨rfl, rfl⟩
    have hn5 : s = 285 → n0 = 258 ∧ k0 = 0 := fun hs => by rw [hn0', hk0', hs]; exact ⟨if_pos rfl, if_pos rfl⟩
    rw [← hn0', ← hk0'] at hil
    have hnl : n0 ≤ 258 := by rw [hn0']; exact hn0
    have hkl : k0 ≤ 5 := by rw [hk0']; exact hk0
    obtain ⟨N, hN⟩ : ∃ N, N = out.length := ⟨_, rfl⟩
    have htk := rtake_any R p F bs out at_ oc most k0 oa w h (by omega)
    obtain ⟨x0, hx0⟩ : ∃ x, x = bsum 3 4 8 q := ⟨_, rfl⟩
    obtain ⟨y0, hy0⟩ : ∃ x, x = bw q 4 8 := ⟨_, rfl⟩
    rw [← hx0, ← hy0] at hbase hnb
    have hsm := h.sm
    have H := Lib.hid (And.intro h (And.intro hT (And.intro hMi (And.intro hil (And.intro htk (And.intro hN hD))))))
    have HB := Lib.hid (And.intro hbase (And.intro hnb hn5))
    clear h hT hM hMi hil htk hN hD hbase hnb hn5 hn0' hk0' hx0 hy0 hn0 hk0 hq hbig
    go_enter Tryz.func48, Tryz.ntmps48
    go_upto_if 23 with (go_at_call 67; refine HB.out.1.mono ?_; rintro e w1 ⟨rfl, rfl⟩)
    clear d0 eq1
    obtain ⟨bq, hbq⟩ : ∃ b, b = ((s : Int) == 285) := ⟨_, rfl⟩
    rw [← hbq]
    have HQ := Lib.hid hbq
    clear hbq
    go_cut [6, 7] from 23 to 24 (fun s6 s7 wc => s6 = .int .i64 (n0 : Nat) ∧ s7 = .int .i64 (k0 : Nat) ∧ w = wc)
    case first =>
      cases bq
      · go_wp2
        go_meet
        case rel =>
          obtain ⟨rfl, rfl⟩ := HB.out.2.1 (fun he => by have := HQ.out; rw [he] at this; cases this)
          exact ⟨rfl, rfl, rfl⟩
      · go_wp2
        go_meet
        case rel =>
          obtain ⟨rfl, rfl⟩ := HB.out.2.2 (by have := beq_iff_eq.1 HQ.out.symm; omega)
          exact ⟨rfl, rfl, rfl⟩
    case rest =>
      obtain ⟨rfl, rfl, rfl⟩ := hcut
      go_upto_region 7 with (go_at_call 20; refine H.out.2.2.2.2.1.mono ?_; rintro e w1 (⟨a1, hm, rfl, s1, f1⟩ | ⟨v, a1, hm, rfl, s1, f1⟩))
      · have c3 := cell_of s1.box 3
        simp only [List.getElem?_toArray, List.getElem?_cons_zero, List.getElem?_cons_succ] at c3
        have K1 := Lib.hid (And.intro hm (And.intro f1 s1))
        clear hm f1 s1
        go_wp2_with (go_at_call 47; refine (rsymbol_err R p F bs out a1 oc most 4 oa _ w1 K1.out.2.2 (by decide)).mono ?_; rintro e w2 ⟨rfl, rfl⟩)
        refine bodyPost_ret (results_none rfl _ _ _) rfl ?_
        refine ⟨rfl, a1, out, oa, oc, 4, K1.out.2.2, Way.ofRp _ _ _ _ _ K1.out.2.1, .inl ⟨?_, by decide, by decide⟩⟩
        rw [H.out.2.2.1]
        unfold imatch
        rw [H.out.2.2.2.1, K1.out.1]
      · have hv := itake_lt hm
        have hvb : v < 32 := Nat.lt_of_lt_of_le hv (Nat.le_trans (Nat.pow_le_pow_right (by decide) hkl) (by decide))
        obtain ⟨n, hn⟩ : ∃ n, n = n0 + v := ⟨_, rfl⟩
        have hnb : n ≤ 300 := by omega
        have ew : wrap64 ((n0 : Int) + (v : Int)) = (n : Int) := by unfold wrap64; omega
        rw [ew]
        clear ew
        have hsy := sym_any' R p F bs out a1 oc most oa da dcap D dl w1 s1 (H.out.2.1.rp f1) H.out.2.2.2.2.2.2
        have e1 : ilength bs s at_ = .ok (n0 + v, a1) := by rw [H.out.2.2.2.1, hm]
        rw [← hn] at e1
        have K1 := Lib.hid (And.intro hsy (And.intro f1 (And.intro e1 s1)))
        clear hm f1 s1 hsy e1 hv hn
        go_upto_region 8 with (go_at_call 47; refine K1.out.1.mono ?_; rintro e w2 (⟨a2, c, hm, hc0, hc1, rfl, s2, f2⟩ | ⟨t, a2, hm, rfl, s2, f2⟩))
        · have c3 := cell_of s2.box 3
          simp only [List.getElem?_toArray, List.getElem?_cons_zero, List.getElem?_cons_succ] at c3
          have d3 : ((c : Int) != 0) = true := by simp; omega
          have K2 := Lib.hid (And.intro hm (And.intro f2 s2))
          clear hm f2 s2
          go_wp2
          refine bodyPost_ret (results_none rfl _ _ _) rfl ?_
          refine ⟨rfl, a2, out, oa, oc, c, K2.out.2.2, Way.ofRp _ _ _ _ _ (K1.out.2.1.trans K2.out.2.1), .inl ⟨?_, hc0, hc1⟩⟩
          rw [H.out.2.2.1]
          unfold imatch
          rw [K1.out.2.2.1]
          dsimp only
          rw [K2.out.1]
        · have c3 := cell_of s2.box 3
          simp only [List.getElem?_toArray, List.getElem?_cons_zero, List.getElem?_cons_succ] at c3
          have htl := (isym_lt hm).1
          have htb : t < 400 := Nat.lt_of_lt_of_le htl H.out.2.1.len
          have K2 := Lib.hid (And.intro hm (And.intro f2 s2))
          clear hm f2 s2 htl
          have f02 : Fr [R, p] w w2 := K1.out.2.1.trans K2.out.2.1
          by_cases ht : 30 ≤ t
          · have d4 : decide ((29 : Int) < t) = true := by simp; omega
            have HF := Lib.hid (And.intro (fail_any R p F bs out a2 oc most 0 3 oa w2 K2.out.2.2) f02)
            clear f02
            go_wp2_with (go_at_call 25; refine HF.out.1.mono ?_; rintro e w3 ⟨rfl, S3, f3⟩)
            refine bodyPost_ret (results_none rfl _ _ _) rfl ?_
            refine ⟨rfl, a2, out, oa, oc, 3, S3, (Way.ofRp _ _ _ _ _ HF.out.2).trans (Way.ofR _ _ _ _ _ f3), .inl ⟨?_, by decide, by decide⟩⟩
            rw [H.out.2.2.1]
            unfold imatch
            rw [K1.out.2.2.1]
            dsimp only
            rw [K2.out.1]
            dsimp only
            rw [if_pos ht]
          · have d4 : decide ((29 : Int) < t) = false := by simp; omega
            have hd13 : bw t 2 4 ≤ 13 := (dn_all ⟨t, by omega⟩).2.2.2
            have hd24 : bsum 1 2 4 t ≤ 24577 := (dn_all ⟨t, by omega⟩).2.2.1
            have hdi := idist_by (bs := bs) (t := t) (a := a2) (by omega) K2.out.2.2.pF.2
            have hbase := base_any 1 t 2 4 w2 (by decide) (by omega) (by decide) (by decide) (by decide)
            obtain ⟨x1, hx1⟩ : ∃ x, x = bsum 1 2 4 t := ⟨_, rfl⟩
            obtain ⟨y1, hy1⟩ : ∃ x, x = bw t 2 4 := ⟨_, rfl⟩
            rw [← hx1, ← hy1] at hbase hdi
            rw [← hx1] at hd24
            rw [← hy1] at hd13
            have htk := rtake_any R p F bs out a2 oc most y1 oa w2 K2.out.2.2 (by omega)
            have HB2 := Lib.hid (And.intro hbase (And.intro hdi (And.intro htk f02)))
            clear hbase hdi htk f02 hx1 hy1
            go_upto_region 12 with (go_at_call 67; refine HB2.out.1.mono ?_; rintro e w3 ⟨rfl, rfl⟩)
            clear d4 c3
            go_cut [9] from 46 to 50 (fun s9 wc => ∃ far a3 E : Nat, s9 = .int .i64 (far : Nat) ∧ far ≤ 100000 ∧ Sw wc R p F bs a3 out oa oc most E ∧ Fr [R, p] w wc ∧ ((E = 0 ∧ idist bs t a2 = .ok (far, a3)) ∨ (E = 4 ∧ idist bs t a2 = .error 4)))
            case first =>
              go_wp2_with (go_at_call 20; refine HB2.out.2.2.1.mono ?_; rintro e w3 (⟨a3, hm, rfl, s3, f3⟩ | ⟨v3, a3, hm, rfl, s3, f3⟩); all_goals (try (have hvb3 : v3 < 8192 := Nat.lt_of_lt_of_le (itake_lt hm) (Nat.le_trans (Nat.pow_le_pow_right (by decide) hd13) (by decide)))); all_goals (have K3 := Lib.hid (And.intro hm (And.intro f3 s3)); clear hm f3 s3))
              · go_meet
                case rel => exact ⟨x1, a3, 4, rfl, by omega, K3.out.2.2, HB2.out.2.2.2.trans K3.out.2.1, .inr ⟨rfl, by rw [HB2.out.2.1, K3.out.1]⟩⟩
              · go_meet
                case rel => exact ⟨x1 + v3, a3, 0, by go_num, by omega, K3.out.2.2, HB2.out.2.2.2.trans K3.out.2.1, .inl ⟨rfl, by rw [HB2.out.2.1, K3.out.1]⟩⟩
            case rest =>
              obtain ⟨far, a3, E, rfl, hfb, s3, f3, hE⟩ := hcut
              have c3 := cell_of s3.box 3
              have c1 := cell_of s3.box 1
              simp only [List.getElem?_toArray, List.getElem?_cons_zero, List.getElem?_cons_succ] at c1 c3
              rw [← H.out.2.2.2.2.2.1] at c1
              have hMe : idist bs t a2 = .error 4 → M = .error 4 := fun h => by
                rw [H.out.2.2.1]
                unfold imatch
                rw [K1.out.2.2.1]
                dsimp only
                rw [K2.out.1]
                dsimp only
                rw [if_neg ht, h]
              have hMo : idist bs t a2 = .ok (far, a3) → M = if N < far then .error 3 else match icopy most far n out with | .error e => .error e | .ok o => .ok (o, a3) := fun h => by
                rw [H.out.2.2.1]
                unfold imatch
                rw [K1.out.2.2.1]
                dsimp only
                rw [K2.out.1]
                dsimp only
                rw [if_neg ht, h, H.out.2.2.2.2.2.1]
                rfl
              have hfp : idist bs t a2 = .ok (far, a3) → 0 < far := fun h => by
                rcases idist_pos h with k | k
                · exact k.1
                · omega
              have hE4 : E = 0 ∨ E = 4 := by rcases hE with ⟨h, _⟩ | ⟨h, _⟩ <;> omega
              have hNm : N ≤ most := by rw [H.out.2.2.2.2.2.1]; exact s3.om
              have K3 := Lib.hid (And.intro s3 (And.intro f3 (And.intro hE (And.intro hMe (And.intro hMo (And.intro hfp (fail_any R p F bs out a3 oc most E 3 oa wc s3)))))))
              clear s3 f3 hE hMe hMo hfp
              go_upto_region 13 with fail
              go_cut [64] from 51 to 64 (fun s64 wd => s64 = .bool (decide (E = 0) && decide (N < far)) ∧ wc = wd)
              case first =>
                rcases hE4 with rfl | rfl
                · go_wp2
                  go_meet
                  case rel => exact ⟨by simp, rfl⟩
                · go_wp2
                  go_meet
                  case rel => exact ⟨by simp, rfl⟩
              case rest =>
                obtain ⟨rfl, rfl⟩ := hcut
                obtain ⟨bt, hbt⟩ : ∃ b : Bool, b = (decide (E = 0) && decide (N < far)) := ⟨_, rfl⟩
                rw [← hbt]
                have HT := Lib.hid hbt
                clear hbt
                go_upto_if 64 with fail
                go_cut [] from 65 to 66 (fun wd => ∃ E2 : Nat, Sw wd R p F bs a3 out oa oc most E2 ∧ Fr [R, p] w wd ∧ ((E2 = 0 ∧ idist bs t a2 = .ok (far, a3) ∧ far ≤ N) ∨ (E2 ≠ 0 ∧ E2 < 100 ∧ M = .error E2)))
                case first =>
                  cases bt
                  · go_wp2
                    go_meet
                    case rel =>
                      refine ⟨E, K3.out.1, K3.out.2.1, ?_⟩
                      rcases K3.out.2.2.1 with ⟨k1, k2⟩ | ⟨k1, k2⟩
                      · refine .inl ⟨k1, k2, ?_⟩
                        have := HT.out
                        rw [k1] at this
                        simpa using this
                      · exact .inr ⟨by omega, by omega, by rw [k1]; exact K3.out.2.2.2.1 k2⟩
                  · have hE0 : E = 0 ∧ N < far := by simpa using HT.out.symm
                    obtain ⟨rfl, hlt⟩ := hE0
                    have HL := Lib.hid hlt
                    clear hlt c3 c1
                    go_wp2_with (go_at_call 25; refine K3.out.2.2.2.2.2.2.mono ?_; rintro e w4 ⟨rfl, S4, f4⟩; have K4 := Lib.hid (And.intro S4 f4); clear S4 f4)
                    go_meet
                    case rel =>
                      refine ⟨3, K4.out.1, K3.out.2.1.trans (K4.out.2.mono (by simp)), .inr ⟨by decide, by decide, ?_⟩⟩
                      rcases K3.out.2.2.1 with ⟨k1, k2⟩ | ⟨k1, k2⟩
                      · rw [K3.out.2.2.2.2.1 k2, if_pos HL.out]
                      · cases k1
                case rest =>
                  obtain ⟨E2, s4, f4, hE2⟩ := hcut
                  have K4 := Lib.hid (And.intro s4 (And.intro f4 hE2))
                  obtain ⟨w4, hw4⟩ : ∃ w4, w4 = wc := ⟨_, rfl⟩
                  rw [← hw4] at K4 ⊢
                  clear s4 f4 hE2 hw4 c1 c3
                  go_wp2
                  go_loopg [11] n (fun k s11 wr => ∃ (j : Nat) (a4 : Nat) (out1 : List UInt8) (oa1 : Option Addr) (oc1 E3 : Nat), s11 = .int .i64 (j : Nat) ∧ j + k = n ∧ Sw wr R p F bs a4 out1 oa1 oc1 most E3 ∧ Way w4 R p oa wr oa1 ∧
                    ((E3 = 0 ∧ E2 = 0 ∧ a4 = a3 ∧ icopy most far k out1 = icopy most far n out ∧ far ≤ out1.length) ∨ (E3 ≠ 0 ∧ E3 < 100 ∧ M = .error E3)))
                  case atStart =>
                    refine ⟨0, a3, out, oa, oc, E2, rfl, by omega, K4.out.1, .refl _ _ _ _, ?_⟩
                    rcases K4.out.2.2 with ⟨k1, k2, k3⟩ | k
                    · exact .inl ⟨k1, k1, rfl, rfl, by rw [← H.out.2.2.2.2.2.1]; exact k3⟩
                    · exact .inr k
                  case round =>
                    obtain ⟨j, a4, out1, oa1, oc1, E3, rfl, hjk, hst, hway, hcs⟩ := hrel
                    have c3 := cell_of hst.box 3
                    simp only [List.getElem?_toArray, List.getElem?_cons_zero, List.getElem?_cons_succ] at c3
                    have hfin : ∀ (m : Except Nat (List UInt8 × Nat)), M = m → ((m = .error E3 ∧ 0 < E3 ∧ E3 < 100) ∨ (m = .ok (out1, a4) ∧ E3 = 0)) → RetW w R p F bs oa most M wr := fun m h1 h2 => by
                      refine ⟨a4, out1, oa1, oc1, E3, hst, (Way.ofRp _ _ _ _ _ K4.out.2.1).trans hway, ?_⟩
                      rw [h1]
                      exact h2
                    have hE2o : E2 = 0 → idist bs t a2 = .ok (far, a3) ∧ far ≤ N := fun h => by
                      rcases K4.out.2.2 with ⟨_, k2, k3⟩ | ⟨k1, _, _⟩
                      · exact ⟨k2, k3⟩
                      · exact absurd h k1
                    by_cases hj : j < n
                    · by_cases h0 : E3 = 0
                      · subst h0
                        obtain ⟨k, rfl⟩ : ∃ k, gk = k + 1 := ⟨gk - 1, by omega⟩
                        obtain ⟨hE2', hae, hic, hbl⟩ : E2 = 0 ∧ a4 = a3 ∧ icopy most far (k + 1) out1 = icopy most far n out ∧ far ≤ out1.length := by
                          rcases hcs with ⟨_, k2, k3, k4, k5⟩ | ⟨k1, _, _⟩
                          · exact ⟨k2, k3, k4, k5⟩
                          · exact absurd rfl k1
                        have hid := hE2o hE2'
                        have hb0 := K3.out.2.2.2.2.2.1 hid.1
                        obtain ⟨N1, hN1⟩ : ∃ N1, N1 = out1.length := ⟨_, rfl⟩
                        obtain ⟨g, o, rfl, hby⟩ := hst.byte (i := N1 - far) (by omega)
                        obtain ⟨u, hu⟩ : ∃ u, u = out1[N1 - far]?.getD 0 := ⟨_, rfl⟩
                        have c1 := cell_of hst.box 1
                        simp only [List.getElem?_toArray, List.getElem?_cons_zero, List.getElem?_cons_succ] at c1
                        rw [← hN1] at c1
                        rw [← hu] at hby
                        have hom : N1 ≤ most := by rw [hN1]; exact hst.om
                        have hbl1 : far ≤ N1 := by rw [hN1]; exact hbl
                        have HJ := Lib.hid (And.intro hst (And.intro hway (And.intro hic (And.intro hbl (And.intro hN1 (And.intro hu (And.intro hae (And.intro hE2' hid))))))))
                        clear hst hway hic hbl hN1 hu hae hE2' hid hcs hfin hE2o
                        go_upto_region 18 with fail
                        refine region_tail 14 (by kernel_rfl) (by kernel_rfl) ?_
                        simp only [List.take_succ_cons, List.take_zero, List.drop_succ_cons, List.drop_zero]
                        repeat (go_big_quiet_step (fail))
                        refine wpQuiet_nil ?_
                        have sd := HJ.out.1.fr0 (Fr.drew1 [] wr)
                        have HD := Lib.hid sd
                        clear sd c1 c3 hby
                        go_wp2_with (go_at_call 46; refine (rput_any R p F bs out1 a4 oc1 most _ u wr.drew HD.out).mono ?_; rintro e w5 ⟨rfl, hR5⟩; have K5 := Lib.hid hR5; clear hR5)
                        go_roundg k
                        case measure => omega
                        case rel =>
                          obtain ⟨a5, out2, oa2, oc2, E5, s5, y5, h5⟩ := K5.out
                          obtain ⟨j1, j2, j3, j4, j5, j6, j7, j8, j9⟩ := HJ.out
                          refine ⟨j + 1, a5, out2, oa2, oc2, E5, by go_num, by omega, s5, j2.trans ((Way.of0 _ _ _ _ _ (Fr.drew1 [] wr)).trans y5), ?_⟩
                          cases hp : iput most out1 u with
                          | error e =>
                            rw [hp] at h5
                            rcases h5 with ⟨k1, k2, k3⟩ | ⟨k1, _⟩
                            · refine .inr ⟨by omega, k3, ?_⟩
                              have hec : e = E5 := by simpa [Except.map] using k1
                              have e1 : icopy most far n out = .error e := by rw [← j3, icopy, ← j5, ← j6, hp]
                              rw [K3.out.2.2.2.2.1 j9.1, if_neg (by omega), e1, hec]
                            · cases k1
                          | ok o2 =>
                            rw [hp] at h5
                            rcases h5 with ⟨k1, _, _⟩ | ⟨k1, k2⟩
                            · cases k1
                            · have hm2 : o2 = out2 ∧ a4 = a5 := by simpa [Except.map] using k1
                              obtain ⟨rfl, rfl⟩ := hm2
                              have hi := iput_ok hp
                              refine .inl ⟨k2, j8, j7, ?_, by rw [hi.1]; simp; omega⟩
                              rw [← j3, icopy, ← j5, ← j6, hp]
                      · have d0 : ((E3 : Int) == 0) = false := by simp; omega
                        have hM3 : M = .error E3 ∧ E3 < 100 := by
                          rcases hcs with ⟨k1, _⟩ | ⟨k1, k2, k3⟩
                          · exact absurd k1 h0
                          · exact ⟨k3, k2⟩
                        have HFin := Lib.hid (hfin _ hM3.1 (.inl ⟨rfl, by omega, hM3.2⟩))
                        clear hst hway hcs hfin hE2o hM3 h0
                        go_wp2
                        refine bodyPost_end (results_none rfl _ _ _) rfl ?_
                        exact ⟨rfl, HFin.out⟩
                    · obtain rfl : j = n := by omega
                      obtain rfl : gk = 0 := by omega
                      have HFin : Go.RowKit.Hid (RetW w R p F bs oa most M wr) := Lib.hid (by
                        rcases hcs with ⟨k1, k2, k3, k4, k5⟩ | ⟨k1, k2, k3⟩
                        · obtain ⟨q1, q2⟩ := hE2o k2
                          refine hfin _ (K3.out.2.2.2.2.1 q1) (.inr ⟨?_, k1⟩)
                          rw [if_neg (by omega), ← k4, k3]
                          rfl
                        · exact hfin _ k3 (.inl ⟨rfl, by omega, k2⟩))
                      clear hst hway hcs hfin hE2o
                      go_wp2
                      refine bodyPost_end (results_none rfl _ _ _) rfl ?_
                      exact ⟨rfl, HFin.out⟩
end Go.Proofs.YtolkoidbkaidkaaGreat.inf
/-
  The document's inflate: a block of codes.
-/
namespace Go.Proofs.YtolkoidbkaidkaaGreat.inf
open Go Go.RowKit Go.Proofs.YtolkoidbkaidkaaGreat.lib Go.Proofs.YtolkoidbkaidkaaGreat.bm Go.Proofs.YtolkoidbkaidkaaGreat.bl Go.Proofs.YtolkoidbkaidkaaGreat.huf

theorem rput_n (R p : Nat) (F : List Nat) (bs out : List UInt8) (at_ oc most s : Nat) (oa : Option Addr) (w : World) (h : Sw w R p F bs at_ out oa oc most 0) (hs : s < 256) :
    Calls Tryz.prog 46 #[.pointer (some ⟨R, 0, none⟩), .int .u8 (s : Nat)] w fun e w' => e = .returned (.tuple #[]) ∧ RetW w R p F bs oa most ((iput most out (UInt8.ofNat s)).map fun o => (o, at_)) w' := by
  have := rput_any R p F bs out at_ oc most oa (UInt8.ofNat s) w h
  rwa [show ((UInt8.ofNat s).toNat : Int) = (s : Int) from by simp [UInt8.toNat_ofNat']; omega] at this
theorem map_err {o : Except Nat (List UInt8)} {a E : Nat} (h : o.map (fun o => (o, a)) = .error E) : o = .error E := by
  cases o with
  | error e => simpa [Except.map] using h
  | ok x => cases h
theorem map_ok {o : Except Nat (List UInt8)} {a a' : Nat} {x : List UInt8} (h : o.map (fun o => (o, a)) = .ok (x, a')) : o = .ok x ∧ a' = a := by
  cases o with
  | error e => cases h
  | ok y =>
    have : y = x ∧ a = a' := by simpa [Except.map] using h
    exact ⟨by rw [this.1], this.2.symm⟩
set_option maxRecDepth 100000 in
set_option maxHeartbeats 8000000 in
theorem rcoded_any (R p : Nat) (F : List Nat) (bs out : List UInt8) (la da : Option Addr) (lcap dcap L D : Nat) (ll dl : List Nat) (at_ oc most : Nat) (oa : Option Addr) (w : World) (h : Sw w R p F bs at_ out oa oc most 0) (hl : Ld w la lcap ll (R :: p :: blk oa)) (hd : Ld w da dcap dl (R :: p :: blk oa)) (hL : L = ll.length) (hD : D = dl.length) :
    Calls Tryz.prog 23 #[.pointer (some ⟨R, 0, none⟩), .slice la L lcap, .slice da D dcap] w fun e w' => e = .returned (.tuple #[]) ∧ RetW w R p F bs oa most (isyms bs most ll dl (fuel bs) out at_) w' := by
  obtain ⟨M, hM⟩ : ∃ M, M = isyms bs most ll dl (fuel bs) out at_ := ⟨_, rfl⟩
  rw [← hM]
  have H := Lib.hid (And.intro h (And.intro hl (And.intro hd (And.intro hL (And.intro hD hM)))))
  clear h hl hd hL hD hM
  go_enter Tryz.func23, Tryz.ntmps23
  go_wp2
  go_loopg [6] (fuel bs) (fun k s6 wr => ∃ (a1 : Nat) (out1 : List UInt8) (oa1 : Option Addr) (oc1 E : Nat), Sw wr R p F bs a1 out1 oa1 oc1 most E ∧ Way w R p oa wr oa1 ∧ ((E = 0 ∧ isyms bs most ll dl k out1 a1 = M ∧ 8 * bs.length + 1 ≤ a1 + k) ∨ (E ≠ 0 ∧ E < 100 ∧ M = .error E)))
  case atStart => exact ⟨at_, out, oa, oc, 0, H.out.1, .refl _ _ _ _, .inl ⟨rfl, H.out.2.2.2.2.2.symm, by unfold fuel; omega⟩⟩
  case round =>
    obtain ⟨a1, out1, oa1, oc1, E, hst, hway, hcs⟩ := hrel
    have c3 := cell_of hst.box 3
    simp only [List.getElem?_toArray, List.getElem?_cons_zero, List.getElem?_cons_succ] at c3
    by_cases h0 : E = 0
    · subst h0
      obtain ⟨his, hfu⟩ : isyms bs most ll dl gk out1 a1 = M ∧ 8 * bs.length + 1 ≤ a1 + gk := by
        rcases hcs with ⟨_, k⟩ | ⟨k, _⟩
        · exact k
        · exact absurd rfl k
      have ha1 := hst.pF.2
      obtain ⟨k, rfl⟩ : ∃ k, gk = k + 1 := ⟨gk - 1, by omega⟩
      have hsy := sym_any' R p F bs out1 a1 oc1 most oa1 la lcap L ll wr hst (H.out.2.1.way hway) H.out.2.2.2.1
      have HJ := Lib.hid (And.intro hst (And.intro hway (And.intro his (And.intro hfu (And.intro (H.out.2.2.1.way hway) hsy)))))
      clear hst hway his hcs hsy hfu
      go_upto_region 3 with (go_at_call 47; refine HJ.out.2.2.2.2.2.mono ?_; rintro e w2 (⟨a2, c, hm, hc0, hc1, rfl, s2, f2⟩ | ⟨s, a2, hm, rfl, s2, f2⟩))
      · have c3 := cell_of s2.box 3
        simp only [List.getElem?_toArray, List.getElem?_cons_zero, List.getElem?_cons_succ] at c3
        have d3 : ((c : Int) != 0) = true := by simp; omega
        have hMe : M = .error c := by rw [← HJ.out.2.2.1, isyms, hm]
        have K2 := Lib.hid (And.intro hMe (And.intro f2 s2))
        clear hm f2 s2 hMe
        go_wp2
        go_roundg k
        case measure => omega
        case rel => exact ⟨a2, out1, oa1, oc1, c, K2.out.2.2, HJ.out.2.1.trans (Way.ofRp _ _ _ _ _ K2.out.2.1), .inr ⟨by omega, hc1, K2.out.1⟩⟩
      · have c3 := cell_of s2.box 3
        simp only [List.getElem?_toArray, List.getElem?_cons_zero, List.getElem?_cons_succ] at c3
        have hsl := (isym_lt hm).1
        have hlt := (isym_lt hm).2
        have hsb : s < 400 := Nat.lt_of_lt_of_le hsl H.out.2.1.len
        have f02 := HJ.out.2.1.trans (Way.ofRp _ _ _ _ _ f2)
        by_cases b1 : s < 256
        · have d1 : decide ((s : Int) < 256) = true := by simp; omega
          have hpt := rput_n R p F bs out1 a2 oc1 most s oa1 w2 s2 b1
          have hsi : isyms bs most ll dl (k + 1) out1 a1 = match iput most out1 (UInt8.ofNat s) with | .error e => .error e | .ok o => isyms bs most ll dl k o a2 := by
            rw [isyms, hm]
            simp only [if_pos b1]
            cases iput most out1 (UInt8.ofNat s) <;> rfl
          rw [HJ.out.2.2.1] at hsi
          have K2 := Lib.hid (And.intro hpt (And.intro f02 (And.intro hsi hlt)))
          clear hm f2 s2 hpt f02 hsi hsl hlt
          go_wp2_with (go_at_call 46; refine K2.out.1.mono ?_; rintro e w4 ⟨rfl, h4⟩; have K4 := Lib.hid h4; clear h4)
          go_roundg k
          case measure => omega
          case rel =>
            obtain ⟨a4, o4, oa4, oc4, E4, s4, y4, h4⟩ := K4.out
            have hfu := HJ.out.2.2.2.1
            have hlt := K2.out.2.2.2
            refine ⟨a4, o4, oa4, oc4, E4, s4, K2.out.2.1.trans y4, ?_⟩
            rcases h4 with ⟨k1, k2, k3⟩ | ⟨k1, k2⟩
            · exact .inr ⟨by omega, k3, by rw [K2.out.2.2.1, map_err k1]⟩
            · obtain ⟨q1, q2⟩ := map_ok k1
              exact .inl ⟨k2, by rw [K2.out.2.2.1, q1, q2], by omega⟩
        · have d1 : decide ((s : Int) < 256) = false := by simp; omega
          by_cases b2 : s = 256
          · have hsi : isyms bs most ll dl (k + 1) out1 a1 = .ok (out1, a2) := by
              rw [isyms, hm]
              simp only [if_neg b1, if_pos b2]
            rw [HJ.out.2.2.1] at hsi
            have K2 := Lib.hid (And.intro f02 (And.intro hsi s2))
            clear hm f2 s2 f02 hsi hsl hlt b1
            subst b2
            go_wp2
            refine bodyPost_ret (results_none rfl _ _ _) rfl ?_
            exact ⟨rfl, a2, out1, oa1, oc1, 0, K2.out.2.2, K2.out.1, .inr ⟨K2.out.2.1, rfl⟩⟩
          · have d2 : ((s : Int) == 256) = false := by simp; omega
            have hmt := rmatch_any R p F bs out1 da dcap D dl a2 oc1 most s oa1 w2 s2 (HJ.out.2.2.2.2.1.rp f2) H.out.2.2.2.2.1 (by omega) hsb
            have hsi : isyms bs most ll dl (k + 1) out1 a1 = match imatch' bs most dl s out1 a2 with | .error e => .error e | .ok (o, a3) => isyms bs most ll dl k o a3 := by
              rw [isyms, hm]
              simp only [if_neg b1, if_neg b2]
              unfold imatch'
              by_cases b3 : 286 ≤ s
              · rw [if_pos b3, if_pos b3]
              · rw [if_neg b3, if_neg b3]
                cases imatch bs most dl s out1 a2 <;> rfl
            have hle : ∀ o a3, imatch' bs most dl s out1 a2 = .ok (o, a3) → a2 ≤ a3 := fun o a3 h => by
              unfold imatch' at h
              split at h
              · cases h
              · exact imatch_at h
            rw [HJ.out.2.2.1] at hsi
            have K2 := Lib.hid (And.intro hmt (And.intro f02 (And.intro hsi (And.intro hlt hle))))
            clear hm f2 s2 hmt f02 hsi hsl hlt hle b1 b2
            go_wp2_with (go_at_call 48; refine K2.out.1.mono ?_; rintro e w4 ⟨rfl, h4⟩; have K4 := Lib.hid h4; clear h4)
            go_roundg k
            case measure => omega
            case rel =>
              obtain ⟨a4, o4, oa4, oc4, E4, s4, y4, h4⟩ := K4.out
              have hfu := HJ.out.2.2.2.1
              have hlt := K2.out.2.2.2.1
              refine ⟨a4, o4, oa4, oc4, E4, s4, K2.out.2.1.trans y4, ?_⟩
              rcases h4 with ⟨k1, k2, k3⟩ | ⟨k1, k2⟩
              · exact .inr ⟨by omega, k3, by rw [K2.out.2.2.1, k1]⟩
              · have := K2.out.2.2.2.2 _ _ k1
                exact .inl ⟨k2, by rw [K2.out.2.2.1, k1], by omega⟩
    · have d0 : ((E : Int) == 0) = false := by simp; omega
      have hM3 : M = .error E ∧ E < 100 := by
        rcases hcs with ⟨k1, _⟩ | ⟨k1, k2, k3⟩
        · exact absurd k1 h0
        · exact ⟨k3, k2⟩
      have HFin : Go.RowKit.Hid (RetW w R p F bs oa most M wr) := Lib.hid ⟨a1, out1, oa1, oc1, E, hst, hway, .inl ⟨hM3.1, by omega, hM3.2⟩⟩
      clear hst hway hcs hM3 h0
      go_wp2
      refine bodyPost_end (results_none rfl _ _ _) rfl ?_
      exact ⟨rfl, HFin.out⟩
end Go.Proofs.YtolkoidbkaidkaaGreat.inf
/-
  The document's inflate: a stored block.
-/
namespace Go.Proofs.YtolkoidbkaidkaaGreat.inf
open Go Go.RowKit Go.Proofs.YtolkoidbkaidkaaGreat.lib Go.Proofs.YtolkoidbkaidkaaGreat.bm Go.Proofs.YtolkoidbkaidkaaGreat.bl Go.Proofs.YtolkoidbkaidkaaGreat.huf

theorem take_b1 {bs : List UInt8} {q : Nat} (h : q < bs.length) : itake bs (8 * q) 8 = .ok (byteAt bs q, 8 * (q + 1)) := by
  unfold itake
  have e := bytes_drop bs q 1
  rw [Nat.mul_one] at e
  rw [if_pos (by omega), ← e, bval_bytes, List.drop_eq_getElem_cons h, List.take_succ_cons, List.take_zero]
  have : byteAt bs q = bs[q].toNat := by unfold byteAt; rw [List.getElem?_eq_getElem h]; rfl
  rw [this]
  simp only [num]
  congr 2
theorem take_b2 {bs : List UInt8} {q : Nat} (h : q + 2 ≤ bs.length) : itake bs (8 * q) 16 = .ok (byteAt bs q + 256 * byteAt bs (q + 1), 8 * (q + 2)) := by
  unfold itake
  have e := bytes_drop bs q 2
  rw [if_pos (by omega), show 16 = 8 * 2 from rfl, ← e, bval_bytes, List.drop_eq_getElem_cons (show q < bs.length by omega), List.take_succ_cons, List.drop_eq_getElem_cons (show q + 1 < bs.length by omega), List.take_succ_cons, List.take_zero]
  have e0 : byteAt bs q = bs[q].toNat := by unfold byteAt; rw [List.getElem?_eq_getElem (by omega)]; rfl
  have e1 : byteAt bs (q + 1) = bs[q + 1].toNat := by unfold byteAt; rw [List.getElem?_eq_getElem (by omega)]; rfl
  rw [e0, e1]
  simp only [num]
  congr 2
theorem take_torn {bs : List UInt8} {a n : Nat} (h : 8 * bs.length < a + n) : itake bs a n = .error 4 := by unfold itake; rw [if_neg (by omega)]
theorem and_compl {n m : Nat} (h : n + m = 65535) : n &&& m = 0 := by
  obtain rfl : m = 2 ^ 16 - (n + 1) := by omega
  refine Nat.eq_of_testBit_eq fun i => ?_
  rw [Nat.testBit_and, Nat.testBit_two_pow_sub_succ (by omega), Nat.zero_testBit]
  cases n.testBit i <;> simp
theorem i64_and_nat (a b : Nat) (ha : a < 9223372036854775808) (hb : b < 9223372036854775808) : bits .and .i64 (a : Int) (b : Int) = ((a &&& b : Nat) : Int) := by
  have hx : a &&& b < 2 ^ 63 := Nat.and_lt_two_pow _ (by omega)
  show IntKind.i64.wrap ((BitVec.ofInt 64 (a : Int) &&& BitVec.ofInt 64 (b : Int)).toNat : Int) = _
  rw [BitVec.toNat_and, ofInt_i64 a ha, ofInt_i64 b hb, IntKind.wrap_i64]
  omega
theorem i64_and_compl {n m : Nat} (h : n + m = 65535) : bits .and .i64 (n : Int) (m : Int) = 0 := by
  rw [i64_and_nat n m (by omega) (by omega), and_compl h]
  rfl
set_option maxRecDepth 100000 in
set_option maxHeartbeats 8000000 in
theorem rstored_any (R p : Nat) (F : List Nat) (bs out : List UInt8) (at_ oc most : Nat) (oa : Option Addr) (w : World) (h : Sw w R p F bs at_ out oa oc most 0) :
    Calls Tryz.prog 21 #[.pointer (some ⟨R, 0, none⟩)] w fun e w' => e = .returned (.tuple #[]) ∧ RetW w R p F bs oa most (istored bs most out at_) w' := by
  obtain ⟨M, hM⟩ : ∃ M, M = istored bs most out at_ := ⟨_, rfl⟩
  rw [← hM]
  have c0 := cell_of h.box 0
  simp only [List.getElem?_toArray, List.getElem?_cons_zero, List.getElem?_cons_succ] at c0
  obtain ⟨q, hq⟩ : ∃ q, q = (at_ + 7) / 8 := ⟨_, rfl⟩
  have hal := bits.ralign_any p F bs at_ w h.rd
  rw [← hq, Nat.mul_comm] at hal
  have hql : q ≤ bs.length := by have := h.pF.2; omega
  have hsb := h.sb
  obtain ⟨n0, hn0⟩ : ∃ n0, n0 = byteAt bs q + 256 * byteAt bs (q + 1) := ⟨_, rfl⟩
  obtain ⟨m0, hm0⟩ : ∃ m0, m0 = byteAt bs (q + 2) + 256 * byteAt bs (q + 2 + 1) := ⟨_, rfl⟩
  have hnb : n0 < 65536 := by have := byteAt_lt bs q; have := byteAt_lt bs (q + 1); omega
  have hmb : m0 < 65536 := by have := byteAt_lt bs (q + 2); have := byteAt_lt bs (q + 2 + 1); omega
  have hM4 : bs.length < q + 4 → M = .error 4 := fun hl => by rw [hM]; unfold istored; rw [← hq, if_neg (by omega)]
  have hMg : q + 4 ≤ bs.length → M = if n0 + m0 = 65535 then ibytes bs most n0 out (q + 4) else .error 3 := fun hl => by
    rw [hM]
    unfold istored
    rw [← hq, if_pos hl]
    have b0 := byteAt_lt bs q
    have b1 := byteAt_lt bs (q + 1)
    have b2 := byteAt_lt bs (q + 2)
    have b3 := byteAt_lt bs (q + 2 + 1)
    rw [show q + 3 = q + 2 + 1 from rfl]
    by_cases hc : n0 + m0 = 65535
    · rw [if_pos hc, if_pos (by omega), hn0]
    · rw [if_neg hc, if_neg (by omega)]
  have H := Lib.hid (And.intro h (And.intro hal (And.intro hn0 (And.intro hm0 (And.intro hM4 hMg)))))
  clear h hal hn0 hm0 hM4 hMg hM hq
  go_enter Tryz.func21, Tryz.ntmps21
  go_upto_region 1 with (go_at_call 45; refine H.out.2.1.mono ?_; rintro e w1 ⟨rfl, hr, f1⟩)
  have s1 : Sw w1 R p F bs (8 * q) out oa oc most 0 := H.out.1.take f1 hr
  have K1 := Lib.hid (And.intro s1 (And.intro (f1.mono (T := [R, p]) (by simp)) (rtake_any R p F bs out (8 * q) oc most 16 oa w1 s1 (by decide))))
  clear s1 f1 hr c0
  go_cut [2] from 11 to 12 (fun s2 wc => ∃ n a1 E : Nat, s2 = .int .i64 (n : Nat) ∧ n < 65536 ∧ Sw wc R p F bs a1 out oa oc most E ∧ Fr [R, p] w wc ∧ ((E = 0 ∧ q + 2 ≤ bs.length ∧ n = n0 ∧ a1 = 8 * (q + 2)) ∨ (E = 4 ∧ bs.length < q + 2)))
  case first =>
    go_wp2_with (go_at_call 20; refine K1.out.2.2.mono ?_; rintro e w2 (⟨a1, hm, rfl, s2, f2⟩ | ⟨v, a1, hm, rfl, s2, f2⟩); all_goals (have K2 := Lib.hid (And.intro hm (And.intro s2 f2)); clear hm s2 f2))
    · go_meet
      case rel =>
        refine ⟨0, a1, 4, rfl, by decide, K2.out.2.1, K1.out.2.1.trans K2.out.2.2, .inr ⟨rfl, ?_⟩⟩
        rcases Nat.lt_or_ge bs.length (q + 2) with k | k
        · exact k
        · have := K2.out.1
          rw [take_b2 k] at this
          cases this
    · go_meet
      case rel =>
        rcases Nat.lt_or_ge bs.length (q + 2) with k | k
        · have := K2.out.1
          rw [take_torn (by omega)] at this
          cases this
        · have := K2.out.1
          rw [take_b2 k, ← H.out.2.2.1] at this
          simp only [Except.ok.injEq, Prod.mk.injEq] at this
          obtain ⟨rfl, rfl⟩ := this
          exact ⟨_, _, 0, rfl, hnb, K2.out.2.1, K1.out.2.1.trans K2.out.2.2, .inl ⟨rfl, k, rfl, rfl⟩⟩
  case rest =>
    obtain ⟨n, a1, E, rfl, hnb1, s2, f2, hE⟩ := hcut
    have K2 := Lib.hid (And.intro s2 (And.intro f2 hE))
    obtain ⟨w2, hw2⟩ : ∃ w2, w2 = wc := ⟨_, rfl⟩
    rw [← hw2] at K2 ⊢
    clear s2 f2 hE hw2 K1
    go_upto_region 2 with fail
    go_cut [3] from 13 to 14 (fun s3 wc => ∃ m a2 E2 : Nat, s3 = .int .i64 (m : Nat) ∧ m < 2147483648 ∧ Sw wc R p F bs a2 out oa oc most E2 ∧ Fr [R, p] w wc ∧ ((E2 = 0 ∧ q + 4 ≤ bs.length ∧ n = n0 ∧ m = m0 ∧ a2 = 8 * (q + 4)) ∨ (E2 = 4 ∧ bs.length < q + 4)))
    case first =>
      by_cases h0 : E = 0
      · subst h0
        obtain ⟨k1, hnn, rfl⟩ : q + 2 ≤ bs.length ∧ n = n0 ∧ a1 = 8 * (q + 2) := by
          rcases K2.out.2.2 with ⟨_, k⟩ | ⟨k, _⟩
          · exact k
          · cases k
        have htk := Lib.hid (rtake_any R p F bs out (8 * (q + 2)) oc most 16 oa w2 K2.out.1 (by decide))
        have HNN := Lib.hid hnn
        clear hnn
        go_wp2_with (go_at_call 20; refine htk.out.mono ?_; rintro e w3 (⟨a2, hm, rfl, s3, f3⟩ | ⟨v, a2, hm, rfl, s3, f3⟩); all_goals (have K3 := Lib.hid (And.intro hm (And.intro s3 f3)); clear hm s3 f3))
        · go_meet
          case rel =>
            refine ⟨0, a2, 4, rfl, by decide, K3.out.2.1, K2.out.2.1.trans K3.out.2.2, .inr ⟨rfl, ?_⟩⟩
            rcases Nat.lt_or_ge bs.length (q + 4) with k | k
            · exact k
            · have := K3.out.1
              rw [take_b2 (by omega)] at this
              cases this
        · go_meet
          case rel =>
            rcases Nat.lt_or_ge bs.length (q + 4) with k | k
            · have := K3.out.1
              rw [take_torn (by omega)] at this
              cases this
            · have := K3.out.1
              rw [take_b2 (by omega), ← H.out.2.2.2.1] at this
              simp only [Except.ok.injEq, Prod.mk.injEq] at this
              obtain ⟨rfl, rfl⟩ := this
              exact ⟨_, _, 0, rfl, by omega, K3.out.2.1, K2.out.2.1.trans K3.out.2.2, .inl ⟨rfl, k, HNN.out, rfl, rfl⟩⟩
      · have hE4 : E = 4 ∧ bs.length < q + 2 := by
          rcases K2.out.2.2 with ⟨k, _⟩ | k
          · exact absurd k h0
          · exact k
        have htk := Lib.hid (And.intro hE4 (rtake_err R p F bs out a1 oc most 16 E oa w2 K2.out.1 h0 (by decide)))
        clear hE4 h0
        go_wp2_with (go_at_call 20; refine htk.out.2.mono ?_; rintro e w3 ⟨v, a2, rfl, hv, s3, f3⟩; have K3 := Lib.hid (And.intro s3 f3); clear s3 f3)
        go_meet
        case rel => exact ⟨v, a2, E, rfl, hv, K3.out.1, K2.out.2.1.trans K3.out.2, .inr ⟨htk.out.1.1, by have := htk.out.1.2; omega⟩⟩
    case rest =>
      obtain ⟨m, a2, E2, rfl, hmb1, s3, f3, hE2⟩ := hcut
      have K3 := Lib.hid (And.intro s3 (And.intro f3 (And.intro hE2 (fail_any R p F bs out a2 oc most E2 3 oa wc s3))))
      clear s3 f3 hE2 K2
      go_upto_region 3 with fail
      go_cut [24] from 15 to 24 (fun s24 wd => s24 = .bool (decide (n + m ≠ 65535)) ∧ wc = wd)
      case first =>
        by_cases hs : n + m = 65535
        · have e1 : (n : Int) + (m : Int) = 65535 := by omega
          have e2 := i64_and_compl hs
          have e3 := Lib.hid hs
          clear hs
          go_wp2
          go_meet
          case rel => exact ⟨by have := e3.out; simp [this], rfl⟩
        · have e1 : (((n : Int) + (m : Int)) != 65535) = true := by simp; omega
          have e3 := Lib.hid hs
          clear hs
          go_wp2
          go_meet
          case rel => exact ⟨by have := e3.out; simp [this], rfl⟩
      case rest =>
        obtain ⟨rfl, rfl⟩ := hcut
        obtain ⟨bt, hbt⟩ : ∃ b : Bool, b = decide (n + m ≠ 65535) := ⟨_, rfl⟩
        rw [← hbt]
        have HT := Lib.hid hbt
        clear hbt
        go_upto_if 24 with fail
        go_cut [] from 25 to 26 (fun wd => ∃ E3 : Nat, Sw wd R p F bs a2 out oa oc most E3 ∧ Fr [R, p] w wd ∧ ((E3 = 0 ∧ M = ibytes bs most n out (q + 4) ∧ a2 = 8 * (q + 4)) ∨ (E3 ≠ 0 ∧ E3 < 100 ∧ M = .error E3)))
        case first =>
          cases bt
          · go_wp2
            go_meet
            case rel =>
              refine ⟨E2, K3.out.1, K3.out.2.1, ?_⟩
              rcases K3.out.2.2.1 with ⟨k1, k2, k3, k4, k5⟩ | ⟨k1, k2⟩
              · have hs : n + m = 65535 := by simpa using HT.out
                refine .inl ⟨k1, ?_, k5⟩
                rw [H.out.2.2.2.2.2 k2, ← k3, ← k4, if_pos hs]
              · exact .inr ⟨by omega, by omega, by rw [k1]; exact H.out.2.2.2.2.1 k2⟩
          · go_wp2_with (go_at_call 25; refine K3.out.2.2.2.mono ?_; rintro e w4 ⟨rfl, S4, f4⟩; have K4 := Lib.hid (And.intro S4 f4); clear S4 f4)
            go_meet
            case rel =>
              have hs : n + m ≠ 65535 := by simpa using HT.out
              refine ⟨_, K4.out.1, K3.out.2.1.trans (K4.out.2.mono (by simp)), .inr ?_⟩
              rcases K3.out.2.2.1 with ⟨k1, k2, k3, k4, k5⟩ | ⟨k1, k2⟩
              · rw [if_pos k1]
                refine ⟨by decide, by decide, ?_⟩
                rw [H.out.2.2.2.2.2 k2, ← k3, ← k4, if_neg hs]
              · rw [if_neg (by omega), k1]
                exact ⟨by decide, by decide, H.out.2.2.2.2.1 k2⟩
        case rest =>
          obtain ⟨E3, s4, f4, hE3⟩ := hcut
          have K4 := Lib.hid (And.intro s4 (And.intro f4 hE3))
          obtain ⟨w4, hw4⟩ : ∃ w4, w4 = wc := ⟨_, rfl⟩
          rw [← hw4] at K4 ⊢
          clear s4 f4 hE3 hw4 K3
          go_wp2
          go_loopg [4, 5] n (fun k s4 s5 wr => ∃ (i : Nat) (a4 : Nat) (out1 : List UInt8) (oa1 : Option Addr) (oc1 E4 : Nat), s4 = .int .i64 (i : Nat) ∧ i + k = n ∧ Sw wr R p F bs a4 out1 oa1 oc1 most E4 ∧ Way w4 R p oa wr oa1 ∧
            ((E4 = 0 ∧ M = ibytes bs most k out1 (q + 4 + i) ∧ a4 = 8 * (q + 4 + i)) ∨ (E4 ≠ 0 ∧ E4 < 100 ∧ M = .error E4)))
          case atStart => exact ⟨0, a2, out, oa, oc, E3, rfl, by omega, K4.out.1, .refl _ _ _ _, K4.out.2.2⟩
          case round =>
            obtain ⟨i, a4, out1, oa1, oc1, E4, rfl, hik, hst, hway, hcs⟩ := hrel
            have c3 := cell_of hst.box 3
            simp only [List.getElem?_toArray, List.getElem?_cons_zero, List.getElem?_cons_succ] at c3
            have hW := (Way.ofRp _ _ _ _ _ K4.out.2.1).trans hway
            by_cases hi : i < n
            · by_cases h0 : E4 = 0
              · subst h0
                obtain ⟨k, rfl⟩ : ∃ k, gk = k + 1 := ⟨gk - 1, by omega⟩
                obtain ⟨hib, rfl⟩ : M = ibytes bs most (k + 1) out1 (q + 4 + i) ∧ a4 = 8 * (q + 4 + i) := by
                  rcases hcs with ⟨_, k⟩ | ⟨k, _⟩
                  · exact k
                  · exact absurd rfl k
                have htk := rtake_any R p F bs out1 (8 * (q + 4 + i)) oc1 most 8 oa1 wr hst (by decide)
                have HJ := Lib.hid (And.intro hst (And.intro hway (And.intro hib (And.intro htk hik))))
                clear hst hway hcs hib htk hW
                go_upto_region 9 with (go_at_call 20; refine HJ.out.2.2.2.1.mono ?_; rintro e w5 (⟨a5, hm, rfl, s5, f5⟩ | ⟨v, a5, hm, rfl, s5, f5⟩))
                · have c3 := cell_of s5.box 3
                  simp only [List.getElem?_toArray, List.getElem?_cons_zero, List.getElem?_cons_succ] at c3
                  have K5 := Lib.hid (And.intro hm (And.intro s5 f5))
                  clear hm s5 f5
                  go_wp2
                  go_roundg k
                  case measure => have := HJ.out.2.2.2.2; omega
                  case rel =>
                    obtain ⟨j1, j2, j3, j4, j5⟩ := HJ.out
                    refine ⟨i + 1, a5, out1, oa1, oc1, 4, by go_num, by omega, K5.out.2.1, j2.trans (Way.ofRp _ _ _ _ _ K5.out.2.2), .inr ⟨by decide, by decide, ?_⟩⟩
                    rw [j3, ibytes, if_neg]
                    intro hq
                    have := K5.out.1
                    rw [take_b1 hq] at this
                    cases this
                · have c3 := cell_of s5.box 3
                  simp only [List.getElem?_toArray, List.getElem?_cons_zero, List.getElem?_cons_succ] at c3
                  have hql : q + 4 + i < bs.length := by
                    rcases Nat.lt_or_ge (q + 4 + i) bs.length with k | k
                    · exact k
                    · rw [take_torn (by omega)] at hm
                      cases hm
                  have hm2 := hm
                  rw [take_b1 hql] at hm2
                  simp only [Except.ok.injEq, Prod.mk.injEq] at hm2
                  obtain ⟨hv, rfl⟩ := hm2
                  have hvb : v < 256 := by rw [← hv]; exact byteAt_lt _ _
                  have hvu : UInt8.ofNat v = bs[q + 4 + i]?.getD 0 := by
                    rw [← hv]
                    unfold byteAt
                    exact UInt8.ofNat_toNat
                  have hpt := rput_n R p F bs out1 (8 * (q + 4 + i + 1)) oc1 most v oa1 w5 s5 hvb
                  rw [hvu] at hpt
                  have hpu := Lib.hid hvu
                  have K5 := Lib.hid (And.intro hpt (And.intro f5 hql))
                  clear hm s5 f5 hv hvu hpt hql
                  go_wp2_with (go_at_call 46; refine K5.out.1.mono ?_; rintro e w6 ⟨rfl, h6⟩; have K6 := Lib.hid h6; clear h6)
                  go_roundg k
                  case measure => have := HJ.out.2.2.2.2; omega
                  case rel =>
                    obtain ⟨j1, j2, j3, j4, j5⟩ := HJ.out
                    obtain ⟨a6, o6, oa6, oc6, E6, s6, y6, h6⟩ := K6.out
                    refine ⟨i + 1, a6, o6, oa6, oc6, E6, by go_num, by omega, s6, j2.trans ((Way.ofRp _ _ _ _ _ K5.out.2.1).trans y6), ?_⟩
                    have hib := j3
                    rw [ibytes, if_pos K5.out.2.2] at hib
                    rcases h6 with ⟨k1, k2, k3⟩ | ⟨k1, k2⟩
                    · exact .inr ⟨by omega, k3, by rw [hib, map_err k1]⟩
                    · obtain ⟨q1, q2⟩ := map_ok k1
                      rw [q1] at hib
                      exact .inl ⟨k2, hib, q2⟩
              · have d0 : ((E4 : Int) == 0) = false := by simp; omega
                have hM3 : M = .error E4 ∧ E4 < 100 := by
                  rcases hcs with ⟨k1, _⟩ | ⟨k1, k2, k3⟩
                  · exact absurd k1 h0
                  · exact ⟨k3, k2⟩
                have HFin : Go.RowKit.Hid (RetW w R p F bs oa most M wr) := Lib.hid ⟨a4, out1, oa1, oc1, E4, hst, hW, .inl ⟨hM3.1, by omega, hM3.2⟩⟩
                clear hst hway hcs hM3 h0 hW
                go_wp2
                refine bodyPost_end (results_none rfl _ _ _) rfl ?_
                exact ⟨rfl, HFin.out⟩
            · obtain rfl : i = n := by omega
              obtain rfl : gk = 0 := by omega
              have HFin : Go.RowKit.Hid (RetW w R p F bs oa most M wr) := Lib.hid ⟨a4, out1, oa1, oc1, E4, hst, hW, by
                rcases hcs with ⟨k1, k2, k3⟩ | ⟨k1, k2, k3⟩
                · exact .inr ⟨by rw [k2, ibytes, k3], k1⟩
                · exact .inl ⟨k3, by omega, k2⟩⟩
              clear hst hway hcs hW
              go_wp2
              refine bodyPost_end (results_none rfl _ _ _) rfl ?_
              exact ⟨rfl, HFin.out⟩
end Go.Proofs.YtolkoidbkaidkaaGreat.inf
/-
  The document's inflate: the fixed codes.
-/
namespace Go.Proofs.YtolkoidbkaidkaaGreat.inf
open Go Go.RowKit Go.Proofs.YtolkoidbkaidkaaGreat.lib Go.Proofs.YtolkoidbkaidkaaGreat.bm Go.Proofs.YtolkoidbkaidkaaGreat.bl Go.Proofs.YtolkoidbkaidkaaGreat.huf

theorem fixed_succ (n : Nat) : fixed (n + 1) = fixed n ++ [ifix n] := by unfold fixed; rw [List.range_succ, List.map_append]; rfl
theorem ints_snoc (a b : List Nat) : ints (a ++ b) = ints a ++ ints b := by simp [ints]
def RFixedGood (w : World) (e : Ending) (w' : World) : Prop :=
  ∃ a1 c1 a2 c2, e = .returned (.tuple #[.slice a1 288 c1, .slice a2 32 c2]) ∧ Made w w' 3 1 a1 288 c1 (ints (fixed 288)) ∧ Made w w' 3 1 a2 32 c2 (ints (List.replicate 32 5))
set_option maxRecDepth 100000 in
set_option maxHeartbeats 4000000 in
theorem rfixed_any (w : World) : Calls Tryz.prog 22 #[] w (RFixedGood w) := by
  go_enter Tryz.func22, Tryz.ntmps22
  go_wp2
  go_loopg [2, 4, 5] 288 (fun k s2 s4 s5 wr => ∃ (i : Nat) (ao : Option Addr) (cp : Nat), s4 = .int .i64 (i : Nat) ∧ s2 = .slice ao i cp ∧ i + k = 288 ∧ Made w wr 3 1 ao i cp (ints (fixed i)))
  case atStart => exact ⟨0, none, 0, rfl, rfl, rfl, .none w _ _⟩
  case round =>
    obtain ⟨i, ao, cp, rfl, rfl, hik, hm⟩ := hrel
    have HI := Lib.hid (And.intro hm hik)
    clear hm
    by_cases hi : i < 288
    · obtain ⟨k, rfl⟩ : ∃ k, gk = k + 1 := ⟨gk - 1, by omega⟩
      clear hik
      by_cases h1 : i < 144
      · go_wp2_with (refine wpList_append sty_int rfl _ _ rfl (.slice ao i cp) i (ints (fixed i)) (blk ao) rfl (own_blk ao i cp) (HI.out.1.fr2 ((Fr.refl [] _).alloc _)).own (some ⟨wr.heap.size, 0, none⟩) 1 1 [.int .i64 (8 : Nat)] (by first | rfl | simp) (Nat.le_refl _) (fun h => by cases h) (cs_one _ _ _ _ (alloc_at _ _)) rfl (by intro u hu; simp only [List.mem_singleton] at hu; rw [hu]; rfl) (by omega) (by unfold maxLen; omega) ?_; intro ao2 cp2 w2 hap; have HA := Lib.hid ((HI.out.1.fr2 ((Fr.refl [] _).alloc _)).app hap); clear hap)
        go_roundg k
        case measure => omega
        case rel =>
          refine ⟨i + 1, ao2, cp2, by go_num, rfl, by have := HI.out.2; omega, ?_⟩
          have hA3 := HA.out
          rw [fixed_succ, ints_snoc, ifix_1 h1]
          exact hA3
      · by_cases h2 : i < 256
        · have h4 : ¬ 280 ≤ i := by omega
          go_wp2_with (refine wpList_append sty_int rfl _ _ rfl (.slice ao i cp) i (ints (fixed i)) (blk ao) rfl (own_blk ao i cp) (HI.out.1.fr2 ((Fr.refl [] _).alloc _)).own (some ⟨wr.heap.size, 0, none⟩) 1 1 [.int .i64 (9 : Nat)] (by first | rfl | simp) (Nat.le_refl _) (fun h => by cases h) (cs_one _ _ _ _ (alloc_at _ _)) rfl (by intro u hu; simp only [List.mem_singleton] at hu; rw [hu]; rfl) (by omega) (by unfold maxLen; omega) ?_; intro ao2 cp2 w2 hap; have HA := Lib.hid ((HI.out.1.fr2 ((Fr.refl [] _).alloc _)).app hap); clear hap)
          go_roundg k
          case measure => omega
          case rel =>
            refine ⟨i + 1, ao2, cp2, by go_num, rfl, by have := HI.out.2; omega, ?_⟩
            have hA3 := HA.out
            rw [fixed_succ, ints_snoc, ifix_2 h1 h2]
            exact hA3
        · by_cases h3 : i < 280
          · have h4 : ¬ 280 ≤ i := by omega
            go_wp2_with (refine wpList_append sty_int rfl _ _ rfl (.slice ao i cp) i (ints (fixed i)) (blk ao) rfl (own_blk ao i cp) (HI.out.1.fr2 ((Fr.refl [] _).alloc _)).own (some ⟨wr.heap.size, 0, none⟩) 1 1 [.int .i64 (7 : Nat)] (by first | rfl | simp) (Nat.le_refl _) (fun h => by cases h) (cs_one _ _ _ _ (alloc_at _ _)) rfl (by intro u hu; simp only [List.mem_singleton] at hu; rw [hu]; rfl) (by omega) (by unfold maxLen; omega) ?_; intro ao2 cp2 w2 hap; have HA := Lib.hid ((HI.out.1.fr2 ((Fr.refl [] _).alloc _)).app hap); clear hap)
            go_roundg k
            case measure => omega
            case rel =>
              refine ⟨i + 1, ao2, cp2, by go_num, rfl, by have := HI.out.2; omega, ?_⟩
              have hA3 := HA.out
              rw [fixed_succ, ints_snoc, ifix_3 h1 h2 h3]
              exact hA3
          · have h4 : 280 ≤ i := by omega
            go_wp2_with (refine wpList_append sty_int rfl _ _ rfl (.slice ao i cp) i (ints (fixed i)) (blk ao) rfl (own_blk ao i cp) (HI.out.1.fr2 ((Fr.refl [] _).alloc _)).own (some ⟨wr.heap.size, 0, none⟩) 1 1 [.int .i64 (8 : Nat)] (by first | rfl | simp) (Nat.le_refl _) (fun h => by cases h) (cs_one _ _ _ _ (alloc_at _ _)) rfl (by intro u hu; simp only [List.mem_singleton] at hu; rw [hu]; rfl) (by omega) (by unfold maxLen; omega) ?_; intro ao2 cp2 w2 hap; have HA := Lib.hid ((HI.out.1.fr2 ((Fr.refl [] _).alloc _)).app hap); clear hap)
            go_roundg k
            case measure => omega
            case rel =>
              refine ⟨i + 1, ao2, cp2, by go_num, rfl, by have := HI.out.2; omega, ?_⟩
              have hA3 := HA.out
              rw [fixed_succ, ints_snoc, ifix_4 h1 h2 h3]
              exact hA3
    · obtain rfl : i = 288 := by omega
      clear hik
      obtain ⟨wo, rfl⟩ : ∃ wo : World, wo = wr := ⟨_, rfl⟩
      go_wp2
      go_loopg [3, 6] 32 (fun k s3 s6 wr => ∃ (j : Nat) (a2 : Option Addr) (c2 : Nat), s6 = .int .i64 (j : Nat) ∧ s3 = .slice a2 j c2 ∧ j + k = 32 ∧ Made wo wr 3 1 a2 j c2 (ints (List.replicate j 5)))
      case atStart => exact ⟨0, none, 0, rfl, rfl, rfl, .none wo _ _⟩
      case round =>
        obtain ⟨j, a2, c2, rfl, rfl, hjk, hm⟩ := hrel
        have HJ := Lib.hid (And.intro hm hjk)
        clear hm
        by_cases hj : j < 32
        · obtain ⟨k, rfl⟩ : ∃ k, gk = k + 1 := ⟨gk - 1, by omega⟩
          clear hjk
          go_wp2_with (refine wpList_append sty_int rfl _ _ rfl (.slice a2 j c2) j (ints (List.replicate j 5)) (blk a2) rfl (own_blk a2 j c2) (HJ.out.1.fr2 ((Fr.refl [] _).alloc _)).own (some ⟨wr.heap.size, 0, none⟩) 1 1 [.int .i64 (5 : Nat)] (by first | rfl | simp) (Nat.le_refl _) (fun h => by cases h) (cs_one _ _ _ _ (alloc_at _ _)) rfl (by intro u hu; simp only [List.mem_singleton] at hu; rw [hu]; rfl) (by omega) (by unfold maxLen; omega) ?_; intro ao2 cp2 w2 hap; have HA := Lib.hid ((HJ.out.1.fr2 ((Fr.refl [] _).alloc _)).app hap); clear hap)
          go_roundg k
          case measure => omega
          case rel =>
            refine ⟨j + 1, ao2, cp2, by go_num, rfl, by have := HJ.out.2; omega, ?_⟩
            have hA3 := HA.out
            rw [List.replicate_succ', ints_snoc]
            exact hA3
        · obtain rfl : j = 32 := by omega
          clear hjk
          go_wp2
          go_ret2
          exact ⟨ao, cp, a2, c2, rfl, HI.out.1.fr2 HJ.out.1.fr, HJ.out.1.pre HI.out.1.fr⟩
end Go.Proofs.YtolkoidbkaidkaaGreat.inf
/-
  The document's inflate: single; a length, or some (repeat).
-/
namespace Go.Proofs.YtolkoidbkaidkaaGreat.inf
open Go Go.RowKit Go.Proofs.YtolkoidbkaidkaaGreat.lib Go.Proofs.YtolkoidbkaidkaaGreat.bm Go.Proofs.YtolkoidbkaidkaaGreat.bl Go.Proofs.YtolkoidbkaidkaaGreat.huf

set_option maxRecDepth 100000 in
set_option maxHeartbeats 2000000 in
theorem single_any (a : Option Addr) (cap : Nat) (ls : List Nat) (w : World) (h : Ri w a cap ls) (hle : ∀ l ∈ ls, l ≤ 15) (hlen : ls.length ≤ 400) :
    Calls Tryz.prog 51 #[.slice a ls.length cap] w fun e w' => e = .returned (.bool (decide (some_ ls < 2) && ones ls)) ∧ w = w' := by
  obtain ⟨L, hL⟩ : ∃ L, L = ls.length := ⟨_, rfl⟩
  obtain ⟨rv, hrv⟩ : ∃ rv, rv = (decide (some_ ls < 2) && ones ls) := ⟨_, rfl⟩
  rw [← hL] at hlen ⊢
  rw [← hrv]
  have H := Lib.hid (And.intro h (And.intro hle (And.intro hL hrv)))
  clear h hle hL hrv
  go_enter Tryz.func51, Tryz.ntmps51
  go_wp2
  go_loopg [3, 4] L (fun k s3 s4 wr => ∃ i : Nat, s4 = .int .i64 (i : Nat) ∧ s3 = .int .i64 (some_ (ls.take i) : Nat) ∧ i + k = L ∧ ones (ls.take i) = true ∧ w = wr)
  case atStart => exact ⟨0, rfl, rfl, by omega, rfl, rfl⟩
  case round =>
    obtain ⟨i, rfl, rfl, hik, hon, rfl⟩ := hrel
    have hsl := some_le (ls.take i)
    rw [List.length_take] at hsl
    by_cases hi : i < L
    · obtain ⟨k, rfl⟩ : ∃ k, gk = k + 1 := ⟨gk - 1, by omega⟩
      have hil : i < ls.length := by rw [← H.out.2.2.1]; exact hi
      obtain ⟨g, o, rfl, hc⟩ := H.out.1.at hil
      have h15 := H.out.2.1 _ (List.getElem_mem hil)
      have hs1 := some_snoc (ls.take i) ls[i]
      have ho1 := ones_snoc (ls.take i) ls[i]
      rw [← List.take_succ_eq_append_getElem hil] at hs1 ho1
      have hall : 1 < ls[i] → ones ls = false := fun h => by
        unfold ones
        refine List.all_eq_false.2 ⟨ls[i], List.getElem_mem hil, ?_⟩
        simp
        omega
      generalize ls[i] = x at *
      generalize hA : some_ (ls.take i) = A at *
      have HE := Lib.hid (And.intro hs1 (And.intro ho1 (And.intro hall (And.intro hon hik))))
      clear hs1 ho1 hall hon hA hik
      by_cases h1 : 1 < x
      · have d1 : decide ((1 : Int) < x) = true := by simp; omega
        have hr : rv = false := by rw [H.out.2.2.2, HE.out.2.2.1 h1, Bool.and_false]
        subst hr
        go_wp2
        go_ret
        exact ⟨rfl, rfl⟩
      · have d1 : decide ((1 : Int) < x) = false := by simp; omega
        have hb : A ≤ 400 := by omega
        go_wp2
        go_roundg k
        case measure => omega
        case rel =>
          obtain ⟨k1, k2, k3, k4, k5⟩ := HE.out
          refine ⟨i + 1, by go_num, ?_, by omega, by rw [k2, k4]; simp; omega, rfl⟩
          rw [k1]
          by_cases hx : 0 < x
          · rw [if_pos hx, show x = 1 by omega]
            go_num
          · rw [if_neg hx, show x = 0 by omega]
            go_num
    · obtain rfl : i = L := by omega
      have ht : ls.take i = ls := List.take_of_length_le (by rw [← H.out.2.2.1]; exact Nat.le_refl _)
      rw [ht] at hon hsl ⊢
      have hr : rv = decide (some_ ls < 2) := by rw [H.out.2.2.2, hon, Bool.and_true]
      have hR := Lib.hid hr
      generalize some_ ls = A at *
      clear hr hon ht
      go_wp2
      go_ret
      refine ⟨ret_eq (bool_eq ?_), rfl⟩
      rw [hR.out]
      first
        | rfl
        | (rw [Bool.eq_iff_iff]; simp; omega)
        | simp
/-- One step of ilens. -/
def irep (bs : List UInt8) (ls : List Nat) (n : Nat) (out : List Nat) (a : Nat) : Except Nat (List Nat × Nat) :=
  match isym bs ls a with
  | .error e => .error e
  | .ok (s, a1) => if s < 16 then .ok (out ++ [s], a1) else
    match itake bs a1 (wide s) with
    | .error e => .error e
    | .ok (v, a2) => if (s = 16 ∧ out = []) ∨ n - out.length < least s + v then .error 3 else
      .ok (out ++ List.replicate (least s + v) (if s = 16 then out.getLast?.getD 0 else 0), a2)
theorem ilens_by (bs : List UInt8) (ls : List Nat) (n f : Nat) (out : List Nat) (a : Nat) : ilens bs ls n (f + 1) out a = if n ≤ out.length then .ok (out, a) else match irep bs ls n out a with | .error e => .error e | .ok (o, a1) => ilens bs ls n f o a1 := by
  rw [ilens]
  unfold irep
  split
  · rfl
  · cases isym bs ls a with
    | error e => rfl
    | ok x =>
      obtain ⟨s, a1⟩ := x
      dsimp only
      split
      · rfl
      · cases itake bs a1 (wide s) with
        | error e => rfl
        | ok y =>
          obtain ⟨v, a2⟩ := y
          dsimp only
          split
          · rfl
          · rfl
/-- The growing list: a box B that holds it; it and its cells lie behind K. -/
structure Ll (K : Nat) (w : World) (B : Nat) (la : Option Addr) (lc : Nat) (L : List Nat) : Prop where
  box : w.heap[B]? = some (.cells #[.slice la L.length lc] 35 (0, 0))
  own : w.ownsRow 0 3 1 (.slice la L.length lc) L.length (ints L)
  bK : K ≤ B
  new : ∀ x ∈ blk la, K ≤ x ∧ x ≠ B
theorem Ll.fr {K : Nat} {S : List Nat} {w w' : World} {B : Nat} {la : Option Addr} {lc : Nat} {L : List Nat} (h : Ll K w B la lc L) (f : Fr S w w') (hS : ∀ x ∈ S, x < K) : Ll K w' B la lc L := by
  refine ⟨f.blk h.box (fun hx => ?_), ownsRow_fr h.own f (fun k hk hx => ?_), h.bK, h.new⟩
  · have := hS _ hx; have := h.bK; omega
  · have hk2 : k ∈ blk la := by rw [← own_blk la L.length lc, hk]; simp
    have := hS _ hx
    have := (h.new k hk2).1
    omega
theorem Ll.app {K : Nat} {w1 w2 : World} {B n : Nat} {la ao2 : Option Addr} {lc cp2 v : Nat} {L : List Nat} {o : Obj} (h : Ll K w1 B la lc L) (hn : n = L.length) (hK : K ≤ w1.heap.size)
    (A : Appended (w1.alloc o) w2 3 1 (blk la) ao2 (n + 1) cp2 (ints L ++ [.int .i64 (v : Nat)])) :
    Ll K (w2.setCell ⟨B, 0, none⟩ (.slice ao2 (n + 1) cp2)) B ao2 cp2 (L ++ [v]) ∧ Fr (B :: blk la) w1 (w2.setCell ⟨B, 0, none⟩ (.slice ao2 (n + 1) cp2)) ∧ ∀ x ∈ blk ao2, x ∈ blk la ∨ w1.heap.size ≤ x := by
  have f2 : Fr (blk la) w1 w2 := ((Fr.refl _ w1).alloc _).trans A.fr
  have fB : Fr [B] w2 (w2.setCell ⟨B, 0, none⟩ (.slice ao2 (n + 1) cp2)) := (Fr.refl [B] w2).setCell (by simp) _
  have hB1 : B ∉ blk la := fun hx => (h.new B hx).2 rfl
  have b2 := f2.blk h.box hB1
  have hBw : B < w1.heap.size := lt_of_block h.box
  have hB2 : B ∉ blk ao2 := fun hx => by
    rcases A.at_ B hx with k | k
    · exact hB1 k
    · rw [World.size_alloc] at k; omega
  have e : (L ++ [v]).length = n + 1 := by rw [hn]; simp
  refine ⟨⟨?_, ?_, h.bK, fun x hx => ?_⟩, ?_, fun x hx => ?_⟩
  · rw [setCell_of b2, e]; rfl
  · rw [e, ints_snoc]
    exact ownsRow_fr A.own fB (fun k hk => by
      have hk2 : k ∈ blk ao2 := by rw [← own_blk ao2 (n + 1) cp2, hk]; simp
      simp
      rintro rfl
      exact hB2 hk2)
  · refine ⟨?_, fun he => hB2 (by rw [← he]; exact hx)⟩
    rcases A.at_ x hx with k | k
    · exact (h.new x k).1
    · rw [World.size_alloc] at k; omega
  · exact (f2.mono (fun x hx => .inl (by simp [hx]))).trans (fB.mono (by simp))
  · rcases A.at_ x hx with k | k
    · exact .inl k
    · rw [World.size_alloc] at k; exact .inr (by omega)
end Go.Proofs.YtolkoidbkaidkaaGreat.inf
/-
  The document's inflate: repeat.
-/
namespace Go.Proofs.YtolkoidbkaidkaaGreat.inf
open Go Go.RowKit Go.Proofs.YtolkoidbkaidkaaGreat.lib Go.Proofs.YtolkoidbkaidkaaGreat.bm Go.Proofs.YtolkoidbkaidkaaGreat.bl Go.Proofs.YtolkoidbkaidkaaGreat.huf

/-- What repeat leaves. -/
def RepR (K : Nat) (w : World) (R p : Nat) (F : List Nat) (bs out : List UInt8) (oa : Option Addr) (oc most B : Nat) (la : Option Addr) (m : Except Nat (List Nat × Nat)) (w' : World) : Prop :=
  ∃ a' la' lc' L' E, Sw w' R p F bs a' out oa oc most E ∧ Ll K w' B la' lc' L' ∧ Fr (R :: p :: B :: blk la) w w' ∧ (∀ x ∈ blk la', x ∈ blk la ∨ w.heap.size ≤ x) ∧ ((m = .error E ∧ 0 < E ∧ E < 100) ∨ (m = .ok (L', a') ∧ E = 0))
theorem last_at {L : List Nat} (h : L ≠ []) : L[L.length - 1]? = some (L.getLast?.getD 0) := by
  rw [List.getLast?_eq_getElem?]
  have : L.length - 1 < L.length := by have := List.length_pos_iff.2 h; omega
  rw [List.getElem?_eq_getElem this]
  rfl
theorem ints_length (l : List Nat) : (ints l).length = l.length := by simp [ints]
theorem isym19 {bs : List UInt8} {cl : List Nat} {a s a1 : Nat} (hc : cl.length = 19) (h : isym bs cl a = .ok (s, a1)) : s < 16 ∨ s = 16 ∨ s = 17 ∨ s = 18 := by
  have := (isym_lt h).1
  omega
set_option maxRecDepth 100000 in
set_option maxHeartbeats 8000000 in
theorem rrep_any (K R p : Nat) (F : List Nat) (bs out : List UInt8) (ca : Option Addr) (ccap : Nat) (cl : List Nat) (B : Nat) (la : Option Addr) (lc N : Nat) (L : List Nat) (at_ oc most : Nat) (oa : Option Addr) (w : World)
    (h : Sw w R p F bs at_ out oa oc most 0) (hc : Ld w ca ccap cl (R :: p :: blk oa)) (hcl : cl.length = 19) (hl : Ll K w B la lc L) (hR : R < K) (hF : ∀ x ∈ F, x < K) (ho : ∀ x ∈ blk oa, x < K) (hK : K ≤ w.heap.size) (hLN : L.length < N) (hN : N ≤ 400) :
    Calls Tryz.prog 50 #[.pointer (some ⟨R, 0, none⟩), .slice ca 19 ccap, .pointer (some ⟨B, 0, none⟩), .int .i64 (N : Nat)] w fun e w' => e = .returned (.tuple #[]) ∧ RepR K w R p F bs out oa oc most B la (irep bs cl N L at_) w' := by
  obtain ⟨M, hM⟩ : ∃ M, M = irep bs cl N L at_ := ⟨_, rfl⟩
  rw [← hM]
  have hpK : p < K := hF p h.pF.1
  have hsy := sym_any' R p F bs out at_ oc most oa ca ccap 19 cl w h hc hcl.symm
  obtain ⟨C, hC⟩ : ∃ C, C = L.length := ⟨_, rfl⟩
  rw [← hC] at hLN
  have H := Lib.hid (And.intro h (And.intro hl (And.intro hM (And.intro hsy (And.intro hcl (And.intro hC (And.intro (And.intro hR (And.intro hF (And.intro ho hpK))) hK)))))))
  clear h hc hcl hl hM hsy hC hR hF ho hK hpK
  have hRp : ∀ (w1 w2 : World), Fr [R, p] w1 w2 → ∀ la lc L, Ll K w1 B la lc L → Ll K w2 B la lc L := fun _ _ f _ _ _ l => l.fr f (fun x hx => by
    simp only [List.mem_cons, List.not_mem_nil, or_false] at hx
    rcases hx with rfl | rfl
    · exact H.out.2.2.2.2.2.2.1.1
    · exact H.out.2.2.2.2.2.2.1.2.2.2)
  have HRp := Lib.hid hRp
  clear hRp
  go_enter Tryz.func50, Tryz.ntmps50
  go_upto_region 1 with (go_at_call 47; refine H.out.2.2.2.1.mono ?_; rintro e w1 (⟨a1, c, hm, hc0, hc1, rfl, s1, f1⟩ | ⟨s, a1, hm, rfl, s1, f1⟩))
  · have c3 := cell_of s1.box 3
    simp only [List.getElem?_toArray, List.getElem?_cons_zero, List.getElem?_cons_succ] at c3
    have d3 : ((c : Int) != 0) = true := by simp; omega
    have hM1 : M = .error c := by rw [H.out.2.2.1]; unfold irep; rw [hm]
    have K1 := Lib.hid (And.intro hM1 (And.intro s1 f1))
    clear hm s1 f1 hM1
    go_wp2
    refine bodyPost_ret (results_none rfl _ _ _) rfl ?_
    exact ⟨rfl, a1, la, lc, L, c, K1.out.2.1, HRp.out _ _ K1.out.2.2 _ _ _ H.out.2.1, K1.out.2.2.mono (by simp), fun x hx => .inl hx, .inl ⟨K1.out.1, hc0, hc1⟩⟩
  · have c3 := cell_of s1.box 3
    simp only [List.getElem?_toArray, List.getElem?_cons_zero, List.getElem?_cons_succ] at c3
    have hs4 := isym19 H.out.2.2.2.2.1 hm
    have hsb : s < 400 := by rcases hs4 with k | k | k | k <;> omega
    have l1 := HRp.out _ _ f1 _ _ _ H.out.2.1
    have K1 := Lib.hid (And.intro hm (And.intro s1 (And.intro f1 l1)))
    have HS := Lib.hid hs4
    clear hm s1 f1 l1 hs4
    go_upto_block 0 with fail
    clear c3
    go_cut [9, 10] from 22 to 66 (fun s9 s10 wc => ∃ v n a2 E : Nat, s9 = .int .i64 (v : Nat) ∧ s10 = .int .i64 (n : Nat) ∧ Sw wc R p F bs a2 out oa oc most E ∧ Fr [R, p] w wc ∧ n ≤ 300 ∧ ((E = 0 ∧ M = if N - C < n then .error 3 else .ok (L ++ List.replicate n v, a2)) ∨ (E ≠ 0 ∧ E < 100 ∧ M = .error E)))
    case first =>
      rcases HS.out with hs | rfl | rfl | rfl
      · have d16 : ((s : Int) == 16) = false := by simp; omega
        have d17 : ((s : Int) == 17) = false := by simp; omega
        have d18 : ((s : Int) == 18) = false := by simp; omega
        have H16 := Lib.hid hs
        clear hs
        go_wp2
        go_meet
        case rel =>
          refine ⟨s, 1, a1, 0, rfl, rfl, K1.out.2.1, K1.out.2.2.1, by decide, .inl ⟨rfl, ?_⟩⟩
          rw [if_neg (by omega), H.out.2.2.1]
          unfold irep
          rw [K1.out.1]
          dsimp only
          rw [if_pos H16.out]
          rfl
      · have htk := Lib.hid (rtake_any R p F bs out a1 oc most 2 oa w1 K1.out.2.1 (by decide))
        go_upto_region 7 with (go_at_call 20; refine htk.out.mono ?_; rintro e w2 (⟨a2, hm, rfl, s2, f2⟩ | ⟨v, a2, hm, rfl, s2, f2⟩))
        · have c3 := cell_of s2.box 3
          simp only [List.getElem?_toArray, List.getElem?_cons_zero, List.getElem?_cons_succ] at c3
          have K2 := Lib.hid (And.intro hm (And.intro s2 f2))
          clear hm s2 f2
          go_wp2
          go_meet
          case rel =>
            refine ⟨16, 3, a2, 4, rfl, rfl, K2.out.2.1, K1.out.2.2.1.trans K2.out.2.2, by decide, .inr ⟨by decide, by decide, ?_⟩⟩
            rw [H.out.2.2.1]
            unfold irep
            rw [K1.out.1]
            dsimp only
            rw [if_neg (by decide), show wide 16 = 2 from rfl, K2.out.1]
        · have hv := itake_lt hm
          have hvb : v < 4 := hv
          have ew : wrap64 ((v : Int) + 3) = ((v + 3 : Nat) : Int) := by unfold wrap64; omega
          rw [ew]
          have l2 := HRp.out _ _ f2 _ _ _ K1.out.2.2.2
          have c3 := cell_of s2.box 3
          have cB := cell_of l2.box 0
          simp only [List.getElem?_toArray, List.getElem?_cons_zero, List.getElem?_cons_succ] at c3 cB
          rw [← H.out.2.2.2.2.2.1] at cB
          have hM2 : M = if (L = []) ∨ N - C < v + 3 then .error 3 else .ok (L ++ List.replicate (v + 3) (L.getLast?.getD 0), a2) := by
            rw [H.out.2.2.1]
            unfold irep
            rw [K1.out.1]
            dsimp only
            rw [if_neg (by decide), show wide 16 = 2 from rfl, hm]
            dsimp only
            rw [if_pos rfl, ← H.out.2.2.2.2.2.1, show least 16 = 3 from rfl, Nat.add_comm 3 v]
            simp only [true_and]
          have hfl := fail_any R p F bs out a2 oc most 0 3 oa w2 s2
          have K2 := Lib.hid (And.intro hM2 (And.intro s2 (And.intro f2 (And.intro l2 hfl))))
          clear hm s2 f2 hv ew l2 hM2 hfl
          by_cases hc0 : C = 0
          · have hL0 : L = [] := List.eq_nil_of_length_eq_zero (by rw [← H.out.2.2.2.2.2.1]; exact hc0)
            have HL0 := Lib.hid hL0
            have d0 : ((C : Int) == 0) = true := by simp; omega
            have HC0 := Lib.hid hc0
            clear hL0 hc0
            go_upto_region 9 with (go_at_call 25; refine K2.out.2.2.2.2.mono ?_; rintro e w3 ⟨rfl, S3, f3⟩)
            have s3 : Sw w3 R p F bs a2 out oa oc most 3 := S3
            clear S3 c3
            have c3 := cell_of s3.box 3
            simp only [List.getElem?_toArray, List.getElem?_cons_zero, List.getElem?_cons_succ] at c3
            have K3 := Lib.hid (And.intro s3 f3)
            clear s3 f3 cB d0
            go_wp2
            go_meet
            case rel => exact ⟨16, v + 3, a2, 3, rfl, by first | rfl | go_num, K3.out.1, K1.out.2.2.1.trans (K2.out.2.2.1.trans (K3.out.2.mono (by simp))), by omega, .inr ⟨by decide, by decide, by rw [K2.out.1, if_pos (.inl HL0.out)]⟩⟩
          · have d0 : ((C : Int) == 0) = false := by simp; omega
            have hLn : L ≠ [] := fun h => hc0 (by rw [H.out.2.2.2.2.2.1, h]; rfl)
            have hlst := last_at hLn
            rw [← H.out.2.2.2.2.2.1] at hlst
            obtain ⟨g, o, rfl, hcs⟩ := (cs_of_owns K2.out.2.2.2.1.own).at (by rw [ints_length, ← H.out.2.2.2.2.2.1]; omega)
            obtain ⟨x, hx⟩ : ∃ x, x = L.getLast?.getD 0 := ⟨_, rfl⟩
            have hcx := hcs (C - 1) (.int .i64 (x : Nat)) (by unfold ints; rw [List.getElem?_map, hlst, hx]; rfl)
            obtain ⟨C1, hC1⟩ : ∃ C1, C = C1 + 1 := ⟨C - 1, by omega⟩
            have eC : C - 1 = C1 := by omega
            rw [eC] at hcx
            have eC2 : (C : Int) - 1 = (C1 : Int) := by omega
            have eC3 : wrap64 ((C : Int) - 1) = (C1 : Int) := by unfold wrap64; omega
            have hC1b : C1 < C := by omega
            have HX := Lib.hid (And.intro hx hLn)
            have HC1 := Lib.hid hC1
            clear hx hLn hlst hcs hC1 eC
            go_upto_region 10 with fail
            go_quiet (fail)
            go_wp2
            go_meet
            case rel =>
              refine ⟨x, v + 3, a2, 0, rfl, rfl, K2.out.2.1.fr0 (Fr.drewN _ _ _), K1.out.2.2.1.trans (K2.out.2.2.1.trans (Fr.drewN _ _ _)), by omega, .inl ⟨rfl, ?_⟩⟩
              rw [K2.out.1, ← HX.out.1]
              by_cases hc : N - C < v + 3
              · rw [if_pos (.inr hc), if_pos hc]
              · rw [if_neg (fun h => h.elim HX.out.2 hc), if_neg hc]
      · have htk := Lib.hid (rtake_any R p F bs out a1 oc most 3 oa w1 K1.out.2.1 (by decide))
        go_upto_region 13 with (go_at_call 20; refine htk.out.mono ?_; rintro e w2 (⟨a2, hm, rfl, s2, f2⟩ | ⟨v, a2, hm, rfl, s2, f2⟩))
        · have K2 := Lib.hid (And.intro hm (And.intro s2 f2))
          clear hm s2 f2
          go_wp2
          go_meet
          case rel =>
            refine ⟨0, 3, a2, 4, rfl, rfl, K2.out.2.1, K1.out.2.2.1.trans K2.out.2.2, by decide, .inr ⟨by decide, by decide, ?_⟩⟩
            rw [H.out.2.2.1]
            unfold irep
            rw [K1.out.1]
            dsimp only
            rw [if_neg (by decide), show wide 17 = 3 from rfl, K2.out.1]
        · have hv := itake_lt hm
          have hvb : v < 8 := hv
          have ew : wrap64 ((v : Int) + 3) = ((v + 3 : Nat) : Int) := by unfold wrap64; omega
          rw [ew]
          have K2 := Lib.hid (And.intro hm (And.intro s2 f2))
          clear hm s2 f2 hv ew
          go_wp2
          go_meet
          case rel =>
            refine ⟨0, v + 3, a2, 0, rfl, rfl, K2.out.2.1, K1.out.2.2.1.trans K2.out.2.2, by omega, .inl ⟨rfl, ?_⟩⟩
            rw [H.out.2.2.1]
            unfold irep
            rw [K1.out.1]
            dsimp only
            rw [if_neg (by decide), show wide 17 = 3 from rfl, K2.out.1]
            dsimp only
            rw [if_neg (show ¬ 17 = 16 by decide), ← H.out.2.2.2.2.2.1, show least 17 = 3 from rfl, Nat.add_comm 3 v]
            by_cases hc : N - C < v + 3
            · rw [if_pos (.inr hc), if_pos hc]
            · rw [if_neg (fun h => h.elim (fun k => absurd k.1 (by decide)) hc), if_neg hc]
      · have htk := Lib.hid (rtake_any R p F bs out a1 oc most 7 oa w1 K1.out.2.1 (by decide))
        go_upto_region 16 with (go_at_call 20; refine htk.out.mono ?_; rintro e w2 (⟨a2, hm, rfl, s2, f2⟩ | ⟨v, a2, hm, rfl, s2, f2⟩))
        · have K2 := Lib.hid (And.intro hm (And.intro s2 f2))
          clear hm s2 f2
          go_wp2
          go_meet
          case rel =>
            refine ⟨0, 11, a2, 4, rfl, rfl, K2.out.2.1, K1.out.2.2.1.trans K2.out.2.2, by decide, .inr ⟨by decide, by decide, ?_⟩⟩
            rw [H.out.2.2.1]
            unfold irep
            rw [K1.out.1]
            dsimp only
            rw [if_neg (by decide), show wide 18 = 7 from rfl, K2.out.1]
        · have hv := itake_lt hm
          have hvb : v < 128 := hv
          have ew : wrap64 ((v : Int) + 11) = ((v + 11 : Nat) : Int) := by unfold wrap64; omega
          rw [ew]
          have K2 := Lib.hid (And.intro hm (And.intro s2 f2))
          clear hm s2 f2 hv ew
          go_wp2
          go_meet
          case rel =>
            refine ⟨0, v + 11, a2, 0, rfl, rfl, K2.out.2.1, K1.out.2.2.1.trans K2.out.2.2, by omega, .inl ⟨rfl, ?_⟩⟩
            rw [H.out.2.2.1]
            unfold irep
            rw [K1.out.1]
            dsimp only
            rw [if_neg (by decide), show wide 18 = 7 from rfl, K2.out.1]
            dsimp only
            rw [if_neg (show ¬ 18 = 16 by decide), ← H.out.2.2.2.2.2.1, show least 18 = 11 from rfl, Nat.add_comm 11 v]
            by_cases hc : N - C < v + 11
            · rw [if_pos (.inr hc), if_pos hc]
            · rw [if_neg (fun h => h.elim (fun k => absurd k.1 (by decide)) hc), if_neg hc]
    case rest =>
      obtain ⟨v, n, a2, E, rfl, rfl, s2, f2, hnb, hE⟩ := hcut
      have l2 := HRp.out _ _ f2 _ _ _ H.out.2.1
      have c3 := cell_of s2.box 3
      have cB := cell_of l2.box 0
      simp only [List.getElem?_toArray, List.getElem?_cons_zero, List.getElem?_cons_succ] at c3 cB
      rw [← H.out.2.2.2.2.2.1] at cB
      have hfl := fail_any R p F bs out a2 oc most E 3 oa wc s2
      have K2 := Lib.hid (And.intro s2 (And.intro f2 (And.intro l2 (And.intro hE hfl))))
      clear s2 f2 l2 hE hfl K1 HS
      obtain ⟨d, hd⟩ : ∃ d, d = N - C := ⟨_, rfl⟩
      have ed : (N : Int) - (C : Int) = (d : Int) := by omega
      have hD := Lib.hid hd
      clear hd
      go_upto_region 17 with fail
      go_cut [80] from 66 to 80 (fun s80 wd => s80 = .bool (decide (E = 0) && decide (d < n)) ∧ wc = wd)
      case first =>
        by_cases h0 : E = 0
        · subst h0
          go_wp2
          go_meet
          case rel => exact ⟨by simp, rfl⟩
        · have d0 : ((E : Int) == 0) = false := by simp; omega
          have H0 := Lib.hid h0
          clear h0
          go_wp2
          go_meet
          case rel => exact ⟨by have := H0.out; simp [this], rfl⟩
      case rest =>
        obtain ⟨rfl, rfl⟩ := hcut
        obtain ⟨bt, hbt⟩ : ∃ b : Bool, b = (decide (E = 0) && decide (d < n)) := ⟨_, rfl⟩
        rw [← hbt]
        have HT := Lib.hid hbt
        clear hbt ed
        go_upto_if 80 with fail
        go_cut [] from 81 to 82 (fun wd => ∃ E2 : Nat, Sw wd R p F bs a2 out oa oc most E2 ∧ Fr [R, p] w wd ∧ ((E2 = 0 ∧ M = .ok (L ++ List.replicate n v, a2)) ∨ (E2 ≠ 0 ∧ E2 < 100 ∧ M = .error E2)))
        case first =>
          cases bt
          · go_wp2
            go_meet
            case rel =>
              refine ⟨E, K2.out.1, K2.out.2.1, ?_⟩
              rcases K2.out.2.2.2.1 with ⟨k1, k2⟩ | k
              · refine .inl ⟨k1, ?_⟩
                have h2 : ¬ d < n := by have := HT.out; rw [k1] at this; simpa using this
                rw [k2, if_neg (by rw [← hD.out]; exact h2)]
              · exact .inr k
          · have hE0 : E = 0 ∧ d < n := by simpa using HT.out.symm
            have HL := Lib.hid hE0
            clear hE0 c3 cB
            go_wp2_with (go_at_call 25; refine K2.out.2.2.2.2.mono ?_; rintro e w4 ⟨rfl, S4, f4⟩; have K4 := Lib.hid (And.intro S4 f4); clear S4 f4)
            go_meet
            case rel =>
              have s4 := K4.out.1
              rw [if_pos HL.out.1] at s4
              refine ⟨3, s4, K2.out.2.1.trans (K4.out.2.mono (by simp)), .inr ⟨by decide, by decide, ?_⟩⟩
              rcases K2.out.2.2.2.1 with ⟨k1, k2⟩ | ⟨k, _⟩
              · rw [k2, if_pos (by rw [← hD.out]; exact HL.out.2)]
              · exact absurd HL.out.1 k
        case rest =>
          obtain ⟨E2, s4, f4, hE2⟩ := hcut
          have l4 := HRp.out _ _ f4 _ _ _ H.out.2.1
          have hK4 : K ≤ wc.heap.size := Nat.le_trans H.out.2.2.2.2.2.2.2 f4.size
          have K4 := Lib.hid (And.intro s4 (And.intro f4 (And.intro hE2 (And.intro l4 hK4))))
          obtain ⟨w4, hw4⟩ : ∃ w4, w4 = wc := ⟨_, rfl⟩
          rw [← hw4] at K4 ⊢
          clear s4 f4 hE2 hw4 c3 cB l4 hK4 K2 HT
          go_wp2
          go_loopg [11] n (fun k s11 wr => ∃ (i : Nat) (la1 : Option Addr) (lc1 : Nat), s11 = .int .i64 (i : Nat) ∧ i + k = n ∧ (E2 = 0 ∨ i = 0) ∧ Sw wr R p F bs a2 out oa oc most E2 ∧ Ll K wr B la1 lc1 (L ++ List.replicate i v) ∧ Fr (B :: blk la) w4 wr ∧ (∀ x ∈ blk la1, x ∈ blk la ∨ w4.heap.size ≤ x))
          case atStart => exact ⟨0, la, lc, rfl, by omega, .inr rfl, K4.out.1, by rw [List.replicate_zero, List.append_nil]; exact K4.out.2.2.2.1, Fr.refl _ _, fun x hx => .inl hx⟩
          case round =>
            obtain ⟨i, la1, lc1, rfl, hik, hi0, hst, hll, hfr, hnew⟩ := hrel
            have c3 := cell_of hst.box 3
            simp only [List.getElem?_toArray, List.getElem?_cons_zero, List.getElem?_cons_succ] at c3
            have hfin : ∀ L', Ll K wr B la1 lc1 L' → ((M = .error E2 ∧ 0 < E2 ∧ E2 < 100) ∨ (M = .ok (L', a2) ∧ E2 = 0)) → RepR K w R p F bs out oa oc most B la M wr := fun L' l h => by
              refine ⟨a2, la1, lc1, L', E2, hst, l, ?_, fun x hx => ?_, h⟩
              · exact (K4.out.2.1.mono (by simp)).trans (hfr.mono (fun x hx => .inl (by simp only [List.mem_cons] at hx ⊢; rcases hx with h | h <;> simp [h])))
              · rcases hnew x hx with k | k
                · exact .inl k
                · exact .inr (Nat.le_trans K4.out.2.1.size k)
            by_cases hi : i < n
            · by_cases h0 : E2 = 0
              · obtain ⟨k, rfl⟩ : ∃ k, gk = k + 1 := ⟨gk - 1, by omega⟩
                obtain ⟨C1, hC1⟩ : ∃ C1, C1 = (L ++ List.replicate i v).length := ⟨_, rfl⟩
                have hC1b : C1 ≤ 700 := by rw [hC1, List.length_append, List.length_replicate, ← H.out.2.2.2.2.2.1]; omega
                have cB := cell_of hll.box 0
                simp only [List.getElem?_toArray, List.getElem?_cons_zero, List.getElem?_cons_succ] at cB
                rw [← hC1] at cB
                have hKr : K ≤ wr.heap.size := Nat.le_trans K4.out.2.2.2.2 hfr.size
                have HJ := Lib.hid (And.intro hst (And.intro hll (And.intro hfr (And.intro hnew (And.intro hC1 (And.intro hik hKr))))))
                subst h0
                clear hst hll hfr hnew hC1 hfin hik hKr hi0
                go_wp2_with (at_builtin; go_loud (refine wpList_append sty_int rfl _ _ rfl (.slice la1 C1 lc1) C1 (ints (L ++ List.replicate i v)) (blk la1) rfl (own_blk la1 C1 lc1) (by rw [HJ.out.2.2.2.2.1]; exact ownsRow_fr HJ.out.2.1.own ((Fr.refl [] wr).alloc _) (by simp)) (some ⟨wr.heap.size, 0, none⟩) 1 1 [.int .i64 (v : Nat)] (by first | rfl | simp) (Nat.le_refl _) (fun h => by cases h) (cs_one _ _ _ _ (alloc_at _ _)) rfl (by intro u hu; simp only [List.mem_singleton] at hu; rw [hu]; rfl) (by omega) (by unfold maxLen; omega) ?_); intro ao2 cp2 w5 A5; have HA := HJ.out.2.1.app HJ.out.2.2.2.2.1 HJ.out.2.2.2.2.2.2 A5; have f5 : Fr (blk la1) wr w5 := ((Fr.refl _ wr).alloc _).trans A5.fr; have b5 := f5.blk HJ.out.2.1.box (fun hx => (HJ.out.2.1.new B hx).2 rfl); have z5 := frozen_of b5 0; have d5 := cell_of b5 0; rw [← HJ.out.2.2.2.2.1] at d5; simp only [List.getElem?_toArray, List.getElem?_cons_zero, List.getElem?_cons_succ] at d5; have HB := Lib.hid HA; clear A5 f5 b5 HA cB)
                go_roundg k
                case measure => omega
                case rel =>
                  obtain ⟨j1, j2, j3, j4, j5, j6, j7⟩ := HJ.out
                  obtain ⟨q1, q2, q3⟩ := HB.out
                  have hLK : ∀ x ∈ B :: blk la1, K ≤ x := fun x hx => by
                    rcases List.mem_cons.1 hx with h | h
                    · rw [h]; exact j2.bK
                    · exact (j2.new x h).1
                  refine ⟨i + 1, ao2, cp2, by go_num, by omega, .inl (by trivial), ?_, ?_, ?_, fun x hx => ?_⟩
                  · obtain ⟨hR, hF, ho, hp⟩ := H.out.2.2.2.2.2.2.1
                    exact j1.fr q2 (fun hx => by have := hLK _ hx; omega) (fun x hx hx2 => by have := hLK _ hx2; have := hF x hx; omega) (fun x hx hx2 => by have := hLK _ hx2; have := ho x hx; omega)
                  · rw [List.replicate_succ', ← List.append_assoc]
                    exact q1
                  · refine j3.step q2 (fun x hx => ?_)
                    rcases List.mem_cons.1 hx with h | h
                    · exact .inl (by simp [h])
                    · rcases j4 x h with k | k
                      · exact .inl (by simp [k])
                      · exact .inr k
                  · rcases q3 x hx with k | k
                    · exact j4 x k
                    · exact .inr (Nat.le_trans j3.size k)
              · have d0 : ((E2 : Int) == 0) = false := by simp; omega
                have hM3 : M = .error E2 ∧ E2 < 100 := by
                  rcases K4.out.2.2.1 with ⟨k1, _⟩ | ⟨k1, k2, k3⟩
                  · exact absurd k1 h0
                  · exact ⟨k3, k2⟩
                have HFin := Lib.hid (hfin _ hll (.inl ⟨hM3.1, by omega, hM3.2⟩))
                clear hst hll hfr hnew hfin hM3 h0 hi0
                go_wp2
                refine bodyPost_end (results_none rfl _ _ _) rfl ?_
                exact ⟨rfl, HFin.out⟩
            · obtain rfl : i = n := by omega
              have HFin : Go.RowKit.Hid (RepR K w R p F bs out oa oc most B la M wr) := Lib.hid (hfin _ hll (by
                rcases K4.out.2.2.1 with ⟨k1, k2⟩ | ⟨k1, k2, k3⟩
                · exact .inr ⟨k2, k1⟩
                · exact .inl ⟨k3, by omega, k2⟩))
              clear hst hll hfr hnew hfin hi0
              go_wp2
              refine bodyPost_end (results_none rfl _ _ _) rfl ?_
              exact ⟨rfl, HFin.out⟩
end Go.Proofs.YtolkoidbkaidkaaGreat.inf
