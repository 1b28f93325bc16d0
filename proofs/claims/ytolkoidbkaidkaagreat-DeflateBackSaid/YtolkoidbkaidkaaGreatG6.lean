/-
  Texts of this proof, one behind the other: Tell, Cwrite, Always, Wcoded, Raw, TripA, TripB.
-/
import Derived.Test.YtolkoidbkaidkaaGreatG5
import Derived.Deep.WholeRow
set_option linter.unusedVariables false
set_option linter.unusedSimpArgs false
/-
  deflate.coded.tell.
-/
namespace Go.Proofs.YtolkoidbkaidkaaGreat.defl
open Go Go.RowKit Go.Proofs.YtolkoidbkaidkaaGreat.lib Go.Proofs.YtolkoidbkaidkaaGreat.bm Go.Proofs.YtolkoidbkaidkaaGreat.bl Go.Proofs.YtolkoidbkaidkaaGreat.mat Go.Proofs.YtolkoidbkaidkaaGreat.huf Go.Proofs.YtolkoidbkaidkaaGreat.wb

def ordL : List Nat := [16, 17, 18, 0, 8, 7, 9, 6, 10, 5, 11, 4, 12, 3, 13, 2, 14, 1, 15]
def ord (i : Nat) : Nat := ordL[i]?.getD 0
theorem ord_lt (i : Nat) : ord i < 19 := by
  unfold ord
  cases h : ordL[i]? with
  | none => simp
  | some x =>
    have := List.mem_of_getElem? h
    simp only [ordL, List.mem_cons, List.not_mem_nil, or_false] at this
    simp only [Option.getD_some]
    omega
/-- One length, told. -/
def rbits (cl : List Nat) (r : Rn) : List Bool := sbits cl r.1 ++ lsb r.2.2 r.2.1
/-- What tell writes. -/
structure Told (ll dl : List Nat) (nl nd nc : Nat) (cl : List Nat) (rs : List Rn) (b : List Bool) : Prop where
  enl : nl = cutN ll 257 ll.length
  ennd : nd = cutN dl 1 dl.length
  runs : RunsOk [] rs (ll.take nl ++ dl.take nd)
  clen : cl.length = 19
  cle : ∀ l ∈ cl, l ≤ 7
  full : weight cl = 32768
  used : ∀ r ∈ rs, 0 < lenAt cl r.1
  nc4 : 4 ≤ nc
  nc19 : nc ≤ 19
  rest : ∀ i, nc ≤ i → i < 19 → lenAt cl (ord i) = 0
  bits : b = lsb 5 (nl - 257) ++ lsb 5 (nd - 1) ++ lsb 4 (nc - 4) ++ ((List.range nc).flatMap fun i => lsb 3 (lenAt cl (ord i))) ++ rs.flatMap (rbits cl)
theorem Ri.take {w : World} {a : Option Addr} {cap : Nat} {xs : List Nat} (h : Ri w a cap xs) (n : Nat) : Ri w a cap (xs.take n) := by
  refine ⟨?_, by have := h.le; rw [List.length_take]; omega, h.max, h.nil⟩
  rcases h.cs with h0 | ⟨g, o, e, hc⟩
  · left
    have : xs = [] := by simpa using h0
    rw [this]; simp
  · refine .inr ⟨g, o, e, fun j v hv => hc j v ?_⟩
    rw [List.map_take, List.getElem?_take] at hv
    split at hv
    · exact hv
    · cases hv
theorem ri_made {w w' : World} {ao : Option Addr} {n cap : Nat} {xs : List Nat} (h : Made w w' 3 1 ao n cap (ints xs)) (hn : n = xs.length) : Ri w' ao cap xs := ⟨cs_of_owns h.own, by rw [← hn]; exact h.le, h.max, h.nil⟩
theorem ints_length (l : List Nat) : (ints l).length = l.length := by simp [ints]
theorem runs_sym : ∀ {rs : List Rn} {out fin : List Nat}, RunsOk out rs fin → ∀ r ∈ rs, r.1 ≤ 18 ∧ r.2.1 < 128 ∧ r.2.2 ≤ 7
  | [], _, _, _, r, hr => by cases hr
  | x :: rs, out, fin, h, r, hr => by
    rcases List.mem_cons.1 hr with e | e
    · subst e
      rcases h.1 with k | k | k | k <;> omega
    · exact runs_sym h.2 r e
/-- The counts as a list. -/
def tolist (F : Nat → Nat) : List Nat := (List.range 19).map F
theorem lenAt_tolist (F : Nat → Nat) {s : Nat} (h : s < 19) : lenAt (tolist F) s = F s := by simp [lenAt, tolist, h]
def rcnt (rs : List Rn) (s : Nat) : Nat := (rs.map (·.1)).count s
theorem rcnt_le (rs : List Rn) (s : Nat) : rcnt rs s ≤ rs.length := by
  have := List.count_le_length (a := s) (l := rs.map (·.1))
  rwa [List.length_map] at this
theorem rcnt_add (rs : List Rn) (r : Rn) (s : Nat) : rcnt (rs ++ [r]) s = if s = r.1 then rcnt rs s + 1 else rcnt rs s := by
  unfold rcnt
  rw [List.map_append, List.count_append]
  by_cases h : s = r.1
  · subst h; simp
  · rw [if_neg h]; simp [Ne.symm h]
theorem symsTo_le (cs : List Nat) (i : Nat) : (symsTo cs i).length ≤ i := by
  have := List.length_filter_le (fun s => decide (0 < lenAt cs s)) (List.range i)
  rwa [List.length_range] at this
theorem symsTo_len_succ (cs : List Nat) (i : Nat) : (symsTo cs (i + 1)).length = (symsTo cs i).length + if 0 < lenAt cs i then 1 else 0 := by
  rw [symsTo_succ]
  split <;> simp
/-- One more that comes. -/
theorem symsTo_more {F G : Nat → Nat} {s : Nat} (hs : s < 19) (h0 : F s = 0) (h1 : 0 < G s) (h : ∀ j, j < 19 → j ≠ s → F j = G j) : ∀ i, i ≤ 19 → (symsTo (tolist G) i).length = (symsTo (tolist F) i).length + if s < i then 1 else 0
  | 0, _ => by simp [symsTo]
  | i + 1, hi => by
    have ih := symsTo_more hs h0 h1 h i (by omega)
    rw [symsTo_len_succ, symsTo_len_succ, ih, lenAt_tolist G (by omega), lenAt_tolist F (by omega)]
    by_cases e : i = s
    · subst e
      simp [h0, h1]
    · have hFG := h i (by omega) e
      rw [hFG]
      by_cases e2 : s < i
      · have e3 : s < i + 1 := by omega
        simp only [e2, e3, if_true]; omega
      · have e3 : ¬ s < i + 1 := by omega
        simp only [e2, e3, if_false]; omega
theorem symsTo_all {F : Nat → Nat} : ∀ i, i ≤ 19 → (∀ j, j < i → 0 < F j) → (symsTo (tolist F) i).length = i
  | 0, _, _ => by simp [symsTo]
  | i + 1, hi, h => by rw [symsTo_len_succ, symsTo_all i (by omega) fun j hj => h j (by omega), lenAt_tolist F (by omega), if_pos (h i (by omega))]
theorem symsTo_mono (cs : List Nat) : ∀ k i, (symsTo cs i).length ≤ (symsTo cs (i + k)).length
  | 0, i => Nat.le_refl _
  | k + 1, i => by rw [← Nat.add_assoc, symsTo_len_succ]; have := symsTo_mono cs k i; omega
theorem appended_made {w w' : World} {e : TypeId} {size : Nat} {ao : Option Addr} {len cap : Nat} {xs : List Value} (h : Appended w w' e size [] ao len cap xs) : Made w w' e size ao len cap xs :=
  ⟨h.own, h.fr, fun x hx => (h.at_ x hx).elim (fun k => absurd k (by simp)) (fun k => Nat.le_of_eq k.symm), h.le, h.max, h.nil⟩
theorem slice_arr (O nc : Nat) (h : nc ≤ 19) (w : World) : (Instr.sliceAt 119 (.pointer (some ⟨O, 0, none⟩)) none (some (.int .i64 (nc : Nat))) none).run Tryz.prog w = .ok (.slice (some ⟨O, 0, none⟩) nc 19) w := by
  have e : Tryz.prog.arrayLen 119 = 19 := by kernel_rfl
  have el : Tryz.prog.elem 119 = 3 := by kernel_rfl
  have hu : Tryz.prog.underlying 119 = some (.array 19 3) := by kernel_rfl
  have := run_sliceAt_array_h (P := Tryz.prog) (t := 119) (w := w) ⟨O, 0, none⟩ (by rw [e, el]; exact hu) .i64 (nc : Nat) (by omega) (by rw [e]; omega)
  rw [this, e, el]
  obtain ⟨i, hi, _, hs, _⟩ := info_parts info_int
  simp [sizeOf, typeInfo, hi, slicedAt, Result.andThen]
  exact addr_add O 0 0
theorem flat3 (f : Nat → List Bool) (hf : ∀ i, (f i).length = 3) : ∀ t, ((List.range t).flatMap f).length = t * 3
  | 0 => rfl
  | t + 1 => by
    rw [List.range_succ, List.flatMap_append, List.length_append, flat3 f hf t]
    simp only [List.flatMap_cons, List.flatMap_nil, List.append_nil, hf t]
    omega
theorem flat_le {α : Type} (f : α → List Bool) (C : Nat) : ∀ l : List α, (∀ x ∈ l, (f x).length ≤ C) → (l.flatMap f).length ≤ l.length * C
  | [], _ => by simp
  | x :: l, h => by
    have h1 := flat_le f C l fun y hy => h y (List.mem_cons_of_mem _ hy)
    have h2 := h x List.mem_cons_self
    simp only [List.flatMap_cons, List.length_append, List.length_cons, Nat.add_mul]
    omega
/-- What tell's last loops read. -/
structure TE (O g8 g9 : Nat) (ao : Option Addr) (rn cp : Nat) (cl : List Nat) (rs : List Rn) (w : World) : Prop where
  o : w.heap[O]? = some (.cells (ordL.map fun x => Value.int .i64 (x : Nat)).toArray 119 (0, 0))
  r : Ri w (some ⟨g8, 0, none⟩) 19 cl
  u : U32 w g9 (codesOf cl)
  row : w.ownsRow 0 183 3 (.slice ao rn cp) rn (rcells rs)
theorem TE.fr {O g8 g9 : Nat} {ao : Option Addr} {rn cp : Nat} {cl : List Nat} {rs : List Rn} {w w' : World} {S : List Nat} (h : TE O g8 g9 ao rn cp cl rs w) (f : Fr S w w') (hn : ∀ x ∈ [O, g8, g9] ++ blk ao, x ∉ S) : TE O g8 g9 ao rn cp cl rs w' :=
  ⟨f.blk h.o (hn O (by simp)), ri_frS h.r f (fun x hx => hn x (by simp only [List.mem_append]; left; simp [blk] at hx; simp [hx])), Cs.fr h.u f (fun x hx => hn x (by simp only [List.mem_append]; left; simp [blk] at hx; simp [hx])),
    ownsRow_fr h.row f (fun k hk => hn k (by
      simp only [List.mem_append]; right
      cases ao with
      | none => cases hk
      | some ad => simp only [Value.ownBlock, Option.some.injEq] at hk; subst hk; simp [blk]))⟩
theorem TE.ord {O g8 g9 : Nat} {ao : Option Addr} {rn cp : Nat} {cl : List Nat} {rs : List Rn} {w : World} (h : TE O g8 g9 ao rn cp cl rs w) {i : Nat} (hi : i < 19) : w.cell? ⟨O, i, none⟩ = some (.int .i64 (ord i : Nat)) := by
  rw [cell_of h.o]
  have hl : i < ordL.length := by simp [ordL]; omega
  simp [defl.ord, List.getElem?_eq_getElem hl]
theorem TE.len {O g8 g9 : Nat} {ao : Option Addr} {rn cp : Nat} {cl : List Nat} {rs : List Rn} {w : World} (h : TE O g8 g9 ao rn cp cl rs w) {i : Nat} (hi : i < cl.length) : w.cell? ⟨g8, i, none⟩ = some (.int .i64 (lenAt cl i : Nat)) := by
  obtain ⟨g, o, e, hc⟩ := h.r.at hi
  simp only [Option.some.injEq, Addr.mk.injEq, and_true] at e
  obtain ⟨rfl, rfl⟩ := e
  rw [Nat.zero_add] at hc
  rw [hc, lenAt, List.getElem?_eq_getElem hi]; rfl
theorem TE.code {O g8 g9 : Nat} {ao : Option Addr} {rn cp : Nat} {cl : List Nat} {rs : List Rn} {w : World} (h : TE O g8 g9 ao rn cp cl rs w) {i : Nat} (hi : i < cl.length) : w.cell? ⟨g9, i, none⟩ = some (.int .u32 (codeAt cl i : Nat)) := by
  obtain ⟨g', o', e', hc'⟩ := h.u.at (by simp [codesOf]; omega)
  simp only [Option.some.injEq, Addr.mk.injEq, and_true] at e'
  obtain ⟨rfl, rfl⟩ := e'
  have := hc' i (.int .u32 (codeAt cl i : Nat)) (by rw [List.getElem?_map, codesOf_at hi]; rfl)
  simpa using this
set_option maxRecDepth 100000 in
set_option maxHeartbeats 8000000 in
theorem tell_any (p : Nat) (F : List Nat) (l : List Bool) (bV lV : Value) (a1 a2 : Option Addr) (c1 c2 : Nat) (ll dl : List Nat) (told : Bool) (w : World) (hb1 : bV.oneCell' = true) (hl1 : lV.oneCell' = true)
    (h1 : Ri w a1 c1 ll) (h2 : Ri w a2 c2 dl) (hW : Wb w p F l) (n1 : ll.length = 286) (n2 : dl.length = 30) (hle1 : ∀ x ∈ ll, x ≤ 15) (hle2 : ∀ x ∈ dl, x ≤ 15) (hL : l.length ≤ 562949953000000)
    (hF : ∀ x ∈ F, x < w.heap.size ∧ x ∉ blk a1 ∧ x ∉ blk a2) :
    Calls Tryz.prog 114 #[.agg #[bV, lV, .slice a1 286 c1, .slice a2 30 c2, .bool told], .pointer (some ⟨p, 0, none⟩)] w fun e w' => e = .returned (.tuple #[]) ∧ Fr F w w' ∧
      ∃ nl nd nc cl rs b, Told ll dl nl nd nc cl rs b ∧ ∃ F', Wb w' p F' (l ++ b) ∧ ∀ y ∈ F', y ∈ F ∨ w.heap.size ≤ y := by
  obtain ⟨B, hB⟩ : ∃ B, B = w.heap.size := ⟨_, rfl⟩
  obtain ⟨w1, hw1⟩ : ∃ w1, w1 = w.alloc (.cells #[bV, lV, .slice a1 286 c1, .slice a2 30 c2, .bool told] 37 (0, 0)) := ⟨_, rfl⟩
  have f1 : Fr [] w w1 := by rw [hw1]; exact (Fr.refl [] w).alloc _
  have hbox : w1.heap[B]? = some (.cells #[bV, lV, .slice a1 286 c1, .slice a2 30 c2, .bool told] 37 (0, 0)) := by rw [hw1, hB]; exact alloc_at w _
  have hc1 := cut_any a1 c1 ll 257 w1.drew (h1.fr (f1.trans (Fr.drew1 [] w1))) (by omega) (by decide)
  have hc2 := cut_any a2 c2 dl 1 w1.drew (h2.fr (f1.trans (Fr.drew1 [] w1))) (by omega) (by decide)
  obtain ⟨nl, hnl⟩ : ∃ nl, nl = cutN ll 257 ll.length := ⟨_, rfl⟩
  obtain ⟨nd, hnd⟩ : ∃ nd, nd = cutN dl 1 dl.length := ⟨_, rfl⟩
  rw [← hnl, n1] at hc1
  rw [← hnd, n2] at hc2
  have hd1 : Calls Tryz.prog 118 #[.slice a1 286 c1, .int .i64 257] w1.drew fun e w' => e = .returned (.slice a1 nl c1) ∧ w' = w1.drew := hc1
  have hd2 : Calls Tryz.prog 118 #[.slice a2 30 c2, .int .i64 1] w1.drew fun e w' => e = .returned (.slice a2 nd c2) ∧ w' = w1.drew := hc2
  have hnl1 : 257 ≤ nl := by rw [hnl]; exact cutN_ge _ _ _ (by omega)
  have hnl2 : nl ≤ 286 := by rw [hnl, ← n1]; exact cutN_le _ _ _
  have hnd1 : 1 ≤ nd := by rw [hnd]; exact cutN_ge _ _ _ (by omega)
  have hnd2 : nd ≤ 30 := by rw [hnd, ← n2]; exact cutN_le _ _ _
  have e2 := cell_of hbox 2
  have e3 := cell_of hbox 3
  simp only [List.getElem?_toArray, List.getElem?_cons_zero, List.getElem?_cons_succ] at e2 e3
  have H := Lib.hid (And.intro h1 (And.intro h2 (And.intro hW (And.intro n1 (And.intro n2 (And.intro hle1 (And.intro hle2 (And.intro hL hF))))))))
  have HC := Lib.hid (And.intro hd1 hd2)
  have HN := Lib.hid (And.intro hnl (And.intro hnd (And.intro f1 hB)))
  have HW := Lib.hid hw1.symm
  clear h1 h2 hW n1 n2 hle1 hle2 hL hF hc1 hc2 hd1 hd2 hnl hnd f1 hw1 hbox
  go_enter Tryz.func114, Tryz.ntmps114
  go_upto_region 1 with fail
  rw [HW.out, ← HN.out.2.2.2]
  clear hB
  refine region_tail 6 (by kernel_rfl) (by kernel_rfl) ?_
  simp only [List.take_succ_cons, List.take_zero, List.drop_succ_cons, List.drop_zero]
  iterate 3 (go_big_quiet_step (exact HC.out.1 _))
  iterate 3 (go_big_quiet_step (exact HC.out.2 _))
  refine wpQuiet_nil ?_
  clear e2 e3
  obtain ⟨Z, hz, hZ, mk⟩ := make_ints 19 (by decide)
  have mk19 : ∀ w : World, (Instr.makeSlice 35 (.int .i64 19) (.int .i64 19)).run Tryz.prog w = .ok (.slice (some ⟨w.heap.size, 0, none⟩) 19 19) (w.alloc (.cells Z 3)) := mk
  clear mk
  have HZ := Lib.hid (And.intro hz hZ)
  clear hz hZ
  have r1 := Ri.take (H.out.1.fr (HN.out.2.2.1.trans (Fr.drew1 [] w1))) nl
  have r2 := Ri.take (H.out.2.1.fr (HN.out.2.2.1.trans (Fr.drew1 [] w1))) nd
  have tl1 : (ll.take nl).length = nl := by rw [List.length_take, H.out.2.2.2.1]; omega
  have tl2 : (dl.take nd).length = nd := by rw [List.length_take, H.out.2.2.2.2.1]; omega
  have HT := Lib.hid (And.intro r1 (And.intro r2 (And.intro tl1 tl2)))
  clear r1 r2 tl1 tl2
  go_upto_region 2 with fail
  go_upto_region 3 with (first
    | (refine wpList_append sty_int rfl _ _ rfl (.slice none 0 0) 0 [] [] rfl rfl (Made.none _ _ _).own a1 nl c1 (ints (ll.take nl)) rfl (by have := HT.out.1.le; have := HT.out.2.2.1; omega) HT.out.1.nil HT.out.1.cs (by rw [ints_length, HT.out.2.2.1, Nat.mul_one]) (ints_one _) (by omega) (by unfold maxLen; omega) ?_; intro ao2 cp2 w2 hap; rw [Nat.zero_add, List.nil_append] at hap; rw [Nat.zero_add]; have HA := Lib.hid (appended_made hap); clear hap)
    | (refine wpList_append sty_int rfl _ _ rfl (.slice ao2 nl cp2) nl (ints (ll.take nl)) (blk ao2) rfl (own_blk ao2 nl cp2) HA.out.own a2 nd c2 (ints (dl.take nd)) rfl (by have := HT.out.2.1.le; have := HT.out.2.2.2; omega) HT.out.2.1.nil (HT.out.2.1.fr HA.out.fr).cs (by rw [ints_length, HT.out.2.2.2, Nat.mul_one]) (ints_one _) (by omega) (by unfold maxLen; omega) ?_; intro ao3 cp3 w3 hap; have HA3 := Lib.hid (HA.out.app hap); clear hap)
    | (go_at_call 119; have hrr := runs_any ao3 cp3 (ll.take nl ++ dl.take nd) w3 (ri_made (by have h3 := HA3.out; rwa [show ints (ll.take nl) ++ ints (dl.take nd) = ints (ll.take nl ++ dl.take nd) from by simp [ints]] at h3) (by rw [List.length_append, HT.out.2.2.1, HT.out.2.2.2])) (by rw [List.length_append, HT.out.2.2.1, HT.out.2.2.2]; omega) (fun x hx => (List.mem_append.1 hx).elim (fun k => H.out.2.2.2.2.2.1 x (List.mem_of_mem_take k)) (fun k => H.out.2.2.2.2.2.2.1 x (List.mem_of_mem_take k))); rw [List.length_append, HT.out.2.2.1, HT.out.2.2.2] at hrr; refine hrr.mono ?_; rintro e w4 ⟨ao4, rn, cp4, rs, rfl, hrn, hmd, hok⟩; have HR := Lib.hid (And.intro hrn (And.intro hmd hok)); clear hrn hmd hok hrr))
  have HW4 : Hid (Fr [] w w4) := Lib.hid ((HN.out.2.2.1.trans (Fr.drew1 [] w1)).trans (HA3.out.fr.trans HR.out.2.1.fr))
  obtain ⟨Q, hQ⟩ : ∃ Q, Q = w4.heap.size := ⟨_, rfl⟩
  obtain ⟨w5, hw5⟩ : ∃ w5, w5 = w4.alloc (.cells Z 3) := ⟨_, rfl⟩
  have HQ : Hid (Ow w5 Q 19 (fun _ => 0) ∧ Fr [] w4 w5) := Lib.hid ⟨⟨Z, by rw [hw5, hQ]; exact alloc_at w4 _, HZ.out.1, HZ.out.2⟩, by rw [hw5]; exact (Fr.refl [] w4).alloc _⟩
  have hrnb : rn ≤ 400 := by
    have := HR.out.2.2.len
    rw [List.length_append, HT.out.2.2.1, HT.out.2.2.2, ← HR.out.1] at this
    simp at this
    omega
  have HQQ := Lib.hid (And.intro hQ hw5)
  clear hQ hw5
  go_upto_region 4 with fail
  rw [← HQQ.out.2, ← HQQ.out.1]
  clear mk19
  go_wp2
  go_loopg [9, 38] rn (fun k s9 s38 wr => ∃ t : Nat, s38 = .int .i64 (t : Nat) ∧ t + k = rn ∧ Ow wr Q 19 (rcnt (rs.take t)) ∧ Fr [Q] w5 wr)
  case atStart => exact ⟨0, rfl, by omega, HQ.out.1.congr fun s _ => by simp [rcnt], .refl _ _⟩
  case round =>
    obtain ⟨t, rfl, htk, how, hf⟩ := hrel
    by_cases ht : t < rn
    · obtain ⟨k, rfl⟩ : ∃ k, gk = k + 1 := ⟨gk - 1, by omega⟩
      obtain ⟨g4, rfl, _, _⟩ := own_some HR.out.2.1.own (by omega)
      obtain ⟨r, hr⟩ : ∃ r, rs[t]? = some r := ⟨_, List.getElem?_eq_getElem (by rw [← HR.out.1]; exact ht)⟩
      have hs18 := (runs_sym HR.out.2.2 r (List.mem_of_getElem? hr)).1
      have hgQ : g4 ≠ Q := by have := HR.out.2.1.lt g4 (by simp [blk]); rw [HQQ.out.1]; omega
      have hrow := ownsRow_fr (ownsRow_fr HR.out.2.1.own HQ.out.2 (by simp)) hf (by simpa [Value.ownBlock] using hgQ)
      have hd := rcells_at rs t r hr
      obtain ⟨rs1, rs2, rs3⟩ := r
      simp only at hs18 hd
      have d0 : wr.cell? ⟨g4, t * 3, none⟩ = some (.int .i64 (rs1 : Nat)) := by rw [← hd.1]; exact World.ownsRow.cellAt hrow _ (by omega)
      have d1 : wr.cell? ⟨g4, t * 3 + 1, none⟩ = some (.int .u32 (rs2 : Nat)) := by rw [← hd.2.1]; exact World.ownsRow.cellAt hrow _ (by omega)
      have d2 : wr.cell? ⟨g4, t * 3 + 2, none⟩ = some (.int .i64 (rs3 : Nat)) := by rw [← hd.2.2]; exact World.ownsRow.cellAt hrow _ (by omega)
      have fA : Fr [] wr (wr.alloc (.cells #[.int .i64 (rs1 : Nat), .int .u32 (rs2 : Nat), .int .i64 (rs3 : Nat)] 183 (0, 0))) := (Fr.refl [] wr).alloc _
      have d3 := (how.fr fA (by simp)).cell (show rs1 < 19 by omega)
      have z3 := (how.fr fA (by simp)).frozen rs1
      obtain ⟨G, hG⟩ : ∃ G, G = rcnt (rs.take t) rs1 := ⟨_, rfl⟩
      have hGb : G ≤ 1000 := by rw [hG]; have := rcnt_le (rs.take t) rs1; rw [List.length_take] at this; omega
      rw [← hG] at d3
      have hset := (how.fr fA (by simp)).set (show rs1 < 19 by omega) (G + 1)
      have fS : Fr [Q] w5 ((wr.alloc (.cells #[.int .i64 (rs1 : Nat), .int .u32 (rs2 : Nat), .int .i64 (rs3 : Nat)] 183 (0, 0))).setCell ⟨Q, rs1, none⟩ (.int .i64 ((G + 1 : Nat) : Nat))) := (hf.alloc _).setCell (by simp) _
      have htake : rs.take (t + 1) = rs.take t ++ [(rs1, rs2, rs3)] := by rw [List.take_add_one, hr]; rfl
      have HJ := Lib.hid (And.intro hset (And.intro fS (And.intro hG (And.intro htake htk))))
      clear how hf hr hrow hd fA hset fS hG htake htk
      go_wp2
      go_roundg k
      case measure => omega
      case rel =>
        obtain ⟨hset, fS, hG, htake, htk⟩ := HJ.out
        refine ⟨t + 1, by go_num, by omega, ?_, fS⟩
        rw [htake]
        refine hset.congr fun s _ => ?_
        rw [rcnt_add, hG]
        by_cases e : s = rs1
        · rw [if_pos e, if_pos e, e]
        · rw [if_neg e, if_neg e]
    · obtain rfl : t = rn := by omega
      rw [List.take_of_length_le (by rw [← HR.out.1]; exact Nat.le_refl _)] at how
      obtain ⟨w6, hw6⟩ : ∃ w6 : World, w6 = wr := ⟨_, rfl⟩
      rw [← hw6] at how hf ⊢
      obtain ⟨F0, hF0⟩ : ∃ F0, F0 = rcnt rs := ⟨_, rfl⟩
      rw [← hF0] at how
      have hFb : ∀ s, F0 s ≤ 400 := fun s => by rw [hF0]; have := rcnt_le rs s; rw [← HR.out.1] at this; omega
      have H6 := Lib.hid (And.intro how (And.intro hf (And.intro hFb hF0)))
      clear how hf htk hw6 hFb hF0
      go_wp2
      go_loopg [10, 12, 52] 19 (fun k s10 s12 s52 wz => ∃ t m : Nat, s52 = .int .i64 (t : Nat) ∧ s10 = .int .i64 (m : Nat) ∧ t + k = 19 ∧ m = (symsTo (tolist F0) t).length ∧ w6 = wz)
      case atStart => exact ⟨0, 0, rfl, rfl, rfl, rfl, rfl⟩
      case round =>
        obtain ⟨t2, m, rfl, rfl, htk, hm, rfl⟩ := hrel
        have hmb : m ≤ t2 := by rw [hm]; exact symsTo_le _ _
        by_cases ht : t2 < 19
        · obtain ⟨k, rfl⟩ : ∃ k, gk = k + 1 := ⟨gk - 1, by omega⟩
          have d3 := H6.out.1.cell ht
          have hb := H6.out.2.2.1 t2
          obtain ⟨v, hv⟩ : ∃ v, v = F0 t2 := ⟨_, rfl⟩
          rw [← hv] at d3 hb
          have hsu := symsTo_len_succ (tolist F0) t2
          rw [lenAt_tolist F0 ht, ← hv, ← hm] at hsu
          have HJ := Lib.hid (And.intro hsu htk)
          clear hsu htk hm hv
          by_cases hv0 : 0 < v
          · go_wp2
            go_roundg k
            case measure => omega
            case rel => exact ⟨t2 + 1, m + 1, by go_num, by go_num, by have := HJ.out.2; omega, by rw [HJ.out.1, if_pos hv0], rfl⟩
          · obtain rfl : v = 0 := by omega
            go_wp2
            go_roundg k
            case measure => omega
            case rel => exact ⟨t2 + 1, m, by go_num, rfl, by have := HJ.out.2; omega, by rw [HJ.out.1]; simp, rfl⟩
        · obtain rfl : t2 = 19 := by omega
          have HM := Lib.hid hm
          clear hm htk ht
          go_wp2
          go_loopg [10, 13] 19 (fun k s10 s13 wz => ∃ (i m : Nat) (Fc : Nat → Nat), s13 = .int .i64 (i : Nat) ∧ s10 = .int .i64 (m : Nat) ∧ i + k = 19 ∧ m = (symsTo (tolist Fc) 19).length ∧ Ow wz Q 19 Fc ∧ (∀ s, s < 19 → Fc s ≤ 400) ∧ (∀ s, 0 < F0 s → 0 < Fc s) ∧ (∀ j, j < i → 0 < Fc j) ∧ Fr [Q] w6 wz)
          case atStart => exact ⟨0, m, F0, rfl, rfl, rfl, HM.out, H6.out.1, fun s _ => H6.out.2.2.1 s, fun _ h => h, fun j hj => absurd hj (by omega), .refl _ _⟩
          case round =>
            obtain ⟨i, m, Fc, rfl, rfl, hik, hm, how, hFb, hpos, hall, hf⟩ := hrel
            have hmb : m ≤ 19 := by rw [hm]; exact symsTo_le _ _
            by_cases hm2 : m < 2
            · have hi2 : i < 2 := by
                have h1 := symsTo_all (F := Fc) (min i 19) (by omega) fun j hj => hall j (by omega)
                have h2 := symsTo_mono (tolist Fc) (19 - min i 19) (min i 19)
                rw [show min i 19 + (19 - min i 19) = 19 from by omega, ← hm, h1] at h2
                omega
              obtain ⟨k, rfl⟩ : ∃ k, gk = k + 1 := ⟨gk - 1, by omega⟩
              have hi19 : i < 19 := by omega
              have d3 := how.cell hi19
              have z3 := how.frozen i
              have hb := hFb i hi19
              obtain ⟨v, hv⟩ : ∃ v, v = Fc i := ⟨_, rfl⟩
              rw [← hv] at d3 hb
              by_cases hv0 : v = 0
              · subst hv0
                have hset := how.set hi19 1
                have HJ := Lib.hid (And.intro hset (And.intro hik (And.intro hm (And.intro hFb (And.intro hpos (And.intro hall (And.intro hf hv)))))))
                clear hset hik hm hFb hpos hall hf hv how
                go_wp2
                go_roundg k
                case measure => omega
                case rel =>
                  obtain ⟨hset, hik, hm, hFb, hpos, hall, hf, hv⟩ := HJ.out
                  refine ⟨i + 1, m + 1, _, by go_num, by go_num, by omega, ?_, hset, fun s hs => ?_, fun s hs => ?_, fun j hj => ?_, hf.setCell (by simp) _⟩
                  · rw [symsTo_more (F := Fc) (s := i) hi19 hv.symm (by simp) (fun j _ hj => by simp [hj]) 19 (Nat.le_refl _), if_pos hi19, hm]
                  · split
                    · omega
                    · exact hFb s hs
                  · split
                    · omega
                    · exact hpos s hs
                  · split
                    · omega
                    · exact hall j (by omega)
              · have q : ((v : Int) == 0) = false := by simp only [beq_eq_false_iff_ne]; omega
                have HJ := Lib.hid (And.intro how (And.intro hik (And.intro hm (And.intro hFb (And.intro hpos (And.intro hall (And.intro hf hv)))))))
                clear how hik hm hFb hpos hall hf hv
                go_wp2
                go_roundg k
                case measure => omega
                case rel =>
                  obtain ⟨how, hik, hm, hFb, hpos, hall, hf, hv⟩ := HJ.out
                  refine ⟨i + 1, m, Fc, by go_num, rfl, by omega, hm, how, hFb, hpos, fun j hj => ?_, hf⟩
                  rcases Nat.lt_or_ge j i with k1 | k1
                  · exact hall j k1
                  · rw [show j = i from by omega, ← hv]; omega
            · have tl : (tolist Fc).length = 19 := by simp [tolist]
              have hmem : ∀ c ∈ tolist Fc, c ≤ 2 ^ 30 := fun c hc => by
                simp only [tolist, List.mem_map, List.mem_range] at hc
                obtain ⟨s, hs, rfl⟩ := hc
                have := hFb s hs
                omega
              have hri : Ri wr (some ⟨Q, 0, none⟩) 19 (tolist Fc) := ⟨how.cs, by rw [tl]; exact Nat.le_refl _, by unfold maxLen; omega, fun h => by cases h⟩
              have hlen := lengths_any (some ⟨Q, 0, none⟩) 19 (tolist Fc) 7 wr hri (by decide) (by decide) (by rw [tl]; decide) hmem (by rw [tl]; have := symsTo_le (tolist Fc) 19; omega)
              rw [tl] at hlen
              have hlen' : Calls Tryz.prog 15 #[.slice (some ⟨Q, 0, none⟩) 19 19, .int .i64 7] wr (LensGood 7 (tolist Fc) 19 wr) := hlen
              have HJ := Lib.hid (And.intro hlen' (And.intro (show 2 ≤ (symsTo (tolist Fc) (tolist Fc).length).length by rw [tl]; omega) (And.intro hpos hf)))
              clear hlen hlen' hri hmem hm hpos hall hf how hFb hik tl
              go_upto_region 23 with (go_at_call 15; refine HJ.out.1.mono ?_; rintro e w8 ⟨g8, cl, rfl, ok8, cs8, lo8, hi8, f8⟩; have H8 := Lib.hid (And.intro ok8 (And.intro cs8 (And.intro lo8 (And.intro hi8 f8)))); clear ok8 cs8 lo8 hi8 f8)
              have hcl19 : cl.length = 19 := by rw [H8.out.1.len]; simp [tolist]
              have hfull := H8.out.1.full HJ.out.2.1
              have hri2 : Ri w8 (some ⟨g8, 0, none⟩) 19 cl := ⟨H8.out.2.1, by rw [hcl19]; exact Nat.le_refl _, by unfold maxLen; omega, fun h => by cases h⟩
              have hcd := codes_any (some ⟨g8, 0, none⟩) 19 cl w8 hri2 (fun x hx => by have := H8.out.1.le x hx; omega) (by rw [hcl19]; decide) (by rw [hfull]; exact Nat.le_refl _)
              unfold CodesGood at hcd
              rw [hcl19] at hcd
              have H8b := Lib.hid (And.intro hcd (And.intro hri2 (And.intro hcl19 hfull)))
              clear hcd hri2 hcl19 hfull
              go_upto_region 24 with (go_at_call 76; refine H8b.out.1.mono ?_; rintro e w9 ⟨g9, rfl, u9, lo9, hi9, f9⟩; have H9 := Lib.hid (And.intro u9 (And.intro lo9 (And.intro hi9 f9))); clear u9 lo9 hi9 f9)
              go_cut [18, 85] from 85 to 86 (fun s18 s85 wz => ∃ O : Nat, s18 = .pointer (some ⟨O, 0, none⟩) ∧ wz.heap[O]? = some (.cells (ordL.map fun x => Value.int .i64 (x : Nat)).toArray 119 (0, 0)) ∧ Fr [] w9 wz ∧ w9.heap.size ≤ O)
              case first =>
                clear H6 HJ H8 H8b H9 HR HM HQ HT HA HA3 HW4 HQQ HC HN HW H HZ
                have hinf : (Tryz.prog.info? 119).map (·.size) = some 19 := by kernel_rfl
                go_wp2_with (refine wpList_store_row rfl 119 (.tmp 18) (.tmp 85) rfl w9.heap.size #[.int .i64 16, .int .i64 17, .int .i64 18, .int .i64 0, .int .i64 8, .int .i64 7, .int .i64 9, .int .i64 6, .int .i64 10, .int .i64 5, .int .i64 11, .int .i64 4, .int .i64 12, .int .i64 3, .int .i64 13, .int .i64 2, .int .i64 14, .int .i64 1, .int .i64 15] rfl rfl 119 #[.int .i64 0, .int .i64 0, .int .i64 0, .int .i64 0, .int .i64 0, .int .i64 0, .int .i64 0, .int .i64 0, .int .i64 0, .int .i64 0, .int .i64 0, .int .i64 0, .int .i64 0, .int .i64 0, .int .i64 0, .int .i64 0, .int .i64 0, .int .i64 0, .int .i64 0] (heap_alloc_last w9 _) hinf rfl (by kernel_rfl) ?_; rw [World.setRow_alloc_new])
                simp only [Act.put]
                go_meet
                exact ⟨w9.heap.size, rfl, alloc_at w9 _, (Fr.refl [] w9).alloc _, Nat.le_refl _⟩
              case rest =>
              obtain ⟨O, rfl, hO, f10, hO9⟩ := hcut
              obtain ⟨w10, hw10⟩ : ∃ w10 : World, w10 = wc := ⟨_, rfl⟩
              rw [← hw10] at hO f10 ⊢
              clear hw10
              have hcl19 := H8b.out.2.2.1
              have fQ7 : Fr [Q] w4 w8 := ((HQ.out.2.mono (by simp)).trans (H6.out.2.1.trans HJ.out.2.2.2)).trans (H8.out.2.2.2.2.mono (by simp))
              have f810 : Fr [] w8 w10 := H9.out.2.2.2.trans f10
              have te : TE O g8 g9 ao4 t cp4 cl rs w10 := by
                refine ⟨hO, H8b.out.2.1.fr f810, Cs.fr H9.out.1 f10 (by simp), ownsRow_fr (ownsRow_fr HR.out.2.1.own fQ7 ?_) f810 (by simp)⟩
                intro k hk
                have hb : k ∈ blk ao4 := by
                  cases ao4 with
                  | none => cases hk
                  | some ad => simp only [Value.ownBlock, Option.some.injEq] at hk; subst hk; simp [blk]
                have := HR.out.2.1.lt k hb
                rw [← HQQ.out.1] at this
                simp; omega
              have fw10 : Fr [] w w10 := (HW4.out.step fQ7 (fun x hx => .inr (by simp at hx; rw [hx, HQQ.out.1]; exact HW4.out.size))).trans f810
              have hEl : ∀ x ∈ [O, g8, g9] ++ blk ao4, w.heap.size ≤ x ∧ x < w10.heap.size := by
                intro x hx
                have h8 := H8.out.2.2.1
                have h8' := H8.out.2.2.2.1
                have h9 := H9.out.2.1
                have h9' := H9.out.2.2.1
                have s10 := f10.size
                have s9 := H9.out.2.2.2.size
                have s4 := HW4.out.size
                have s8 := fQ7.size
                have s68 := (HJ.out.2.2.2.trans (H8.out.2.2.2.2.mono (by simp))).size
                have s46 := ((HQ.out.2.mono (T := [Q]) (by simp)).trans H6.out.2.1).size
                have sw7 := HJ.out.2.2.2.size
                simp only [List.mem_append, List.mem_cons, List.not_mem_nil, or_false] at hx
                rcases hx with (rfl | rfl | rfl) | hx
                · have := lt_of_block hO; omega
                · omega
                · omega
                · have h1 := HR.out.2.1.lt x hx
                  have h2 := HR.out.2.1.new x hx
                  have h3 := (((HN.out.2.2.1.trans (Fr.drew1 [] w1)).trans HA3.out.fr)).size
                  omega
              have HE := Lib.hid (And.intro te (And.intro fw10 hEl))
              have HCL : Hid (Told ll dl nl nd 19 cl rs (lsb 5 (nl - 257) ++ lsb 5 (nd - 1) ++ lsb 4 (19 - 4) ++ ((List.range 19).flatMap fun i => lsb 3 (lenAt cl (ord i))) ++ rs.flatMap (rbits cl))) := Lib.hid (by
                refine ⟨HN.out.1, HN.out.2.1, HR.out.2.2, hcl19, H8.out.1.le, H8b.out.2.2.2, fun r hr => ?_, by decide, Nat.le_refl _, fun i h1 h2 => absurd h1 (by omega), rfl⟩
                have hr18 := (runs_sym HR.out.2.2 r hr).1
                have h0 : 0 < F0 r.1 := by
                  rw [H6.out.2.2.2]
                  exact List.count_pos_iff.2 (List.mem_map_of_mem hr)
                have h1 := HJ.out.2.2.1 r.1 h0
                exact H8.out.1.pos r.1 (by rw [lenAt_tolist Fc (by omega)]; exact h1))
              have HRN : Hid (t = rs.length) := Lib.hid HR.out.1
              have HF0 := Lib.hid H.out.2.2.2.2.2.2.2.2
              have HWb : Hid (Wb w10 p F l) := Lib.hid (wb_fr H.out.2.2.1 fw10 (by simp))
              have HLL := Lib.hid H.out.2.2.2.2.2.2.2.1
              clear te fw10 hEl fQ7 f810 hO f10 hO9 H6 HJ H8 H8b H9 HR HM HQ HT HA HA3 HW4 HQQ HC HN HW H HZ
              go_wp2
              go_loopg [19] 15 (fun k s19 wz => ∃ nc : Nat, s19 = .int .i64 (nc : Nat) ∧ nc = k + 4 ∧ nc ≤ 19 ∧ (∀ i, nc ≤ i → i < 19 → lenAt cl (ord i) = 0) ∧ w10 = wz)
              case atStart => exact ⟨19, rfl, rfl, Nat.le_refl _, fun i h1 h2 => absurd h1 (by omega), rfl⟩
              case round =>
                obtain ⟨nc, rfl, hnk, hn19, hz0, rfl⟩ := hrel
                have key : (4 < nc ∧ lenAt cl (ord (nc - 1)) = 0) ∨ (4 < nc ∧ lenAt cl (ord (nc - 1)) ≠ 0) ∨ nc = 4 := by omega
                rcases key with ⟨h4, hv⟩ | hstop
                · obtain ⟨q, hq⟩ : ∃ q, q = nc - 1 := ⟨_, rfl⟩
                  have e1 : (nc : Int) - 1 = (q : Int) := by omega
                  rw [← hq] at hv
                  have d1 := HE.out.1.ord (show q < 19 by omega)
                  have hol := ord_lt q
                  obtain ⟨y, hy⟩ : ∃ y, y = ord q := ⟨_, rfl⟩
                  rw [← hy] at d1 hol hv
                  have d2 := HE.out.1.len (show y < cl.length by omega)
                  rw [hv] at d2
                  have hq19 : q < 19 := by omega
                  have HJ := Lib.hid (And.intro hq (And.intro hy (And.intro hv (And.intro hz0 hnk))))
                  clear hq hy hv hz0 hnk
                  go_wp2
                  go_roundg (gk - 1)
                  case measure => have := HJ.out.2.2.2.2; omega
                  case rel =>
                    obtain ⟨hq, hy, hv, hz0, hnk⟩ := HJ.out
                    refine ⟨q, by go_num, by omega, by omega, fun i h1 h2 => ?_, rfl⟩
                    rcases Nat.lt_or_ge i nc with k1 | k1
                    · rw [show i = q from by omega, ← hy]; exact hv
                    · exact hz0 i k1 h2
                · have HNC : Hid (4 ≤ nc ∧ ∀ i, nc ≤ i → i < 19 → lenAt cl (ord i) = 0) := Lib.hid ⟨by omega, hz0⟩
                  have hnc4 : 4 ≤ nc := by omega
                  clear hz0
                  have hk4 : (4 < nc → lenAt cl (ord (nc - 1)) ≠ 0) := by omega
                  have HST := Lib.hid hk4
                  clear hstop hk4 hnk
                  go_upto_region 26 with fail
                  go_cut [97] from 86 to 98 (fun s97 wz => s97 = .bool false ∧ w10 = wz)
                  case first =>
                    by_cases h4 : 4 < nc
                    · obtain ⟨q, hq⟩ : ∃ q, q = nc - 1 := ⟨_, rfl⟩
                      have e1 : (nc : Int) - 1 = (q : Int) := by omega
                      have hv := HST.out h4
                      rw [← hq] at hv
                      have d1 := HE.out.1.ord (show q < 19 by omega)
                      have hol := ord_lt q
                      obtain ⟨y, hy⟩ : ∃ y, y = ord q := ⟨_, rfl⟩
                      rw [← hy] at d1 hol hv
                      have d2 := HE.out.1.len (show y < cl.length by omega)
                      obtain ⟨v, hvv⟩ : ∃ v, v = lenAt cl y := ⟨_, rfl⟩
                      rw [← hvv] at d2 hv
                      have hq19 : q < 19 := by omega
                      have q1 : ((v : Int) == 0) = false := by simp only [beq_eq_false_iff_ne]; omega
                      clear hq hy hvv
                      go_wp2
                      go_meet
                      exact ⟨rfl, rfl⟩
                    · obtain rfl : nc = 4 := by omega
                      go_wp2
                      go_meet
                      exact ⟨rfl, rfl⟩
                  case rest =>
                  obtain ⟨rfl, rfl⟩ := hcut
                  have hEF : ∀ x ∈ [O, g8, g9] ++ blk ao4, x ∉ F := fun x hx hxF => by
                    have h1 := (HE.out.2.2 x hx).1
                    have h2 := (HF0.out x hxF).1
                    omega
                  have HEF := Lib.hid hEF
                  clear hEF
                  obtain ⟨k1, hk1⟩ : ∃ k1, k1 = nl - 257 := ⟨_, rfl⟩
                  obtain ⟨k2, hk2⟩ : ∃ k2, k2 = nd - 1 := ⟨_, rfl⟩
                  obtain ⟨k3, hk3⟩ : ∃ k3, k3 = nc - 4 := ⟨_, rfl⟩
                  have e1 : (nl : Int) - 257 = (k1 : Int) := by omega
                  have e2 : (nd : Int) - 1 = (k2 : Int) := by omega
                  have e3 : (nc : Int) - 4 = (k3 : Int) := by omega
                  have b1 : k1 ≤ 100 := by omega
                  have b2 : k2 ≤ 100 := by omega
                  have b3 : k3 ≤ 100 := by omega
                  have HK := Lib.hid (And.intro hk1 (And.intro hk2 hk3))
                  clear hk1 hk2 hk3
                  have hp1 : Calls Tryz.prog 117 #[.pointer (some ⟨p, 0, none⟩), .int .u32 (k1 : Nat), .int .i64 5] w10 (WbPost p F w10 (l ++ lsb 5 k1)) := put_w p F l k1 5 w10 HWb.out (by omega) (by decide) (by have := HLL.out; omega)
                  have HP1 := Lib.hid hp1
                  clear hp1
                  go_upto_region 29 with (go_at_call 117; refine HP1.out.mono ?_; rintro e w11 ⟨rfl, f11, g11⟩; have H11 := Lib.hid (Pg.step (Pg.start HWb.out) f11 g11); clear f11 g11)
                  obtain ⟨F11, hq11⟩ := H11.out
                  have hp2 : Calls Tryz.prog 117 #[.pointer (some ⟨p, 0, none⟩), .int .u32 (k2 : Nat), .int .i64 5] w11 (WbPost p F11 w11 ((l ++ lsb 5 k1) ++ lsb 5 k2)) := put_w p F11 _ k2 5 w11 hq11.wb (by omega) (by decide) (by rw [List.length_append, lsb_length]; have := HLL.out; omega)
                  have HP2 := Lib.hid hp2
                  have HQ11 := Lib.hid hq11
                  clear hp2 hq11
                  go_upto_region 30 with (go_at_call 117; refine HP2.out.mono ?_; rintro e w12 ⟨rfl, f12, g12⟩; have H12 := Lib.hid (Pg.step HQ11.out f12 g12); clear f12 g12)
                  obtain ⟨F12, hq12⟩ := H12.out
                  have hp3 : Calls Tryz.prog 117 #[.pointer (some ⟨p, 0, none⟩), .int .u32 (k3 : Nat), .int .i64 4] w12 (WbPost p F12 w12 (((l ++ lsb 5 k1) ++ lsb 5 k2) ++ lsb 4 k3)) := put_w p F12 _ k3 4 w12 hq12.wb (by omega) (by decide) (by rw [List.length_append, List.length_append, lsb_length, lsb_length]; have := HLL.out; omega)
                  have HP3 := Lib.hid hp3
                  have HQ12 := Lib.hid hq12
                  clear hp3 hq12
                  go_upto_region 31 with (go_at_call 117; refine HP3.out.mono ?_; rintro e w13 ⟨rfl, f13, g13⟩; have H13 := Lib.hid (Pg.step HQ12.out f13 g13); clear f13 g13)
                  obtain ⟨F13, hq13⟩ := H13.out
                  obtain ⟨L3, hL3⟩ : ∃ L3, L3 = ((l ++ lsb 5 k1) ++ lsb 5 k2) ++ lsb 4 k3 := ⟨_, rfl⟩
                  rw [← hL3] at hq13
                  have hL3b : L3.length = l.length + 14 := by rw [hL3]; simp only [List.length_append, lsb_length]
                  have HQ13 := Lib.hid (And.intro hq13 (And.intro hL3 hL3b))
                  have hsl := slice_arr O nc hn19
                  clear hq13 hL3 hL3b e1 e2 e3
                  go_wp2
                  go_loopg [21, 120] nc (fun k s21 s120 wz => ∃ (t : Nat) (F' : List Nat), s120 = .int .i64 (t : Nat) ∧ t + k = nc ∧ Pg p F w10 (L3 ++ (List.range t).flatMap fun i => lsb 3 (lenAt cl (ord i))) F' wz)
                  case atStart => exact ⟨0, F13, rfl, by omega, by simpa using HQ13.out.1⟩
                  case round =>
                    obtain ⟨t2, F', rfl, htk, hpg⟩ := hrel
                    by_cases ht : t2 < nc
                    · obtain ⟨k, rfl⟩ : ∃ k, gk = k + 1 := ⟨gk - 1, by omega⟩
                      have te := HE.out.1.fr hpg.fr HEF.out
                      have d1 := te.ord (show t2 < 19 by omega)
                      have hol := ord_lt t2
                      obtain ⟨y, hy⟩ : ∃ y, y = ord t2 := ⟨_, rfl⟩
                      rw [← hy] at d1 hol
                      have d2 := te.len (show y < cl.length by omega)
                      obtain ⟨v, hvv⟩ : ∃ v, v = lenAt cl y := ⟨_, rfl⟩
                      have hv7 : v ≤ 7 := by rw [hvv]; exact HCL.out.cle _ (lenAt_mem (by omega))
                      rw [← hvv] at d2
                      have hlen3 : ((List.range t2).flatMap fun i => lsb 3 (lenAt cl (ord i))).length = t2 * 3 := flat3 _ (fun i => lsb_length _ _) t2
                      have hput : Calls Tryz.prog 117 #[.pointer (some ⟨p, 0, none⟩), .int .u32 (v : Nat), .int .i64 3] wr (WbPost p F' wr ((L3 ++ (List.range t2).flatMap fun i => lsb 3 (lenAt cl (ord i))) ++ lsb 3 v)) := put_w p F' _ v 3 wr hpg.wb (by omega) (by decide) (by rw [List.length_append, hlen3, HQ13.out.2.2]; have := HLL.out; omega)
                      have HJ := Lib.hid (And.intro hput (And.intro hpg (And.intro hy (And.intro hvv htk))))
                      clear hput hpg hy hvv htk te hlen3
                      go_wp2_with (go_at_call 117; refine HJ.out.1.mono ?_; rintro e w14 ⟨rfl, f14, g14⟩; have H14 := Lib.hid (Pg.step HJ.out.2.1 f14 g14); clear f14 g14)
                      go_roundg k
                      case measure => omega
                      case rel =>
                        obtain ⟨F14, h14⟩ := H14.out
                        obtain ⟨_, _, hy, hvv, htk⟩ := HJ.out
                        refine ⟨t2 + 1, F14, by go_num, by omega, ?_⟩
                        rw [List.range_succ, List.flatMap_append, ← List.append_assoc]
                        simp only [List.flatMap_cons, List.flatMap_nil, List.append_nil]
                        rw [← hy, ← hvv]
                        exact h14
                    · obtain rfl : t2 = nc := by omega
                      obtain ⟨L4, hL4⟩ : ∃ L4, L4 = L3 ++ (List.range t2).flatMap fun i => lsb 3 (lenAt cl (ord i)) := ⟨_, rfl⟩
                      rw [← hL4] at hpg
                      have hL4b : L4.length ≤ l.length + 100 := by
                        rw [hL4, List.length_append, flat3 _ (fun i => lsb_length _ _) t2, HQ13.out.2.2]; omega
                      have HQ4 := Lib.hid (And.intro hpg (And.intro hL4 hL4b))
                      clear hpg hL4 hL4b htk ht hsl
                      go_wp2
                      go_loopg [23, 134] t (fun k s23 s134 wz => ∃ (t3 : Nat) (F' : List Nat), s134 = .int .i64 (t3 : Nat) ∧ t3 + k = t ∧ Pg p F w10 (L4 ++ (rs.take t3).flatMap (rbits cl)) F' wz)
                      case atStart => exact ⟨0, _, rfl, by omega, by simpa using HQ4.out.1⟩
                      case round =>
                        obtain ⟨t3, F', rfl, htk, hpg⟩ := hrel
                        by_cases ht : t3 < t
                        · obtain ⟨k, rfl⟩ : ∃ k, gk = k + 1 := ⟨gk - 1, by omega⟩
                          have te := HE.out.1.fr hpg.fr HEF.out
                          obtain ⟨g4, rfl, _, _⟩ := own_some te.row (by omega)
                          obtain ⟨r, hr⟩ : ∃ r, rs[t3]? = some r := ⟨_, List.getElem?_eq_getElem (by rw [← HRN.out]; exact ht)⟩
                          have hsy := runs_sym HCL.out.runs r (List.mem_of_getElem? hr)
                          have hd := rcells_at rs t3 r hr
                          have htake : (rs.take (t3 + 1)).flatMap (rbits cl) = (rs.take t3).flatMap (rbits cl) ++ rbits cl r := by rw [List.take_add_one, hr]; simp
                          obtain ⟨ra, rb, rc⟩ := r
                          simp only at hsy hd
                          have d0 : wr.cell? ⟨g4, t3 * 3, none⟩ = some (.int .i64 (ra : Nat)) := by rw [← hd.1]; exact World.ownsRow.cellAt te.row _ (by omega)
                          have d1 : wr.cell? ⟨g4, t3 * 3 + 1, none⟩ = some (.int .u32 (rb : Nat)) := by rw [← hd.2.1]; exact World.ownsRow.cellAt te.row _ (by omega)
                          have d2 : wr.cell? ⟨g4, t3 * 3 + 2, none⟩ = some (.int .i64 (rc : Nat)) := by rw [← hd.2.2]; exact World.ownsRow.cellAt te.row _ (by omega)
                          obtain ⟨S0, hS0⟩ : ∃ S0, S0 = wr.heap.size := ⟨_, rfl⟩
                          obtain ⟨W1, hW1⟩ : ∃ W1, W1 = wr.alloc (.cells #[.int .i64 (ra : Nat), .int .u32 (rb : Nat), .int .i64 (rc : Nat)] 183 (0, 0)) := ⟨_, rfl⟩
                          have fA : Fr [] wr W1 := by rw [hW1]; exact (Fr.refl [] wr).alloc _
                          have hblk : W1.heap[S0]? = some (.cells #[.int .i64 (ra : Nat), .int .u32 (rb : Nat), .int .i64 (rc : Nat)] 183 (0, 0)) := by rw [hW1, hS0]; exact alloc_at wr _
                          have hSF : S0 ∉ F' := fun hx => by have := wb_lt hpg.wb S0 hx; omega
                          have te1 := te.fr fA (by simp)
                          have hra : ra < cl.length := by omega
                          have x1 := te1.len hra
                          have x2 := te1.code hra
                          have y0 := cell_of hblk 0
                          have y1 := cell_of hblk 1
                          have y2 := cell_of hblk 2
                          simp only [List.getElem?_toArray, List.getElem?_cons_zero, List.getElem?_cons_succ] at y0 y1 y2
                          have hle15 : ∀ x ∈ cl, x ≤ 15 := fun x hx => by have := HCL.out.cle x hx; omega
                          have hflen : ((rs.take t3).flatMap (rbits cl)).length ≤ 400 * 30 := by
                            have hb : ∀ r ∈ rs, (rbits cl r).length ≤ 30 := fun r hr => by
                              have h1 := sbits_len cl hle15 r.1
                              have h2 := (runs_sym HCL.out.runs r hr).2.2
                              unfold rbits
                              rw [List.length_append, lsb_length]
                              omega
                            have h3 := flat_le (rbits cl) 30 (rs.take t3) fun r hr => hb r (List.mem_of_mem_take hr)
                            rw [List.length_take] at h3
                            have h4 : min t3 rs.length * 30 ≤ 400 * 30 := Nat.mul_le_mul_right _ (by omega)
                            omega
                          have hcode := code_s p F' _ cl ra W1.drew (wb_fr hpg.wb (fA.trans (Fr.drew1 [] W1)) (by simp)) hle15 (by rw [HCL.out.full]; exact Nat.le_refl _) (by rw [List.length_append]; have := HQ4.out.2.2; have := HLL.out; omega)
                          obtain ⟨xc, hxc⟩ : ∃ xc, xc = codeAt cl ra := ⟨_, rfl⟩
                          obtain ⟨xl, hxl⟩ : ∃ xl, xl = lenAt cl ra := ⟨_, rfl⟩
                          rw [← hxc] at x2 hcode
                          rw [← hxl] at x1 hcode
                          have hra19 : ra < 19 := by omega
                          have HJ := Lib.hid (And.intro hcode (And.intro hpg (And.intro fA (And.intro hblk (And.intro hSF (And.intro htake (And.intro htk (And.intro hsy (And.intro hflen hle15)))))))))
                          have HS := Lib.hid (And.intro hS0 hW1)
                          clear hcode hpg fA hblk hSF htake htk hsy hflen hle15 te te1 hr hd hxc hxl hS0 hW1
                          go_upto_region 39 with fail
                          rw [← HS.out.2, ← HS.out.1]
                          clear d0 d1 d2
                          refine region_tail 11 (by kernel_rfl) (by kernel_rfl) ?_
                          simp only [List.take_succ_cons, List.take_zero, List.drop_succ_cons, List.drop_zero]
                          repeat (go_big_quiet_step (fail))
                          refine wpQuiet_nil ?_
                          clear x1 x2 y0 y1 y2
                          go_upto_region 40 with (go_at_call 116; refine HJ.out.1.mono ?_; rintro e w15 ⟨rfl, f15, g15⟩; have H15 := Lib.hid (And.intro f15 (Pg.step (HJ.out.2.1.fr0 (HJ.out.2.2.1.trans (Fr.drew1 [] W1))) f15 g15)); clear f15 g15)
                          obtain ⟨F15, hp15⟩ := H15.out.2
                          have hb15 := H15.out.1.blk (w := W1.drew) HJ.out.2.2.2.1 HJ.out.2.2.2.2.1
                          have y1 := cell_of hb15 1
                          have y2 := cell_of hb15 2
                          simp only [List.getElem?_toArray, List.getElem?_cons_zero, List.getElem?_cons_succ] at y1 y2
                          have hput := put_w p F15 _ rb rc w15 hp15.wb (by have := HJ.out.2.2.2.2.2.2.2.1; omega) (by have := HJ.out.2.2.2.2.2.2.2.1; omega) (by rw [List.length_append, List.length_append]; have := HQ4.out.2.2; have := HLL.out; have := HJ.out.2.2.2.2.2.2.2.2.1; have := sbits_len cl HJ.out.2.2.2.2.2.2.2.2.2 ra; omega)
                          have HP15 := Lib.hid (And.intro hput hp15)
                          clear hput hp15 hb15
                          go_wp2_with (go_at_call 117; refine HP15.out.1.mono ?_; rintro e w16 ⟨rfl, f16, g16⟩; have H16 := Lib.hid (Pg.step HP15.out.2 f16 g16); clear f16 g16)
                          go_roundg k
                          case measure => omega
                          case rel =>
                            obtain ⟨F16, h16⟩ := H16.out
                            obtain ⟨_, _, _, _, _, htake, htk, _⟩ := HJ.out
                            refine ⟨t3 + 1, F16, by go_num, by omega, ?_⟩
                            rw [htake, ← List.append_assoc]
                            unfold rbits
                            rw [← List.append_assoc]
                            exact h16
                        · obtain rfl : t3 = t := by omega
                          rw [List.take_of_length_le (by rw [HRN.out]; exact Nat.le_refl _)] at hpg
                          have HJ := Lib.hid hpg
                          clear hpg htk
                          go_wp2
                          (try simp only [Exit.inBlock, Exit.then])
                          refine bodyPost_end (results_none rfl _ _ _) rfl ?_
                          have hq := HJ.out
                          refine ⟨rfl, (HE.out.2.1.mono (by simp)).trans hq.fr, nl, nd, t2, cl, rs, _, { HCL.out with nc4 := HNC.out.1, nc19 := hn19, rest := HNC.out.2, bits := rfl }, _, ?_, fun y hy => (hq.new y hy).imp id fun k => Nat.le_trans HE.out.2.1.size k⟩
                          have h3 := hq.wb
                          rw [HQ4.out.2.1, HQ13.out.2.1] at h3
                          rw [← HK.out.1, ← HK.out.2.1, ← HK.out.2.2]
                          simpa only [List.append_assoc] using h3
end Go.Proofs.YtolkoidbkaidkaaGreat.defl
/-
  deflate.coded.write.
-/
namespace Go.Proofs.YtolkoidbkaidkaaGreat.defl
open Go Go.RowKit Go.Proofs.YtolkoidbkaidkaaGreat.lib Go.Proofs.YtolkoidbkaidkaaGreat.bm Go.Proofs.YtolkoidbkaidkaaGreat.bl Go.Proofs.YtolkoidbkaidkaaGreat.mat Go.Proofs.YtolkoidbkaidkaaGreat.huf Go.Proofs.YtolkoidbkaidkaaGreat.wb

theorem ri_low {w : World} {a : Option Addr} {cap : Nat} {xs : List Nat} (h : Ri w a cap xs) (hn : 0 < xs.length) : ∀ x ∈ blk a, x < w.heap.size := by
  intro x hx
  obtain ⟨g, o, rfl, _⟩ := h.at hn
  have := h.cs.lt (by intro e; have := congrArg List.length e; rw [List.length_map] at this; simp at this; rw [this] at hn; simp at hn) ⟨g, o, none⟩ rfl
  simp [blk] at hx
  rw [hx]; exact this
/-- What a coded block's write leaves. -/
def CodedBits (ll dl : List Nat) (T : List Tok) (last told : Bool) (b : List Bool) : Prop :=
  ∃ hd, b = [last] ++ lsb 2 (if told then 2 else 1) ++ hd ++ tsbits ll dl T ++ sbits ll 256 ∧ (told = false → hd = []) ∧ (told = true → ∃ nl nd nc cl rs, Told ll dl nl nd nc cl rs hd)
theorem told_len {ll dl : List Nat} {nl nd nc : Nat} {cl : List Nat} {rs : List Rn} {b : List Bool} (h : Told ll dl nl nd nc cl rs b) (h1 : ll.length = 286) (h2 : dl.length = 30) : b.length ≤ 20000 := by
  have hr := h.runs.len
  rw [List.length_append, List.length_take, List.length_take] at hr
  have hle : ∀ x ∈ cl, x ≤ 15 := fun x hx => by have := h.cle x hx; omega
  have h3 := flat_le (rbits cl) 30 rs fun r hr => by
    have k1 := sbits_len cl hle r.1
    have k2 := (runs_sym h.runs r hr).2.2
    unfold rbits
    rw [List.length_append, lsb_length]
    omega
  have hrs : rs.length ≤ 316 := by simp at hr; omega
  have h4 : rs.length * 30 ≤ 316 * 30 := Nat.mul_le_mul_right _ hrs
  have h5 := h.nc19
  rw [h.bits]
  simp only [List.length_append, lsb_length, flat3 _ (fun i => lsb_length _ _)]
  omega
set_option maxRecDepth 100000 in
set_option maxHeartbeats 8000000 in
theorem cwrite_any (p : Nat) (F : List Nat) (l0 : List Bool) (b : List UInt8) (a al : Option Addr) (cap cl r : Nat) (l : List Mt) (a1 a2 : Option Addr) (c1 c2 : Nat) (ll dl : List Nat) (told last : Bool) (w : World)
    (hb : Rd w a cap b) (hl : Cs w al (mcells l)) (hlc : l.length ≤ cl) (hln : al = none → cl = 0) (hcm : cl ≤ maxLen) (hch : Chain b r 0 l) (hr : r ≤ 32768) (hblen : b.length ≤ 1000000)
    (h1 : Ri w a1 c1 ll) (h2 : Ri w a2 c2 dl) (hW : Wb w p F l0) (n1 : 286 ≤ ll.length) (n1' : ll.length ≤ 400) (n2 : 30 ≤ dl.length) (n2' : dl.length ≤ 400) (nt : told = true → ll.length = 286 ∧ dl.length = 30)
    (hle1 : ∀ x ∈ ll, x ≤ 15) (hle2 : ∀ x ∈ dl, x ≤ 15) (hw1 : weight ll ≤ 32768) (hw2 : weight dl ≤ 32768) (hL : l0.length ≤ 1000000000)
    (hF : ∀ x ∈ F, x < w.heap.size ∧ x ∉ blk a1 ∧ x ∉ blk a2 ∧ x ∉ blk a ∧ x ∉ blk al) (hla : ∀ x ∈ blk a, x < w.heap.size) (hll : ∀ x ∈ blk al, x < w.heap.size) :
    Calls Tryz.prog 112 #[.agg #[.slice a b.length cap, .slice al l.length cl, .slice a1 ll.length c1, .slice a2 dl.length c2, .bool told], .pointer (some ⟨p, 0, none⟩), .bool last] w fun e w' =>
      e = .returned (.tuple #[]) ∧ Fr F w w' ∧ ∃ bb, CodedBits ll dl (toks b 0 l) last told bb ∧ ∃ F', Wb w' p F' (l0 ++ bb) ∧ ∀ y ∈ F', y ∈ F ∨ w.heap.size ≤ y := by
  obtain ⟨B, hB⟩ : ∃ B, B = w.heap.size := ⟨_, rfl⟩
  obtain ⟨BL, hBL⟩ : ∃ BL, BL = b.length := ⟨_, rfl⟩
  obtain ⟨LL, hLL⟩ : ∃ LL, LL = l.length := ⟨_, rfl⟩
  obtain ⟨m1, hm1⟩ : ∃ m1, m1 = ll.length := ⟨_, rfl⟩
  obtain ⟨m2, hm2⟩ : ∃ m2, m2 = dl.length := ⟨_, rfl⟩
  rw [← hBL, ← hLL, ← hm1, ← hm2]
  obtain ⟨w1, hw1'⟩ : ∃ w1, w1 = (w.alloc (.cells #[.slice a BL cap, .slice al LL cl, .slice a1 m1 c1, .slice a2 m2 c2, .bool told] 37 (0, 0))).alloc (.cells #[.pointer (some ⟨p, 0, none⟩)] 82 (0, 0)) := ⟨_, rfl⟩
  have f1 : Fr [] w w1 := by rw [hw1']; exact ((Fr.refl [] w).alloc _).alloc _
  have hbox : w1.heap[B]? = some (.cells #[.slice a BL cap, .slice al LL cl, .slice a1 m1 c1, .slice a2 m2 c2, .bool told] 37 (0, 0)) := by rw [hw1', hB]; exact alloc_old _ (alloc_at w _)
  have hbx2 : w1.heap[B + 1]? = some (.cells #[.pointer (some ⟨p, 0, none⟩)] 82 (0, 0)) := by
    rw [hw1', hB]
    have := alloc_at (w.alloc (.cells #[.slice a BL cap, .slice al LL cl, .slice a1 m1 c1, .slice a2 m2 c2, .bool told] 37 (0, 0))) (.cells #[.pointer (some ⟨p, 0, none⟩)] 82 (0, 0))
    rwa [World.size_alloc] at this
  have hs1 : w1.heap.size = B + 2 := by rw [hw1', World.size_alloc, World.size_alloc, ← hB]
  have hW1 : Wb w1 p F l0 := wb_fr hW f1 (by simp)
  have hBF : B ∉ F ∧ B + 1 ∉ F := ⟨fun h => by have := (hF B h).1; omega, fun h => by have := (hF (B + 1) h).1; omega⟩
  have H := Lib.hid (And.intro hb (And.intro hl (And.intro hlc (And.intro hln (And.intro hcm (And.intro hch (And.intro hr (And.intro hblen (And.intro h1 (And.intro h2 nt))))))))))
  have HR := Lib.hid (And.intro n1 (And.intro n1' (And.intro n2 (And.intro n2' (And.intro hle1 (And.intro hle2 (And.intro hw1 (And.intro hw2 (And.intro hL hF)))))))))
  have HE := Lib.hid (And.intro hBL (And.intro hLL (And.intro hm1 (And.intro hm2 hB))))
  have HW := Lib.hid (And.intro f1 (And.intro hbox (And.intro hbx2 (And.intro hs1 (And.intro hW1 hBF)))))
  have HWW := Lib.hid hw1'.symm
  have HLA := Lib.hid (And.intro hla hll)
  clear hla hll
  have e4 := cell_of hbox 4
  have d0 := cell_of hbx2 0
  simp only [List.getElem?_toArray, List.getElem?_cons_zero, List.getElem?_cons_succ] at e4 d0
  clear hb hl hlc hln hcm hch hr hblen h1 h2 nt n1 n1' n2 n2' hle1 hle2 hw1 hw2 hL hF hBL hLL hm1 hm2 f1 hbox hbx2 hs1 hW1 hBF hw1' hW
  go_enter Tryz.func112, Tryz.ntmps112
  go_upto_region 1 with fail
  rw [HWW.out, ← HE.out.2.2.2.2]
  clear hB
  go_upto_if 11 with fail
  obtain ⟨pp, hpp⟩ : ∃ pp, pp = B + 1 := ⟨_, rfl⟩
  rw [← hpp] at d0 ⊢
  have HPP := Lib.hid hpp
  clear hpp
  go_cut [] from 11 to 21 (fun wz => ∃ hd F', ((told = false → hd = []) ∧ (told = true → ∃ nl nd nc cl rs, Told ll dl nl nd nc cl rs hd)) ∧ Pg p F w1 (l0 ++ ([last] ++ lsb 2 (if told then 2 else 1)) ++ hd) F' wz)
  case first =>
    cases told with
    | false =>
      have hh : Calls Tryz.prog 113 #[.pointer (some ⟨p, 0, none⟩), .bool last, .int .u32 1] w1 (WbPost p F w1 (l0 ++ last :: lsb 2 1)) := head_any p F l0 last 1 w1 HW.out.2.2.2.2.1 (by decide) (by have := HR.out.2.2.2.2.2.2.2.2.1; omega)
      have HH := Lib.hid hh
      clear hh
      go_wp2_with (go_at_call 113; refine HH.out.mono ?_; rintro e w2 ⟨rfl, f2, g2⟩; have H2 := Lib.hid (Pg.step (Pg.start HW.out.2.2.2.2.1) f2 g2); clear f2 g2)
      go_meet
      obtain ⟨F2, h2⟩ := H2.out
      exact ⟨[], F2, ⟨fun _ => rfl, (fun h => by cases h)⟩, by simpa using h2⟩
    | true =>
      have hh : Calls Tryz.prog 113 #[.pointer (some ⟨p, 0, none⟩), .bool last, .int .u32 2] w1 (WbPost p F w1 (l0 ++ last :: lsb 2 2)) := head_any p F l0 last 2 w1 HW.out.2.2.2.2.1 (by decide) (by have := HR.out.2.2.2.2.2.2.2.2.1; omega)
      have HH := Lib.hid hh
      have hnt := H.out.2.2.2.2.2.2.2.2.2.2 rfl
      have hm286 : m1 = 286 := by rw [HE.out.2.2.1]; exact hnt.1
      have hm30 : m2 = 30 := by rw [HE.out.2.2.2.1]; exact hnt.2
      subst hm286
      subst hm30
      clear hh hnt
      go_upto_region 3 with (go_at_call 113; refine HH.out.mono ?_; rintro e w2 ⟨rfl, f2, g2⟩; have H2 := Lib.hid (Pg.step (Pg.start HW.out.2.2.2.2.1) f2 g2); clear f2 g2)
      obtain ⟨F2, hp2⟩ := H2.out
      have hbx := hp2.fr.blk HW.out.2.1 HW.out.2.2.2.2.2.1
      have hbp := hp2.fr.blk HW.out.2.2.1 HW.out.2.2.2.2.2.2
      rw [← HPP.out] at hbp
      have y0 := cell_of hbx 0
      have y1 := cell_of hbx 1
      have y2 := cell_of hbx 2
      have y3 := cell_of hbx 3
      have y4 := cell_of hbx 4
      have y5 := cell_of hbp 0
      simp only [List.getElem?_toArray, List.getElem?_cons_zero, List.getElem?_cons_succ] at y0 y1 y2 y3 y4 y5
      have fr2 : Fr F w w2 := (HW.out.1.mono (by simp)).trans hp2.fr
      have htell := tell_any p F2 _ (.slice a BL cap) (.slice al LL cl) a1 a2 c1 c2 ll dl true w2 rfl rfl
        (ri_frS H.out.2.2.2.2.2.2.2.2.1 fr2 (fun x hx hxF => (HR.out.2.2.2.2.2.2.2.2.2 x hxF).2.1 hx)) (ri_frS H.out.2.2.2.2.2.2.2.2.2.1 fr2 (fun x hx hxF => (HR.out.2.2.2.2.2.2.2.2.2 x hxF).2.2.1 hx)) hp2.wb HE.out.2.2.1.symm HE.out.2.2.2.1.symm HR.out.2.2.2.2.1 HR.out.2.2.2.2.2.1
        (by rw [List.length_append, List.length_cons, lsb_length]; have := HR.out.2.2.2.2.2.2.2.2.1; omega)
        (fun x hx => by
          refine ⟨wb_lt hp2.wb x hx, fun h => ?_, fun h => ?_⟩
          · rcases hp2.new x hx with k | k
            · exact (HR.out.2.2.2.2.2.2.2.2.2 x k).2.1 h
            · have h3 := ri_low H.out.2.2.2.2.2.2.2.2.1 (by have := HR.out.1; omega) x h
              have := HW.out.1.size
              omega
          · rcases hp2.new x hx with k | k
            · exact (HR.out.2.2.2.2.2.2.2.2.2 x k).2.2.1 h
            · have h3 := ri_low H.out.2.2.2.2.2.2.2.2.2.1 (by have := HR.out.2.2.1; omega) x h
              have := HW.out.1.size
              omega)
      have HT := Lib.hid htell
      have HP2 := Lib.hid hp2
      clear htell hp2 hbx hbp fr2
      go_wp2_with (go_at_call 114; refine HT.out.mono ?_; rintro e w3 ⟨rfl, f3, nl, nd, nc, cl2, rs, bt, ht, g3⟩; have H3 := Lib.hid (And.intro (show ∃ nl nd nc cl rs, Told ll dl nl nd nc cl rs bt from ⟨nl, nd, nc, cl2, rs, ht⟩) (Pg.step HP2.out f3 g3)); clear f3 g3 ht)
      go_meet
      obtain ⟨F3, h3⟩ := H3.out.2
      exact ⟨bt, F3, ⟨(fun h => by cases h), fun _ => H3.out.1⟩, by simpa using h3⟩
  case rest =>
  obtain ⟨hd, F2, hhd, hpg⟩ := hcut
  obtain ⟨w2, hw2⟩ : ∃ w2 : World, w2 = wc := ⟨_, rfl⟩
  rw [← hw2] at hpg ⊢
  clear hw2 e4 d0
  have hdl : hd.length ≤ 20000 := by
    cases told with
    | false => rw [hhd.1 rfl]; exact Nat.zero_le _
    | true =>
      obtain ⟨nl, nd, nc, cl2, rs, ht⟩ := hhd.2 rfl
      have hnt := H.out.2.2.2.2.2.2.2.2.2.2 rfl
      exact told_len ht hnt.1 hnt.2
  have fr2 : Fr F w w2 := (HW.out.1.mono (by simp)).trans hpg.fr
  have hbx := hpg.fr.blk HW.out.2.1 HW.out.2.2.2.2.2.1
  have hbp := hpg.fr.blk HW.out.2.2.1 HW.out.2.2.2.2.2.2
  rw [← HPP.out] at hbp
  have ri1 := ri_frS H.out.2.2.2.2.2.2.2.2.1 fr2 (fun x hx hxF => (HR.out.2.2.2.2.2.2.2.2.2 x hxF).2.1 hx)
  have ri2 := ri_frS H.out.2.2.2.2.2.2.2.2.2.1 fr2 (fun x hx hxF => (HR.out.2.2.2.2.2.2.2.2.2 x hxF).2.2.1 hx)
  have hc1 := codes_any a1 c1 ll w2 ri1 HR.out.2.2.2.2.1 HR.out.2.1 HR.out.2.2.2.2.2.2.1
  unfold CodesGood at hc1
  rw [← HE.out.2.2.1] at hc1
  have y2 := cell_of hbx 2
  simp only [List.getElem?_toArray, List.getElem?_cons_zero, List.getElem?_cons_succ] at y2
  have H2 := Lib.hid (And.intro hhd (And.intro hpg (And.intro hdl (And.intro fr2 (And.intro hbx (And.intro hbp (And.intro ri1 ri2)))))))
  have HC1 := Lib.hid hc1
  clear hhd hpg hdl fr2 hbx hbp ri1 ri2 hc1
  go_upto_region 6 with (go_at_call 76; refine HC1.out.mono ?_; rintro e w3 ⟨g1, rfl, u3, lo3, hi3, f3⟩; have H3 := Lib.hid (And.intro u3 (And.intro lo3 (And.intro hi3 f3))); clear u3 lo3 hi3 f3)
  clear y2
  obtain ⟨q6, hq6⟩ : ∃ q6, q6 = w3.heap.size := ⟨_, rfl⟩
  obtain ⟨w4, hw4⟩ : ∃ w4, w4 = w3.alloc (.cells #[.slice (some ⟨g1, 0, none⟩) m1 m1] 134 (0, 0)) := ⟨_, rfl⟩
  have hb4 : w4.heap[q6]? = some (.cells #[.slice (some ⟨g1, 0, none⟩) m1 m1] 134 (0, 0)) := by rw [hw4, hq6]; exact alloc_at w3 _
  have f4 : Fr [] w3 w4 := by rw [hw4]; exact (Fr.refl [] w3).alloc _
  rw [← hw4, ← hq6]
  have H4 := Lib.hid (And.intro hb4 (And.intro f4 (And.intro hq6 hw4)))
  clear hb4 f4 hq6 hw4
  have f24 : Fr [] w2 w4 := H3.out.2.2.2.trans H4.out.2.1
  have hc2 := codes_any a2 c2 dl w4 (H2.out.2.2.2.2.2.2.2.fr f24) HR.out.2.2.2.2.2.1 HR.out.2.2.2.1 HR.out.2.2.2.2.2.2.2.1
  unfold CodesGood at hc2
  rw [← HE.out.2.2.2.1] at hc2
  have y3 := cell_of (f24.blk H2.out.2.2.2.2.1 (by simp)) 3
  simp only [List.getElem?_toArray, List.getElem?_cons_zero, List.getElem?_cons_succ] at y3
  have HC2 := Lib.hid (And.intro hc2 f24)
  clear hc2 f24
  go_upto_region 7 with (go_at_call 76; refine HC2.out.1.mono ?_; rintro e w5 ⟨g2, rfl, u5, lo5, hi5, f5⟩; have H5 := Lib.hid (And.intro u5 (And.intro lo5 (And.intro hi5 f5))); clear u5 lo5 hi5 f5)
  clear y3
  obtain ⟨q8, hq8⟩ : ∃ q8, q8 = w5.heap.size := ⟨_, rfl⟩
  obtain ⟨w6, hw6⟩ : ∃ w6, w6 = w5.alloc (.cells #[.slice (some ⟨g2, 0, none⟩) m2 m2] 134 (0, 0)) := ⟨_, rfl⟩
  have hb6 : w6.heap[q8]? = some (.cells #[.slice (some ⟨g2, 0, none⟩) m2 m2] 134 (0, 0)) := by rw [hw6, hq8]; exact alloc_at w5 _
  have f6 : Fr [] w5 w6 := by rw [hw6]; exact (Fr.refl [] w5).alloc _
  rw [← hw6, ← hq8]
  have H6 := Lib.hid (And.intro hb6 (And.intro f6 (And.intro hq8 hw6)))
  clear hb6 f6 hq8 hw6
  have f46 : Fr [] w4 w6 := H5.out.2.2.2.trans H6.out.2.1
  have f26 : Fr [] w2 w6 := HC2.out.2.trans f46
  have hbx6 := f26.blk H2.out.2.2.2.2.1 (by simp)
  have hbp6 := f26.blk H2.out.2.2.2.2.2.1 (by simp)
  have env : Env p pp q6 B q8 g1 g2 a1 a2 c1 c2 m1 m2 ll dl w6 := by
    have k0 := cell_of hbp6 0
    have k2 := cell_of hbx6 2
    have k3 := cell_of hbx6 3
    have k6 := cell_of (f46.blk H4.out.1 (by simp)) 0
    have k8 := cell_of H6.out.1 0
    simp only [List.getElem?_toArray, List.getElem?_cons_zero, List.getElem?_cons_succ] at k0 k2 k3 k6 k8
    exact ⟨k0, k6, k2, k3, k8, Cs.fr H3.out.1 (H4.out.2.1.trans f46) (by simp), Cs.fr H5.out.1 H6.out.2.1 (by simp), H2.out.2.2.2.2.2.2.1.fr f26, H2.out.2.2.2.2.2.2.2.fr f26, HE.out.2.2.1, HE.out.2.2.2.1⟩
  have hs12 := H2.out.2.1.fr.size
  have hs23 := H3.out.2.2.2.size
  have hs34 := H4.out.2.1.size
  have hs45 := H5.out.2.2.2.size
  have hs56 := H6.out.2.1.size
  have hsw := HW.out.1.size
  have hzB := HW.out.2.2.2.1
  have hEB : ∀ x ∈ envB pp q6 B q8 g1 g2 a1 a2, x ∉ F2 ∧ x < w6.heap.size := by
    intro x hx
    have hn := H2.out.2.1.new x
    have ha1 := ri_low H.out.2.2.2.2.2.2.2.2.1 (by have := HR.out.1; omega) x
    have ha2 := ri_low H.out.2.2.2.2.2.2.2.2.2.1 (by have := HR.out.2.2.1; omega) x
    have hlw : x ∈ F2 → x < w2.heap.size := wb_lt H2.out.2.1.wb x
    have k3 := H3.out.2.1
    have k3' := H3.out.2.2.1
    have k5 := H5.out.2.1
    have k5' := H5.out.2.2.1
    have kq6 := H4.out.2.2.1
    have kq8 := H6.out.2.2.1
    have kpp := HPP.out
    have l6 := lt_of_block H4.out.1
    have l8 := lt_of_block H6.out.1
    have lB := lt_of_block hbx6
    have lp := lt_of_block hbp6
    simp only [envB, List.mem_append, List.mem_cons, List.not_mem_nil, or_false] at hx
    rcases hx with ((rfl | rfl | rfl | rfl | rfl | rfl) | hx) | hx
    · refine ⟨fun h => ?_, by omega⟩
      rcases hn h with k | k
      · rw [kpp] at k; exact HW.out.2.2.2.2.2.2 k
      · omega
    · exact ⟨fun h => by have := hlw h; omega, by omega⟩
    · refine ⟨fun h => ?_, by omega⟩
      rcases hn h with k | k
      · exact HW.out.2.2.2.2.2.1 k
      · omega
    · exact ⟨fun h => by have := hlw h; omega, by omega⟩
    · exact ⟨fun h => by have := hlw h; omega, by omega⟩
    · exact ⟨fun h => by have := hlw h; omega, by omega⟩
    · have := ha1 hx
      refine ⟨fun h => ?_, by omega⟩
      rcases hn h with k | k
      · exact (HR.out.2.2.2.2.2.2.2.2.2 x k).2.1 hx
      · omega
    · have := ha2 hx
      refine ⟨fun h => ?_, by omega⟩
      rcases hn h with k | k
      · exact (HR.out.2.2.2.2.2.2.2.2.2 x k).2.2.1 hx
      · omega
  obtain ⟨L0, hL0⟩ : ∃ L0, L0 = l0 ++ ([last] ++ lsb 2 (if told then 2 else 1)) ++ hd := ⟨_, rfl⟩
  have hL0b : L0.length ≤ 1000100000 := by
    rw [hL0]; simp only [List.length_append, lsb_length, List.length_cons, List.length_nil]
    have := HR.out.2.2.2.2.2.2.2.2.1; have := H2.out.2.2.1; omega
  have hwb6 : Wb w6 p F2 L0 := by rw [hL0]; exact wb_fr H2.out.2.1.wb f26 (by simp)
  have fw6 : Fr F w w6 := H2.out.2.2.2.1.trans (f26.mono (by simp))
  have hbr : Rd w6 a cap b := H.out.1.frS fw6 fun x hx hxF => (HR.out.2.2.2.2.2.2.2.2.2 x hxF).2.2.2.1 hx
  have hlr : Cs w6 al (mcells l) := H.out.2.1.fr fw6 fun x hx hxF => (HR.out.2.2.2.2.2.2.2.2.2 x hxF).2.2.2.2 hx
  have hm1g : 286 ≤ m1 := by rw [HE.out.2.2.1]; exact HR.out.1
  have hm2g : 30 ≤ m2 := by rw [HE.out.2.2.2.1]; exact HR.out.2.2.1
  have hea := each_any 115 #[.pointer (some ⟨pp, 0, none⟩), .pointer (some ⟨q6, 0, none⟩), .pointer (some ⟨B, 0, none⟩), .pointer (some ⟨q8, 0, none⟩)] (fun _ _ => by kernel_rfl)
    (fun T F' w' => Env p pp q6 B q8 g1 g2 a1 a2 c1 c2 m1 m2 ll dl w' ∧ Wb w' p F' (L0 ++ tsbits ll dl T) ∧ (∀ x ∈ envB pp q6 B q8 g1 g2 a1 a2, x ∉ F' ∧ x < w'.heap.size) ∧ (tsbits ll dl T).length ≤ 48 * T.length) F2
    b a al cap cl r l (.slice a1 m1 c1) (.slice a2 m2 c2) told w6 rfl rfl hbr hlr H.out.2.2.1 H.out.2.2.2.1 H.out.2.2.2.2.1 H.out.2.2.2.2.2.1 H.out.2.2.2.2.2.2.1 H.out.2.2.2.2.2.2.2.1
    (fun x hx => by
      have hlw := wb_lt hwb6 x hx
      refine ⟨hlw, fun h => ?_, fun h => ?_⟩
      · rcases H2.out.2.1.new x hx with k | k
        · exact (HR.out.2.2.2.2.2.2.2.2.2 x k).2.2.2.1 h
        · have := HLA.out.1 x h; omega
      · rcases H2.out.2.1.new x hx with k | k
        · exact (HR.out.2.2.2.2.2.2.2.2.2 x k).2.2.2.2 h
        · have := HLA.out.2 x h; omega)
    (fun w' f => ⟨env.fr f (by simp), by simpa [tsbits] using wb_fr hwb6 f (by simp), fun x hx => ⟨(hEB x hx).1, Nat.lt_of_lt_of_le (hEB x hx).2 f.size⟩, by simp [tsbits]⟩)
    (fun T F' c w' hT ⟨ev, hwb, hE, hTl⟩ => by
      refine (wtok_lit p pp q6 B q8 g1 g2 a1 a2 c1 c2 m1 m2 ll dl F' _ c w' ev hwb HR.out.2.2.2.2.1 HR.out.2.2.2.2.2.2.1 (by omega) (by rw [List.length_append]; have := H.out.2.2.2.2.2.2.2.1; omega)).mono ?_
      rintro e w2' ⟨rfl, f', F'', hb', hn'⟩
      have hk := tbits_len ll dl HR.out.2.2.2.2.1 HR.out.2.2.2.2.2.1 (.lit c) (fun n d h => by cases h)
      refine ⟨rfl, f', F'', ⟨ev.fr f' (fun x hx => (hE x hx).1), by rw [tsbits_add, ← List.append_assoc]; exact hb', fun x hx => ⟨fun h => ?_, Nat.lt_of_lt_of_le (hE x hx).2 f'.size⟩, by rw [tsbits_add, List.length_append, List.length_append]; simp only [List.length_cons, List.length_nil]; omega⟩, hn'⟩
      rcases hn' x h with k | k
      · exact (hE x hx).1 k
      · have := (hE x hx).2; omega)
    (fun T F' n d g o w' hT ⟨ev, hwb, hE, hTl⟩ h3 h258 h1 hd' hg e1 e2 => by
      refine (wtok_mat p pp q6 B q8 g1 g2 g o a1 a2 c1 c2 m1 m2 ll dl F' _ n d w' ev hwb HR.out.2.2.2.2.1 HR.out.2.2.2.2.2.2.1 HR.out.2.2.2.2.2.1 HR.out.2.2.2.2.2.2.2.1 hm1g hm2g (by rw [List.length_append]; have := H.out.2.2.2.2.2.2.2.1; omega) hE h3 h258 h1 hd' hg e1 e2).mono ?_
      rintro e w2' ⟨rfl, f', F'', hb', hn'⟩
      have hk := tbits_len ll dl HR.out.2.2.2.2.1 HR.out.2.2.2.2.2.1 (.mat n d) (fun n' d' h => by cases h; exact ⟨h3, h258, h1, hd'⟩)
      refine ⟨rfl, f', F'', ⟨ev.fr f' (fun x hx => (hE x hx).1), by rw [tsbits_add, ← List.append_assoc]; exact hb', fun x hx => ⟨fun h => ?_, Nat.lt_of_lt_of_le (hE x hx).2 f'.size⟩, by rw [tsbits_add, List.length_append, List.length_append]; simp only [List.length_cons, List.length_nil]; omega⟩, hn'⟩
      rcases hn' x h with k | k
      · exact (hE x hx).1 k
      · have := (hE x hx).2; omega)
  unfold boxT at hea
  rw [← HE.out.1, ← HE.out.2.1] at hea
  have y0 := cell_of hbx6 0
  have y1 := cell_of hbx6 1
  have y2 := cell_of hbx6 2
  have y3 := cell_of hbx6 3
  have y4 := cell_of hbx6 4
  simp only [List.getElem?_toArray, List.getElem?_cons_zero, List.getElem?_cons_succ] at y0 y1 y2 y3 y4
  have HEA := Lib.hid hea
  have HX := Lib.hid (And.intro fw6 (And.intro hL0 hL0b))
  clear hea hL0 hL0b hwb6 fw6 hbr hlr env hEB f46 f26 hbx6 hbp6 hs12 hs23 hs34 hs45 hs56 hsw hzB
  go_upto_region 8 with (go_at_call 32; refine HEA.out.mono ?_; rintro e w7 ⟨rfl, f7, F7, ⟨ev7, hwb7, hE7, hTl7⟩, hn7⟩; have H7 := Lib.hid (And.intro f7 (And.intro ev7 (And.intro hwb7 (And.intro hE7 (And.intro hTl7 hn7))))); clear f7 ev7 hwb7 hE7 hTl7 hn7)
  clear y0 y1 y2 y3 y4
  obtain ⟨f7, ev7, hwb7, hE7, hTl7, hn7⟩ := H7.out
  obtain ⟨ga, oa, ea, d1, d2⟩ := ev7.sym1 (show 256 < m1 by omega)
  subst ea
  have d3 := ev7.c4
  have d4 := ev7.c6
  have d5 := ev7.c32
  have hcall := code_s p F7 _ ll 256 w7.drew (wb_fr hwb7 (Fr.drew1 [] w7) (by simp)) HR.out.2.2.2.2.1 HR.out.2.2.2.2.2.2.1 (by rw [List.length_append]; have := toks_len b 0 l; have := H.out.2.2.2.2.2.2.2.1; have := HX.out.2.2; omega)
  obtain ⟨x, hx⟩ : ∃ x, x = codeAt ll 256 := ⟨_, rfl⟩
  obtain ⟨y, hy⟩ : ∃ y, y = lenAt ll 256 := ⟨_, rfl⟩
  rw [← hx] at d2 hcall
  rw [← hy] at d1 hcall
  have hg : decide ((m1 : Int) ≤ 256) = false := by simp; omega
  have HC := Lib.hid hcall
  have HF7 := Lib.hid (And.intro f7 hn7)
  clear hcall f7 ev7 hwb7 hE7 hTl7 hn7 hx hy
  refine region_tail 8 (by kernel_rfl) (by kernel_rfl) ?_
  simp only [List.take_succ_cons, List.take_zero, List.drop_succ_cons, List.drop_zero]
  repeat (go_big_quiet_step (fail))
  refine wpQuiet_nil ?_
  go_wp2_with (go_at_call 116; refine HC.out.mono ?_; rintro e w8 ⟨rfl, f8, F8, hb8, hn8⟩)
  (try simp only [Exit.inBlock, Exit.then])
  refine bodyPost_end (results_none rfl _ _ _) rfl ?_
  have hfall : Fr F w w7 := HX.out.1.step HF7.out.1 fun y hy => by
    rcases H2.out.2.1.new y hy with k | k
    · exact .inl k
    · exact .inr (Nat.le_trans HW.out.1.size k)
  have hF7n : ∀ y ∈ F7, y ∈ F ∨ w.heap.size ≤ y := fun y hy => by
    rcases HF7.out.2 y hy with k | k
    · rcases H2.out.2.1.new y k with k2 | k2
      · exact .inl k2
      · exact .inr (Nat.le_trans HW.out.1.size k2)
    · exact .inr (Nat.le_trans HX.out.1.size k)
  refine ⟨rfl, (hfall.trans ((Fr.drew1 [] w7).mono (by simp))).step f8 fun y hy => hF7n y hy, [last] ++ lsb 2 (if told then 2 else 1) ++ hd ++ tsbits ll dl (toks b 0 l) ++ sbits ll 256, ⟨hd, rfl, H2.out.1.1, H2.out.1.2⟩, F8, ?_, fun y hy => ?_⟩
  · rw [HX.out.2.1] at hb8
    simpa only [List.append_assoc] using hb8
  · rcases hn8 y hy with k | k
    · exact hF7n y k
    · exact .inr (Nat.le_trans hfall.size k)
end Go.Proofs.YtolkoidbkaidkaaGreat.defl
/-
  deflate.always.
-/
namespace Go.Proofs.YtolkoidbkaidkaaGreat.defl
open Go Go.RowKit Go.Proofs.YtolkoidbkaidkaaGreat.lib Go.Proofs.YtolkoidbkaidkaaGreat.bm Go.Proofs.YtolkoidbkaidkaaGreat.bl Go.Proofs.YtolkoidbkaidkaaGreat.mat Go.Proofs.YtolkoidbkaidkaaGreat.huf Go.Proofs.YtolkoidbkaidkaaGreat.wb

def fixL (i : Nat) : Nat := if i < 144 then 8 else if i < 256 then 9 else if i < 280 then 7 else 8
def alw (n : Nat) : List Nat := (List.range n).map fixL
theorem alw_succ (n : Nat) : alw (n + 1) = alw n ++ [fixL n] := by unfold alw; rw [List.range_succ, List.map_append]; rfl
theorem ints_append (a b : List Nat) : ints (a ++ b) = ints a ++ ints b := by simp [ints]
theorem fixL_1 {i : Nat} (h : i < 144) : fixL i = 8 := by unfold fixL; rw [if_pos h]
theorem fixL_2 {i : Nat} (h1 : ¬ i < 144) (h : i < 256) : fixL i = 9 := by unfold fixL; rw [if_neg h1, if_pos h]
theorem fixL_3 {i : Nat} (h1 : ¬ i < 144) (h2 : ¬ i < 256) (h : i < 280) : fixL i = 7 := by unfold fixL; rw [if_neg h1, if_neg h2, if_pos h]
theorem fixL_4 {i : Nat} (h1 : ¬ i < 144) (h2 : ¬ i < 256) (h : ¬ i < 280) : fixL i = 8 := by unfold fixL; rw [if_neg h1, if_neg h2, if_neg h]
def AlwaysGood (w : World) (e : Ending) (w' : World) : Prop :=
  ∃ a1 c1 a2 c2, e = .returned (.tuple #[.slice a1 288 c1, .slice a2 30 c2]) ∧ Made w w' 3 1 a1 288 c1 (ints (alw 288)) ∧ Made w w' 3 1 a2 30 c2 (ints (List.replicate 30 5))
set_option maxRecDepth 100000 in
set_option maxHeartbeats 4000000 in
theorem always_any (w : World) : Calls Tryz.prog 12 #[] w (AlwaysGood w) := by
  go_enter Tryz.func12, Tryz.ntmps12
  go_wp2
  go_loopg [0, 2, 3, 9, 17] 288 (fun k s0 s2 s3 s9 s17 wr => ∃ (i : Nat) (ao : Option Addr) (cp : Nat), s3 = .int .i64 (i : Nat) ∧ s0 = .slice ao i cp ∧ i + k = 288 ∧ Made w wr 3 1 ao i cp (ints (alw i)))
  case atStart => exact ⟨0, none, 0, rfl, rfl, rfl, .none w _ _⟩
  case round =>
    obtain ⟨i, ao, cp, rfl, rfl, hik, hm⟩ := hrel
    have HI := Lib.hid (And.intro hm hik)
    clear hm
    by_cases hi : i < 288
    · obtain ⟨k, rfl⟩ : ∃ k, gk = k + 1 := ⟨gk - 1, by omega⟩
      clear hik
      by_cases h1 : i < 144
      · go_wp2_with (refine wpList_append sty_int rfl _ _ rfl (.slice ao i cp) i (ints (alw i)) (blk ao) rfl (own_blk ao i cp) (HI.out.1.fr2 ((Fr.refl [] _).alloc _)).own (some ⟨wr.heap.size, 0, none⟩) 1 1 [.int .i64 (8 : Nat)] (by first | rfl | simp) (Nat.le_refl _) (fun h => by cases h) (cs_one _ _ _ _ (alloc_at _ _)) rfl (by intro u hu; simp only [List.mem_singleton] at hu; rw [hu]; rfl) (by omega) (by unfold maxLen; omega) ?_; intro ao2 cp2 w2 hap; have HA := Lib.hid ((HI.out.1.fr2 ((Fr.refl [] _).alloc _)).app hap); clear hap)
        go_roundg k
        case measure => omega
        case rel =>
          refine ⟨i + 1, ao2, cp2, by go_num, rfl, by have := HI.out.2; omega, ?_⟩
          have hA3 := HA.out
          rw [alw_succ, ints_append, fixL_1 h1]
          exact hA3
      · by_cases h2 : i < 256
        · have h4 : ¬ 280 ≤ i := by omega
          go_wp2_with (refine wpList_append sty_int rfl _ _ rfl (.slice ao i cp) i (ints (alw i)) (blk ao) rfl (own_blk ao i cp) (HI.out.1.fr2 ((Fr.refl [] _).alloc _)).own (some ⟨wr.heap.size, 0, none⟩) 1 1 [.int .i64 (9 : Nat)] (by first | rfl | simp) (Nat.le_refl _) (fun h => by cases h) (cs_one _ _ _ _ (alloc_at _ _)) rfl (by intro u hu; simp only [List.mem_singleton] at hu; rw [hu]; rfl) (by omega) (by unfold maxLen; omega) ?_; intro ao2 cp2 w2 hap; have HA := Lib.hid ((HI.out.1.fr2 ((Fr.refl [] _).alloc _)).app hap); clear hap)
          go_roundg k
          case measure => omega
          case rel =>
            refine ⟨i + 1, ao2, cp2, by go_num, rfl, by have := HI.out.2; omega, ?_⟩
            have hA3 := HA.out
            rw [alw_succ, ints_append, fixL_2 h1 h2]
            exact hA3
        · by_cases h3 : i < 280
          · have h4 : ¬ 280 ≤ i := by omega
            go_wp2_with (refine wpList_append sty_int rfl _ _ rfl (.slice ao i cp) i (ints (alw i)) (blk ao) rfl (own_blk ao i cp) (HI.out.1.fr2 ((Fr.refl [] _).alloc _)).own (some ⟨wr.heap.size, 0, none⟩) 1 1 [.int .i64 (7 : Nat)] (by first | rfl | simp) (Nat.le_refl _) (fun h => by cases h) (cs_one _ _ _ _ (alloc_at _ _)) rfl (by intro u hu; simp only [List.mem_singleton] at hu; rw [hu]; rfl) (by omega) (by unfold maxLen; omega) ?_; intro ao2 cp2 w2 hap; have HA := Lib.hid ((HI.out.1.fr2 ((Fr.refl [] _).alloc _)).app hap); clear hap)
            go_roundg k
            case measure => omega
            case rel =>
              refine ⟨i + 1, ao2, cp2, by go_num, rfl, by have := HI.out.2; omega, ?_⟩
              have hA3 := HA.out
              rw [alw_succ, ints_append, fixL_3 h1 h2 h3]
              exact hA3
          · have h4 : 280 ≤ i := by omega
            go_wp2_with (refine wpList_append sty_int rfl _ _ rfl (.slice ao i cp) i (ints (alw i)) (blk ao) rfl (own_blk ao i cp) (HI.out.1.fr2 ((Fr.refl [] _).alloc _)).own (some ⟨wr.heap.size, 0, none⟩) 1 1 [.int .i64 (8 : Nat)] (by first | rfl | simp) (Nat.le_refl _) (fun h => by cases h) (cs_one _ _ _ _ (alloc_at _ _)) rfl (by intro u hu; simp only [List.mem_singleton] at hu; rw [hu]; rfl) (by omega) (by unfold maxLen; omega) ?_; intro ao2 cp2 w2 hap; have HA := Lib.hid ((HI.out.1.fr2 ((Fr.refl [] _).alloc _)).app hap); clear hap)
            go_roundg k
            case measure => omega
            case rel =>
              refine ⟨i + 1, ao2, cp2, by go_num, rfl, by have := HI.out.2; omega, ?_⟩
              have hA3 := HA.out
              rw [alw_succ, ints_append, fixL_4 h1 h2 h3]
              exact hA3
    · obtain rfl : i = 288 := by omega
      clear hik
      obtain ⟨wo, rfl⟩ : ∃ wo : World, wo = wr := ⟨_, rfl⟩
      go_wp2
      go_loopg [1, 24] 30 (fun k s1 s24 wr => ∃ (j : Nat) (a2 : Option Addr) (c2 : Nat), s24 = .int .i64 (j : Nat) ∧ s1 = .slice a2 j c2 ∧ j + k = 30 ∧ Made wo wr 3 1 a2 j c2 (ints (List.replicate j 5)))
      case atStart => exact ⟨0, none, 0, rfl, rfl, rfl, .none wo _ _⟩
      case round =>
        obtain ⟨j, a2, c2, rfl, rfl, hjk, hm⟩ := hrel
        have HJ := Lib.hid (And.intro hm hjk)
        clear hm
        by_cases hj : j < 30
        · obtain ⟨k, rfl⟩ : ∃ k, gk = k + 1 := ⟨gk - 1, by omega⟩
          clear hjk
          go_wp2_with (refine wpList_append sty_int rfl _ _ rfl (.slice a2 j c2) j (ints (List.replicate j 5)) (blk a2) rfl (own_blk a2 j c2) (HJ.out.1.fr2 ((Fr.refl [] _).alloc _)).own (some ⟨wr.heap.size, 0, none⟩) 1 1 [.int .i64 (5 : Nat)] (by first | rfl | simp) (Nat.le_refl _) (fun h => by cases h) (cs_one _ _ _ _ (alloc_at _ _)) rfl (by intro u hu; simp only [List.mem_singleton] at hu; rw [hu]; rfl) (by omega) (by unfold maxLen; omega) ?_; intro ao2 cp2 w2 hap; have HA := Lib.hid ((HJ.out.1.fr2 ((Fr.refl [] _).alloc _)).app hap); clear hap)
          go_roundg k
          case measure => omega
          case rel =>
            refine ⟨j + 1, ao2, cp2, by go_num, rfl, by have := HJ.out.2; omega, ?_⟩
            have hA3 := HA.out
            rw [List.replicate_succ', ints_append]
            exact hA3
        · obtain rfl : j = 30 := by omega
          clear hjk
          go_wp2
          go_ret2
          exact ⟨ao, cp, a2, c2, rfl, HI.out.1.fr2 HJ.out.1.fr, HJ.out.1.pre HI.out.1.fr⟩
end Go.Proofs.YtolkoidbkaidkaaGreat.defl
/-
  deflate.written of one coded block.
-/
namespace Go.Proofs.YtolkoidbkaidkaaGreat.defl
open Go Go.RowKit Go.Proofs.YtolkoidbkaidkaaGreat.lib Go.Proofs.YtolkoidbkaidkaaGreat.bm Go.Proofs.YtolkoidbkaidkaaGreat.bl Go.Proofs.YtolkoidbkaidkaaGreat.mat Go.Proofs.YtolkoidbkaidkaaGreat.huf Go.Proofs.YtolkoidbkaidkaaGreat.wb

theorem coded_len {ll dl : List Nat} {T : List Tok} {told : Bool} {b : List Bool} (h : CodedBits ll dl T true told b) : 0 < b.length := by
  obtain ⟨hd, rfl, _⟩ := h
  simp only [List.length_append, List.length_cons, List.length_nil]
  omega
theorem toks_ok {b : List UInt8} {r : Nat} (hr : r ≤ 32768) : ∀ (k i : Nat) (l : List Mt), k = b.length - i → Chain b r i l → ∀ x ∈ toks b i l, ∀ n d, x = .mat n d → 3 ≤ n ∧ n ≤ 258 ∧ 1 ≤ d ∧ d ≤ 32768 := by
  intro k
  induction k using Nat.strongRecOn with
  | ind k ih =>
    intro i l hk hch x hx n d he
    by_cases h : i < b.length
    · match l, hch with
      | [], hch =>
        rw [toks_lit h (fun a n d t he => by cases he)] at hx
        rcases List.mem_cons.1 hx with e | e
        · rw [e] at he; cases he
        · exact ih (b.length - (i + 1)) (by omega) (i + 1) [] rfl trivial x e n d he
      | (a, n', d') :: t, hch =>
        by_cases hc : a = i
        · subst hc
          have hc2 := hch
          obtain ⟨k1, k2, k3, k4, k5, k6, k7, _, k9⟩ := hc2
          rw [toks_mat h (by omega)] at hx
          rcases List.mem_cons.1 hx with e | e
          · rw [e] at he
            simp only [Tok.mat.injEq] at he
            obtain ⟨rfl, rfl⟩ := he
            exact ⟨k2, k3, k4, by omega⟩
          · exact ih (b.length - (a + n')) (by omega) (a + n') t rfl k9 x e n d he
        · have h3 := chain_next (l := (a, n', d') :: t) hch _ _ _ _ rfl hc
          rw [toks_lit h (fun a2 n2 d2 t2 he2 => by simp only [List.cons.injEq, Prod.mk.injEq] at he2; rw [← he2.1.1]; exact hc)] at hx
          rcases List.mem_cons.1 hx with e | e
          · rw [e] at he; cases he
          · exact ih (b.length - (i + 1)) (by omega) (i + 1) _ rfl h3 x e n d he
    · rw [toks_end (by omega)] at hx; cases hx
theorem tsbits_len (ll dl : List Nat) (h1 : ∀ l ∈ ll, l ≤ 15) (h2 : ∀ l ∈ dl, l ≤ 15) (T : List Tok) (hT : ∀ x ∈ T, ∀ n d, x = .mat n d → 3 ≤ n ∧ n ≤ 258 ∧ 1 ≤ d ∧ d ≤ 32768) : (tsbits ll dl T).length ≤ T.length * 48 :=
  flat_le (tbits ll dl) 48 T fun x hx => tbits_len ll dl h1 h2 x (hT x hx)
set_option maxRecDepth 100000 in
set_option maxHeartbeats 4000000 in
theorem written_coded (q : Nat) (b : List UInt8) (a al : Option Addr) (cap cl r : Nat) (l : List Mt) (a1 a2 : Option Addr) (c1 c2 : Nat) (ll dl : List Nat) (told : Bool) (w : World)
    (hq : w.heap[q]? = some (.cells #[.iface 37 (.agg #[.slice a b.length cap, .slice al l.length cl, .slice a1 ll.length c1, .slice a2 dl.length c2, .bool told])] 79 (0, 0)))
    (hb : Rd w a cap b) (hl : Cs w al (mcells l)) (hlc : l.length ≤ cl) (hln : al = none → cl = 0) (hcm : cl ≤ maxLen) (hch : Chain b r 0 l) (hr : r ≤ 32768) (hblen : b.length ≤ 1000000)
    (h1 : Ri w a1 c1 ll) (h2 : Ri w a2 c2 dl) (n1 : 286 ≤ ll.length) (n1' : ll.length ≤ 400) (n2 : 30 ≤ dl.length) (n2' : dl.length ≤ 400) (nt : told = true → ll.length = 286 ∧ dl.length = 30)
    (hle1 : ∀ x ∈ ll, x ≤ 15) (hle2 : ∀ x ∈ dl, x ≤ 15) (hw1 : weight ll ≤ 32768) (hw2 : weight dl ≤ 32768)
    (hla : ∀ x ∈ blk a, x < w.heap.size) (hll : ∀ x ∈ blk al, x < w.heap.size) :
    Calls Tryz.prog 13 #[.slice (some ⟨q, 0, none⟩) 1 1] w fun e w' => ∃ bb, CodedBits ll dl (toks b 0 l) true told bb ∧ bb.length ≤ 100000000 ∧ NewBytes w (bytesOf bb) e w' := by
  obtain ⟨p, hp⟩ : ∃ p, p = w.heap.size := ⟨_, rfl⟩
  obtain ⟨w1, hw1'⟩ : ∃ w1, w1 = w.alloc (.cells #[.slice none 0 0, .int .u64 0, .int .i64 0] 77) := ⟨_, rfl⟩
  have hnew := wb_new w
  rw [← hw1', ← hp] at hnew
  have f1 : Fr [] w w1 := by rw [hw1']; exact (Fr.refl [] w).alloc _
  obtain ⟨w2, hw2'⟩ : ∃ w2, w2 = w1.alloc (.cells #[.slice none 0 0] 69) := ⟨_, rfl⟩
  have f2 : Fr [] w1 w2 := by rw [hw2']; exact (Fr.refl [] w1).alloc _
  have f12 := f1.trans f2
  have d0 := cell_of (f1.blk hq (by simp)) 0
  simp only [List.getElem?_toArray, List.getElem?_cons_zero] at d0
  have hcw := cwrite_any p [p] [] b a al cap cl r l a1 a2 c1 c2 ll dl told true w2 (hb.fr f12) (hl.fr f12 (by simp)) hlc hln hcm hch hr hblen (h1.fr f12) (h2.fr f12) (wb_fr hnew f2 (by simp)) n1 n1' n2 n2' nt hle1 hle2 hw1 hw2 (by decide)
    (fun x hx => by
      have e : x = p := by simpa using hx
      have k1 := ri_low h1 (by omega) x
      have k2 := ri_low h2 (by omega) x
      have k3 := hla x
      have k4 := hll x
      have k5 := lt_of_block (alloc_at w (.cells #[.slice none 0 0, .int .u64 0, .int .i64 0] 77))
      rw [← hw1', ← hp] at k5
      have := f2.size
      exact ⟨by omega, fun h => by have := k1 h; omega, fun h => by have := k2 h; omega, fun h => by have := k3 h; omega, fun h => by have := k4 h; omega⟩)
    (fun x hx => Nat.lt_of_lt_of_le (hla x hx) f12.size) (fun x hx => Nat.lt_of_lt_of_le (hll x hx) f12.size)
  have hbits : ∀ bb, CodedBits ll dl (toks b 0 l) true told bb → bb.length ≤ 100000000 := by
    rintro bb ⟨hd, rfl, hd0, hd1⟩
    have k1 := tsbits_len ll dl hle1 hle2 (toks b 0 l) (toks_ok hr _ 0 l rfl hch)
    have k2 := toks_len b 0 l
    have k3 := sbits_len ll hle1 256
    have k4 : hd.length ≤ 20000 := by
      cases told with
      | false => rw [hd0 rfl]; exact Nat.zero_le _
      | true =>
        obtain ⟨nl, nd, nc, cl2, rs, ht⟩ := hd1 rfl
        exact told_len ht (nt rfl).1 (nt rfl).2
    simp only [List.length_append, List.length_cons, List.length_nil, lsb_length]
    omega
  obtain ⟨BL, hBL⟩ : ∃ BL, BL = b.length := ⟨_, rfl⟩
  obtain ⟨LL, hLL⟩ : ∃ LL, LL = l.length := ⟨_, rfl⟩
  obtain ⟨m1, hm1⟩ : ∃ m1, m1 = ll.length := ⟨_, rfl⟩
  obtain ⟨m2, hm2⟩ : ∃ m2, m2 = dl.length := ⟨_, rfl⟩
  rw [← hBL, ← hLL, ← hm1, ← hm2] at d0 hcw
  have hta : ∀ w : World, (Instr.typeAssert (.iface 37 (.agg #[.slice a BL cap, .slice al LL cl, .slice a1 m1 c1, .slice a2 m2 c2, .bool told])) 79 69 true).run Tryz.prog w = .ok (.tuple #[.agg #[.slice none 0 0], .bool false]) w := fun _ => by kernel_rfl
  have hme : ∀ (f : Nat) (w : World), (method (f + 1) 37 (.agg #[.slice a BL cap, .slice al LL cl, .slice a1 m1 c1, .slice a2 m2 c2, .bool told]) "stemma/deflate.write").run Tryz.prog w = .ok (112, .agg #[.slice a BL cap, .slice al LL cl, .slice a1 m1 c1, .slice a2 m2 c2, .bool told]) w := fun _ _ => by kernel_rfl
  have H := Lib.hid (And.intro hcw (And.intro hbits (And.intro f1 (And.intro f2 hnew))))
  have HW := Lib.hid (And.intro hw1'.symm (And.intro hw2'.symm hp))
  clear hq hb hl hlc hln hcm hch hr hblen h1 h2 n1 n1' n2 n2' nt hle1 hle2 hw1 hw2 hla hll hcw hbits f1 f2 hnew hw1' hw2' hp f12 hBL hLL hm1 hm2
  go_enter Tryz.func13, Tryz.ntmps13
  go_upto_block 0 with fail
  rw [HW.out.1, ← HW.out.2.2]
  go_wp2
  go_loopg [4, 5, 6, 7, 10] 1 (fun k s4 s5 s6 s7 s10 wr => ∃ (t : Nat) (F : List Nat) (bb : List Bool), s10 = .int .i64 (t : Nat) ∧ t + k = 1 ∧ (t = 0 → wr = w1) ∧ (t = 1 → CodedBits ll dl (toks b 0 l) true told bb ∧ Wb wr p F bb ∧ Fr [] w wr))
  case atStart => exact ⟨0, [], [], rfl, rfl, fun _ => rfl, fun h => absurd h (by omega)⟩
  case round =>
    obtain ⟨t, F, bb, rfl, htk, h0, h1⟩ := hrel
    by_cases ht : t = 0
    · subst ht
      obtain rfl := h0 rfl
      obtain rfl : gk = 1 := by omega
      clear h0 h1 htk
      go_upto_region 8 with fail
      rw [HW.out.2.1]
      go_wp2_with (go_at_call 112; refine H.out.1.mono ?_; rintro e w3 ⟨rfl, f3, bb, hbb, F3, hb3, hn3⟩; have H3 := Lib.hid (And.intro f3 (And.intro hbb (And.intro hb3 hn3))); clear f3 hbb hb3 hn3)
      go_roundg 0
      case measure => omega
      case rel =>
        refine ⟨1, F3, bb, rfl, rfl, fun h => absurd h (by omega), fun _ => ⟨H3.out.2.1, by simpa using H3.out.2.2.1, (H.out.2.2.1.trans H.out.2.2.2.1).step H3.out.1 fun y hy => .inr ?_⟩⟩
        have e : y = p := by simpa using hy
        rw [e, HW.out.2.2]
        exact Nat.le_refl _
    · obtain rfl : t = 1 := by omega
      obtain rfl : gk = 0 := by omega
      obtain ⟨hbb, hW, hf⟩ := h1 rfl
      have hby := bytes_b p F bb wr hW (coded_len hbb) (by have := H.out.2.1 bb hbb; omega)
      unfold NewBytes at hby
      have HB := Lib.hid (And.intro hby (And.intro hf hbb))
      clear hby hW hf hbb h0 h1
      go_wp2_with (go_at_call 31; refine HB.out.1.mono ?_; rintro e w2' ⟨a2', rfl, r2, n2', f2'⟩)
      go_ret
      refine ⟨bb, HB.out.2.2, H.out.2.1 bb HB.out.2.2, ?_⟩
      unfold NewBytes
      exact ⟨a2', rfl, r2, fun x hx => ⟨Nat.le_trans HB.out.2.1.size (n2' x hx).1, (n2' x hx).2⟩, HB.out.2.1.trans f2'⟩
end Go.Proofs.YtolkoidbkaidkaaGreat.defl
/-
  deflate.Raw at level 1 and above.
-/
namespace Go.Proofs.YtolkoidbkaidkaaGreat.defl
open Go Go.RowKit Go.Proofs.YtolkoidbkaidkaaGreat.lib Go.Proofs.YtolkoidbkaidkaaGreat.bm Go.Proofs.YtolkoidbkaidkaaGreat.bl Go.Proofs.YtolkoidbkaidkaaGreat.mat Go.Proofs.YtolkoidbkaidkaaGreat.huf Go.Proofs.YtolkoidbkaidkaaGreat.wb

/-- A text's literals and matches. -/
def toksOf (b : List UInt8) : List Tok := toks b 0 (matches_ b 32768)
def litCs (b : List UInt8) : List Nat := (List.range 286).map (litc b (toksOf b))
def distCs (b : List UInt8) : List Nat := (List.range 30).map (dcnt (toksOf b))
def FixedB (b : List UInt8) (bb : List Bool) : Prop := CodedBits (alw 288) (List.replicate 30 5) (toksOf b) true false bb
def DynB (b : List UInt8) (bb : List Bool) : Prop := ∃ ll dl, LensOk 15 (litCs b) ll ∧ LensOk 15 (distCs b) dl ∧ CodedBits ll dl (toksOf b) true true bb
/-- What Raw returns at level 1, and above. -/
def RawRes (b : List UInt8) (level : Int) (r : List UInt8) : Prop :=
  ∃ bf, FixedB b bf ∧ (level = 1 → r = bytesOf bf) ∧ (2 ≤ level → (r = bytesOf bf ∨ r = plainBytes b ∨ ∃ bd, DynB b bd ∧ r = bytesOf bd) ∧ r.length ≤ (bytesOf bf).length ∧ r.length ≤ (plainBytes b).length)
theorem lens_weight {L : Nat} {cs ls : List Nat} (h : LensOk L cs ls) : weight ls ≤ 32768 := by
  by_cases h2 : 2 ≤ (symsTo cs cs.length).length
  · rw [h.full h2]; exact Nat.le_refl _
  · have hm : ls = (List.range cs.length).map (lenAt ls) := by
      rw [← h.len]
      refine List.ext_getElem? fun i => ?_
      rw [List.getElem?_map]
      by_cases hi : i < ls.length
      · rw [List.getElem?_range hi, List.getElem?_eq_getElem hi]
        simp [lenAt, hi]
      · rw [List.getElem?_eq_none (by omega), List.getElem?_eq_none (by simp; omega)]; rfl
    have hs : weight ls = ((symsTo cs cs.length).map fun s => wt (lenAt ls s)).sum := by
      rw [hm, weight_map, ← hm]
      rw [sum_filter (fun s => decide (0 < lenAt cs s)) _ _ fun s _ hp => by rw [h.zero s (by simpa using hp)]; rfl]
      rfl
    have hw : ∀ s, wt (lenAt ls s) ≤ 16384 := fun s => by
      unfold wt
      split
      · omega
      · exact Nat.le_trans (Nat.pow_le_pow_right (by decide) (show 15 - lenAt ls s ≤ 14 by omega)) (by decide)
    rw [hs]
    match hsy : symsTo cs cs.length with
    | [] => simp
    | [x] => simp; have := hw x; omega
    | x :: y :: t => rw [hsy] at h2; simp at h2
theorem alw_len : (alw 288).length = 288 := by simp [alw]
theorem alw_le : ∀ x ∈ alw 288, x ≤ 15 := fun x hx => by
  simp only [alw, List.mem_map] at hx
  obtain ⟨i, _, rfl⟩ := hx
  unfold fixL
  split
  · omega
  · split
    · omega
    · split <;> omega
theorem alw_weight : weight (alw 288) = 32768 := by decide +kernel
theorem five_weight : weight (List.replicate 30 5) = 30720 := by decide +kernel
/-- The coded block's box. -/
def Box (w : World) (C : Nat) (a al : Option Addr) (bl cap ll : Nat) (v2 v3 : Value) (told : Bool) : Prop := w.heap[C]? = some (.cells #[.slice a bl cap, .slice al ll ll, v2, v3, .bool told] 37 (0, 0))
theorem Box.set {w : World} {C : Nat} {a al : Option Addr} {bl cap ll : Nat} {v2 v3 : Value} {told : Bool} (h : Box w C a al bl cap ll v2 v3 told) (x y : Value) :
    Box ((w.setCell ⟨C, 2, none⟩ x).setCell ⟨C, 3, none⟩ y) C a al bl cap ll x y told := (setCell_of (o := 3) (setCell_of (o := 2) h x) y)
theorem Box.fr {w w' : World} {C : Nat} {S : List Nat} {a al : Option Addr} {bl cap ll : Nat} {v2 v3 : Value} {told : Bool} (h : Box w C a al bl cap ll v2 v3 told) (f : Fr S w w') (hC : C ∉ S) : Box w' C a al bl cap ll v2 v3 told := f.blk h hC
theorem chain_len {b : List UInt8} {r : Nat} : ∀ {l : List Mt} {e : Nat}, Chain b r e l → l.length ≤ b.length + 1
  | [], _, _ => Nat.zero_le _
  | l, e, h => by
    have key : ∀ (l : List Mt) (e : Nat), Chain b r e l → e ≤ b.length → e + l.length ≤ b.length := by
      intro l
      induction l with
      | nil => intro e _ he; simpa using he
      | cons x t ih =>
        intro e h he
        obtain ⟨a, n, d⟩ := x
        obtain ⟨k1, k2, k3, k4, k5, k6, k7, _, k9⟩ := h
        have := ih (a + n) k9 k7
        simp only [List.length_cons]
        omega
    have key2 : ∀ (l : List Mt) (e : Nat), Chain b r e l → l ≠ [] → e + l.length ≤ b.length := by
      intro l e h hne
      cases l with
      | nil => exact absurd rfl hne
      | cons x t =>
        obtain ⟨a, n, d⟩ := x
        obtain ⟨k1, k2, k3, k4, k5, k6, k7, _, k9⟩ := h
        have := key t (a + n) k9 k7
        simp only [List.length_cons]
        omega
    by_cases hne : l = []
    · rw [hne]; exact Nat.zero_le _
    · have := key2 l e h hne; omega
theorem Box.tell {w : World} {C : Nat} {a al : Option Addr} {bl cap ll : Nat} {v2 v3 : Value} {told : Bool} (h : Box w C a al bl cap ll v2 v3 told) :
    Box (w.setCell ⟨C, 4, none⟩ (.bool true)) C a al bl cap ll v2 v3 true := setCell_of (o := 4) h (.bool true)
theorem Box.cells {w : World} {C : Nat} {a al : Option Addr} {bl cap ll : Nat} {v2 v3 : Value} {told : Bool} (h : Box w C a al bl cap ll v2 v3 told) :
    w.cell? ⟨C, 0, none⟩ = some (.slice a bl cap) ∧ w.cell? ⟨C, 1, none⟩ = some (.slice al ll ll) ∧ w.cell? ⟨C, 2, none⟩ = some v2 ∧ w.cell? ⟨C, 3, none⟩ = some v3 ∧ w.cell? ⟨C, 4, none⟩ = some (.bool told) :=
  ⟨cell_of h 0, cell_of h 1, cell_of h 2, cell_of h 3, cell_of h 4⟩
theorem ow_ri {w : World} {Q N : Nat} {F : Nat → Nat} (h : Ow w Q N F) (hN : N ≤ 400) : Ri w (some ⟨Q, 0, none⟩) N ((List.range N).map F) :=
  ⟨h.cs, by simp, by unfold maxLen; omega, fun h => by cases h⟩
theorem Box.lit {w : World} {C : Nat} {a al : Option Addr} {bl cap ll : Nat} {v2 v3 : Value} {told : Bool} (h : Box w C a al bl cap ll v2 v3 told) (x : Value) :
    Box (w.setCell ⟨C, 2, none⟩ x) C a al bl cap ll x v3 told := setCell_of (o := 2) h x
theorem Box.dist {w : World} {C : Nat} {a al : Option Addr} {bl cap ll : Nat} {v2 v3 : Value} {told : Bool} (h : Box w C a al bl cap ll v2 v3 told) (x : Value) :
    Box (w.setCell ⟨C, 3, none⟩ x) C a al bl cap ll v2 x told := setCell_of (o := 3) h x
theorem fr_mono_new {S : List Nat} {w w' : World} (h : Fr S w w') (hS : ∀ x ∈ S, w.heap.size ≤ x) : Fr [] w w' := h.mono fun x hx => .inr (hS x hx)
theorem written_next (b : List UInt8) (a al : Option Addr) (cap BL LL m1 m2 : Nat) (l : List Mt) (a1 a2 : Option Addr) (c1 c2 : Nat) (ll dl : List Nat) (told : Bool) (w : World) (e1 : BL = b.length) (e2 : LL = l.length) (e3 : m1 = ll.length) (e4 : m2 = dl.length)
    (hb : lib.Rd w a cap b) (hl : Cs w al (mcells l)) (hln : al = none → LL = 0) (hcm : LL ≤ maxLen) (hch : Chain b 32768 0 l) (hblen : b.length ≤ 1000000)
    (h1 : Ri w a1 c1 ll) (h2 : Ri w a2 c2 dl) (n1 : 286 ≤ ll.length) (n1' : ll.length ≤ 400) (n2 : 30 ≤ dl.length) (n2' : dl.length ≤ 400) (nt : told = true → ll.length = 286 ∧ dl.length = 30)
    (hle1 : ∀ x ∈ ll, x ≤ 15) (hle2 : ∀ x ∈ dl, x ≤ 15) (hw1 : weight ll ≤ 32768) (hw2 : weight dl ≤ 32768)
    (hla : ∀ x ∈ blk a, x < w.heap.size) (hll : ∀ x ∈ blk al, x < w.heap.size) :
    Calls Tryz.prog 13 #[.slice (some ⟨w.heap.size, 0, none⟩) 1 1] (w.alloc (.cells #[.iface 37 (.agg #[.slice a BL cap, .slice al LL LL, .slice a1 m1 c1, .slice a2 m2 c2, .bool told])] 79 (0, 0)))
      fun e w' => ∃ bb, CodedBits ll dl (toks b 0 l) true told bb ∧ bb.length ≤ 100000000 ∧ NewBytes w (bytesOf bb) e w' := by
  subst e1; subst e2; subst e3; subst e4
  have f : Fr [] w (w.alloc (.cells #[.iface 37 (.agg #[.slice a b.length cap, .slice al l.length l.length, .slice a1 ll.length c1, .slice a2 dl.length c2, .bool told])] 79 (0, 0))) := (Fr.refl [] w).alloc _
  refine (written_coded w.heap.size b a al cap l.length 32768 l a1 a2 c1 c2 ll dl told _ (alloc_at w _) (hb.fr f) (hl.fr f (by simp)) (Nat.le_refl _) hln hcm hch (Nat.le_refl _) hblen (h1.fr f) (h2.fr f) n1 n1' n2 n2' nt hle1 hle2 hw1 hw2
    (fun x hx => Nat.lt_of_lt_of_le (hla x hx) f.size) (fun x hx => Nat.lt_of_lt_of_le (hll x hx) f.size)).mono ?_
  rintro e w' ⟨bb, h3, h4, a', h5, h6, h7, h8⟩
  exact ⟨bb, h3, h4, a', h5, h6, fun x hx => ⟨Nat.le_trans f.size (h7 x hx).1, (h7 x hx).2⟩, f.trans h8⟩
set_option maxRecDepth 100000 in
set_option maxHeartbeats 8000000 in
theorem raw_more (a : Option Addr) (cap : Nat) (b : List UInt8) (level : Int) (w : World) (h : lib.Rd w a cap b) (hlen : b.length ≤ 100000) (hl : 1 ≤ level) (hla : ∀ x ∈ blk a, x < w.heap.size) :
    Calls Tryz.prog 5 #[.slice a b.length cap, .int .i64 level] w fun e w' => ∃ r, RawRes b level r ∧ NewBytes w r e w' := by
  have hmt := matches_any b a cap 32768 w h hlen
  obtain ⟨l, hl'⟩ : ∃ l, l = matches_ b 32768 := ⟨_, rfl⟩
  have hch : Chain b 32768 0 l := by
    rw [hl']
    have := matches_chain b 32768
    simpa using this
  obtain ⟨LL, hLL⟩ : ∃ LL, LL = l.length := ⟨_, rfl⟩
  obtain ⟨BL, hBL⟩ : ∃ BL, BL = b.length := ⟨_, rfl⟩
  unfold MatchesNew at hmt
  rw [← hl', ← hLL, ← hBL] at hmt
  have hLB : LL ≤ 9223372036854775807 → True := fun _ => trivial
  have d0 : decide (level ≤ 0) = false := by simp; omega
  have H := Lib.hid (And.intro h (And.intro hlen (And.intro hla (And.intro hch (And.intro hl' (And.intro hLL hBL))))))
  have HM := Lib.hid hmt
  rw [← hBL] at hlen ⊢
  clear h hla hch hl' hLL hBL hmt hLB
  go_enter Tryz.func5, Tryz.ntmps5
  go_upto_region 4 with (go_at_call 11; refine HM.out.mono ?_; rintro e w1 ⟨al, rfl, cs1, no1, lw1, f1⟩; have H1 := Lib.hid (And.intro cs1 (And.intro no1 (And.intro lw1 f1))); clear cs1 no1 lw1 f1)
  obtain ⟨C, hC⟩ : ∃ C, C = w1.heap.size := ⟨_, rfl⟩
  obtain ⟨w2, hw2⟩ : ∃ w2, w2 = w1.alloc (.cells #[.slice a BL cap, .slice al LL LL, .slice none 0 0, .slice none 0 0, .bool false] 37 (0, 0)) := ⟨_, rfl⟩
  have bx2 : Box w2 C a al BL cap LL (.slice none 0 0) (.slice none 0 0) false := by unfold Box; rw [hw2, hC]; exact alloc_at w1 _
  have f12 : Fr [] w1 w2 := by rw [hw2]; exact (Fr.refl [] w1).alloc _
  rw [← hw2, ← hC]
  have H2 := Lib.hid (And.intro bx2 (And.intro f12 (And.intro hC hw2)))
  clear bx2 f12 hC hw2
  have hal := always_any w2
  unfold AlwaysGood at hal
  have HAL := Lib.hid hal
  clear hal
  go_upto_region 4 with fail
  have mkf : ∀ w3, Fr [] w2 w3 → w3.cell? ⟨C, 2, none⟩ = some (.slice none 0 0) ∧ w3.cell? ⟨C, 3, none⟩ = some (.slice none 0 0) ∧ w3.frozen? ⟨C, 2, none⟩ = false ∧ w3.frozen? ⟨C, 3, none⟩ = false := fun w3 f => by
    have b3 := H2.out.1.fr f (by simp)
    unfold Box at b3
    exact ⟨cell_of b3 2, cell_of b3 3, frozen_of b3 2, frozen_of b3 3⟩
  have HMK := Lib.hid mkf
  clear mkf
  go_upto_region 5 with (go_at_call 12; refine HAL.out.mono ?_; rintro e w3 ⟨a1, c1, a2, c2, rfl, md1, md2⟩; obtain ⟨x2, x3, z2, z3⟩ := HMK.out w3 md1.fr; have H3 := Lib.hid (And.intro md1 md2); clear md1 md2)
  clear x2 x3 z2 z3
  obtain ⟨w4, hw4⟩ : ∃ w4, w4 = (w3.setCell ⟨C, 2, none⟩ (.slice a1 288 c1)).setCell ⟨C, 3, none⟩ (.slice a2 30 c2) := ⟨_, rfl⟩
  have bx4 : Box w4 C a al BL cap LL (.slice a1 288 c1) (.slice a2 30 c2) false := by rw [hw4]; exact (H2.out.1.fr H3.out.1.fr (by simp)).set _ _
  have f34 : Fr [C] w3 w4 := by rw [hw4]; exact ((Fr.refl [C] w3).setCell (by simp) _).setCell (by simp) _
  rw [← hw4]
  have hCw : w.heap.size ≤ C := by rw [H2.out.2.2.1]; exact H1.out.2.2.2.size
  have hC2 : C < w2.heap.size := by have := H2.out.1; unfold Box at this; exact lt_of_block this
  have f13 : Fr [] w1 w3 := H2.out.2.1.trans H3.out.1.fr
  have f14 : Fr [C] w1 w4 := (f13.mono (by simp)).trans f34
  have fw4 : Fr [C] w w4 := (H1.out.2.2.2.mono (by simp)).trans f14
  have rd4 : lib.Rd w4 a cap b := H.out.1.frS fw4 fun x hx hm => by have := H.out.2.2.1 x hx; simp at hm; omega
  have cs4 : Cs w4 al (mcells l) := H1.out.1.fr f14 fun x hx hm => by have := H1.out.2.2.1 x hx; have := H2.out.2.2.1; simp at hm; omega
  have ri1 : Ri w4 a1 c1 (alw 288) := by
    refine ri_frS (ri_made H3.out.1 (by rw [alw_len])) f34 fun x hx hm => ?_
    have := H3.out.1.new x hx
    simp at hm; omega
  have ri2 : Ri w4 a2 c2 (List.replicate 30 5) := by
    refine ri_frS (ri_made H3.out.2 (by simp)) f34 fun x hx hm => ?_
    have := H3.out.2.new x hx
    simp at hm; omega
  have H3b : w3.heap.size ≤ w4.heap.size := f34.size
  have hmx : LL ≤ maxLen := by rw [H.out.2.2.2.2.2.1]; have := chain_len H.out.2.2.2.1; have := H.out.2.1; unfold maxLen; omega
  have hwr := written_next b a al cap BL LL 288 30 l a1 a2 c1 c2 (alw 288) (List.replicate 30 5) false w4 H.out.2.2.2.2.2.2 H.out.2.2.2.2.2.1 alw_len.symm (by simp) rd4 cs4 H1.out.2.1 hmx H.out.2.2.2.1 (by have := H.out.2.1; omega) ri1 ri2 (by rw [alw_len]; decide) (by rw [alw_len]; decide) (by simp) (by simp) (fun h => by cases h) alw_le (by intro x hx; rw [(List.mem_replicate.1 hx).2]; decide) (by rw [alw_weight]; exact Nat.le_refl _) (by rw [five_weight]; decide)
    (fun x hx => Nat.lt_of_lt_of_le (H.out.2.2.1 x hx) fw4.size) (fun x hx => Nat.lt_of_lt_of_le (H1.out.2.2.1 x hx) f14.size)
  have ht4 : toks b 0 l = toksOf b := by rw [H.out.2.2.2.2.1]; rfl
  rw [ht4] at hwr
  have e0 := cell_of bx4 0
  have e1 := cell_of bx4 1
  have e2 := cell_of bx4 2
  have e3 := cell_of bx4 3
  have e4 := cell_of bx4 4
  simp only [List.getElem?_toArray, List.getElem?_cons_zero, List.getElem?_cons_succ] at e0 e1 e2 e3 e4
  have H4 := Lib.hid (And.intro hwr (And.intro bx4 (And.intro f14 (And.intro fw4 (And.intro rd4 (And.intro cs4 (And.intro hmx ht4)))))))
  have HC := Lib.hid (And.intro hCw hC2)
  clear hwr bx4 f14 fw4 rd4 cs4 hmx ht4 ri1 ri2 H3b f13 f34 hw4 hCw hC2
  unfold NewBytes at H4
  go_upto_region 6 with (go_at_call 13; refine H4.out.1.mono ?_; rintro e w6 ⟨bf, hbf, hbl, o6, rfl, r6, n6, f6⟩; have H6 := Lib.hid (And.intro hbf (And.intro hbl (And.intro r6 (And.intro n6 f6)))); clear hbf hbl r6 n6 f6)
  clear e0 e1 e2 e3 e4
  obtain ⟨x6, hx6⟩ : ∃ x6, x6 = (bytesOf bf).length := ⟨_, rfl⟩
  rw [← hx6]
  have HX6 := Lib.hid hx6
  have hxb : x6 ≤ 20000000 := by rw [hx6, bytesOf_length]; have := H6.out.2.1; omega
  clear hx6
  by_cases hl1 : level = 1
  · subst hl1
    go_wp2
    go_ret
    refine ⟨bytesOf bf, ⟨bf, H6.out.1, fun _ => rfl, fun h => absurd h (by decide)⟩, o6, by rw [HX6.out]; rfl, H6.out.2.2.1, fun x hx => ⟨Nat.le_trans H4.out.2.2.2.1.size (H6.out.2.2.2.1 x hx).1, (H6.out.2.2.2.1 x hx).2⟩, ?_⟩
    exact fr_mono_new (H4.out.2.2.2.1.step H6.out.2.2.2.2 (by simp)) (fun x hx => by simp at hx; rw [hx]; exact HC.out.1)
  · have q1 : (level == 1) = false := by simp only [beq_eq_false_iff_ne]; exact hl1
    have f6 : Fr [C] w w6 := H4.out.2.2.2.1.step H6.out.2.2.2.2 (by simp)
    have rd6 : lib.Rd w6 a cap b := H.out.1.frS f6 fun x hx hm => by have := H.out.2.2.1 x hx; have := HC.out.1; simp at hm; omega
    have hpl := plain_any a cap b w6 rd6 (by have := H.out.2.1; omega)
    rw [← H.out.2.2.2.2.2.2] at hpl
    have HP := Lib.hid (And.intro hpl (And.intro f6 rd6))
    clear hpl f6 rd6
    unfold NewBytes at HP
    go_upto_region 9 with (go_at_call 10; refine HP.out.1.mono ?_; rintro e w8 ⟨o8, rfl, r8, n8, f8⟩; have H8 := Lib.hid (And.intro r8 (And.intro n8 f8)); clear r8 n8 f8)
    obtain ⟨x8, hx8⟩ : ∃ x8, x8 = (plainBytes b).length := ⟨_, rfl⟩
    rw [← hx8]
    have HX8 := Lib.hid hx8
    clear hx8
    go_upto_if 38 with fail
    go_cut [6] from 38 to 40 (fun s6 wc => wc = w8 ∧ ∃ (o : Option Addr) (n : Nat) (r : List UInt8), s6 = .slice o n n ∧ n = r.length ∧ lib.Rd w8 o n r ∧ (∀ x ∈ blk o, w4.heap.size ≤ x ∧ x < w8.heap.size) ∧ (r = bytesOf bf ∨ r = plainBytes b) ∧ n ≤ x6 ∧ n ≤ x8)
    case first =>
      by_cases hlt : x8 < x6
      · have q2 : decide ((x8 : Int) < (x6 : Int)) = true := by simpa using hlt
        go_wp2
        go_meet
        case rel => exact ⟨rfl, o8, x8, plainBytes b, rfl, HX8.out, by rw [HX8.out]; exact H8.out.1, fun x hx => ⟨Nat.le_trans H6.out.2.2.2.2.size (H8.out.2.1 x hx).1, (H8.out.2.1 x hx).2⟩, .inr rfl, by omega, Nat.le_refl _⟩
      · have q2 : decide ((x8 : Int) < (x6 : Int)) = false := by simpa using hlt
        go_wp2
        go_meet
        case rel => exact ⟨rfl, o6, x6, bytesOf bf, rfl, HX6.out, by rw [HX6.out]; exact H6.out.2.2.1.fr H8.out.2.2, fun x hx => ⟨(H6.out.2.2.2.1 x hx).1, Nat.lt_of_lt_of_le (H6.out.2.2.2.1 x hx).2 H8.out.2.2.size⟩, .inl rfl, Nat.le_refl _, by omega⟩
    case rest =>
      obtain ⟨rfl, o, n, r, rfl, hn, rdo, new0, hr, hn6, hn8⟩ := hcut
      have HO := Lib.hid (And.intro hn (And.intro rdo (And.intro new0 (And.intro hr (And.intro hn6 hn8)))))
      clear hn rdo new0 hr hn6 hn8
      have f8 : Fr [C] w wc := HP.out.2.1.step H8.out.2.2 (by simp)
      have bx8 : Box wc C a al BL cap LL (.slice a1 288 c1) (.slice a2 30 c2) false := (H4.out.2.1.fr (H6.out.2.2.2.2.trans H8.out.2.2) (by simp))
      have z4 : wc.frozen? ⟨C, 4, none⟩ = false := frozen_of bx8 4
      have x4 : wc.cell? ⟨C, 4, none⟩ = some (.bool false) := cell_of bx8 4
      have H9 := Lib.hid (And.intro f8 bx8)
      clear f8 bx8
      go_upto_region 12 with fail
      obtain ⟨w11, hw11⟩ : ∃ w11, w11 = wc.setCell ⟨C, 4, none⟩ (.bool true) := ⟨_, rfl⟩
      have f11 : Fr [C] wc w11 := by rw [hw11]; exact (Fr.refl [C] wc).setCell (by simp) _
      have bx11 : Box w11 C a al BL cap LL (.slice a1 288 c1) (.slice a2 30 c2) true := by rw [hw11]; exact H9.out.2.tell
      rw [← hw11]
      clear z4 x4 hw11
      obtain ⟨e0, e1, e2, e3, e4⟩ := bx11.cells
      have f4_11 : Fr [C] w4 w11 := ((H6.out.2.2.2.2.trans H8.out.2.2).mono (by simp)).trans f11
      have fw11 : Fr [C] w w11 := H4.out.2.2.2.1.trans f4_11
      have rd11 : lib.Rd w11 a cap b := H.out.1.frS fw11 fun x hx hm => by have := H.out.2.2.1 x hx; have := HC.out.1; simp at hm; omega
      have cs11 : Cs w11 al (mcells l) := H1.out.1.fr (H4.out.2.2.1.trans f4_11) fun x hx hm => by have := H1.out.2.2.1 x hx; have := H2.out.2.2.1; simp at hm; omega
      have hcn := counts_any b a al cap LL 32768 l (.slice a1 288 c1) (.slice a2 30 c2) true w11 rfl rfl rd11 cs11 (by rw [H.out.2.2.2.2.2.1]; exact Nat.le_refl _) H1.out.2.1 H4.out.2.2.2.2.2.2.1 H.out.2.2.2.1 (Nat.le_refl _) (by have := H.out.2.1; omega)
        (fun x hx => Nat.lt_of_lt_of_le (H.out.2.2.1 x hx) fw11.size) (fun x hx => Nat.lt_of_lt_of_le (H1.out.2.2.1 x hx) (H4.out.2.2.1.trans f4_11).size)
      rw [H4.out.2.2.2.2.2.2.2, ← H.out.2.2.2.2.2.1, ← H.out.2.2.2.2.2.2] at hcn
      have H11 := Lib.hid (And.intro hcn (And.intro bx11 (And.intro f4_11 (And.intro fw11 (And.intro rd11 (And.intro cs11 f11))))))
      clear hcn bx11 f4_11 fw11 rd11 cs11 f11
      unfold CountsGood boxT at H11
      go_upto_region 13 with (go_at_call 14; refine H11.out.1.mono ?_; rintro e w12 ⟨Q1, Q2, rfl, o1, o2, f12, n1, n2⟩; have H12 := Lib.hid (And.intro o1 (And.intro o2 (And.intro f12 (And.intro n1 n2)))); clear o1 o2 f12 n1 n2)
      clear e0 e1 e2 e3 e4
      have hmT : (toksOf b).length ≤ b.length := by
        have := toks_len b 0 l
        rw [H4.out.2.2.2.2.2.2.2] at this
        omega
      have hsy : ∀ (cs : List Nat) (n : Nat), n ≤ 400 → (symsTo cs n).length ≤ 2 ^ 15 := fun cs n hn => by
        have h2 : (symsTo cs n).length ≤ n := by have := List.length_filter_le (fun s => decide (0 < lenAt cs s)) (List.range n); rw [List.length_range] at this; exact this
        omega
      have hb30 : ∀ x : Nat, x ≤ 100002 → x ≤ 2 ^ 30 := fun x hx => Nat.le_trans hx (by decide)
      have hA : ∀ x ∈ litCs b, x ≤ 2 ^ 30 := fun x hx => by
        simp only [litCs, List.mem_map] at hx
        obtain ⟨s, _, rfl⟩ := hx
        refine hb30 _ ?_
        have := lcnt_le (toksOf b) s
        have := H.out.2.1
        have := H.out.2.2.2.2.2.2
        unfold litc
        split <;> split <;> omega
      have hB : ∀ x ∈ distCs b, x ≤ 2 ^ 30 := fun x hx => by
        simp only [distCs, List.mem_map] at hx
        obtain ⟨s, _, rfl⟩ := hx
        refine hb30 _ ?_
        have := dcnt_le (toksOf b) s
        have := H.out.2.1
        have := H.out.2.2.2.2.2.2
        omega
      have l1 : (litCs b).length = 286 := by simp [litCs]
      have l2 : (distCs b).length = 30 := by simp [distCs]
      have hC4 : C < w4.heap.size := by have := H4.out.2.1; unfold Box at this; exact lt_of_block this
      have hg1 := lengths_any (some ⟨Q1, 0, none⟩) 286 (litCs b) 15 w12 (ow_ri H12.out.1 (by decide)) (by decide) (by decide) (by rw [l1]; decide) hA (by rw [l1]; exact hsy _ _ (by decide))
      have hg2 := fun w13 (f : Fr [C] w12 w13) => lengths_any (some ⟨Q2, 0, none⟩) 30 (distCs b) 15 w13 (ri_frS (ow_ri H12.out.2.1 (by decide)) f (fun x hx hm => by have := H12.out.2.2.2.2; have := HC.out.2; have := H9.out.1.size; have := H11.out.2.2.1.size; have := H2.out.2.2.1; have := hC4; simp [blk] at hx hm; omega)) (by decide) (by decide) (by rw [l2]; decide) hB (by rw [l2]; exact hsy _ _ (by decide))
      rw [l1] at hg1
      rw [l2] at hg2
      have mk2 : ∀ w13, Fr [] w12 w13 → w13.cell? ⟨C, 2, none⟩ = some (.slice a1 288 c1) ∧ w13.frozen? ⟨C, 2, none⟩ = false := fun w13 f => by
        have b3 := H11.out.2.1.fr (H12.out.2.2.1.trans f) (by simp)
        exact ⟨b3.cells.2.2.1, frozen_of b3 2⟩
      have HG := Lib.hid (And.intro hg1 (And.intro mk2 (And.intro l1 (And.intro l2 (And.intro hg2 hC4)))))
      clear hg1 hg2 hC4 hA hB hsy hmT hb30 mk2 l1 l2
      unfold LensGood at HG
      go_upto_region 14 with (go_at_call 15; refine HG.out.1.mono ?_; rintro e w13 ⟨g1, ll, rfl, ok1, cl1, n1, lt1, f13⟩; obtain ⟨x2, z2⟩ := HG.out.2.1 w13 f13; have H13 := Lib.hid (And.intro ok1 (And.intro cl1 (And.intro n1 (And.intro lt1 f13)))); clear ok1 cl1 n1 lt1 f13)
      clear x2 z2
      obtain ⟨w14, hw14⟩ : ∃ w14, w14 = w13.setCell ⟨C, 2, none⟩ (.slice (some ⟨g1, 0, none⟩) 286 286) := ⟨_, rfl⟩
      have f14 : Fr [C] w13 w14 := by rw [hw14]; exact (Fr.refl [C] w13).setCell (by simp) _
      have bx14 : Box w14 C a al BL cap LL (.slice (some ⟨g1, 0, none⟩) 286 286) (.slice a2 30 c2) true := by rw [hw14]; exact (H11.out.2.1.fr (H12.out.2.2.1.trans H13.out.2.2.2.2) (by simp)).lit _
      rw [← hw14]
      clear hw14
      have hg2 := HG.out.2.2.2.2.1 w14 ((H13.out.2.2.2.2.mono (by simp)).trans f14)
      have mk3 : ∀ w15, Fr [] w14 w15 → w15.cell? ⟨C, 3, none⟩ = some (.slice a2 30 c2) ∧ w15.frozen? ⟨C, 3, none⟩ = false := fun w15 f => by
        have b3 := bx14.fr f (by simp)
        exact ⟨b3.cells.2.2.2.1, frozen_of b3 3⟩
      have H14 := Lib.hid (And.intro hg2 (And.intro mk3 (And.intro bx14 f14)))
      clear hg2 mk3 bx14 f14
      unfold LensGood at H14
      go_upto_region 15 with (go_at_call 15; refine H14.out.1.mono ?_; rintro e w15 ⟨g2, dl, rfl, ok2, cl2, n2, lt2, f15⟩; obtain ⟨x3, z3⟩ := H14.out.2.1 w15 f15; have H15 := Lib.hid (And.intro ok2 (And.intro cl2 (And.intro n2 (And.intro lt2 f15)))); clear ok2 cl2 n2 lt2 f15)
      clear x3 z3
      obtain ⟨w16, hw16⟩ : ∃ w16, w16 = w15.setCell ⟨C, 3, none⟩ (.slice (some ⟨g2, 0, none⟩) 30 30) := ⟨_, rfl⟩
      have f16 : Fr [C] w15 w16 := by rw [hw16]; exact (Fr.refl [C] w15).setCell (by simp) _
      have bx16 : Box w16 C a al BL cap LL (.slice (some ⟨g1, 0, none⟩) 286 286) (.slice (some ⟨g2, 0, none⟩) 30 30) true := by rw [hw16]; exact (H14.out.2.2.1.fr H15.out.2.2.2.2 (by simp)).dist _
      rw [← hw16]
      clear hw16
      have f11_16 : Fr [C] w11 w16 := ((((H12.out.2.2.1.trans H13.out.2.2.2.2).mono (by simp)).trans H14.out.2.2.2).trans (H15.out.2.2.2.2.mono (by simp))).trans f16
      have fw16 : Fr [C] w w16 := H11.out.2.2.2.1.trans f11_16
      have rd16 : lib.Rd w16 a cap b := H.out.1.frS fw16 fun x hx hm => by have := H.out.2.2.1 x hx; have := HC.out.1; simp at hm; omega
      have f1_16 : Fr [C] w1 w16 := (H4.out.2.2.1.trans H11.out.2.2.1).trans f11_16
      have cs16 : Cs w16 al (mcells l) := H1.out.1.fr f1_16 fun x hx hm => by have := H1.out.2.2.1 x hx; have := H2.out.2.2.1; simp at hm; omega
      have ll1 : ll.length = 286 := by rw [H13.out.1.len]; exact HG.out.2.2.1
      have ll2 : dl.length = 30 := by rw [H15.out.1.len]; exact HG.out.2.2.2.1
      have hCg1 : C ≠ g1 := by have := H13.out.2.2.1; have := H12.out.2.2.1.size; have := H11.out.2.2.1.size; have := HG.out.2.2.2.2.2; omega
      have hCg2 : C ≠ g2 := by have := H15.out.2.2.1; have := H14.out.2.2.2.size; have := H13.out.2.2.2.2.size; have := H12.out.2.2.1.size; have := H11.out.2.2.1.size; have := HG.out.2.2.2.2.2; omega
      have ri1 : Ri w16 (some ⟨g1, 0, none⟩) 286 ll := ⟨H13.out.2.1.fr (H14.out.2.2.2.trans ((H15.out.2.2.2.2.mono (by simp)).trans f16)) (by simp [blk]; exact fun h => hCg1 h.symm), by omega, by unfold maxLen; omega, fun h => by cases h⟩
      have ri2 : Ri w16 (some ⟨g2, 0, none⟩) 30 dl := ⟨H15.out.2.1.fr f16 (by simp [blk]; exact fun h => hCg2 h.symm), by omega, by unfold maxLen; omega, fun h => by cases h⟩
      have hwr := written_next b a al cap BL LL 286 30 l (some ⟨g1, 0, none⟩) (some ⟨g2, 0, none⟩) 286 30 ll dl true w16 H.out.2.2.2.2.2.2 H.out.2.2.2.2.2.1 ll1.symm ll2.symm rd16 cs16 H1.out.2.1 H4.out.2.2.2.2.2.2.1 H.out.2.2.2.1 (by have := H.out.2.1; omega) ri1 ri2 (by rw [ll1]; decide) (by rw [ll1]; decide) (by rw [ll2]; decide) (by rw [ll2]; decide) (fun _ => ⟨ll1, ll2⟩) H13.out.1.le H15.out.1.le (lens_weight H13.out.1) (lens_weight H15.out.1)
        (fun x hx => Nat.lt_of_lt_of_le (H.out.2.2.1 x hx) fw16.size) (fun x hx => Nat.lt_of_lt_of_le (H1.out.2.2.1 x hx) f1_16.size)
      rw [H4.out.2.2.2.2.2.2.2] at hwr
      have H16 := Lib.hid (And.intro hwr (And.intro fw16 f11_16))
      obtain ⟨e0, e1, e2, e3, e4⟩ := bx16.cells
      clear hwr bx16 f16 f11_16 fw16 rd16 cs16 f1_16 ll1 ll2 hCg1 hCg2 ri1 ri2
      unfold NewBytes at H16
      go_upto_region 16 with (go_at_call 13; refine H16.out.1.mono ?_; rintro e w17 ⟨bd, hbd, hbl, o17, rfl, r17, n17, f17⟩; have H17 := Lib.hid (And.intro hbd (And.intro hbl (And.intro r17 (And.intro n17 f17)))); clear hbd hbl r17 n17 f17)
      clear e0 e1 e2 e3 e4
      obtain ⟨x17, hx17⟩ : ∃ x17, x17 = (bytesOf bd).length := ⟨_, rfl⟩
      rw [← hx17]
      have HX17 := Lib.hid hx17
      clear hx17
      have fin : Fr [] w w17 := fr_mono_new (H16.out.2.1.step H17.out.2.2.2.2 (by simp)) (fun x hx => by simp at hx; rw [hx]; exact HC.out.1)
      have hdy : DynB b bd := ⟨ll, dl, H13.out.1, H15.out.1, H17.out.1⟩
      have HF := Lib.hid (And.intro fin hdy)
      clear fin hdy
      have res : ∀ (r' : List UInt8), (r' = bytesOf bf ∨ r' = plainBytes b ∨ ∃ bd, DynB b bd ∧ r' = bytesOf bd) → r'.length ≤ x6 → r'.length ≤ x8 → RawRes b level r' := fun r' h1 h2 h3 => ⟨bf, H6.out.1, fun h => absurd h hl1, fun _ => ⟨h1, by rw [← HX6.out]; exact h2, by rw [← HX8.out]; exact h3⟩⟩
      have HR := Lib.hid res
      clear res
      by_cases hlt : x17 < n
      · have q3 : decide ((x17 : Int) < (n : Int)) = true := by simpa using hlt
        go_wp2
        go_ret
        refine ⟨bytesOf bd, HR.out _ (.inr (.inr ⟨bd, HF.out.2, rfl⟩)) ?_ ?_, o17, by rw [HX17.out]; rfl, H17.out.2.2.1, fun x hx => ⟨Nat.le_trans H16.out.2.1.size (H17.out.2.2.2.1 x hx).1, (H17.out.2.2.2.1 x hx).2⟩, HF.out.1⟩
        · rw [← HX17.out]; have := HO.out.2.2.2.2.1; omega
        · rw [← HX17.out]; have := HO.out.2.2.2.2.2; omega
      · have q3 : decide ((x17 : Int) < (n : Int)) = false := by simpa using hlt
        go_wp2
        go_ret
        have fo : Fr [C] wc w17 := (H11.out.2.2.2.2.2.2.trans H16.out.2.2).step H17.out.2.2.2.2 (by simp)
        obtain ⟨hn, rdo, new0, hr, hn6, hn8⟩ := HO.out
        subst hn
        exact ⟨r, HR.out r (hr.elim .inl fun h => .inr (.inl h)) hn6 hn8, o, rfl, rdo.frS fo (fun x hx hm => by have := (new0 x hx).1; have := HG.out.2.2.2.2.2; simp at hm; omega), fun x hx => ⟨Nat.le_trans H4.out.2.2.2.1.size (new0 x hx).1, Nat.lt_of_lt_of_le (new0 x hx).2 fo.size⟩, HF.out.1⟩
end Go.Proofs.YtolkoidbkaidkaaGreat.defl
/-
  What deflate writes inflate reads (plain): numbers, symbols, lengths, distances, copies, a row of literals and matches.
-/
namespace Go.Proofs.YtolkoidbkaidkaaGreat.trip
open Go Go.Proofs.YtolkoidbkaidkaaGreat.lib Go.Proofs.YtolkoidbkaidkaaGreat.bm Go.Proofs.YtolkoidbkaidkaaGreat.bl Go.Proofs.YtolkoidbkaidkaaGreat.huf Go.Proofs.YtolkoidbkaidkaaGreat.inf Go.Proofs.YtolkoidbkaidkaaGreat.defl Go.Proofs.YtolkoidbkaidkaaGreat.mat

/-- From bit a on stands l. -/
def At (bs : List UInt8) (a : Nat) (l : List Bool) : Prop := ∃ p r, bytesBits bs = p ++ (l ++ r) ∧ p.length = a
theorem At.left {bs : List UInt8} {a : Nat} {x y : List Bool} (h : At bs a (x ++ y)) : At bs a x := by
  obtain ⟨p, r, h1, h2⟩ := h
  exact ⟨p, y ++ r, by rw [h1, List.append_assoc], h2⟩
theorem At.right {bs : List UInt8} {a : Nat} {x y : List Bool} (h : At bs a (x ++ y)) : At bs (a + x.length) y := by
  obtain ⟨p, r, h1, h2⟩ := h
  exact ⟨p ++ x, r, by rw [h1]; simp, by rw [List.length_append, h2]⟩
theorem At.drop {bs : List UInt8} {a : Nat} {l : List Bool} (h : At bs a l) : ∃ r, (bytesBits bs).drop a = l ++ r := by
  obtain ⟨p, r, h1, h2⟩ := h
  exact ⟨r, by rw [h1, ← h2, List.drop_left]⟩
theorem At.le {bs : List UInt8} {a : Nat} {l : List Bool} (h : At bs a l) : a + l.length ≤ 8 * bs.length := by
  obtain ⟨p, r, h1, h2⟩ := h
  have := congrArg List.length h1
  rw [bytesBits_length, List.length_append, List.length_append] at this
  omega
theorem At.of {bs : List UInt8} {l r : List Bool} (h : bytesBits bs = l ++ r) : At bs 0 l := ⟨[], r, by rw [h]; rfl, rfl⟩
theorem take_at {bs : List UInt8} {a n v : Nat} (h : At bs a (lsb n v)) (hv : v < 2 ^ n) : itake bs a n = .ok (v, a + n) := by
  have hl := h.le
  rw [lsb_length] at hl
  obtain ⟨r, hr⟩ := h.drop
  unfold itake
  have e : (lsb n v ++ r).take n = lsb n v := by
    rw [List.take_append_of_le_length (by rw [lsb_length]; exact Nat.le_refl _), List.take_of_length_le (by rw [lsb_length]; exact Nat.le_refl _)]
  rw [if_pos hl, hr, e, bval_lsb, Nat.mod_eq_of_lt hv]
theorem sbits_length (ls : List Nat) (s : Nat) : (sbits ls s).length = lenAt ls s := by unfold sbits; rw [msb_length]
theorem sym_at {bs : List UInt8} {a s : Nat} {ls : List Nat} (h : At bs a (sbits ls s)) (hle : ∀ l ∈ ls, l ≤ 15) (hw : weight ls ≤ 32768) (h0 : 0 < lenAt ls s) : isym bs ls a = .ok (s, a + lenAt ls s) := by
  obtain ⟨r, hr⟩ := h.drop
  have e : sbits ls s = msb (lenAt ls s) (code ls s) := by unfold sbits codeAt; rw [if_neg (by omega)]
  rw [e] at hr
  have := read_code ls s hle hw h0 r
  unfold huf.read at this
  unfold isym
  rw [hr, this]
  rfl
theorem len_at {bs : List UInt8} {a n : Nat} (h3 : 3 ≤ n) (h258 : n ≤ 258) (h : At bs a (lsb (lcode n).2.2 (lcode n).2.1)) : ilength bs (lcode n).1 a = .ok (n, a + (lcode n).2.2) := by
  by_cases h11 : n < 11
  · have e : lcode n = (n + 254, 0, 0) := by unfold lcode; rw [if_pos h11]
    rw [e]
    unfold ilength
    dsimp only
    rw [if_pos (by omega), Nat.add_sub_cancel]
    rfl
  · by_cases h8 : n = 258
    · subst h8
      have e : lcode 258 = (285, 0, 0) := rfl
      rw [e]
      rfl
    · obtain ⟨w, w1, w5, k1, k2⟩ := lcode_wid (n := n) (by omega) (by omega)
      have e := lcode_of (by omega) h8 k1 k2
      rw [e] at h ⊢
      have hp := Nat.two_pow_pos w
      obtain ⟨q, hq⟩ : ∃ q, q = (n - 3) / 2 ^ w := ⟨_, rfl⟩
      have q4 : 4 ≤ q := by rw [hq, Nat.le_div_iff_mul_le hp]; exact k1
      have q8 : q < 8 := by rw [hq, Nat.div_lt_iff_lt_mul hp]; exact k2
      have hd := Nat.div_add_mod (n - 3) (2 ^ w)
      rw [← hq] at hd ⊢
      unfold ilength
      dsimp only at h ⊢
      rw [if_neg (by omega), if_neg (by omega), show (257 + 4 * w + q - 261) / 4 = w from by omega, take_at h (Nat.mod_lt _ hp)]
      dsimp only
      rw [show (257 + 4 * w + q - 265) % 4 = q - 4 from by omega, show 4 + (q - 4) = q from by omega, Nat.mul_comm q]
      rw [Nat.add_assoc, hd, show 3 + (n - 3) = n from by omega]
theorem dist_at {bs : List UInt8} {a n : Nat} (h1 : 1 ≤ n) (hn : n ≤ 32768) (h : At bs a (lsb (dcode n).2.2 (dcode n).2.1)) : idist bs (dcode n).1 a = .ok (n, a + (dcode n).2.2) := by
  by_cases h5 : n < 5
  · have e : dcode n = (n - 1, 0, 0) := by unfold dcode; rw [if_pos h5]
    rw [e]
    unfold idist
    dsimp only
    rw [if_pos (by omega), show n - 1 + 1 = n from by omega]
    rfl
  · obtain ⟨w, w1, w5, k1, k2⟩ := dcode_wid (n := n) (by omega) (by omega)
    have e := dcode_of (by omega) k1 k2
    rw [e] at h ⊢
    have hp := Nat.two_pow_pos w
    obtain ⟨q, hq⟩ : ∃ q, q = (n - 1) / 2 ^ w := ⟨_, rfl⟩
    have q4 : 2 ≤ q := by rw [hq, Nat.le_div_iff_mul_le hp]; exact k1
    have q8 : q < 4 := by rw [hq, Nat.div_lt_iff_lt_mul hp]; exact k2
    have hd := Nat.div_add_mod (n - 1) (2 ^ w)
    rw [← hq] at hd ⊢
    unfold idist
    dsimp only at h ⊢
    rw [if_neg (by omega), show (2 * w + q - 2) / 2 = w from by omega, take_at h (Nat.mod_lt _ hp)]
    dsimp only
    rw [show 2 + (2 * w + q) % 2 = q from by omega, Nat.mul_comm q]
    rw [Nat.add_assoc, hd, show 1 + (n - 1) = n from by omega]
theorem take_next {b : List UInt8} {i : Nat} (h : i < b.length) : b.take i ++ [b[i]] = b.take (i + 1) := by
  rw [List.take_add_one, List.getElem?_eq_getElem h]
  rfl
theorem put_at {b : List UInt8} {i m : Nat} (h : i < b.length) (hm : b.length ≤ m) : iput m (b.take i) b[i] = .ok (b.take (i + 1)) := by
  unfold iput
  rw [if_neg (by rw [List.length_take]; omega), take_next h]
theorem copy_at {b : List UInt8} {i d m : Nat} (hd : 1 ≤ d) (hdi : d ≤ i) (hm : b.length ≤ m) : ∀ (n k : Nat), i + k + n ≤ b.length → (∀ j, j < k + n → b[i + j]? = b[i + j - d]?) →
    icopy m d n (b.take (i + k)) = .ok (b.take (i + k + n))
  | 0, k, _, _ => rfl
  | n + 1, k, hl, h => by
    have hlen : (b.take (i + k)).length = i + k := by rw [List.length_take]; omega
    have hb : (b.take (i + k))[i + k - d]? = b[i + k - d]? := by rw [List.getElem?_take_of_lt (by omega)]
    have hk : i + k < b.length := by omega
    have h1 := h k (by omega)
    rw [icopy, hlen, hb, ← h1, List.getElem?_eq_getElem hk, Option.getD_some, put_at hk hm]
    dsimp only
    have := copy_at hd hdi hm n (k + 1) (by omega) (fun j hj => h j (by omega))
    rw [show i + k + (n + 1) = i + (k + 1) + n from by omega]
    exact this
theorem lcode_ge {n : Nat} (h3 : 3 ≤ n) (h258 : n ≤ 258) : ¬ (lcode n).1 < 256 ∧ ¬ (lcode n).1 = 256 ∧ ¬ 286 ≤ (lcode n).1 := by
  have := lcode_lt h3 h258
  omega
theorem toks_at {bs : List UInt8} {ll dl : List Nat} {m r : Nat} {b : List UInt8} (hr : r ≤ 32768) (hm : b.length ≤ m) (hle1 : ∀ l ∈ ll, l ≤ 15) (hle2 : ∀ l ∈ dl, l ≤ 15) (hw1 : weight ll ≤ 32768) (hw2 : weight dl ≤ 32768) (h256 : 0 < lenAt ll 256) :
    ∀ (k i : Nat) (l : List Mt) (f a : Nat), k = b.length - i → i ≤ b.length → Chain b r i l → (∀ x ∈ toks b i l, 0 < lenAt ll (tsym x)) → (∀ x ∈ toks b i l, ∀ s, dsym x = some s → 0 < lenAt dl s) → (toks b i l).length < f →
      At bs a (tsbits ll dl (toks b i l) ++ sbits ll 256) → isyms bs m ll dl f (b.take i) a = .ok (b, a + (tsbits ll dl (toks b i l)).length + lenAt ll 256) := by
  intro k
  induction k using Nat.strongRecOn with
  | ind k ih =>
    intro i l f a hk hib hch hl1 hl2 hf hat
    obtain ⟨f, rfl⟩ : ∃ g, f = g + 1 := ⟨f - 1, by omega⟩
    by_cases h : i < b.length
    · have lit : ∀ l, Chain b r (i + 1) l → toks b i l = .lit b[i] :: toks b (i + 1) l → (∀ x ∈ toks b i l, 0 < lenAt ll (tsym x)) → (∀ x ∈ toks b i l, ∀ s, dsym x = some s → 0 < lenAt dl s) → (toks b i l).length < f + 1 →
          At bs a (tsbits ll dl (toks b i l) ++ sbits ll 256) → isyms bs m ll dl (f + 1) (b.take i) a = .ok (b, a + (tsbits ll dl (toks b i l)).length + lenAt ll 256) := by
        intro l hch he hl1 hl2 hf hat
        rw [he] at hl1 hl2 hf hat ⊢
        have e : tsbits ll dl (.lit b[i] :: toks b (i + 1) l) = sbits ll b[i].toNat ++ tsbits ll dl (toks b (i + 1) l) := rfl
        rw [e] at hat ⊢
        rw [List.append_assoc] at hat
        have hs := sym_at hat.left hle1 hw1 (hl1 _ List.mem_cons_self)
        have hlt : b[i].toNat < 256 := b[i].toNat_lt
        rw [isyms, hs]
        dsimp only
        rw [if_pos hlt, UInt8.ofNat_toNat, put_at h hm]
        dsimp only
        have := ih (b.length - (i + 1)) (by omega) (i + 1) l f (a + lenAt ll b[i].toNat) rfl (by omega) hch (fun x hx => hl1 x (List.mem_cons_of_mem _ hx)) (fun x hx => hl2 x (List.mem_cons_of_mem _ hx)) (by simp only [List.length_cons] at hf; omega)
          (by have := hat.right; rwa [sbits_length] at this)
        rw [this, List.length_append, sbits_length]
        congr 2
        omega
      match l, hch with
      | [], hch => exact lit [] trivial (toks_lit h (fun a n d t he => by cases he)) hl1 hl2 hf hat
      | (q, n, d) :: t, hch =>
        by_cases hc : q = i
        · subst hc
          have hc2 := hch
          obtain ⟨k1, k2, k3, k4, k5, k6, k7, k8, k9⟩ := hc2
          have he : toks b q ((q, n, d) :: t) = .mat n d :: toks b (q + n) t := toks_mat h (by omega)
          rw [he] at hl1 hl2 hf hat ⊢
          have e : tsbits ll dl (.mat n d :: toks b (q + n) t) = sbits ll (lcode n).1 ++ (lsb (lcode n).2.2 (lcode n).2.1 ++ (sbits dl (dcode d).1 ++ (lsb (dcode d).2.2 (dcode d).2.1 ++ tsbits ll dl (toks b (q + n) t)))) := by
            simp only [tsbits, List.flatMap_cons, tbits, List.append_assoc]
          rw [e] at hat ⊢
          simp only [List.append_assoc] at hat
          have hs := sym_at hat.left hle1 hw1 (hl1 _ List.mem_cons_self)
          have t1 := hat.right
          rw [sbits_length] at t1
          have hs2 := len_at k2 k3 t1.left
          have t2 := t1.right
          rw [lsb_length] at t2
          have hs3 := sym_at t2.left hle2 hw2 (hl2 _ List.mem_cons_self _ rfl)
          have t3 := t2.right
          rw [sbits_length] at t3
          have hs4 := dist_at k4 (by omega) t3.left
          have t4 := t3.right
          rw [lsb_length] at t4
          have hd30 := (dcode_lt k4 (show d ≤ 32768 by omega)).1
          have hcp := copy_at (b := b) (i := q) (d := d) (m := m) k4 k6 hm n 0 (by omega) (fun j hj => k8 j (by omega))
          rw [Nat.add_zero] at hcp
          have hmt : imatch bs m dl (lcode n).1 (b.take q) (a + lenAt ll (lcode n).1) = .ok (b.take (q + n), a + lenAt ll (lcode n).1 + (lcode n).2.2 + lenAt dl (dcode d).1 + (dcode d).2.2) := by
            unfold imatch
            rw [hs2]
            dsimp only
            rw [hs3]
            dsimp only
            rw [if_neg (by omega), hs4]
            dsimp only
            rw [if_neg (by rw [List.length_take]; omega), hcp]
          obtain ⟨c1, c2, c3⟩ := lcode_ge k2 k3
          rw [isyms, hs]
          dsimp only
          rw [if_neg c1, if_neg c2, if_neg c3, hmt]
          dsimp only
          have := ih (b.length - (q + n)) (by omega) (q + n) t f _ rfl k7 k9 (fun x hx => hl1 x (List.mem_cons_of_mem _ hx)) (fun x hx => hl2 x (List.mem_cons_of_mem _ hx)) (by simp only [List.length_cons] at hf; omega) t4
          rw [this]
          simp only [List.length_append, sbits_length, lsb_length]
          congr 2
          omega
        · exact lit _ (chain_next hch _ _ _ _ rfl hc) (toks_lit h (fun a2 n2 d2 t2 he2 => by simp only [List.cons.injEq, Prod.mk.injEq] at he2; rw [← he2.1.1]; exact hc)) hl1 hl2 hf hat
    · have he : toks b i l = [] := toks_end (by omega)
      rw [he] at hat ⊢
      have e : tsbits ll dl [] = [] := rfl
      rw [e, List.nil_append] at hat
      rw [isyms, sym_at hat hle1 hw1 h256]
      dsimp only
      rw [if_neg (by omega), if_pos rfl, e, List.length_nil, Nat.add_zero, List.take_of_length_le (by omega)]
end Go.Proofs.YtolkoidbkaidkaaGreat.trip
/-
  What deflate writes inflate reads (plain): stored blocks.
-/
namespace Go.Proofs.YtolkoidbkaidkaaGreat.trip
open Go Go.Proofs.YtolkoidbkaidkaaGreat.lib Go.Proofs.YtolkoidbkaidkaaGreat.bm Go.Proofs.YtolkoidbkaidkaaGreat.bl Go.Proofs.YtolkoidbkaidkaaGreat.huf Go.Proofs.YtolkoidbkaidkaaGreat.inf Go.Proofs.YtolkoidbkaidkaaGreat.defl Go.Proofs.YtolkoidbkaidkaaGreat.mat

theorem At.bytes {bs xs : List UInt8} {q : Nat} (h : At bs (8 * q) (bytesBits xs)) : (bs.drop q).take xs.length = xs := by
  obtain ⟨r, hr⟩ := h.drop
  refine bytesBits_inj ?_
  rw [bytes_drop, hr, List.take_append_of_le_length (by rw [bytesBits_length]; exact Nat.le_refl _), List.take_of_length_le (by rw [bytesBits_length]; exact Nat.le_refl _)]
theorem bytes_get {bs xs : List UInt8} {q : Nat} (h : (bs.drop q).take xs.length = xs) (i : Nat) (hi : i < xs.length) : bs[q + i]? = xs[i]? := by
  rw [← h, List.getElem?_take_of_lt hi, List.getElem?_drop]
theorem ibytes_at {bs : List UInt8} {m : Nat} : ∀ (xs out : List UInt8) (q : Nat), (∀ i, i < xs.length → bs[q + i]? = xs[i]?) → out.length + xs.length ≤ m → ibytes bs m xs.length out q = .ok (out ++ xs, 8 * (q + xs.length))
  | [], out, q, _, _ => by simp [ibytes]
  | x :: xs, out, q, h, hm => by
    have h0 := h 0 (by simp)
    rw [Nat.add_zero, List.getElem?_cons_zero] at h0
    have hq : q < bs.length := by
      rcases Nat.lt_or_ge q bs.length with k | k
      · exact k
      · rw [List.getElem?_eq_none k] at h0; cases h0
    simp only [List.length_cons] at hm
    rw [List.length_cons, ibytes, if_pos hq, h0, Option.getD_some]
    unfold iput
    rw [if_neg (by omega)]
    dsimp only
    have := ibytes_at (bs := bs) (m := m) xs (out ++ [x]) (q + 1) (fun i hi => by
      have := h (i + 1) (by simp only [List.length_cons]; omega)
      rwa [List.getElem?_cons_succ, show q + (i + 1) = q + 1 + i from by omega] at this) (by rw [List.length_append, List.length_cons, List.length_nil]; omega)
    rw [this]
    simp only [List.append_assoc, List.singleton_append]
    congr 2
    omega
theorem byteAt_of {bs : List UInt8} {i : Nat} {x : UInt8} (h : bs[i]? = some x) : byteAt bs i = x.toNat := by unfold byteAt; rw [h]; rfl
theorem stored_at {bs : List UInt8} {m : Nat} {l : List Bool} {last : Bool} {b out : List UInt8} (h : At bs 0 (storedBits l last b)) (hb : b.length ≤ 65535) (hm : out.length + b.length ≤ m) :
    istored bs m out (l.length + 3) = .ok (out ++ b, (storedBits l last b).length) ∧ itake bs l.length 1 = .ok (if last then 1 else 0, l.length + 1) ∧ itake bs (l.length + 1) 2 = .ok (0, l.length + 1 + 2) := by
  have hL : (storedBits l last b).length = 8 * ((l.length + 10) / 8 + 4 + b.length) := by rw [storedBits_length]; omega
  have hle := h.le
  rw [hL, Nat.zero_add] at hle
  have hp : (padTo8 (l ++ last :: lsb 2 0)).length = 8 * ((l.length + 10) / 8) := by
    rw [padTo8_length]
    simp only [List.length_append, List.length_cons, lsb_length]
    rw [Nat.mul_comm]
  unfold storedBits at h
  have h1 := h.right
  rw [List.length_append, hp, bytesBits_length, Nat.zero_add] at h1
  have hs : (shead b.length).length = 4 := rfl
  rw [hs, show 8 * ((l.length + 10) / 8) + 8 * 4 = 8 * ((l.length + 10) / 8 + 4) from by omega] at h1
  have h2 := h.left.right
  rw [hp, Nat.zero_add] at h2
  have h3 := h.left.left
  unfold padTo8 at h3
  have h4 := h3.left.right
  rw [Nat.zero_add] at h4
  have g := bytes_get h2.bytes
  rw [hs] at g
  have g0 := byteAt_of (g 0 (by decide))
  have g1 := byteAt_of (g 1 (by decide))
  have g2 := byteAt_of (g 2 (by decide))
  have g3 := byteAt_of (g 3 (by decide))
  rw [Nat.add_zero] at g0
  rw [UInt8.toNat_ofNat'] at g0 g1 g2 g3
  have e : (l.length + 3 + 7) / 8 = (l.length + 10) / 8 := rfl
  refine ⟨?_, ?_, ?_⟩
  · unfold istored
    rw [e, if_pos (by omega), g0, g1, g2, g3, if_pos (by omega)]
    have hn : b.length % 2 ^ 8 + 256 * (b.length / 256 % 2 ^ 8) = b.length := by omega
    rw [hn, ibytes_at b out _ (bytes_get h1.bytes) hm, hL]
  · have : At bs l.length (lsb 1 (if last then 1 else 0)) := by
      have h5 : At bs l.length ([last] ++ lsb 2 0) := h4
      have := h5.left
      cases last <;> exact this
    exact take_at this (by cases last <;> decide)
  · have h5 : At bs l.length ([last] ++ lsb 2 0) := h4
    exact take_at h5.right (by decide)
theorem storedBits_pre (l : List Bool) (last : Bool) (b : List UInt8) : ∃ r, storedBits l last b = l ++ r :=
  ⟨_, by unfold storedBits padTo8; rw [List.append_assoc, List.append_assoc, List.append_assoc]⟩
theorem storedAll_pre : ∀ (cs : List (List UInt8)) (l : List Bool), ∃ r, storedAll l cs = l ++ r
  | [], l => ⟨[], by rw [storedAll, List.append_nil]⟩
  | b :: t, l => by
    obtain ⟨r, hr⟩ := storedAll_pre t (storedBits l t.isEmpty b)
    obtain ⟨q, hq⟩ := storedBits_pre l t.isEmpty b
    exact ⟨q ++ r, by rw [storedAll, hr, hq, List.append_assoc]⟩
theorem all_at {bs : List UInt8} {m : Nat} : ∀ (cs : List (List UInt8)) (l : List Bool) (out : List UInt8) (f : Nat), cs ≠ [] → At bs 0 (storedAll l cs) → (∀ c ∈ cs, c.length ≤ 65535) → out.length + cs.flatten.length ≤ m → cs.length ≤ f →
    irawF bs m f out l.length = .ok (out ++ cs.flatten, (storedAll l cs).length)
  | [], _, _, _, h, _, _, _, _ => absurd rfl h
  | b :: t, l, out, f, _, hat, hc, hm, hf => by
    obtain ⟨f, rfl⟩ : ∃ g, f = g + 1 := ⟨f - 1, by simp only [List.length_cons] at hf; omega⟩
    obtain ⟨r, hr⟩ := storedAll_pre t (storedBits l t.isEmpty b)
    rw [storedAll] at hat ⊢
    have h0 := hat
    rw [hr] at h0
    rw [List.flatten_cons, List.length_append] at hm
    obtain ⟨k1, k2, k3⟩ := stored_at (m := m) (out := out) h0.left (hc b List.mem_cons_self) (by omega)
    rw [irawF, k2]
    dsimp only
    rw [k3]
    dsimp only
    rw [if_neg (by decide)]
    unfold iblock
    rw [if_pos rfl, k1]
    dsimp only
    match t, hc, hm, hf, hat with
    | [], hc, hm, hf, hat => simp [storedAll]
    | c :: t, hc, hm, hf, hat =>
      rw [if_pos (show (if (c :: t).isEmpty = true then 1 else 0 : Nat) = 0 by simp)]
      have := all_at (bs := bs) (m := m) (c :: t) (storedBits l (c :: t).isEmpty b) (out ++ b) f (by simp) hat (fun x hx => hc x (List.mem_cons_of_mem _ hx)) (by rw [List.length_append]; omega) (by simp only [List.length_cons] at hf ⊢; omega)
      rw [this, List.flatten_cons (l := b), List.append_assoc]
theorem chunks_flatten : ∀ (f : Nat) (b : List UInt8), (chunks f b).flatten = b
  | 0, b => by simp [chunks]
  | f + 1, b => by
    rw [chunks]
    split
    · rw [List.flatten_cons, chunks_flatten f, List.take_append_drop]
    · simp
theorem chunks_le : ∀ (f : Nat) (b : List UInt8), b.length ≤ f → ∀ c ∈ chunks f b, c.length ≤ 65535
  | 0, b, h, c, hc => by simp [chunks] at hc; subst hc; omega
  | f + 1, b, h, c, hc => by
    rw [chunks] at hc
    split at hc
    · rcases List.mem_cons.1 hc with e | e
      · rw [e, List.length_take]; omega
      · exact chunks_le f _ (by rw [List.length_drop]; omega) c e
    · simp at hc; subst hc; omega
theorem chunks_ne (f : Nat) (b : List UInt8) : chunks f b ≠ [] := by
  cases f with
  | zero => simp [chunks]
  | succ f => rw [chunks]; split <;> simp
theorem all_len : ∀ (cs : List (List UInt8)) (l : List Bool), l.length + cs.length ≤ (storedAll l cs).length
  | [], l => by simp [storedAll]
  | b :: t, l => by
    rw [storedAll]
    have := all_len t (storedBits l t.isEmpty b)
    rw [storedBits_length] at this
    simp only [List.length_cons]
    omega
/-- Stored blocks are read as they were, whatever stands behind. -/
theorem bits_ext (l : List Bool) (ext : List UInt8) : At (bytesOf l ++ ext) 0 l := by
  refine At.of (r := List.replicate (pad l.length) false ++ bytesBits ext) ?_
  rw [bytesBits_append, bits_bytesOf]
  unfold padTo8
  rw [List.append_assoc]
theorem plain_trip (b ext : List UInt8) (m : Nat) (hm : b.length ≤ m) : iraw (plainBytes b ++ ext) m = .ok (b, (plainBytes b).length) := by
  have hat := bits_ext (plainBits b) ext
  have hf : (chunks b.length b).length ≤ fuel (plainBytes b ++ ext) := by
    have h1 := all_len (chunks b.length b) []
    have h2 := hat.le
    unfold plainBits at h2
    unfold plainBytes fuel
    unfold plainBits
    simp only [List.length_nil] at h1
    omega
  have := all_at (bs := plainBytes b ++ ext) (m := m) (chunks b.length b) [] [] _ (chunks_ne _ _) hat (chunks_le _ b (Nat.le_refl _)) (by rw [chunks_flatten]; simpa using hm) hf
  rw [chunks_flatten, List.nil_append] at this
  unfold iraw
  rw [List.length_nil] at this
  rw [this]
  dsimp only
  rw [show (plainBytes b).length = ((plainBits b).length + 7) / 8 from bytesOf_length _]
  rfl
end Go.Proofs.YtolkoidbkaidkaaGreat.trip
