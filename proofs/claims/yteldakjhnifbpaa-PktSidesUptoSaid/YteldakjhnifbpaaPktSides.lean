/-
  Whatever band, bytes, chunk and lines come in, stemmalaw17.PktSides answers true and changes nothing: bytes are put into a band and taken out of bands as the document says.
  Conditions: the second form (UptoSaid): the arguments hold together at most 1048576 values and letters.
-/
import Derived.Test.YteldakjhnifbpaaPktRefU
import Derived.Test.YteldakjhnifbpaaPktArgs
import Derived.Deep.CondSized
namespace Go.Proofs.Yteldakjhnifbpaa.pktSides
open Go Go.RowKit Go.ChangeShapes Go.WideShapes Go.Proofs.Yteldakjhnifbpaa.lib Go.Proofs.Yteldakjhnifbpaa.bm Go.Proofs.Yteldakjhnifbpaa.pkt

theorem side_few (b : UInt8) (c : Nat) (hc : 0 < c) : ∀ (f : Nat) (bs : List UInt8), (side b c f bs).length ≤ bs.length
  | 0, bs => by simp [side]
  | f + 1, bs => by
    rw [side]
    split
    · simp
    · rename_i h
      have hl : 0 < bs.length := List.length_pos_iff.2 h
      have := side_few b c hc f (bs.drop c)
      simp only [List.length_cons, List.length_drop] at *
      omega
set_option maxRecDepth 100000 in
set_option maxHeartbeats 4000000 in
theorem walk_in (W : World) (band chunk : Int) (ao bo : Option Addr) (cap capb : Nat) (ls : List Lv) (bs : List UInt8) (L : Lines W ao cap ls) (B : BytesArg W bo bs.length capb bs) (hlim : tot (ls.map Lv.ln) ≤ 2199023255552) (hn : ls.length ≤ 2199023255552) (hb : bs.length ≤ 2199023255552) :
    Calls Try.prog 5 #[.int .i64 band, .slice bo bs.length capb, .int .i64 chunk, .slice ao ls.length cap] W fun e W' => e = .returned (.bool true) ∧ Below W.heap.size W W' := by
  by_cases hbig : 5000 < bs.length
  · have hb1 := B.max
    unfold maxLen at hb1
    clear L B
    go_enter Try.func5, Try.ntmps5
    go_wp2_with (go_at_call 9; refine (awake_any _).mono ?_; rintro e w9 ⟨rfl, f9⟩)
    go_ret
    exact ⟨rfl, below_of_fr f9⟩
  have hU := unside_all ao cap ls W L hlim
  have hTo := fun w (f : Fr [] W w) => to_all ao cap ls w (L.fr f) hn
  have hDU : ∀ w a c, Cs w a (dcells (ls.map Lv.ln)) → ls.length ≤ c → c ≤ maxLen → Calls Try.prog 15 #[.slice a ls.length c] w (DUns w (ls.map Lv.ln)) := fun w a c h1 h2 h3 => by
    have := duns_all a c (ls.map Lv.ln) w h1 (by simpa using h2) h3 hlim
    rw [List.length_map] at this
    exact this
  have hS := fun w (f : Fr [] W w) => side_all band chunk bo capb bs w B.le B.max B.nil (B.cs.fr f (by simp)) hb
  have hDS := fun w => dside_all band chunk bs w hb
  have hfew := side_few (bnd band) (chk chunk) (chk_pos chunk).1 bs.length bs
  have hcb := B.cs
  unfold Unsided at hU
  unfold DUns at hDU
  unfold SidedAs at hS
  generalize unside (ls.map Lv.ln) [] [] = E at *
  generalize side (bnd band) (chk chunk) bs.length bs = G at *
  obtain ⟨D, M, X0⟩ := E
  simp only at hU hDU
  obtain ⟨zb, hzb⟩ : ∃ zb, zb = str bs := ⟨_, rfl⟩
  rw [← hzb] at hDS
  have cvb : ∀ w, Fr [] W w → ∀ x cap, (convert 23 9 (.slice bo bs.length cap)).run Try.prog (sup [] w x) = .ok (.string zb) (sup [] w x) := fun w f => by rw [hzb]; exact run_conv_sup [] w Try.underlying23 Try.underlying5 Try.underlying9 rfl (hcb.fr f (by simp)) (by simp)
  have H := Lib.hid (And.intro hU (And.intro hTo (And.intro hDU (And.intro hS (And.intro hDS (And.intro cvb hfew))))))
  clear hU hTo hDU hS hDS cvb L B hlim hn hcb hfew hzb
  go_enter Try.func5, Try.ntmps5
  go_upto_region 4 with (go_at_call 14; refine H.out.1.mono ?_; rintro e w1 ⟨a1, b1, n1, m1, rfl, l1, k1, cs1, cs2, f1⟩; have H1 := Lib.hid (And.intro l1 (And.intro k1 (And.intro cs1 (And.intro cs2 f1)))); clear l1 k1 cs1 cs2 f1)
  go_upto_region 5 with (first | (go_at_call 11; refine (H.out.2.1 _ H1.out.2.2.2.2).mono ?_; rintro e w2 ⟨a2, c2, rfl, R2⟩; have H2 := Lib.hid R2; clear R2) | (go_at_call 15; refine (H.out.2.2.1 _ a2 c2 (cs_of_row H2.out.own) (by have := H2.out.shape.1; rw [List.length_map] at this; exact this) H2.out.shape.2.1).mono ?_; rintro e w3 ⟨rfl, f3⟩; have H3 := Lib.hid (H2.out.fr.trans f3); clear f3))
  obtain ⟨w6, hw6⟩ : ∃ w6, w6 = w3.alloc (.cells #[.string (str D), .string (str M), .int .i64 X0] 46) := ⟨_, rfl⟩
  rw [← hw6]
  have F6 : Fr [] w3 w6 := by rw [hw6]; exact (Fr.refl [] w3).alloc _
  have B6 : w6.heap[w3.heap.size]? = some (.cells #[.string (str D), .string (str M), .int .i64 X0] 46 (0, 0)) := by rw [hw6]; exact alloc_at w3 _
  generalize w3.heap.size = q at *
  have F1 : Fr [] w1 w6 := H3.out.trans F6
  have F5 : Fr [] W w6 := H1.out.2.2.2.2.trans F1
  have cD : Cs w6 a1 (D.map bv) := H1.out.2.2.1.fr F1 (by simp)
  have cM : Cs w6 b1 (M.map bv) := H1.out.2.2.2.1.fr F1 (by simp)
  have lD : D.length = n1 := H1.out.1
  have lM : M.length = m1 := H1.out.2.1
  obtain ⟨z1, hz1⟩ : ∃ z, z = str D := ⟨_, rfl⟩
  obtain ⟨z2, hz2⟩ : ∃ z, z = str M := ⟨_, rfl⟩
  rw [← hz1, ← hz2] at B6 ⊢
  have qs : ∀ wz, Fr [] w6 wz → ∀ x, (sup [] wz x).cell? ⟨q, 0, none⟩ = some (.string z1) ∧ (sup [] wz x).cell? ⟨q, 1, none⟩ = some (.string z2) ∧ (sup [] wz x).cell? ⟨q, 2, none⟩ = some (.int .i64 X0) ∧
      (∀ cap, (convert 23 9 (.slice a1 n1 cap)).run Try.prog (sup [] wz x) = .ok (.string z1) (sup [] wz x)) ∧ (∀ cap, (convert 23 9 (.slice b1 m1 cap)).run Try.prog (sup [] wz x) = .ok (.string z2) (sup [] wz x)) := fun wz f x => by
    have b := (sup_fr [] wz x).blk (f.blk B6 (by simp)) (by simp)
    have b0 := cell_of b 0
    have b1' := cell_of b 1
    have b2 := cell_of b 2
    simp only [List.getElem?_toArray, List.getElem?_cons_zero, List.getElem?_cons_succ] at b0 b1' b2
    refine ⟨b0, b1', b2, ?_, ?_⟩
    · rw [hz1]; exact run_conv_sup [] wz Try.underlying23 Try.underlying5 Try.underlying9 lD (cD.fr f (by simp)) (by simp) x
    · rw [hz2]; exact run_conv_sup [] wz Try.underlying23 Try.underlying5 Try.underlying9 lM (cM.fr f (by simp)) (by simp) x
  have cvb := H.out.2.2.2.2.2.1 w6.drew (F5.trans (Fr.drew1 [] _))
  have HH := Lib.hid (And.intro F5 qs)
  clear hw6 F6 B6 F5 F1 cD cM lD lM hz1 hz2 qs H1 H2 H3
  refine region_mix 35 [(false, 0), (false, 1), (false, 2), (false, 5), (false, 6), (false, 7), (false, 8), (true, 3), (true, 4), (true, 9), (true, 10), (false, 11), (false, 12), (false, 13), (false, 14), (false, 15), (false, 16), (false, 17), (false, 18), (false, 19), (false, 20), (false, 21), (false, 22), (false, 23), (false, 24), (false, 25), (false, 26), (false, 27), (false, 28), (false, 29), (false, 30), (false, 31), (true, 32), (false, 33), (false, 34)] [] (by kernel_rfl) (by kernel_rfl) (fun _ _ d _ _ h => by cases d <;> exact h) ?_
  simp only [List.map_cons, List.map_nil, List.getD_cons_zero, List.getD_cons_succ, List.drop_succ_cons, List.drop_zero, List.drop_nil]
  refine mix_seg 7 rfl ?_
  simp only [List.take_succ_cons, List.take_zero, List.drop_succ_cons, List.drop_zero, List.map_cons, List.map_nil]
  repeat (go_big_quiet_step (fail))
  refine wpQuiet_nil ?_
  clear cvb
  refine mix_eff rfl ?_
  intro X hX
  go_wp2_with (go_at_call 16; refine (H.out.2.2.2.1 _ (HH.out.1.trans (Fr.drew1 [] _))).mono ?_; rintro e w7 ⟨a7, ls7, rfl, L7, e7, f7⟩)
  refine hX.out _ _ f7 ?_
  clear hX X
  subst e7
  have hn7 : ls7.length ≤ bs.length := by have := H.out.2.2.2.2.2.2; rw [List.length_map] at this; exact this
  have H7 := Lib.hid (And.intro L7 ((Fr.drew1 [] w6).trans f7))
  clear L7 f7
  refine mix_eff rfl ?_
  intro X hX
  go_wp2_with (go_at_call 11; refine (to_all a7 ls7.length ls7 _ H7.out.1 (by omega)).mono ?_; rintro e w8 ⟨a8, c8, rfl, R8⟩)
  refine hX.out _ _ R8.fr ?_
  clear hX X
  have H8 := Lib.hid R8
  clear R8
  have hds := H.out.2.2.2.2.1
  rw [List.length_map] at hds
  have HD := Lib.hid hds
  clear hds
  refine mix_eff rfl ?_
  intro X hX
  go_wp2_with (go_at_call 17; refine (HD.out _).mono ?_; rintro e w9 ⟨a9, c9, rfl, R9⟩)
  refine hX.out _ _ R9.fr ?_
  clear hX X
  have hsame := same_true a8 a9 c8 c9 (ls7.map Lv.ln) w9 ((cs_of_row H8.out.own).fr R9.fr (by simp)) (cs_of_row R9.own) (by rw [List.length_map]; omega)
  rw [List.length_map] at hsame
  have H9 := Lib.hid (And.intro hsame ((H7.out.2.trans H8.out.fr).trans R9.fr))
  clear hsame R9
  refine mix_eff rfl ?_
  intro X hX
  go_wp2_with (go_at_call 13; refine H9.out.1.mono ?_; rintro e w10 ⟨rfl, f10⟩)
  refine hX.out _ _ f10 ?_
  clear hX X
  have F := H9.out.2.trans f10
  have q0 := fun x => (HH.out.2 w10 F x).1
  have q1 := fun x => (HH.out.2 w10 F x).2.1
  have q2 := fun x => (HH.out.2 w10 F x).2.2.1
  have v1 := fun x => (HH.out.2 w10 F x).2.2.2.1
  have v2 := fun x => (HH.out.2 w10 F x).2.2.2.2
  have H10 := Lib.hid (HH.out.1.trans F)
  clear f10 F
  refine mix_seg 21 rfl ?_
  simp only [List.take_succ_cons, List.take_zero, List.drop_succ_cons, List.drop_zero, List.map_cons, List.map_nil]
  repeat (go_big_quiet_step (fail))
  refine wpQuiet_nil ?_
  clear q0 q1 q2 v1 v2
  refine mix_eff rfl ?_
  intro X hX
  go_wp2_with (go_at_call 9; refine (awake_any _).mono ?_; rintro e w11 ⟨rfl, f11⟩)
  refine hX.out _ _ f11 ?_
  clear hX X
  refine mix_seg 2 rfl ?_
  simp only [List.take_succ_cons, List.take_zero, List.drop_succ_cons, List.drop_zero, List.map_cons, List.map_nil]
  repeat (go_big_quiet_step (fail))
  refine wpQuiet_nil ?_
  refine mix_nil ?_
  go_wp2
  go_ret
  exact ⟨by first | rfl | simp, below_of_fr (H10.out.trans f11)⟩

/-- From the arguments as they are read to the walk. -/
theorem walk {H : Type} {enc : TypeId × Value → H} (W : World) {base : Nat} (v0 : Value) (d0 : DataW H) (p0 : List MemPlace) (v1 : Value) (d1 : DataW H) (p1 : List MemPlace) (v2 : Value) (d2 : DataW H) (p2 : List MemPlace) (v3 : Value) (d3 : DataW H) (p3 : List MemPlace)
    (o0 : Value.okWide Try.prog W .any base 3 v0) (h0 : DataW.Trod enc Try.prog W 0 (fun _ => true) true 3 v0 d0 p0)
    (o1 : Value.okWide Try.prog W .any base 23 v1) (h1 : DataW.Trod enc Try.prog W 0 (fun _ => true) true 23 v1 d1 p1)
    (o2 : Value.okWide Try.prog W .any base 3 v2) (h2 : DataW.Trod enc Try.prog W 0 (fun _ => true) true 3 v2 d2 p2)
    (o3 : Value.okWide Try.prog W .any base 29 v3) (h3 : DataW.Trod enc Try.prog W 0 (fun _ => true) true 29 v3 d3 p3)
    (hz : (DataW.weightsEach Try.prog [3, 23, 3, 29] [d0, d1, d2, d3]).all (· ≤ reachBytes) = true) (hb : Rows.uptoBulkAll [d0, d1, d2, d3] ≤ 1048576) :
    Calls Try.prog 5 #[v0, v1, v2, v3] W fun e W' => e = .returned (.bool true) ∧ Below W.heap.size W W' := by
  obtain ⟨x0, rfl, rfl, rfl, wx0⟩ := open_int Try.underlying3 o0 h0
  obtain ⟨x2, rfl, rfl, rfl, wx2⟩ := open_int Try.underlying3 o2 h2
  obtain ⟨ao, len, cap, rfl⟩ := okWide_slice Try.underlying29 o3
  obtain ⟨bo, lenb, capb, rfl⟩ := okWide_slice Try.underlying23 o1
  obtain ⟨ls, rfl, L, hlim, hbk⟩ := lines_arg h3 (light_each hz (j := 3) rfl rfl)
  obtain ⟨bs, B, hbk1⟩ := bytes_arg Try.underlying23 Try.underlying5 cellsU8 bytesU8 h1 (light_each hz (j := 1) rfl rfl)
  obtain rfl := B.length
  simp only [Rows.uptoBulkAll] at hb
  have hm : ls.length * (Rows.uptoBulk d3 + 4) ≤ 1048576 * (1048576 + 4) := Nat.mul_le_mul (by omega) (by omega)
  exact walk_in W x0 x2 ao bo cap capb ls bs L B (by omega) (by omega) (by omega)

/-! ### The row -/
theorem own : ownKnob Try.prog.godebug = none := by kernel_rfl
theorem laidOut : laidOutB Try.prog = true := by kernel_rfl
set_option maxRecDepth 100000 in
theorem lifted (os : Os) (started : os.Started) (H : Type) (enc : TypeId × Value → H) (G : Stop.Interp) :
    ReturnsInHanded {} Try.checked os 5 .any ((Rows.OpenSpec.upto Rows.pktSidesSpec).pre6 enc Try.prog Try.f5 Rows.pktSidesUptoRow.domain false) (((Rows.OpenSpec.upto Rows.pktSidesSpec).at G).post enc Try.prog Try.f5 false true false false) := by
  refine returnsInHanded_of_cond_sized (C := Try.checked) (s := (Rows.OpenSpec.upto Rows.pktSidesSpec)) (k := Rows.uptoSmall) rfl own started (by kernel_rfl) Try.func5
    (OpenSpec.witness (enc := enc) (C := Try.checked) (s := (Rows.OpenSpec.upto Rows.pktSidesSpec)) (k := Rows.uptoSmall) rfl false ⟨#[], #[.int .i64 0, .slice none 0 0, .int .i64 0, .slice none 0 0], []⟩ 8 (by kernel_rfl) (by kernel_rfl) (by kernel_rfl) (x := ([.lit (.int .i64 0), .nil, .lit (.int .i64 0), .nil], [], [])) (by kernel_rfl) rfl (by kernel_rfl)) ?_
  intro W base args ds gs before hval hW _ hk hsz _
  have hW' := hW
  obtain ⟨p, q, hA0, hV, rfl, hfz, hnd⟩ := hW'
  have hA : DataW.TrodAll enc Try.prog W 0 (fun _ => true) true Try.f5.params.toList args.toList ds p := hA0
  rw [Try.params5] at hA hval
  obtain ⟨v0, vs0, d0, ds0, p0, q0, hargs, rfl, rfl, h0, r0⟩ := trodAll_cons hA
  obtain ⟨v1, vs1, d1, ds1, p1, q1, rfl, rfl, rfl, h1, r1⟩ := trodAll_cons r0
  obtain ⟨v2, vs2, d2, ds2, p2, q2, rfl, rfl, rfl, h2, r2⟩ := trodAll_cons r1
  obtain ⟨v3, vs3, d3, ds3, p3, q3, rfl, rfl, rfl, h3, r3⟩ := trodAll_cons r2
  obtain ⟨rfl, rfl, rfl⟩ := trodAll_nil r3
  obtain rfl : args = #[v0, v1, v2, v3] := by cases args; simp_all
  obtain ⟨rfl, rfl⟩ := trodVars_none hV
  have hz : (DataW.weightsEach Try.prog [3, 23, 3, 29] [d0, d1, d2, d3]).all (· ≤ reachBytes) = true := hsz
  have hb : Rows.uptoBulkAll [d0, d1, d2, d3] ≤ 1048576 := of_decide_eq_true (show decide _ = true from hk)
  refine law_of_calls (s := (((Rows.OpenSpec.upto Rows.pktSidesSpec)).at G)) laidOut (by kernel_rfl) rfl rfl Try.underlying4 hW (fun gs _ h2 => by subst h2; rfl) ?_
  exact walk W v0 d0 p0 v1 d1 p1 v2 d2 p2 v3 d3 p3 (hval 0 3 v0 rfl rfl) (h0) (hval 1 23 v1 rfl rfl) (h1) (hval 2 3 v2 rfl rfl) (h2) (hval 3 29 v3 rfl rfl) (h3) hz hb

theorem over : Rows.pktSidesUptoRow.holds Try.pinned (Rows.OpenSpec.upto Rows.pktSidesSpec) :=
  OpenClaim.holds_of_cond 5 Try.f5 rfl rfl rfl rfl rfl rfl rfl ⟨rfl, rfl, rfl, rfl, rfl⟩ rfl rfl rfl rfl rfl (by kernel_rfl) Try.func5 (by kernel_rfl)
    (of_decide_eq_true (by kernel_rfl)) (by unfold Func.isWrapper; first | (rw [if_pos (by decide +kernel)]; kernel_rfl) | (rw [if_neg (by decide +kernel)]; exact ⟨rfl, rfl⟩))
    (fun os started H enc _ G => lifted os started H enc G)

theorem proved : Rows.PktSidesUptoSaid := over
end Go.Proofs.Yteldakjhnifbpaa.pktSides
