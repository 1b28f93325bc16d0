/-
  Whatever lines and whatever bytes come in, stemmalaw17.PktLines answers true and changes nothing: lines are written as the document says, and any bytes read as the lines that they begin with, or refused.
  Conditions: the second form (UptoSaid): the arguments hold together at most 1048576 values and letters.
-/
import Derived.Test.YteldakjhnifbpaaPktRefD
import Derived.Test.YteldakjhnifbpaaPktArgs
import Derived.Deep.CondSized
namespace Go.Proofs.Yteldakjhnifbpaa.pktLines
open Go Go.RowKit Go.ChangeShapes Go.WideShapes Go.Proofs.Yteldakjhnifbpaa.lib Go.Proofs.Yteldakjhnifbpaa.bm Go.Proofs.Yteldakjhnifbpaa.pkt

theorem dec_few : ∀ (f : Nat) (r : List UInt8) (a : Nat) (l : List Ln), (dec f r a l).1.length ≤ l.length + r.length
  | 0, r, a, l => by simp [dec]
  | f + 1, r, a, l => by
    rw [dec]
    split
    · simp
    · split
      · simp
      · rename_i n _
        split
        · simp
        · split
          · simp
          · split
            · refine Nat.le_trans (dec_few f _ _ _) ?_
              simp
              omega
            · split
              · simp
              · refine Nat.le_trans (dec_few f _ _ _) ?_
                simp
                omega
theorem decode_few (bs : List UInt8) : (pkt.decode bs).1.length ≤ bs.length := by
  have := dec_few bs.length bs 0 []
  simpa [pkt.decode] using this
set_option maxRecDepth 100000 in
set_option maxHeartbeats 4000000 in
theorem walk_in (W : World) (ao bo : Option Addr) (cap capb : Nat) (ls : List Lv) (bs : List UInt8) (L : Lines W ao cap ls) (B : BytesArg W bo bs.length capb bs) (hlim : tot (ls.map Lv.ln) ≤ 2199023255552) (hn : ls.length ≤ 2199023255552) (hb : bs.length ≤ 2199023255552) :
    Calls Try.prog 4 #[.slice ao ls.length cap, .slice bo bs.length capb] W fun e W' => e = .returned (.bool true) ∧ Below W.heap.size W W' := by
  have hE := encode_all ao cap ls W L hlim
  have hTo := fun w (f : Fr [] W w) => to_all ao cap ls w (L.fr f) hn
  have hDE : ∀ w a c, Cs w a (dcells (ls.map Lv.ln)) → ls.length ≤ c → c ≤ maxLen → Calls Try.prog 10 #[.slice a ls.length c] w fun e w' => e = .returned (.tuple #[.string (str (enc (ls.map Lv.ln)).1), .int .i64 (enc (ls.map Lv.ln)).2]) ∧ Fr [] w w' := fun w a c h1 h2 h3 => by
    have := denc_all a c (ls.map Lv.ln) w h1 (by simpa using h2) h3 hlim
    rw [List.length_map] at this
    exact this
  have hDec := fun w (f : Fr [] W w) => decode_all bo capb bs w B.le (by have := B.max; unfold maxLen at this; omega) B.nil (B.cs.fr f (by simp)) hb
  have hDD := fun w => ddec_all bs w hb
  have hfew := decode_few bs
  have hcb := B.cs
  unfold Encoded at hE
  unfold Decoded at hDec
  unfold DDec at hDD
  generalize enc (ls.map Lv.ln) = E at *
  generalize pkt.decode bs = G at *
  obtain ⟨E1, E2⟩ := E
  obtain ⟨G1, G2, G3⟩ := G
  simp only at hE hDE hDec hDD hfew
  have cvb : ∀ w, Fr [] W w → ∀ cap, (convert 23 9 (.slice bo bs.length cap)).run Try.prog w = .ok (.string (str bs)) w := fun w f => run_conv w Try.underlying23 Try.underlying5 Try.underlying9 rfl (hcb.fr f (by simp))
  have H := Lib.hid (And.intro hE (And.intro hTo (And.intro hDE (And.intro hDec (And.intro hDD cvb)))))
  clear hE hTo hDE hDec hDD cvb L B hlim hn hcb
  go_enter Try.func4, Try.ntmps4
  go_upto_region 2 with (go_at_call 7; refine H.out.1.mono ?_; rintro e w1 ⟨a1, n1, rfl, l1, cs1, nil1, f1⟩; have H1 := Lib.hid (And.intro l1 (And.intro cs1 f1)); clear l1 cs1 nil1 f1)
  go_upto_region 3 with (first | (go_at_call 11; refine (H.out.2.1 _ H1.out.2.2).mono ?_; rintro e w2 ⟨a2, c2, rfl, R2⟩; have H2 := Lib.hid R2; clear R2) | (go_at_call 10; refine (H.out.2.2.1 _ a2 c2 (cs_of_row H2.out.own) (by have := H2.out.shape.1; rw [List.length_map] at this; exact this) H2.out.shape.2.1).mono ?_; rintro e w3 ⟨rfl, f3⟩; have H23 := Lib.hid f3; have H3 := Lib.hid (H1.out.2.2.trans (H2.out.fr.trans f3)); clear f3))
  go_upto_region 4 with (go_at_call 8; refine (H.out.2.2.2.1 _ H3.out).mono ?_; rintro e w4 ⟨a4, ls4, rfl, L4, m4, f4⟩; have H4 := Lib.hid (And.intro L4 (And.intro m4 f4)); clear L4 m4 f4)
  have cv := H.out.2.2.2.2.2 w4 (H3.out.trans H4.out.2.2)
  go_upto_region 5 with (go_at_call 12; refine (H.out.2.2.2.2.1 _).mono ?_; rintro e w5 ⟨a5, n5, c5, rfl, l5, cs5, le5, max5, f5⟩; have H5 := Lib.hid (And.intro l5 (And.intro cs5 (And.intro le5 (And.intro max5 f5)))); clear l5 cs5 le5 max5 f5 cv)
  obtain ⟨w6, hw6⟩ : ∃ w6, w6 = w5.alloc (.cells #[.slice a5 n5 c5, .int .i64 G2, .int .i64 G3] 39) := ⟨_, rfl⟩
  rw [← hw6]
  have F6 : Fr [] w5 w6 := by rw [hw6]; exact (Fr.refl [] w5).alloc _
  have B6 : w6.heap[w5.heap.size]? = some (.cells #[.slice a5 n5 c5, .int .i64 G2, .int .i64 G3] 39 (0, 0)) := by rw [hw6]; exact alloc_at w5 _
  generalize w5.heap.size = q at *
  have F5 : Fr [] W w6 := (((H3.out.trans H4.out.2.2).trans H5.out.2.2.2.2).trans F6)
  have hls : ls4.map Lv.ln = G1 := H4.out.2.1
  subst hls
  have l5 := H5.out.1
  rw [List.length_map] at l5 hfew
  subst l5
  have cE : Cs w6 a1 (E1.map bv) := H1.out.2.1.fr ((((H2.out.fr.trans (H23.out)).trans H4.out.2.2).trans H5.out.2.2.2.2).trans F6) (by simp)
  have L4 := H4.out.1.fr (H5.out.2.2.2.2.trans F6)
  have hn1 : E1.length = n1 := H1.out.1
  have c5s : Cs w6 a5 (dcells (ls4.map Lv.ln)) := H5.out.2.1.fr F6 (by simp)
  have cv := run_conv_sup [] w6.drew Try.underlying23 Try.underlying5 Try.underlying9 hn1 (cE.fr (Fr.drew1 [] _) (by simp)) (by simp)
  obtain ⟨z, hz⟩ : ∃ z, z = str E1 := ⟨_, rfl⟩
  rw [← hz] at cv ⊢
  have qs : ∀ wz, Fr [] w6 wz → ∀ x, (sup [] wz x).cell? ⟨q, 0, none⟩ = some (.slice a5 ls4.length c5) ∧ (sup [] wz x).cell? ⟨q, 1, none⟩ = some (.int .i64 G2) ∧ (sup [] wz x).cell? ⟨q, 2, none⟩ = some (.int .i64 G3) := fun wz f x => by
    have b := (sup_fr [] wz x).blk (f.blk B6 (by simp)) (by simp)
    have b0 := cell_of b 0
    have b1 := cell_of b 1
    have b2 := cell_of b 2
    simp only [List.getElem?_toArray, List.getElem?_cons_zero, List.getElem?_cons_succ] at b0 b1 b2
    exact ⟨b0, b1, b2⟩
  have q0 := fun x => (qs w6.drew (Fr.drew1 [] _) x).1
  have HH := Lib.hid (And.intro F5 (And.intro L4 (And.intro c5s (And.intro qs hfew))))
  clear hw6 F6 B6 F5 cE L4 hn1 c5s hz qs hfew H H1 H2 H23 H3 H4 H5
  refine region_mix 32 [(false, 0), (false, 1), (false, 2), (false, 3), (false, 4), (false, 5), (false, 6), (false, 7), (false, 8), (false, 9), (false, 10), (false, 12), (false, 13), (true, 11), (true, 14), (false, 15), (false, 16), (false, 17), (false, 18), (false, 19), (false, 20), (false, 21), (false, 22), (false, 23), (false, 24), (false, 25), (false, 26), (false, 27), (false, 28), (true, 29), (false, 30), (false, 31)] [] (by kernel_rfl) (by kernel_rfl) (fun _ _ d _ _ h => by cases d <;> exact h) ?_
  simp only [List.map_cons, List.map_nil, List.getD_cons_zero, List.getD_cons_succ, List.drop_succ_cons, List.drop_zero, List.drop_nil]
  refine mix_seg 13 rfl ?_
  simp only [List.take_succ_cons, List.take_zero, List.drop_succ_cons, List.drop_zero, List.map_cons, List.map_nil]
  repeat (go_big_quiet_step (fail))
  refine wpQuiet_nil ?_
  clear cv q0
  refine mix_eff rfl ?_
  intro X hX
  go_wp2_with (go_at_call 11; refine (to_all a4 ls4.length ls4 _ (HH.out.2.1.fr (Fr.drew1 [] _)) (by have := HH.out.2.2.2.2; omega)).mono ?_; rintro e w7 ⟨a7, c7, rfl, R7⟩)
  refine hX.out _ _ R7.fr ?_
  clear hX X
  have f7 : Fr [] w6 w7 := (Fr.drew1 [] w6).trans R7.fr
  have hsame := same_true a7 a5 c7 c5 (ls4.map Lv.ln) w7 (cs_of_row R7.own) (HH.out.2.2.1.fr f7 (by simp)) (by have := HH.out.2.2.2.2; rw [List.length_map]; omega)
  rw [List.length_map] at hsame
  have H7 := Lib.hid (And.intro hsame f7)
  clear hsame f7 R7
  refine mix_eff rfl ?_
  intro X hX
  go_wp2_with (go_at_call 13; refine H7.out.1.mono ?_; rintro e w8 ⟨rfl, f8⟩)
  refine hX.out _ _ f8 ?_
  clear hX X
  have q1 := fun x => (HH.out.2.2.2.1 w8 (H7.out.2.trans f8) x).2.1
  have q2 := fun x => (HH.out.2.2.2.1 w8 (H7.out.2.trans f8) x).2.2
  have H8 := Lib.hid (HH.out.1.trans (H7.out.2.trans f8))
  clear f8
  refine mix_seg 14 rfl ?_
  simp only [List.take_succ_cons, List.take_zero, List.drop_succ_cons, List.drop_zero, List.map_cons, List.map_nil]
  repeat (go_big_quiet_step (fail))
  refine wpQuiet_nil ?_
  clear q1 q2
  refine mix_eff rfl ?_
  intro X hX
  go_wp2_with (go_at_call 9; refine (awake_any _).mono ?_; rintro e w9 ⟨rfl, f9⟩)
  refine hX.out _ _ f9 ?_
  clear hX X
  refine mix_seg 2 rfl ?_
  simp only [List.take_succ_cons, List.take_zero, List.drop_succ_cons, List.drop_zero, List.map_cons, List.map_nil]
  repeat (go_big_quiet_step (fail))
  refine wpQuiet_nil ?_
  refine mix_nil ?_
  go_wp2
  go_ret
  exact ⟨by first | rfl | simp, below_of_fr (H8.out.trans f9)⟩

/-- From the arguments as they are read to the walk. -/
theorem walk {H : Type} {enc : TypeId × Value → H} (W : World) {base : Nat} (v0 : Value) (d0 : DataW H) (p0 : List MemPlace) (v1 : Value) (d1 : DataW H) (p1 : List MemPlace)
    (o0 : Value.okWide Try.prog W .any base 29 v0) (h0 : DataW.Trod enc Try.prog W 0 (fun _ => true) true 29 v0 d0 p0)
    (o1 : Value.okWide Try.prog W .any base 23 v1) (h1 : DataW.Trod enc Try.prog W 0 (fun _ => true) true 23 v1 d1 p1)
    (hz : (DataW.weightsEach Try.prog [29, 23] [d0, d1]).all (· ≤ reachBytes) = true) (hb : Rows.uptoBulkAll [d0, d1] ≤ 1048576) :
    Calls Try.prog 4 #[v0, v1] W fun e W' => e = .returned (.bool true) ∧ Below W.heap.size W W' := by
  obtain ⟨ao, len, cap, rfl⟩ := okWide_slice Try.underlying29 o0
  obtain ⟨bo, lenb, capb, rfl⟩ := okWide_slice Try.underlying23 o1
  obtain ⟨ls, rfl, L, hlim, hbk⟩ := lines_arg h0 (light_each hz (j := 0) rfl rfl)
  obtain ⟨bs, B, hbk1⟩ := bytes_arg Try.underlying23 Try.underlying5 cellsU8 bytesU8 h1 (light_each hz (j := 1) rfl rfl)
  obtain rfl := B.length
  simp only [Rows.uptoBulkAll] at hb
  have hm : ls.length * (Rows.uptoBulk d0 + 4) ≤ 1048576 * (1048576 + 4) := Nat.mul_le_mul (by omega) (by omega)
  exact walk_in W ao bo cap capb ls bs L B (by omega) (by omega) (by omega)

/-! ### The row -/
theorem own : ownKnob Try.prog.godebug = none := by kernel_rfl
theorem laidOut : laidOutB Try.prog = true := by kernel_rfl
set_option maxRecDepth 100000 in
theorem lifted (os : Os) (started : os.Started) (H : Type) (enc : TypeId × Value → H) (G : Stop.Interp) :
    ReturnsInHanded {} Try.checked os 4 .any ((Rows.OpenSpec.upto Rows.pktLinesSpec).pre6 enc Try.prog Try.f4 Rows.pktLinesUptoRow.domain false) (((Rows.OpenSpec.upto Rows.pktLinesSpec).at G).post enc Try.prog Try.f4 false true false false) := by
  refine returnsInHanded_of_cond_sized (C := Try.checked) (s := (Rows.OpenSpec.upto Rows.pktLinesSpec)) (k := Rows.uptoSmall) rfl own started (by kernel_rfl) Try.func4
    (OpenSpec.witness (enc := enc) (C := Try.checked) (s := (Rows.OpenSpec.upto Rows.pktLinesSpec)) (k := Rows.uptoSmall) rfl false ⟨#[], #[.slice none 0 0, .slice none 0 0], []⟩ 8 (by kernel_rfl) (by kernel_rfl) (by kernel_rfl) (x := ([.nil, .nil], [], [])) (by kernel_rfl) rfl (by kernel_rfl)) ?_
  intro W base args ds gs before hval hW _ hk hsz _
  have hW' := hW
  obtain ⟨p, q, hA0, hV, rfl, hfz, hnd⟩ := hW'
  have hA : DataW.TrodAll enc Try.prog W 0 (fun _ => true) true Try.f4.params.toList args.toList ds p := hA0
  rw [Try.params4] at hA hval
  obtain ⟨v0, vs0, d0, ds0, p0, q0, hargs, rfl, rfl, h0, r0⟩ := trodAll_cons hA
  obtain ⟨v1, vs1, d1, ds1, p1, q1, rfl, rfl, rfl, h1, r1⟩ := trodAll_cons r0
  obtain ⟨rfl, rfl, rfl⟩ := trodAll_nil r1
  obtain rfl : args = #[v0, v1] := by cases args; simp_all
  obtain ⟨rfl, rfl⟩ := trodVars_none hV
  have hz : (DataW.weightsEach Try.prog [29, 23] [d0, d1]).all (· ≤ reachBytes) = true := hsz
  have hb : Rows.uptoBulkAll [d0, d1] ≤ 1048576 := of_decide_eq_true (show decide _ = true from hk)
  refine law_of_calls (s := (((Rows.OpenSpec.upto Rows.pktLinesSpec)).at G)) laidOut (by kernel_rfl) rfl rfl Try.underlying4 hW (fun gs _ h2 => by subst h2; rfl) ?_
  exact walk W v0 d0 p0 v1 d1 p1 (hval 0 29 v0 rfl rfl) (h0) (hval 1 23 v1 rfl rfl) (h1) hz hb

theorem over : Rows.pktLinesUptoRow.holds Try.pinned (Rows.OpenSpec.upto Rows.pktLinesSpec) :=
  OpenClaim.holds_of_cond 4 Try.f4 rfl rfl rfl rfl rfl rfl rfl ⟨rfl, rfl, rfl, rfl, rfl⟩ rfl rfl rfl rfl rfl (by kernel_rfl) Try.func4 (by kernel_rfl)
    (of_decide_eq_true (by kernel_rfl)) (by unfold Func.isWrapper; first | (rw [if_pos (by decide +kernel)]; kernel_rfl) | (rw [if_neg (by decide +kernel)]; exact ⟨rfl, rfl⟩))
    (fun os started H enc _ G => lifted os started H enc G)

theorem proved : Rows.PktLinesUptoSaid := over
end Go.Proofs.Yteldakjhnifbpaa.pktLines
