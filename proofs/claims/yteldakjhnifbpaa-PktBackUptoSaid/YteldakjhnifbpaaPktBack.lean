/-
  Whatever lines, cut, bytes and chunk come in, stemmalaw17.PktBack answers true and changes nothing: lines are read as they were written, however the bytes come, and what was put aside into bands is the same again.
  Conditions: the second form (UptoSaid): the arguments hold together at most 1048576 values and letters.
-/
import Derived.Test.YteldakjhnifbpaaPktTo
import Derived.Test.YteldakjhnifbpaaPktUns
import Derived.Test.YteldakjhnifbpaaPktSide
import Derived.Test.YteldakjhnifbpaaPktArgs
import Derived.Deep.CondSized
namespace Go.Proofs.Yteldakjhnifbpaa.pktBack
open Go Go.RowKit Go.ChangeShapes Go.WideShapes Go.Proofs.Yteldakjhnifbpaa.lib Go.Proofs.Yteldakjhnifbpaa.bm Go.Proofs.Yteldakjhnifbpaa.pkt

theorem tot_side (b : UInt8) (c : Nat) (hc : 0 < c) : ∀ (f : Nat) (bs : List UInt8), tot (side b c f bs) ≤ 6 * bs.length
  | 0, bs => by simp [side, tot]
  | f + 1, bs => by
    rw [side]
    split
    · simp [tot]
    · rename_i h
      have hl : 0 < bs.length := List.length_pos_iff.2 h
      have := tot_side b c hc f (bs.drop c)
      simp only [tot, List.length_cons, List.length_drop, List.length_take] at *
      omega
theorem bnd1 : bnd 1 = 1 := by decide
theorem bnd2 : bnd 2 = 2 := by decide
theorem length_le_tot : ∀ l : List Ln, l.length ≤ tot l
  | [] => Nat.le_refl _
  | x :: l => by have := length_le_tot l; simp only [tot, List.length_cons]; omega
theorem enc_len (l : List Ln) : (enc l).1.length ≤ tot l := by
  have := encAll_le l
  unfold enc
  split
  · exact this
  · exact Nat.zero_le _
theorem encAll_tot (l : List Ln) (h : ∀ x ∈ l, Fine x) : l.length ≤ (encAll l).length := by
  induction l with
  | nil => simp
  | cons x l ih =>
    have h1 := one_length x (h x (by simp)).1
    have h2 := ih fun y hy => h y (by simp [hy])
    simp only [encAll, List.length_append, List.length_cons]
    omega
/-- append, where the operation's guard says yes. -/
theorem wpList_append_on {P : Program} {w : World} {t e : TypeId} {z : Value} {size bytes : Nat} (T : SliceTy P t e z size bytes) {ops : Array Oper} {rest : List Oper} {o : Oper} {a : Act} {Q : Exit → Act → World → Prop} (hw : Region.wanted o (yielded ops a.tmps) = true) (s x : Operand)
    (ho : o.op = .call { callee := .builtin .append, args := #[s, x], argTypes := #[t, t] })
    (v : Value) (n : Nat) (xs : List Value) (S : List Nat) (hs : a.eval s = v) (hS : v.ownBlock.toList = S) (hown : w.ownsRow 0 e size v n xs)
    (ao : Option Addr) (m c : Nat) (news : List Value) (hx : a.eval x = .slice ao m c) (hmc : m ≤ c) (hnone : ao = none → c = 0) (hc : Cs w ao news) (hl : news.length = m * size) (h1 : ∀ u ∈ news, u.oneCell' = true)
    (hb : (n + m) * bytes ≤ 140737488355328) (h63 : n + m ≤ maxLen)
    (h : ∀ ao' cap' w', Appended w w' e size S ao' (n + m) cap' (xs ++ news) → wpList P ops Q rest (a.put o.dst (.slice ao' (n + m) cap')) w') : wpList P ops Q (o :: rest) a w :=
  BigFrame.wpList_want hw fun _ hK => wp_append T s x ho v n xs S hs hS hown ao m c news hx hmc hnone hc hl h1 hb h63 fun ao' cap' w' h2 => hK _ _ (h ao' cap' w' h2)
theorem fA7 {W w5 w6 w7 w8 w9 w10 : World} {a : Option Addr} {c : Nat} {l : List Ln} (f5 : Fr [] W w5) (f6 : Fr [] w5 w6) (f7 : Fr [] w6 w7) (R : DRow w7 w8 a c l) (f9 : Fr [] w8 w9) (fA : Fr (blk a) w9 w10) : Fr [] W w10 := by
  have h1 := f5.trans (f6.trans f7)
  refine ((h1.trans R.fr).trans f9).step fA fun y hy => .inr ?_
  have := R.new y hy
  have := h1.size
  omega
theorem sames {w10 w11 : World} {a10 a11 : Option Addr} {c11 N : Nat} {ls k6 k7 : List Lv} {p q : List Ln} (h67 : k6.length + k7.length = N) (hN : N = ls.length) (hpq : ls.map Lv.ln = p ++ q) (h6 : k6.map Lv.ln = p) (h7 : k7.map Lv.ln = q)
    (hc : Cs w10 a10 (dcells (k6.map Lv.ln) ++ dcells (k7.map Lv.ln))) (R : DRow w10 w11 a11 c11 (ls.map Lv.ln)) (hn : N ≤ 2199023255552) :
    ∀ ca cb, Calls Try.prog 13 #[.slice a10 (k6.length + k7.length) ca, .slice a11 N cb] w11 fun e w' => e = .returned (.bool true) ∧ Fr [] w11 w' := fun ca cb => by
  rw [h6, h7, ← dcells_append, ← hpq] at hc
  have := same_true a10 a11 ca cb (ls.map Lv.ln) w11 (hc.fr R.fr (by simp)) (cs_of_row R.own) (by rw [List.length_map, ← hN]; exact hn)
  rw [List.length_map, ← hN] at this
  rw [h67]
  exact this
theorem cut_lem (cut : Int) (M : Nat) (h : M ≤ 2199023255552) : ∃ k : Nat, k ≤ M ∧ (wrap64 (wrap64 (cut.tmod ((M : Int) + 1) + M) + 1)).tmod ((M : Int) + 1) = k := by
  have h1 := Int.tmod_lt_of_pos cut (show (0 : Int) < (M : Int) + 1 by omega)
  have h2 := Int.lt_tmod_of_pos cut (show (0 : Int) < (M : Int) + 1 by omega)
  generalize cut.tmod ((M : Int) + 1) = r at *
  have e1 : wrap64 (wrap64 (r + M) + 1) = r + M + 1 := by simp only [wrap64]; omega
  rw [e1, Int.tmod_eq_emod_of_nonneg (by omega)]
  have h3 := Int.emod_nonneg (r + M + 1) (show (M : Int) + 1 ≠ 0 by omega)
  have h4 := Int.emod_lt_of_pos (r + M + 1) (show (0 : Int) < (M : Int) + 1 by omega)
  exact ⟨((r + M + 1) % ((M : Int) + 1)).toNat, by omega, by omega⟩
theorem cs_take {w : World} {ao : Option Addr} {bs : List UInt8} (h : Cs w ao (bs.map bv)) (k : Nat) : Cs w ao ((bs.take k).map bv) := by
  rcases h with h | ⟨g, o, rfl, h⟩
  · left
    have : bs = [] := by simpa using h
    simp [this]
  · refine .inr ⟨g, o, rfl, fun j v hv => h j v ?_⟩
    rw [List.map_take, List.getElem?_take] at hv
    split at hv
    · exact hv
    · cases hv
set_option maxRecDepth 100000 in
set_option maxHeartbeats 8000000 in
theorem walk_in (W : World) (cut chunk : Int) (ao bo : Option Addr) (cap capb : Nat) (ls : List Lv) (bs : List UInt8) (L : Lines W ao cap ls) (B : BytesArg W bo bs.length capb bs) (hlim : tot (ls.map Lv.ln) ≤ 2199023255552) (hn : ls.length ≤ 2199023255552)
    (hcut : -9223372036854775808 ≤ cut ∧ cut ≤ 9223372036854775807) :
    Calls Try.prog 6 #[.slice ao ls.length cap, .int .i64 cut, .slice bo bs.length capb, .int .i64 chunk] W fun e W' => e = .returned (.bool true) ∧ Below W.heap.size W W' := by
  by_cases hbig : 5000 < bs.length
  · have hb1 := B.max
    unfold maxLen at hb1
    clear L B
    go_enter Try.func6, Try.ntmps6
    go_wp2_with (go_at_call 9; refine (awake_any _).mono ?_; rintro e w9 ⟨rfl, f9⟩)
    go_ret
    exact ⟨rfl, below_of_fr f9⟩
  have hcp := chk_pos chunk
  have hS := fun (b : Int) w (f : Fr [] W w) => side_all b chunk bo capb bs w B.le B.max B.nil (B.cs.fr f (by simp)) (by omega)
  have hUn := fun (b : Int) (a : Option Addr) (k : List Lv) w (L : Lines w a k.length k) (e : k.map Lv.ln = side (bnd b) (chk chunk) bs.length bs) => unside_all a k.length k w L (by rw [e]; have := tot_side (bnd b) (chk chunk) hcp.1 bs.length bs; omega)
  unfold SidedAs at hS
  have hcb := B.cs
  have HS := Lib.hid hS
  have HUn := Lib.hid hUn
  have HB := Lib.hid B
  have HL := Lib.hid L
  have hlc := L.max
  have hlc2 := L.le
  unfold maxLen at hlc
  obtain ⟨N, hN⟩ : ∃ N, N = ls.length := ⟨_, rfl⟩
  have HN := Lib.hid hN
  rw [← hN] at hlc2 hn ⊢
  clear hS hUn B L hcb hN
  go_enter Try.func6, Try.ntmps6
  go_upto_region 4 with (first | (go_at_call 16; refine (HS.out 1 _ (Fr.refl _ _)).mono ?_; rintro e w1 ⟨a1, k1, rfl, L1, e1, f1⟩; have H1 := Lib.hid (And.intro L1 (And.intro e1 f1)); clear L1 e1 f1) | (go_at_call 14; refine (HUn.out 1 a1 k1 _ H1.out.1 H1.out.2.1).mono ?_; rintro e w2 h2; unfold Unsided at h2; rw [H1.out.2.1, bnd1, unside_side 1 _ (chk_pos chunk).1 (.inl rfl) _ _ _ _ (Nat.le_refl _)] at h2; simp only [if_true, List.nil_append, List.length_nil] at h2; obtain ⟨a2, b2, n2, m2, rfl, rfl, rfl, c2, _, f2⟩ := h2; have H2 := Lib.hid (And.intro c2 (H1.out.2.2.trans f2)); clear c2 f2))
  go_upto_region 5 with (first | (go_at_call 16; refine (HS.out 2 _ H2.out.2).mono ?_; rintro e w3 ⟨a3, k3, rfl, L3, e3, f3⟩; have H3 := Lib.hid (And.intro L3 (And.intro e3 f3)); clear L3 e3 f3) | (go_at_call 14; refine (HUn.out 2 a3 k3 _ H3.out.1 H3.out.2.1).mono ?_; rintro e w4 h4; unfold Unsided at h4; rw [H3.out.2.1, bnd2, unside_side 2 _ (chk_pos chunk).1 (.inr rfl) _ _ _ _ (Nat.le_refl _), if_neg (by decide)] at h4; simp only [List.nil_append, List.length_nil] at h4; obtain ⟨a4, b4, n4, m4, rfl, rfl, rfl, _, c4, f4⟩ := h4; have H4 := Lib.hid (And.intro c4 (H3.out.2.2.trans f4)); clear c4 f4))
  have F4 := H2.out.2.trans H4.out.2
  obtain ⟨z, hz⟩ : ∃ z, z = str bs := ⟨_, rfl⟩
  have cv1 : ∀ cap, (convert 23 9 (.slice a2 bs.length cap)).run Try.prog w4 = .ok (.string z) w4 := by rw [hz]; exact run_conv w4 Try.underlying23 Try.underlying5 Try.underlying9 rfl (H2.out.1.fr H4.out.2 (by simp))
  have cv2 : ∀ cap, (convert 23 9 (.slice b4 bs.length cap)).run Try.prog w4 = .ok (.string z) w4 := by rw [hz]; exact run_conv w4 Try.underlying23 Try.underlying5 Try.underlying9 rfl H4.out.1
  have cv3 : ∀ cap, (convert 23 9 (.slice bo bs.length cap)).run Try.prog w4 = .ok (.string z) w4 := by rw [hz]; exact run_conv w4 Try.underlying23 Try.underlying5 Try.underlying9 rfl (HB.out.cs.fr F4 (by simp))
  have HF := Lib.hid F4
  clear F4 hz H1 H2 H3 H4
  go_upto_block 0 with fail
  clear cv1 cv2 cv3
  go_cut [15] from 65 to 87 (fun s15 wz => (∀ x ∈ ls, x.kind = 1 ∨ x.bs = []) ∧ w4 = wz)
  case first =>
    go_wp2
    go_loopg [15] N (fun k s15 wr => ∃ i, i + k = N ∧ s15 = .int .i64 (i : Nat) ∧ (∀ x ∈ ls.take i, x.kind = 1 ∨ x.bs = []) ∧ w4 = wr)
    case atStart => exact ⟨0, by omega, rfl, by simp, rfl⟩
    case round =>
      obtain ⟨i, hi, rfl, hok, rfl⟩ := hrel
      have HK := Lib.hid hok
      clear hok
      by_cases hin : i < N
      · have hil : i < ls.length := by have := HN.out; omega
        obtain ⟨g, o, rfl, hc⟩ := HL.out.cs.at (by rw [lcells_length]; omega)
        obtain ⟨x0, x1⟩ := lcells_at ls i hil
        have c0 := HF.out.cell (hc _ _ x0) (by simp)
        have c1 := HF.out.cell (hc _ _ x1) (by simp)
        rw [← Nat.add_assoc] at c1
        have hts : ls.take (i + 1) = ls.take i ++ [ls[i]] := by rw [List.take_succ_eq_append_getElem hil]
        have hmax : ls[i].bs.length ≤ 9223372036854775807 := by
          have h1 := HL.out.ok ls[i] (List.getElem_mem hil)
          have h2 := h1.max
          have h3 := h1.le
          unfold maxLen at h2
          omega
        generalize ls[i] = x at *
        obtain ⟨k, xa, xc, d⟩ := x
        simp only at c0 c1 hmax
        have HT := Lib.hid hts
        clear hc x0 x1 hts
        have good : (k = 1 ∨ d = []) → ∀ y ∈ ls.take (i + 1), y.kind = 1 ∨ y.bs = [] := fun h y hy => by
          rw [HT.out] at hy
          rcases List.mem_append.1 hy with hy | hy
          · exact HK.out y hy
          · obtain rfl := List.mem_singleton.1 hy
            exact h
        have HG := Lib.hid good
        clear good
        by_cases hk : k = 1
        · subst hk
          go_wp2
          go_roundg (N - (i + 1))
          case measure => omega
          case rel => exact ⟨i + 1, by omega, by go_num, HG.out (by simp), rfl⟩
        · have hk' : (k == 1) = false := by simpa using hk
          have hk2 : (k != 1) = true := by simpa using hk
          by_cases hd : d = []
          · subst hd
            go_wp2
            go_roundg (N - (i + 1))
            case measure => omega
            case rel => exact ⟨i + 1, by omega, by go_num, HG.out (by simp), rfl⟩
          · have hd' : 0 < d.length := List.length_pos_iff.2 hd
            clear hk hd
            go_wp2_with (go_at_call 9; refine (awake_any _).mono ?_; rintro e w9 ⟨rfl, f9⟩)
            go_ret
            exact ⟨rfl, below_of_fr (HF.out.trans f9)⟩
      · obtain rfl : i = N := by omega
        have hall := HK.out
        rw [List.take_of_length_le (by have := HN.out; omega)] at hall
        have HA := Lib.hid hall
        clear hall
        go_wp2
        go_meet
        exact ⟨HA.out, rfl⟩
  case rest =>
  obtain ⟨hfine, rfl⟩ := hcut
  have HFI := Lib.hid hfine
  have hE := encode_all ao cap ls w4 (HL.out.fr HF.out) hlim
  rw [← HN.out] at hE
  unfold Encoded at hE
  by_cases herr : encErr (ls.map Lv.ln) = 0
  · have hen : enc (ls.map Lv.ln) = (encAll (ls.map Lv.ln), 0) := by unfold enc; rw [if_pos herr]
    have hfl : ∀ x ∈ ls.map Lv.ln, Fine x := fun x hx => ⟨encErr_zero herr x hx, by obtain ⟨y, hy, rfl⟩ := List.mem_map.1 hx; exact hfine y hy⟩
    have htot := encAll_le (ls.map Lv.ln)
    rw [hen] at hE
    simp only at hE
    have hD := fun k hk => decode_two (ls.map Lv.ln) hfl k hk
    have hall0 : ∀ p q, ls.map Lv.ln = p ++ q → (encAll p).length + (encAll q).length = (encAll (ls.map Lv.ln)).length := fun p q h => by rw [h, encAll_append, List.length_append]
    generalize encAll (ls.map Lv.ln) = EA at *
    have HA0 := Lib.hid hall0
    clear hall0
    have HE := Lib.hid hE
    have HD := Lib.hid hD
    clear hE hD hen herr hfl hfine
    go_upto_region 15 with (go_at_call 7; refine HE.out.mono ?_; rintro e w5 ⟨a5, M, rfl, l5, c5, n5, f5⟩; have H5 := Lib.hid (And.intro l5 (And.intro c5 (And.intro n5 (HF.out.trans f5)))); rw [l5] at htot; clear l5 c5 n5 f5)
    have hM : M ≤ 2199023255552 := by omega
    go_cut [18] from 100 to 113 (fun s18 wz => ∃ k : Nat, k ≤ M ∧ s18 = .int .i64 k ∧ w5 = wz)
    case first =>
      go_wp2
      go_meet
      obtain ⟨k, hk, e⟩ := cut_lem cut M hM
      exact ⟨k, hk, int_eq e, rfl⟩
    case rest =>
    obtain ⟨k, hk, rfl, rfl⟩ := hcut
    have hEA := H5.out.1
    obtain ⟨p, q, hpq, hd1, hpk, hd2⟩ := HD.out k (by omega)
    have hall : (encAll p).length + (encAll q).length = M := by rw [HA0.out p q hpq, hEA]
    have hlen : p.length + q.length = N := by
      have h1 := congrArg List.length hpq
      rw [List.length_map, List.length_append] at h1
      rw [HN.out, h1]
    have hdec1 := decode_all a5 M (EA.take k) w5 (by rw [List.length_take]; omega) (by omega) H5.out.2.2.1 (cs_take H5.out.2.1 k) (by rw [List.length_take]; omega)
    rw [List.length_take, hEA, Nat.min_eq_left hk] at hdec1
    unfold Decoded at hdec1
    rw [hd1] at hdec1
    simp only at hdec1
    generalize (encAll p).length = P at *
    generalize (encAll q).length = Q at *
    have hdec2 : ∀ w, Fr [] w5 w → Calls Try.prog 8 #[.slice (cutAtN a5 M P 1) (M - P) (M - P)] w (Decoded w (EA.drop P)) := fun w f => by
      have hc := (H5.out.2.1.fr f (by simp)).cut M P M (by omega) (by rw [List.length_map]; omega) (by rw [List.length_map]; omega)
      rw [List.take_of_length_le (by rw [List.length_drop, List.length_map]; omega), ← List.map_drop, ← cutAtN_one] at hc
      have := decode_all (cutAtN a5 M P 1) (M - P) (EA.drop P) w (by rw [List.length_drop]; omega) (by omega) (fun h => by have := H5.out.2.2.1 (cutAtN_none h); omega) hc (by rw [List.length_drop]; omega)
      rw [List.length_drop, hEA] at this
      exact this
    unfold Decoded at hdec2
    rw [hd2] at hdec2
    simp only at hdec2
    have hMl : M ≤ 9223372036854775807 := by omega
    have HX := Lib.hid (And.intro hdec1 (And.intro hdec2 (And.intro hpq hlen)))
    have HPQ := Lib.hid hall
    have hPM : P ≤ M := by omega
    clear hdec1 hdec2 hpq hlen hd1 hd2 hEA HD HE htot
    go_upto_region 17 with (first | (refine wpList_slice_to sliceU8 k rfl _ _ rfl a5 M M _ rfl rfl rfl (by omega) ?_) | (go_at_call 8; refine HX.out.1.mono ?_; rintro e w6 ⟨a6, k6, rfl, L6, e6, f6⟩; have H6 := Lib.hid (And.intro L6 (And.intro e6 f6)); clear L6 e6 f6))
    clear hall
    have hgt : decide (k < P) = false := by simp; omega
    go_upto_region 20 with (first | (refine wpList_slice_from sliceU8 P rfl _ _ rfl a5 M M _ rfl rfl rfl (by omega) (by omega) ?_) | (go_at_call 8; refine (HX.out.2.1 _ H6.out.2.2).mono ?_; rintro e w7 ⟨a7, k7, rfl, L7, e7, f7⟩; have H7 := Lib.hid (And.intro L7 (And.intro e7 f7)); clear L7 e7 f7))
    have hsum : (P : Int) + (Q : Int) = (M : Int) := by have := HPQ.out; omega
    have hl6 : k6.length = p.length := by rw [← H6.out.2.1, List.length_map]
    have hl7 : k7.length = q.length := by rw [← H7.out.2.1, List.length_map]
    have hl67 : k6.length + k7.length = N := by rw [hl6, hl7]; exact HX.out.2.2.2
    have HL67 := Lib.hid hl67
    have h6n : k6.length ≤ 2199023255552 := by omega
    have h7n : k7.length ≤ 2199023255552 := by omega
    clear hl6 hl7 hl67 hgt hpk hPM hk
    have hTo3 : ∀ w, Fr [] W w → Calls Try.prog 11 #[.slice ao N cap] w fun e w' => ∃ a c, e = .returned (.slice a N c) ∧ DRow w w' a c (ls.map Lv.ln) := fun w f => by
      have := to_all ao cap ls w (HL.out.fr f) (by have := HN.out; omega)
      rw [← HN.out] at this
      exact this
    have HT3 := Lib.hid hTo3
    clear hTo3
    have tok1 : True := trivial
    have tok2 : True := trivial
    go_wp2_with (first | (go_at_call 11; have _t := tok1; refine (to_all a6 k6.length k6 w7 (H6.out.1.fr H7.out.2.2) h6n).mono ?_; rintro e w8 ⟨a8, c8, rfl, R8⟩; have H8 := Lib.hid R8; clear R8; clear _t tok1) | (go_at_call 11; have _t := tok2; refine (to_all a7 k7.length k7 w8 (H7.out.1.fr H8.out.fr) h7n).mono ?_; rintro e w9 ⟨a9, c9, rfl, R9⟩; have H9 := Lib.hid R9; clear R9; clear _t tok2) | (at_builtin; go_loud (refine wpList_append_on sliceDLine rfl _ _ rfl (.slice a8 k6.length c8) k6.length (dcells (k6.map Lv.ln)) (blk a8) rfl (by rw [own_blk]) (by have := ownsRow_fr H8.out.own H9.out.fr (by simp); rw [List.length_map] at this; exact this) a9 k7.length c9 (dcells (k7.map Lv.ln)) rfl (by have := H9.out.shape.1; rw [List.length_map] at this; exact this) H9.out.shape.2.2 (cs_of_row H9.out.own) (by rw [dcells_length, List.length_map]) (dcells_one _) (by omega) (by unfold maxLen; omega) ?_); intro a10 c10 w10 A10; have HA := Lib.hid A10; clear A10; have hfA := fA7 H5.out.2.2.2 H6.out.2.2 H7.out.2.2 H8.out H9.out.fr HA.out.fr; have FA := Lib.hid hfA; clear hfA) | (go_at_call 11; have _t := FA; refine (HT3.out _ FA.out).mono ?_; rintro e w11 ⟨a11, c11, rfl, R11⟩; have H11 := Lib.hid (And.intro (sames HL67.out HN.out HX.out.2.2.1 H6.out.2.1 H7.out.2.1 (cs_of_row HA.out.own) R11 (by omega)) (FA.out.trans R11.fr)); clear R11) | (go_at_call 13; refine (H11.out.1 _ _).mono ?_; rintro e w12 ⟨rfl, f12⟩; have H12 := Lib.hid (H11.out.2.trans f12); clear f12) | (go_at_call 9; refine (awake_any _).mono ?_; rintro e w13 ⟨rfl, f13⟩))
    go_ret
    exact ⟨by first | rfl | simp, below_of_fr (H12.out.trans f13)⟩
  · have hen : enc (ls.map Lv.ln) = ([], encErr (ls.map Lv.ln)) := by unfold enc; rw [if_neg herr]
    rw [hen] at hE
    simp only at hE
    generalize encErr (ls.map Lv.ln) = E2 at *
    have hb : ((E2 : Int) == 0) = false := by simp; omega
    have HE := Lib.hid hE
    clear hE hen herr hfine
    go_wp2_with (first | (go_at_call 7; refine HE.out.mono ?_; rintro e w5 ⟨a5, n5, rfl, rfl, _, _, f5⟩; have H5 := Lib.hid (HF.out.trans f5); clear f5) | (go_at_call 9; refine (awake_any _).mono ?_; rintro e w9 ⟨rfl, f9⟩))
    go_ret
    exact ⟨by first | rfl | simp, below_of_fr (H5.out.trans f9)⟩
/-- From the arguments as they are read to the walk. -/
theorem walk {H : Type} {enc : TypeId × Value → H} (W : World) {base : Nat} (v0 : Value) (d0 : DataW H) (p0 : List MemPlace) (v1 : Value) (d1 : DataW H) (p1 : List MemPlace) (v2 : Value) (d2 : DataW H) (p2 : List MemPlace) (v3 : Value) (d3 : DataW H) (p3 : List MemPlace)
    (o0 : Value.okWide Try.prog W .any base 29 v0) (h0 : DataW.Trod enc Try.prog W 0 (fun _ => true) true 29 v0 d0 p0)
    (o1 : Value.okWide Try.prog W .any base 3 v1) (h1 : DataW.Trod enc Try.prog W 0 (fun _ => true) true 3 v1 d1 p1)
    (o2 : Value.okWide Try.prog W .any base 23 v2) (h2 : DataW.Trod enc Try.prog W 0 (fun _ => true) true 23 v2 d2 p2)
    (o3 : Value.okWide Try.prog W .any base 3 v3) (h3 : DataW.Trod enc Try.prog W 0 (fun _ => true) true 3 v3 d3 p3)
    (hz : (DataW.weightsEach Try.prog [29, 3, 23, 3] [d0, d1, d2, d3]).all (· ≤ reachBytes) = true) (hb : Rows.uptoBulkAll [d0, d1, d2, d3] ≤ 1048576) :
    Calls Try.prog 6 #[v0, v1, v2, v3] W fun e W' => e = .returned (.bool true) ∧ Below W.heap.size W W' := by
  obtain ⟨x1, rfl, rfl, rfl, wx1⟩ := open_int Try.underlying3 o1 h1
  obtain ⟨x3, rfl, rfl, rfl, wx3⟩ := open_int Try.underlying3 o3 h3
  obtain ⟨ao, len, cap, rfl⟩ := okWide_slice Try.underlying29 o0
  obtain ⟨bo, lenb, capb, rfl⟩ := okWide_slice Try.underlying23 o2
  obtain ⟨ls, rfl, L, hlim, hbk⟩ := lines_arg h0 (light_each hz (j := 0) rfl rfl)
  obtain ⟨bs, B, hbk1⟩ := bytes_arg Try.underlying23 Try.underlying5 cellsU8 bytesU8 h2 (light_each hz (j := 2) rfl rfl)
  obtain rfl := B.length
  simp only [Rows.uptoBulkAll] at hb
  have hm : ls.length * (Rows.uptoBulk d0 + 4) ≤ 1048576 * (1048576 + 4) := Nat.mul_le_mul (by omega) (by omega)
  exact walk_in W x1 x3 ao bo cap capb ls bs L B (by omega) (by omega) (wf_i64 wx1)

/-! ### The row -/
theorem own : ownKnob Try.prog.godebug = none := by kernel_rfl
theorem laidOut : laidOutB Try.prog = true := by kernel_rfl
set_option maxRecDepth 100000 in
theorem lifted (os : Os) (started : os.Started) (H : Type) (enc : TypeId × Value → H) (G : Stop.Interp) :
    ReturnsInHanded {} Try.checked os 6 .any ((Rows.OpenSpec.upto Rows.pktBackSpec).pre6 enc Try.prog Try.f6 Rows.pktBackUptoRow.domain false) (((Rows.OpenSpec.upto Rows.pktBackSpec).at G).post enc Try.prog Try.f6 false true false false) := by
  refine returnsInHanded_of_cond_sized (C := Try.checked) (s := (Rows.OpenSpec.upto Rows.pktBackSpec)) (k := Rows.uptoSmall) rfl own started (by kernel_rfl) Try.func6
    (OpenSpec.witness (enc := enc) (C := Try.checked) (s := (Rows.OpenSpec.upto Rows.pktBackSpec)) (k := Rows.uptoSmall) rfl false ⟨#[], #[.slice none 0 0, .int .i64 0, .slice none 0 0, .int .i64 0], []⟩ 8 (by kernel_rfl) (by kernel_rfl) (by kernel_rfl) (x := ([.nil, .lit (.int .i64 0), .nil, .lit (.int .i64 0)], [], [])) (by kernel_rfl) rfl (by kernel_rfl)) ?_
  intro W base args ds gs before hval hW _ hk hsz _
  have hW' := hW
  obtain ⟨p, q, hA0, hV, rfl, hfz, hnd⟩ := hW'
  have hA : DataW.TrodAll enc Try.prog W 0 (fun _ => true) true Try.f6.params.toList args.toList ds p := hA0
  rw [Try.params6] at hA hval
  obtain ⟨v0, vs0, d0, ds0, p0, q0, hargs, rfl, rfl, h0, r0⟩ := trodAll_cons hA
  obtain ⟨v1, vs1, d1, ds1, p1, q1, rfl, rfl, rfl, h1, r1⟩ := trodAll_cons r0
  obtain ⟨v2, vs2, d2, ds2, p2, q2, rfl, rfl, rfl, h2, r2⟩ := trodAll_cons r1
  obtain ⟨v3, vs3, d3, ds3, p3, q3, rfl, rfl, rfl, h3, r3⟩ := trodAll_cons r2
  obtain ⟨rfl, rfl, rfl⟩ := trodAll_nil r3
  obtain rfl : args = #[v0, v1, v2, v3] := by cases args; simp_all
  obtain ⟨rfl, rfl⟩ := trodVars_none hV
  have hz : (DataW.weightsEach Try.prog [29, 3, 23, 3] [d0, d1, d2, d3]).all (· ≤ reachBytes) = true := hsz
  have hb : Rows.uptoBulkAll [d0, d1, d2, d3] ≤ 1048576 := of_decide_eq_true (show decide _ = true from hk)
  refine law_of_calls (s := (((Rows.OpenSpec.upto Rows.pktBackSpec)).at G)) laidOut (by kernel_rfl) rfl rfl Try.underlying4 hW (fun gs _ h2 => by subst h2; rfl) ?_
  exact walk W v0 d0 p0 v1 d1 p1 v2 d2 p2 v3 d3 p3 (hval 0 29 v0 rfl rfl) (h0) (hval 1 3 v1 rfl rfl) (h1) (hval 2 23 v2 rfl rfl) (h2) (hval 3 3 v3 rfl rfl) (h3) hz hb

theorem over : Rows.pktBackUptoRow.holds Try.pinned (Rows.OpenSpec.upto Rows.pktBackSpec) :=
  OpenClaim.holds_of_cond 6 Try.f6 rfl rfl rfl rfl rfl rfl rfl ⟨rfl, rfl, rfl, rfl, rfl⟩ rfl rfl rfl rfl rfl (by kernel_rfl) Try.func6 (by kernel_rfl)
    (of_decide_eq_true (by kernel_rfl)) (by unfold Func.isWrapper; first | (rw [if_pos (by decide +kernel)]; kernel_rfl) | (rw [if_neg (by decide +kernel)]; exact ⟨rfl, rfl⟩))
    (fun os started H enc _ G => lifted os started H enc G)

theorem proved : Rows.PktBackUptoSaid := over
end Go.Proofs.Yteldakjhnifbpaa.pktBack
