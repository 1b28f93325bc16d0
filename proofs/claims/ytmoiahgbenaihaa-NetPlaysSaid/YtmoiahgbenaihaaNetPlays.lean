/-
  Proved: stemmalaw2.NetPlays returns true and leaves its arguments as they were, for every input. Conditions: none.
-/
import Derived.Test.YtmoiahgbenaihaaNetPlaysLaw
import Derived.Test.YtmoiahgbenaihaaArgs
import Derived.OwnWalk
namespace Go.Proofs.Ytmoiahgbenaihaa.netPlays
open Go Go.RowKit Go.ChangeShapes Go.WideShapes Go.Proofs.Ytmoiahgbenaihaa.lib Go.Proofs.Ytmoiahgbenaihaa.net

/-- What a round leaves. -/
def Rd (w wz : World) (p q mtu most lost : Nat) : Prop := ∃ F K lost' l, PS w wz p q F K mtu most lost' l ∧ lost' ≤ lost + 1
set_option maxRecDepth 100000 in
set_option maxHeartbeats 4000000 in
theorem walk_in (w : World) (m0 m1 : Int) (as_ : Option Addr) (lens caps : Nat) (O : PlayArg w as_ lens caps) :
    Calls Try.prog 4 #[.int .i64 m0, .int .i64 m1, .slice as_ lens caps] w fun e w' => e = .returned (.bool true) ∧ Below w.heap.size w w' := by
  obtain ⟨hlc, hcm, O⟩ := O
  have hls : lens ≤ 9223372036854775807 := by unfold maxLen at hcm; omega
  by_cases hv : m0 < 64 ∨ 1500 < m0 ∨ m1 < 1 ∨ 1000 < m1
  · go_enter Try.func4, Try.ntmps4
    go_upto_region 3 with (first | (go_at_call 6; refine (new_bad m0 m1 w hv).mono ?_; rintro e w9 ⟨rfl, hw⟩; obtain rfl : w = w9 := hw.symm) | (go_at_call 12; refine (dnew_bad m0 m1 w hv).mono ?_; rintro e w9 ⟨rfl, hw⟩; obtain rfl : w = w9 := hw.symm))
    go_upto_region 5 with (go_at_call 11; refine (awake_any _).mono ?_; rintro e w1 ⟨rfl, f7⟩)
    go_wp2
    go_loopg [11] 1 (fun k s11 wr => s11 = .int .i64 0 ∧ k = 1 ∧ Fr [] w wr)
    case atStart => exact ⟨rfl, rfl, f7⟩
    case round =>
      obtain ⟨rfl, rfl, fr⟩ := hrel
      by_cases h1 : 0 < lens
      · go_wp2
        go_ret
        exact ⟨rfl, below_of_fr fr⟩
      · go_wp2
        go_ret
        exact ⟨rfl, below_of_fr fr⟩
  · obtain ⟨mtu, rfl⟩ : ∃ k : Nat, m0 = k := ⟨m0.toNat, by omega⟩
    obtain ⟨most, rfl⟩ : ∃ k : Nat, m1 = k := ⟨m1.toNat, by omega⟩
    have v1 : 64 ≤ mtu := by omega
    have v2 : mtu ≤ 1500 := by omega
    have v3 : 1 ≤ most := by omega
    have v4 : most ≤ 1000 := by omega
    clear hv
    go_enter Try.func4, Try.ntmps4
    go_upto_region 1 with fail
    go_cut [7, 8] from 29 to 34 (fun s7 s8 wz => ∃ p F, s7 = .pointer (some ⟨p, 0, none⟩) ∧ s8 = .int .i64 0 ∧ New w wz p F mtu most 0 [])
    case first =>
      go_wp2_with (go_at_call 6; refine (new_good mtu most w v1 v2 v3 v4).mono ?_; rintro e w1 ⟨p, rfl, h1, fr1, hp⟩)
      go_meet
      exact ⟨p, [p], rfl, rfl, h1, fr1, fun x hx => by simp at hx; omega⟩
    case rest =>
    obtain ⟨p, F, rfl, rfl, hnew⟩ := hcut
    go_upto_region 2 with fail
    go_cut [9, 10] from 35 to 40 (fun s9 s10 wz => ∃ q K, s9 = .pointer (some ⟨q, 0, none⟩) ∧ s10 = .int .i64 0 ∧ PS w wz p q F K mtu most 0 [])
    case first =>
      go_wp2_with (go_at_call 12; refine (dnew_good mtu most _ v1 v2 v3 v4).mono ?_; rintro e w1 ⟨q, rfl, h1, fr1, hq⟩)
      go_meet
      have hsz := hnew.2.1.size
      exact ⟨q, [q], rfl, rfl, hnew.fr fr1 (by simp) (by simp), h1, fun x hx => by simp at hx; omega, fun x hx h => by simp at h; have := nt_lt hnew.1 x hx; omega⟩
    case rest =>
    clear hnew
    obtain ⟨q, K, rfl, rfl, h⟩ := hcut
    go_upto_region 5 with (go_at_call 11; refine (awake_any _).mono ?_; rintro e w1 ⟨rfl, f7⟩)
    have h := h.fr0 f7
    have H := Lib.hid h
    clear h f7
    go_wp2
    go_loopg [11] (min lens 80) (fun k s11 wr => ∃ i, i + k = min lens 80 ∧ s11 = .int .i64 i ∧ ∃ F K lost l, PS w wr p q F K mtu most lost l ∧ lost ≤ i)
    case atStart => exact ⟨0, by omega, rfl, F, K, 0, [], H.out, Nat.le_refl _⟩
    case round =>
      clear H
      obtain ⟨i, hik, rfl, F, K, lost, l, h, hlo⟩ := hrel
      by_cases hin : i < min lens 80
      · have hi1 : i < lens := by omega
        have hi2 : i < 80 := by omega
        clear hin
        obtain ⟨g, o, rfl, hc⟩ := O.resolve_left (by omega)
        obtain ⟨k, n, s, t, ad, dl, dc, bs, x0, x1, x2, x3, x4, B⟩ := hc i hi1
        have hfr := h.net.2.1
        have c0 := hfr.cell x0 (by simp)
        have c1 := hfr.cell x1 (by simp)
        have c2 := hfr.cell x2 (by simp)
        have c3 := hfr.cell x3 (by simp)
        have c4 := hfr.cell x4 (by simp)
        have hbl := B.length
        have hle := B.le
        have hnil := B.nil
        have hlim := B.lim
        have HB := Lib.hid (And.intro (B.cs.fr hfr (by simp)) (And.intro B.cs B.lt))
        have Hr := Lib.hid h
        clear h x0 x1 x2 x3 x4 B hc hfr
        go_upto_region 8 with fail
        go_cut [12] from 69 to 72 (fun s12 wz => ∃ b, s12 = .pointer (some ⟨b, 0, none⟩) ∧ wr.heap.size ≤ b ∧ wz.heap[b]? = some (.cells #[.int .i64 k, .int .i64 n, .int .i64 s, .int .i64 t, .slice ad dl dc] 39 (0, 0)) ∧ Fr [] wr wz)
        case first =>
          go_wp2
          go_meet
          exact ⟨wr.heap.size, rfl, Nat.le_refl _, alloc_at wr _, (Fr.refl _ wr).alloc _⟩
        case rest =>
        clear c0 c1 c2 c3 c4
        obtain ⟨b, rfl, hbw, hbk, f8⟩ := hcut
        have d0 := cell_of hbk 0
        have d1 := cell_of hbk 1
        have d2 := cell_of hbk 2
        have d3 := cell_of hbk 3
        have d4 := cell_of hbk 4
        simp only [List.getElem?_toArray, List.getElem?_cons_zero, List.getElem?_cons_succ] at d0 d1 d2 d3 d4
        have h := Hr.out.fr0 f8
        have hcs := HB.out.1.fr f8 (by simp)
        have hbF : b ∉ F := fun hx => by have := nt_lt Hr.out.net.1 b hx; omega
        have hbK : b ∉ K := fun hx => by have := dt_lt Hr.out.doc b hx; omega
        have H := Lib.hid (And.intro h (And.intro hcs (And.intro hbF (And.intro hbK hbk))))
        clear h hcs hbF hbK hbk Hr hbw f8
        go_upto_block 2 with fail
        go_cut [13] from 73 to 74 (fun s13 wz => s13 = .bool true ∧ Rd w wz p q mtu most lost)
        case first =>
          by_cases hk0 : k = 0
          · subst hk0
            as_aux_lemma =>
              clear d0
              obtain rfl := hbl
              have hh := H.out
              have hcs := hh.2.1
              have d4' : (wc.alloc (.cells #[] 5)).cell? ⟨b, 4, none⟩ = some (.slice ad bs.length dc) := ((Fr.refl [] wc).alloc _).cell d4 (by simp)
              go_upto_region 19 with fail
              go_cut [14] from 127 to 130 (fun s14 wz => ∃ ao cap, s14 = .slice ao bs.length cap ∧ Cs wz ao (bs.map bv) ∧ bs.length ≤ cap ∧ (ao = none → cap = 0) ∧ Muts wz wc.heap.size ao bs.length ∧ (∀ x ∈ blk ao, x < wz.heap.size) ∧ Fr [] wc wz)
              case first =>
                clear hh
                go_wp2_with (refine wpList_append sliceU8 rfl _ _ rfl (.slice (some ⟨wc.heap.size, 0, none⟩) 0 0) 0 [] [wc.heap.size] rfl rfl ⟨rfl, .inr ⟨wc.heap.size, 0, #[], rfl, Nat.zero_le _, alloc_at _ _, Nat.le_refl _, Nat.zero_le _, rfl, rfl⟩⟩ ad bs.length dc (bs.map bv) rfl (by omega) hnil (hcs.fr ((Fr.refl [] wc).alloc _) (by simp)) (by simp) (bv_one bs) (by omega) (by unfold maxLen; omega) ?_; intro ao1 cap1 w1 A1; simp only [Nat.zero_add, List.nil_append] at A1)
                go_meet
                have hb1 : ∀ x ∈ blk ao1, wc.heap.size ≤ x := fun x hx => by have := A1.at_ x hx; simp at this; omega
                exact ⟨ao1, cap1, rfl, cs_of_owns A1.own, A1.le, A1.nil, muts_of_fresh (fresh_of_cells A1.own hb1), A1.lt, ((Fr.refl [] wc).alloc _).step A1.fr (by simp)⟩
              case rest =>
              obtain ⟨ao1, cap1, rfl, g1, g2, g3, g4, g5, f19⟩ := hcut
              have h := hh.1.fr0 f19
              have hcs := hcs.fr f19 (by simp)
              have hbk := f19.blk hh.2.2.2.2 (by simp)
              have hlo2 : lost ≤ 1000000 := by omega
              have hbF := hh.2.2.1
              have hbK := hh.2.2.2.1
              obtain ⟨D, hD⟩ : ∃ D, D = wc.drew := ⟨_, rfl⟩
              have fD : Fr [] wc D := by rw [hD]; exact Fr.drew1 [] wc
              have hsend := send_any p F mtu most lost l s t ao1 cap1 bs D (h.fr0 fD).net.1 hlo2 (g1.fr fD (by simp)) g2 g3
              have hbS : b ∉ F ++ K := by simp [hbF, hbK]
              have e2 : D.cell? ⟨b, 2, none⟩ = some (.int .i64 s) := cell_of (fD.blk hbk (by simp)) 2
              have e3 : D.cell? ⟨b, 3, none⟩ = some (.int .i64 t) := cell_of (fD.blk hbk (by simp)) 3
              have e4 : D.cell? ⟨b, 4, none⟩ = some (.slice ad bs.length dc) := cell_of (fD.blk hbk (by simp)) 4
              obtain ⟨S, hS⟩ : ∃ S, S = F ++ K := ⟨_, rfl⟩
              rw [← hS] at hbS
              have q2 : ∀ x, (sup S D x).cell? ⟨b, 2, none⟩ = some (.int .i64 s) := fun x => by rw [cell?_sup (by rw [e2]; rfl) hbS]; exact e2
              have q3 : ∀ x, (sup S D x).cell? ⟨b, 3, none⟩ = some (.int .i64 t) := fun x => by rw [cell?_sup (by rw [e3]; rfl) hbS]; exact e3
              have q4 : ∀ x, (sup S D x).cell? ⟨b, 4, none⟩ = some (.slice ad bs.length dc) := fun x => by rw [cell?_sup (by rw [e4]; rfl) hbS]; exact e4
              have hadS : ∀ x ∈ blk ad, bs ≠ [] → x ∉ S := fun x hx hne hs => by
                have h1 := HB.out.2.2 x hx hne
                rw [hS] at hs
                rcases List.mem_append.1 hs with h2 | h2
                · have := hh.1.net.2.2 x h2; omega
                · have := hh.1.kNew x h2; omega
              have cv : ∀ x cap, (convert 29 9 (.slice ad bs.length cap)).run Try.prog (sup S D x) = .ok (.string (str bs)) (sup S D x) := fun x => by
                by_cases hne : bs = []
                · exact run_conv (sup S D x) Try.underlying29 Try.underlying5 Try.underlying9 rfl (.inl (by rw [hne]; rfl))
                · exact run_conv_sup S D Try.underlying29 Try.underlying5 Try.underlying9 rfl (hcs.fr fD (by simp)) (fun y hy => hadS y hy hne) x
              have HS := Lib.hid hS
              have FD := Lib.hid fD
              have HD := Lib.hid hD
              have HH := Lib.hid h
              have HG := Lib.hid (And.intro g4 g5)
              have hsz19 := f19.size
              have HH0 := Lib.hid (And.intro hh.1 f19)
              have Hlt := Lib.hid (And.intro (fun x (hx : x ∈ F) => nt_lt hh.1.net.1 x hx) (fun x (hx : x ∈ K) => dt_lt hh.1.doc x hx))
              clear d1 d2 d3 d4 d4' hh g1 g4 g5 hbk hbF hbK e2 e3 e4 hadS hS fD hD h hcs f19
              go_upto_region 20 with fail
              go_cut [13] from 131 to 147 (fun s13 wz => s13 = .bool true ∧ ∃ F' K' lost' l', PS w wz p q F' K' mtu most lost' l' ∧ lost' ≤ lost + 1 ∧ MutB wz w.heap.size (F' ++ K') ao1 bs.length)
              case first =>
                refine region_mix 16 [(false, 0), (false, 1), (false, 2), (false, 3), (false, 4), (false, 5), (false, 7), (false, 8), (false, 9), (false, 10), (false, 11), (false, 12), (false, 13), (false, 14), (true, 6), (true, 15)] S (by kernel_rfl) (by kernel_rfl) (fun _ _ d _ _ h => by cases d <;> exact h) ?_
                rw [← HD.out]
                simp only [List.map_cons, List.map_nil, List.getD_cons_zero, List.getD_cons_succ, List.drop_succ_cons, List.drop_zero, List.drop_nil]
                refine mix_seg 14 rfl ?_
                simp only [List.take_succ_cons, List.take_zero, List.drop_succ_cons, List.drop_zero, List.map_cons, List.map_nil]
                repeat (go_big_quiet_step (fail))
                refine wpQuiet_nil ?_
                clear q2 q3 q4 cv
                refine mix_eff rfl ?_
                intro X hX
                go_wp2_with (go_at_call 8; refine hsend.mono ?_; rintro e w1 ⟨k1, lost1, l1, F1, rfl, hR, n1, f1, hF1⟩)
                refine hX.out _ _ (f1.mono (by rw [HS.out]; intro x hx; exact .inl (List.mem_append_left _ hx))) ?_
                clear hX X hsend
                refine mix_eff rfl ?_
                intro X hX
                go_wp2_with (go_at_call 13; refine (dsend_any q K mtu most lost l s t bs k1 lost1 l1 hR _ ((HH.out.fr0 FD.out).doc1 f1) v2 hlo2 (by omega)).mono ?_; rintro e w2 ⟨K1, rfl, n2, f2, hK1⟩)
                refine hX.out _ _ (f2.mono (by rw [HS.out]; intro x hx; exact .inl (List.mem_append_right _ hx))) ?_
                clear hX X
                refine mix_nil ?_
                go_wp2
                go_meet
                have hps := (HH.out.fr0 FD.out).both n1 f1 hF1 n2 f2 hK1
                have hs1 := FD.out.size
                have hs2 := f1.size
                refine ⟨by first | rfl | simp, F1, K1, lost1, l1, hps, ?_, ?_⟩
                · rcases hR with ⟨_, _, rfl, _⟩ | ⟨_, _, ⟨_, _, rfl, _⟩ | ⟨_, ⟨_, _, rfl, _⟩ | ⟨_, _, rfl, _⟩⟩⟩ <;> omega
                · have frS : Fr (F ++ K) wc w2 := ((FD.out.mono (by simp)).trans (f1.mono (by intro x hx; exact .inl (List.mem_append_left _ hx)))).trans (f2.mono (by intro x hx; exact .inl (List.mem_append_right _ hx)))
                  refine HG.out.1.sharp HG.out.2 (fun x hx => ?_) ?_ frS (fun x hx => ?_)
                  · rcases List.mem_append.1 hx with hx | hx
                    · rcases hF1 x hx with h3 | h3
                      · exact .inl (Hlt.out.1 x h3)
                      · right; omega
                    · rcases hK1 x hx with h3 | h3
                      · exact .inl (Hlt.out.2 x h3)
                      · right; omega
                  · exact HH0.out.1.net.2.1.size
                  · rcases List.mem_append.1 hx with hx | hx
                    · exact Hlt.out.1 x hx
                    · exact Hlt.out.2 x hx
              case rest =>
              clear q2 q3 q4 cv hsend hsz19
              obtain ⟨rfl, F1, K1, lost1, l1, hps, hlo1, hm⟩ := hcut
              generalize hL : bs.length = L at *
              clear hL
              have hL47 : L ≤ 140737488351232 := by omega
              have HP := Lib.hid (And.intro hps hm)
              clear hps hm hbS
              go_wp2
              go_loopg [15] L (fun k s15 wr => ∃ j, j + k = L ∧ s15 = .int .i64 j ∧ PS w wr p q F1 K1 mtu most lost1 l1 ∧ MutB wr w.heap.size (F1 ++ K1) ao1 L)
              case atStart => exact ⟨0, by omega, rfl, HP.out⟩
              case round =>
                clear HP
                obtain ⟨j, hj, rfl, hps, hm⟩ := hrel
                by_cases hjL : j < L
                · obtain ⟨g, cur, rfl, hg1, hg2, hg3, hg4⟩ := hm.resolve_left (by omega)
                  obtain ⟨b1, hbj⟩ := hg4 j hjL
                  have z0 := cell_of hg3 j
                  have zf := frozen_of hg3 j
                  rw [hbj] at z0
                  have HQ := Lib.hid (fun v => mut_step hps hg1 hg2 hg3 hg4 j v)
                  clear hps hg1 hg2 hg3 hg4 hbj hm
                  go_wp2
                  go_roundg (L - (j + 1))
                  case measure => omega
                  case rel => exact ⟨j + 1, by omega, by go_num, HQ.out _⟩
                · have HQ := Lib.hid hps
                  clear hps hm
                  go_wp2
                  go_meet
                  exact ⟨rfl, F1, K1, lost1, l1, HQ.out, hlo1⟩
          · have hk0' : (k == 0) = false := by simpa using hk0
            by_cases hk1 : k = 1
            · subst hk1
              as_aux_lemma =>
                clear d0 d2 d3 d4
                have hk0' : ((1 : Int) == 0) = false := rfl
                have hh := H.out
                go_upto_region 26 with fail
                go_cut [16, 17, 18, 19] from 162 to 170 (fun s16 s17 s18 s19 wz => ∃ g f ao l' F', s16 = .int .i64 g.src ∧ s17 = .int .i64 g.dst ∧ s18 = .slice ao g.bs.length g.bs.length ∧ s19 = .bool f ∧ TakeR l n g f l' ∧ Cs wz ao (g.bs.map bv) ∧ (∀ x ∈ blk ao, wc.heap.size ≤ x) ∧ g.bs.length ≤ 1500 ∧ Nt wz p F' mtu most lost l' ∧ Fr F wc wz ∧ ∀ x ∈ F', x ∈ F)
                case first =>
                  have htk := take_any p F mtu most lost l n wc hh.1.net.1
                  clear hh
                  go_wp2_with (go_at_call 9; refine htk.mono ?_; rintro e w1 ⟨g, f, ao, l1, F1, rfl, hR, g1, g2, g3, n1, f1, hF1⟩)
                  go_meet
                  exact ⟨g, f, ao, l1, F1, rfl, rfl, rfl, rfl, hR, g1, g2, g3, n1, f1, hF1⟩
                case rest =>
                obtain ⟨g, f, ao, l1, F1, rfl, rfl, rfl, rfl, hR, g1, g2, g3, n1, f1, hF1⟩ := hcut
                have hdt := dtake_any q K mtu most lost l n g f l1 hR _ (hh.1.doc1 f1)
                have hbk := f1.blk hh.2.2.2.2 hh.2.2.1
                have d1 := cell_of hbk 1
                simp only [List.getElem?_toArray, List.getElem?_cons_zero, List.getElem?_cons_succ] at d1
                have HR := Lib.hid (And.intro hh.1 (And.intro n1 (And.intro f1 hF1)))
                have hao : ∀ x ∈ blk ao, x ∉ K := fun x hx hk => by have := g2 x hx; have := dt_lt hh.1.doc x hk; omega
                have HG := Lib.hid (And.intro g1 hao)
                clear hh g1 g2 n1 f1 hF1 hR hbk hao
                unfold agg3 at hdt
                generalize hsr : g.src = gs at *
                generalize hds : g.dst = gd at *
                generalize hgb : g.bs = gb at *
                clear hsr hds hgb
                go_upto_region 27 with fail
                go_cut [20, 21] from 171 to 177 (fun s20 s21 wz => ∃ c, s20 = .pointer (some ⟨c, 0, none⟩) ∧ s21 = .bool f ∧ wz.heap[c]? = some (.cells #[.int .i64 gs, .int .i64 gd, .string (str gb)] 42 (0, 0)) ∧ Cs wz ao (gb.map bv) ∧ ∃ F' K', PS w wz p q F' K' mtu most lost l1)
                case first =>
                  go_wp2_with (go_at_call 14; refine hdt.mono ?_; rintro e w2 ⟨K1, rfl, n2, f2, hK1⟩)
                  go_meet
                  have hr := HR.out
                  exact ⟨w2.heap.size, rfl, rfl, alloc_at w2 _, (HG.out.1.fr f2 (fun x hx => HG.out.2 x hx)).fr ((Fr.refl [] w2).alloc _) (by simp), F1, K1, (hr.1.both hr.2.1 hr.2.2.1 (fun x hx => .inl (hr.2.2.2 x hx)) n2 f2 hK1).fr0 ((Fr.refl [] w2).alloc _)⟩
                case rest =>
                clear hdt HG HR d1
                obtain ⟨c, rfl, rfl, hck, g1, F2, K2, hps⟩ := hcut
                have y0 := cell_of hck 0
                have y1 := cell_of hck 1
                have y2 := cell_of hck 2
                simp only [List.getElem?_toArray, List.getElem?_cons_zero, List.getElem?_cons_succ] at y0 y1 y2
                generalize hL : gb.length = L at *
                have cv1 := run_conv wc Try.underlying29 Try.underlying5 Try.underlying9 hL g1
                generalize str gb = zs at *
                have HP := Lib.hid hps
                clear hck g1 hps hL H
                go_wp2
                all_goals go_meet
                all_goals exact ⟨by simp, F2, K2, lost, l1, HP.out, by omega⟩
            · have hk1' : (k == 1) = false := by simpa using hk1
              by_cases hk2 : k = 2
              · subst hk2
                as_aux_lemma =>
                  clear d0 d1 d2 d3 d4
                  have hk0' : ((2 : Int) == 0) = false := rfl
                  have hk1' : ((2 : Int) == 1) = false := rfl
                  have hh := H.out
                  obtain ⟨D, hD⟩ : ∃ D, D = wc.drew := ⟨_, rfl⟩
                  have fD : Fr [] wc D := by rw [hD]; exact Fr.drew1 [] wc
                  have htw := twice_any p F mtu most lost l n D (hh.1.fr0 fD).net.1
                  have hbS : b ∉ F ++ K := by simp [hh.2.2.1, hh.2.2.2.1]
                  have e1 : D.cell? ⟨b, 1, none⟩ = some (.int .i64 n) := cell_of (fD.blk hh.2.2.2.2 (by simp)) 1
                  obtain ⟨S, hS⟩ : ∃ S, S = F ++ K := ⟨_, rfl⟩
                  rw [← hS] at hbS
                  have q1 : ∀ x, (sup S D x).cell? ⟨b, 1, none⟩ = some (.int .i64 n) := fun x => by rw [cell?_sup (by rw [e1]; rfl) hbS]; exact e1
                  have HS := Lib.hid hS
                  have FD := Lib.hid fD
                  have HD := Lib.hid hD
                  have HH := Lib.hid hh.1
                  clear hh e1 hS fD hD hbS H
                  go_upto_region 30 with fail
                  refine region_mix 8 [(false, 0), (false, 1), (false, 2), (false, 4), (false, 5), (false, 6), (true, 3), (true, 7)] S (by kernel_rfl) (by kernel_rfl) (fun _ _ d _ _ h => by cases d <;> exact h) ?_
                  rw [← HD.out]
                  simp only [List.map_cons, List.map_nil, List.getD_cons_zero, List.getD_cons_succ, List.drop_succ_cons, List.drop_zero, List.drop_nil]
                  refine mix_seg 6 rfl ?_
                  simp only [List.take_succ_cons, List.take_zero, List.drop_succ_cons, List.drop_zero, List.map_cons, List.map_nil]
                  repeat (go_big_quiet_step (fail))
                  refine wpQuiet_nil ?_
                  clear q1
                  refine mix_eff rfl ?_
                  intro X hX
                  go_wp2_with (go_at_call 15; refine htw.mono ?_; rintro e w1 ⟨f, l1, F1, rfl, hR, n1, f1, hF1⟩)
                  refine hX.out _ _ (f1.mono (by rw [HS.out]; intro x hx; exact .inl (List.mem_append_left _ hx))) ?_
                  clear hX X htw
                  refine mix_eff rfl ?_
                  intro X hX
                  go_wp2_with (go_at_call 16; refine (dtwice_any q K mtu most lost l n f l1 hR _ ((HH.out.fr0 FD.out).doc1 f1)).mono ?_; rintro e w2 ⟨K1, rfl, n2, f2, hK1⟩)
                  refine hX.out _ _ (f2.mono (by rw [HS.out]; intro x hx; exact .inl (List.mem_append_right _ hx))) ?_
                  clear hX X
                  refine mix_nil ?_
                  have hps := Lib.hid ((HH.out.fr0 FD.out).both n1 f1 hF1 n2 f2 hK1)
                  go_wp2
                  go_meet
                  exact ⟨by first | rfl | simp, F1, K1, lost, l1, hps.out, by omega⟩
              · have hk2' : (k == 2) = false := by simpa using hk2
                as_aux_lemma =>
                  clear d0 d2 d3 d4
                  have hh := H.out
                  have hat := at_any p F mtu most lost l n wc hh.1.net.1
                  go_upto_region 11 with fail
                  go_cut [22, 23, 24, 25] from 75 to 83 (fun s22 s23 s24 s25 wz => ∃ g f ao, s22 = .int .i64 g.src ∧ s23 = .int .i64 g.dst ∧ s24 = .slice ao g.bs.length g.bs.length ∧ s25 = .bool f ∧ AtR l n g f ∧ Cs wz ao (g.bs.map bv) ∧ Muts wz wc.heap.size ao g.bs.length ∧ g.bs.length ≤ 1500 ∧ Fr [] wc wz)
                  case first =>
                    clear hh
                    go_wp2_with (go_at_call 17; refine hat.mono ?_; rintro e w1 ⟨g, f, ao, rfl, hR, g1, g2, g3, f1⟩)
                    go_meet
                    exact ⟨g, f, ao, rfl, rfl, rfl, rfl, hR, g1, g2, g3, f1⟩
                  case rest =>
                  clear hat
                  obtain ⟨g, f, ao, rfl, rfl, rfl, rfl, hR, g1, g2, g3, f1⟩ := hcut
                  have h := hh.1.fr0 f1
                  have hdt := dat_any q K mtu most lost l n g f hR _ h.doc
                  have hbk := f1.blk hh.2.2.2.2 (by simp)
                  have d1 := cell_of hbk 1
                  simp only [List.getElem?_toArray, List.getElem?_cons_zero, List.getElem?_cons_succ] at d1
                  have hFK : ∀ x ∈ F ++ K, x < _ := fun x hx => by
                    rcases List.mem_append.1 hx with hx | hx
                    · exact nt_lt hh.1.net.1 x hx
                    · exact dt_lt hh.1.doc x hx
                  have hm := mutB_of g2 hh.1.net.2.1.size hFK
                  have HG := Lib.hid (And.intro g1 (And.intro g2 (And.intro h (And.intro hFK hh.1.net.2.1.size))))
                  clear hh g1 g2 h hR hbk hm hFK f1
                  unfold agg3 at hdt
                  generalize hsr : g.src = gs at *
                  generalize hds : g.dst = gd at *
                  generalize hgb : g.bs = gb at *
                  clear hsr hds hgb
                  go_upto_region 12 with fail
                  go_cut [26, 27] from 84 to 90 (fun s26 s27 wz => ∃ c, s26 = .pointer (some ⟨c, 0, none⟩) ∧ s27 = .bool f ∧ wz.heap[c]? = some (.cells #[.int .i64 gs, .int .i64 gd, .string (str gb)] 42 (0, 0)) ∧ Cs wz ao (gb.map bv) ∧ MutB wz w.heap.size (F ++ K) ao gb.length ∧ PS w wz p q F K mtu most lost l)
                  case first =>
                    go_wp2_with (go_at_call 18; refine hdt.mono ?_; rintro e w2 ⟨rfl, f2⟩)
                    go_meet
                    have f3 := f2.alloc (.cells #[.int .i64 gs, .int .i64 gd, .string (str gb)] 42)
                    have hg := HG.out
                    exact ⟨w2.heap.size, rfl, rfl, alloc_at w2 _, hg.1.fr f3 (by simp), mutB_of (hg.2.1.fr f3 (by simp)) hg.2.2.2.2 hg.2.2.2.1, hg.2.2.1.fr0 f3⟩
                  case rest =>
                  clear hdt HG d1
                  obtain ⟨c, rfl, rfl, hck, g1, hm, hps⟩ := hcut
                  have y0 := cell_of hck 0
                  have y1 := cell_of hck 1
                  have y2 := cell_of hck 2
                  simp only [List.getElem?_toArray, List.getElem?_cons_zero, List.getElem?_cons_succ] at y0 y1 y2
                  generalize hL : gb.length = L at *
                  have cv1 := run_conv wc Try.underlying29 Try.underlying5 Try.underlying9 hL g1
                  generalize str gb = zs at *
                  have HP := Lib.hid (And.intro hps hm)
                  clear hck g1 hps hL H hm
                  go_upto_region 13 with fail
                  go_cut [13] from 91 to 112 (fun s13 wz => s13 = .bool true ∧ wc = wz)
                  case first =>
                    go_wp2
                    all_goals go_meet
                    all_goals exact ⟨by simp, rfl⟩
                  case rest =>
                  clear cv1 y0 y1 y2
                  obtain ⟨rfl, rfl⟩ := hcut
                  go_wp2
                  go_loopg [28] L (fun k s28 wr => ∃ j, j + k = L ∧ s28 = .int .i64 j ∧ PS w wr p q F K mtu most lost l ∧ MutB wr w.heap.size (F ++ K) ao L)
                  case atStart => exact ⟨0, by omega, rfl, HP.out⟩
                  case round =>
                    clear HP
                    obtain ⟨j, hj, rfl, hps, hm⟩ := hrel
                    by_cases hjL : j < L
                    · obtain ⟨g', cur, rfl, hg1, hg2, hg3, hg4⟩ := hm.resolve_left (by omega)
                      obtain ⟨b1, hbj⟩ := hg4 j hjL
                      have z0 := cell_of hg3 j
                      have zf := frozen_of hg3 j
                      rw [hbj] at z0
                      have HQ := Lib.hid (fun v => mut_step hps hg1 hg2 hg3 hg4 j v)
                      clear hps hg1 hg2 hg3 hg4 hbj hm
                      go_wp2
                      go_roundg (L - (j + 1))
                      case measure => omega
                      case rel => exact ⟨j + 1, by omega, by go_num, HQ.out _⟩
                    · have HQ := Lib.hid hps
                      clear hps hm
                      go_wp2
                      go_meet
                      exact ⟨rfl, F, K, lost, l, HQ.out, by omega⟩
        case rest =>
        clear d0 d1 d2 d3 d4 H
        obtain ⟨rfl, F', K', lost', l', h, hlo'⟩ := hcut
        have hlen := len_any p F' mtu most lost' l'
        have hlost := lost_any p F' mtu most lost' l'
        have hn := h.net.1
        obtain ⟨v, hD, _⟩ := h.doc
        obtain ⟨da, dcap, rfl, _, _⟩ := owns_shape hD.own
        have e2 := cell_of hD.hr 2
        have e3 := cell_of hD.hr 3
        simp only [List.getElem?_toArray, List.getElem?_cons_zero, List.getElem?_cons_succ] at e2 e3
        have H := Lib.hid h
        clear h hD
        go_upto_region 31 with fail
        go_cut [231] from 211 to 231 (fun s231 wz => s231 = .bool false ∧ Fr [] wc wz)
        case first =>
          go_quiet (first | (exact Calls.quiet_of_same (hlen _ (nt_fr hn ((Fr.refl [] _).drewsN _) (by simp)))) | (exact Calls.quiet_of_same (hlost _ (nt_fr hn ((Fr.refl [] _).drewsN _) (by simp)))))
          go_wp2
          go_meet
          exact ⟨by first | rfl | simp, (Fr.refl _ _).drewsN _⟩
        case rest =>
        clear hlen hlost hn e2 e3
        obtain ⟨rfl, f31⟩ := hcut
        go_wp2
        go_roundg (min lens 80 - (i + 1))
        case measure => omega
        case rel => exact ⟨i + 1, by omega, by go_num, F', K', lost', l', H.out.fr0 f31, by omega⟩
      · have H := Lib.hid h
        clear h
        by_cases h1 : i < lens
        · obtain rfl : i = 80 := by omega
          clear hin
          go_wp2
          go_ret
          exact ⟨rfl, below_of_fr H.out.net.2.1⟩
        · clear hin
          go_wp2
          go_ret
          exact ⟨rfl, below_of_fr H.out.net.2.1⟩
/-- From the arguments as they are read to the walk. -/
theorem walk {H : Type} {enc : TypeId × Value → H} (W : World) {base : Nat} (v0 : Value) (d0 : DataW H) (p0 : List MemPlace) (v1 : Value) (d1 : DataW H) (p1 : List MemPlace) (v2 : Value) (d2 : DataW H) (p2 : List MemPlace)
    (o0 : Value.okWide Try.prog W .any base 3 v0) (h0 : DataW.Trod enc Try.prog W 0 (fun _ => true) true 3 v0 d0 p0)
    (o1 : Value.okWide Try.prog W .any base 3 v1) (h1 : DataW.Trod enc Try.prog W 0 (fun _ => true) true 3 v1 d1 p1)
    (o2 : Value.okWide Try.prog W .any base 34 v2) (h2 : DataW.Trod enc Try.prog W 0 (fun _ => true) true 34 v2 d2 p2)
    (hz : (DataW.weightsEach Try.prog [3, 3, 34] [d0, d1, d2]).all (· ≤ reachBytes) = true) :
    Calls Try.prog 4 #[v0, v1, v2] W fun e W' => e = .returned (.bool true) ∧ Below W.heap.size W W' := by
  obtain ⟨x0, rfl, rfl, rfl, wx0⟩ := open_int Try.underlying3 o0 h0
  obtain ⟨x1, rfl, rfl, rfl, wx1⟩ := open_int Try.underlying3 o1 h1
  obtain ⟨as_, lens, caps, rfl⟩ := okWide_slice Try.underlying34 o2
  exact walk_in W x0 x1 as_ lens caps (play_arg h2 (light_each hz (j := 2) rfl rfl))

/-! ### The row -/
theorem own : ownKnob Try.prog.godebug = none := by kernel_rfl
theorem laidOut : laidOutB Try.prog = true := by kernel_rfl
set_option maxRecDepth 100000 in
theorem lifted (os : Os) (started : os.Started) (H : Type) (enc : TypeId × Value → H) :
    ReturnsInHanded {} Try.checked os 4 .any (Rows.netPlaysSpec.pre6 enc Try.prog Try.f4 Rows.netPlaysRow.domain false) (Rows.netPlaysSpec.post enc Try.prog Try.f4 false true false false) := by
  refine returnsInHanded_of_change_sized (C := Try.checked) own started (by kernel_rfl) Try.func4
    (ChangeSpec.witness6 (enc := enc) (C := Try.checked) false ⟨#[], #[.int .i64 0, .int .i64 0, .slice none 0 0], []⟩ 8 (by kernel_rfl) (by kernel_rfl) (by kernel_rfl) (by kernel_rfl)) ?_
  intro W base args ds gs before hval hW _ hsz _
  have hW' := hW
  obtain ⟨p, q, hA0, hV, rfl, hfz, hnd⟩ := hW'
  have hA : DataW.TrodAll enc Try.prog W 0 (fun _ => true) true Try.f4.params.toList args.toList ds p := hA0
  rw [Try.params4] at hA hval
  obtain ⟨v0, vs0, d0, ds0, p0, q0, hargs, rfl, rfl, h0, r0⟩ := trodAll_cons hA
  obtain ⟨v1, vs1, d1, ds1, p1, q1, rfl, rfl, rfl, h1, r1⟩ := trodAll_cons r0
  obtain ⟨v2, vs2, d2, ds2, p2, q2, rfl, rfl, rfl, h2, r2⟩ := trodAll_cons r1
  obtain ⟨rfl, rfl, rfl⟩ := trodAll_nil r2
  obtain rfl : args = #[v0, v1, v2] := by cases args; simp_all
  obtain ⟨rfl, rfl⟩ := trodVars_none hV
  have hz : (DataW.weightsEach Try.prog [3, 3, 34] [d0, d1, d2]).all (· ≤ reachBytes) = true := hsz
  refine law_of_calls (s := Rows.netPlaysSpec) laidOut (by kernel_rfl) rfl rfl Try.underlying4 hW (fun gs _ h2 => by subst h2; rfl) ?_
  exact walk W v0 d0 p0 v1 d1 p1 v2 d2 p2 (hval 0 3 v0 rfl rfl) (h0) (hval 1 3 v1 rfl rfl) (h1) (hval 2 34 v2 rfl rfl) (h2) hz

theorem over : Rows.netPlaysRow.holds Try.pinned (OpenSpec.ofChange Rows.netPlaysSpec) :=
  OpenClaim.holds_of_wide 4 Try.f4 rfl rfl rfl rfl rfl rfl rfl ⟨rfl, rfl, rfl, rfl, rfl⟩ rfl rfl rfl rfl rfl (by kernel_rfl) Try.func4 (by kernel_rfl)
    (of_decide_eq_true (by kernel_rfl)) (by unfold Func.isWrapper; first | (rw [if_pos (by decide +kernel)]; kernel_rfl) | (rw [if_neg (by decide +kernel)]; exact ⟨rfl, rfl⟩))
    (fun os started H enc _ => lifted os started H enc)

theorem proved : Rows.NetPlaysSaid := over
end Go.Proofs.Ytmoiahgbenaihaa.netPlays
