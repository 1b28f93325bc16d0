/-
  stemmaref17.hex, Encode.
-/
import Derived.Test.YteldakjhnifbpaaPktTo
import Derived.Test.YteldakjhnifbpaaAppStr
namespace Go.Proofs.Yteldakjhnifbpaa.pkt
open Go Go.RowKit Go.Proofs.Yteldakjhnifbpaa.lib Go.Proofs.Yteldakjhnifbpaa.bm

set_option maxRecDepth 100000 in
set_option maxHeartbeats 2000000 in
theorem hex_all (n : Nat) (w : World) (hn : n < 65536) : Calls Try.prog 25 #[.int .i64 n] w fun e w' => e = .returned (.string (str (hex4 n))) ∧ Fr [] w w' := by
  have hx0 := index_hexd (n / 4096 % 16) (by omega)
  have hx1 := index_hexd (n / 256 % 16) (by omega)
  have hx2 := index_hexd (n / 16 % 16) (by omega)
  have hx3 := index_hexd (n % 16) (by omega)
  have hm : ∀ x : Nat, bits .and .i64 (x : Int) 15 = ((x % 16 : Nat) : Int) := fun x => (i64_mask x 4 (by decide)).trans (by omega)
  have e0 : bits .and .i64 ((n : Int) / 4096) 15 = ((n / 4096 % 16 : Nat) : Int) := hm (n / 4096)
  have e1 : bits .and .i64 ((n : Int) / 256) 15 = ((n / 256 % 16 : Nat) : Int) := hm (n / 256)
  have e2 : bits .and .i64 ((n : Int) / 16) 15 = ((n / 16 % 16 : Nat) : Int) := hm (n / 16)
  have e3 : bits .and .i64 (n : Int) 15 = ((n % 16 : Nat) : Int) := hm n
  have hh : (hex4 n).map bv = [.int .u8 ((hexd (n / 4096 % 16)).toNat : Nat), .int .u8 ((hexd (n / 256 % 16)).toNat : Nat), .int .u8 ((hexd (n / 16 % 16)).toNat : Nat), .int .u8 ((hexd (n % 16)).toNat : Nat)] := rfl
  have hl : (hex4 n).length = 4 := rfl
  generalize hex4 n = hx at *
  generalize (hexd (n / 4096 % 16)).toNat = h0 at *
  generalize (hexd (n / 256 % 16)).toNat = h1 at *
  generalize (hexd (n / 16 % 16)).toNat = h2 at *
  generalize (hexd (n % 16)).toNat = h3 at *
  generalize n / 4096 % 16 = k0 at *
  generalize n / 256 % 16 = k1 at *
  generalize n / 16 % 16 = k2 at *
  generalize n % 16 = k3 at *
  have HH := Lib.hid (And.intro hh hl)
  clear hh hl hm
  go_enter Try.func25, Try.ntmps25
  go_upto_region 2 with fail
  refine region_mix 22 [(false, 0), (false, 1), (false, 2), (false, 3), (false, 4), (false, 5), (false, 6), (false, 7), (false, 8), (false, 9), (false, 10), (false, 11), (false, 12), (false, 13), (false, 14), (false, 15), (false, 16), (false, 17), (false, 18), (true, 19), (false, 20), (false, 21)] [] (by kernel_rfl) (by kernel_rfl) (fun _ _ d _ _ h => by cases d <;> exact h) ?_
  simp only [List.map_cons, List.map_nil, List.getD_cons_zero, List.getD_cons_succ, List.drop_succ_cons, List.drop_zero, List.drop_nil]
  refine mix_seg 19 rfl ?_
  simp only [List.take_succ_cons, List.take_zero, List.drop_succ_cons, List.drop_zero, List.map_cons, List.map_nil]
  repeat (go_big_quiet_step (fail))
  refine wpQuiet_nil ?_
  clear e0 e1 e2 e3 hx0 hx1 hx2 hx3
  refine mix_eff rfl ?_
  intro X hX
  go_wp2
  refine hX.out _ _ ((Fr.refl _ w.drew).alloc _) ?_
  clear hX X
  have cA : Cs (w.alloc (.cells #[.int .u8 (h0 : Nat), .int .u8 (h1 : Nat), .int .u8 (h2 : Nat), .int .u8 (h3 : Nat)] 5)).drew (some ⟨w.heap.size, 0, none⟩) (hx.map bv) := by
    rw [HH.out.1]
    exact Cs.fr (.inr ⟨w.heap.size, 0, rfl, fun j u hj => by rw [cell_of (alloc_at w _)]; simpa using hj⟩) (Fr.drew1 [] _) (by simp)
  have cv := run_conv_sup [] _ Try.underlying23 Try.underlying5 Try.underlying9 HH.out.2 cA (by simp)
  clear cA
  refine mix_seg 2 rfl ?_
  simp only [List.take_succ_cons, List.take_zero, List.drop_succ_cons, List.drop_zero, List.map_cons, List.map_nil]
  repeat (go_big_quiet_step (fail))
  refine wpQuiet_nil ?_
  clear cv
  refine mix_nil ?_
  go_wp2
  go_ret
  exact ⟨rfl, ((Fr.refl [] w).alloc _).drew⟩

/-- Where the document's writing stands. -/
theorem enc_bad {l : List Ln} {k : Nat} (h : encErr l = k) (h0 : k ≠ 0) : enc l = ([], k) := by unfold enc; rw [if_neg (by omega), h]
theorem En.ok {w wr : World} {l : List Ln} {a : Option Addr} {c : Nat} {out : List UInt8} {i : Nat} (h : En w wr l i a c out) (hi : l.length ≤ i) : enc l = (out, 0) := by
  have e1 := h.err
  have e2 := h.all
  rw [List.drop_eq_nil_of_le hi] at e1 e2
  simp only [encErr, encAll, List.append_nil] at e1 e2
  unfold enc; rw [if_pos e1.symm, e2]
set_option maxRecDepth 100000 in
set_option maxHeartbeats 4000000 in
theorem denc_all (ao : Option Addr) (cap : Nat) (l : List Ln) (w : World) (hcs : Cs w ao (dcells l)) (hle : l.length ≤ cap) (hmax : cap ≤ maxLen) (hlim : tot l ≤ 2199023255552) :
    Calls Try.prog 10 #[.slice ao l.length cap] w fun e w' => e = .returned (.tuple #[.string (str (enc l).1), .int .i64 (enc l).2]) ∧ Fr [] w w' := by
  have hls : l.length ≤ 9223372036854775807 := by unfold maxLen at hmax; omega
  obtain ⟨N, hN⟩ : ∃ N, N = l.length := ⟨_, rfl⟩
  have HN := Lib.hid hN
  have HL := Lib.hid hcs
  rw [← hN] at hls hle ⊢
  clear hcs hN
  go_enter Try.func10, Try.ntmps10
  go_wp2
  go_loopg [4, 5] N (fun k s4 s5 wr => ∃ i a c out, i + k = N ∧ s5 = .int .i64 (i : Nat) ∧ s4 = .slice a out.length c ∧ En w wr l i a c out)
  case atStart => exact ⟨0, none, 0, [], by omega, rfl, rfl, en_start w _⟩
  case round =>
    obtain ⟨i, a, c, out, hi, rfl, rfl, h⟩ := hrel
    have H := Lib.hid h
    obtain ⟨_, _, he, hoc, hcm⟩ := owns_shape h.own
    simp only [Value.slice.injEq] at he
    obtain ⟨rfl, _, rfl⟩ := he
    have hfew := h.few
    clear h
    by_cases hin : i < N
    · have hil : i < l.length := by have := HN.out; omega
      have hx : l[i]? = some l[i] := by simp [hil]
      obtain ⟨g, o, rfl, hc⟩ := HL.out.at (by rw [dcells_length]; omega)
      obtain ⟨x0, x1⟩ := dcells_at l i hil
      have c0 := H.out.fr.cell (hc _ _ x0) (by simp)
      have c1 := H.out.fr.cell (hc _ _ x1) (by simp)
      rw [← Nat.add_assoc] at c1
      have hgw := World.block_lt_of_cell? w _ (hc _ _ x0)
      simp only at hgw
      generalize l[i] = x at *
      have hxl : x.2.length + 4 ≤ tot l := by
        have e3 := H.out.few
        have : l.drop i = x :: l.drop (i + 1) := by
          obtain ⟨h1, h2⟩ := List.getElem?_eq_some_iff.1 hx
          rw [List.drop_eq_getElem_cons h1, h2]
        rw [this] at e3
        simp only [tot] at e3
        omega
      obtain ⟨k, d⟩ := x
      simp only at c0 c1 hxl
      have hsz := str_size d
      have HX := Lib.hid hx
      obtain ⟨z, hz⟩ : ∃ z, z = str d := ⟨_, rfl⟩
      obtain ⟨D, hD⟩ : ∃ D, D = d.length := ⟨_, rfl⟩
      rw [← hz] at c1 hsz
      rw [← hD] at hsz hxl
      have HZ := Lib.hid (And.intro hz hD)
      clear hc x0 x1 hx hz hD
      by_cases hk1 : k = 1
      · subst hk1
        by_cases hD0 : D = 0
        · have hd0 : d = [] := List.eq_nil_of_length_eq_zero (by rw [← HZ.out.2, hD0])
          have e := H.out.bad HX.out 3 (by unfold bad; exact if_pos (.inr (.inr ⟨rfl, hd0⟩))) (by decide)
          have HE := Lib.hid (And.intro e H.out.fr)
          have hzl : z.toList = [] := by rw [HZ.out.1, str_toList, hd0]
          clear e hd0
          go_wp2
          go_ret2
          rw [enc_bad HE.out.1 (by decide)]
          exact ⟨rfl, HE.out.2⟩
        · have hdne : d ≠ [] := fun h => hD0 (by rw [HZ.out.2, h]; rfl)
          have hzl : z.toList.isEmpty = false := by rw [HZ.out.1, str_toList]; cases d; exact absurd rfl hdne; rfl
          by_cases hbig : 65516 < D
          · have e := H.out.bad HX.out 5 (by unfold bad; rw [if_neg (by simp [hdne]), if_pos ⟨rfl, by rw [← HZ.out.2]; exact hbig⟩]) (by decide)
            have HE := Lib.hid (And.intro e H.out.fr)
            clear e hdne
            go_wp2
            go_ret2
            rw [enc_bad HE.out.1 (by decide)]
            exact ⟨rfl, HE.out.2⟩
          · have hgood : bad ((1 : Int), d) = 0 := by unfold bad; rw [if_neg (by simp [hdne]), if_neg (by rw [← HZ.out.2]; simp; omega)]
            obtain ⟨h4, eh4⟩ : ∃ h4, h4 = hex4 (D + 4) := ⟨_, rfl⟩
            have hhx : ∀ w, Calls Try.prog 25 #[.int .i64 ((D : Int) + 4)] w fun e w' => e = .returned (.string (str h4)) ∧ Fr [] w w' := fun w => by rw [eh4]; exact hex_all (D + 4) w (by omega)
            have lh4 : h4.length = 4 := by rw [eh4]; rfl
            have uh4 : h4.length ≤ 4 := by omega
            have HG := Lib.hid (And.intro hgood (And.intro hhx (And.intro eh4 lh4)))
            clear hdne hgood hhx eh4 lh4
            have hga : g ∉ blk a := fun h => by have := H.out.new g h; omega
            obtain ⟨S, hS⟩ : ∃ S, S = blk a := ⟨_, rfl⟩
            rw [← hS] at hga
            have HS := Lib.hid hS
            clear hS
            go_wp2_with (first | (go_at_call 25; refine (HG.out.2.1 _).mono ?_; rintro e w1 ⟨rfl, f1⟩; have HO := Lib.hid (And.intro f1 (ownsRow_fr H.out.own f1 (by simp))); have c11 := f1.cell c1 (by simp); clear f1 c1 c0) | (refine wpList_append_str sliceU8 Try.underlying9 rfl _ _ rfl (.slice a out.length c) out.length (out.map bv) S rfl (by rw [own_blk, HS.out]) HO.out.2 h4 rfl (by omega) (by unfold maxLen; omega) ?_; intro a2 c2 w2 A1; have HA1 := Lib.hid (And.intro A1 (A1.fr.cell c11 hga)); clear A1 c11; have c12 := HA1.out.2) | (refine wpList_append_str sliceU8 Try.underlying9 rfl _ _ rfl (.slice a2 (out.length + h4.length) c2) (out.length + h4.length) (out.map bv ++ h4.map bv) (blk a2) rfl (by rw [own_blk]) HA1.out.1.own d (by rw [← HZ.out.1]; rfl) (by rw [← HZ.out.2]; omega) (by rw [← HZ.out.2]; unfold maxLen; omega) ?_; intro a3 c3 w3 A3; have HA3 := Lib.hid A3; clear A3))
            go_roundg (N - (i + 1))
            case measure => omega
            case rel =>
              have e : one ((1 : Int), d) = h4 ++ d := by rw [HG.out.2.2.1, HZ.out.2]; rfl
              have l4 := HG.out.2.2.2
              have A1 := HA1.out.1
              have A3 := HA3.out
              rw [HS.out] at A1
              have h2 := (HO.out.1.mono (T := blk a) (by simp)).trans A1.fr
              have hsz := h2.size
              have hat2 : ∀ y ∈ blk a2, y ∈ blk a ∨ wr.heap.size ≤ y := fun y hy => (A1.at_ y hy).imp id fun h => by have := HO.out.1.size; omega
              have h := H.out.more HX.out HG.out.1 (n := out.length + h4.length + d.length) (a' := a3) (c' := c3) (w2 := w3) (by rw [e, List.length_append]; omega) (by rw [e, List.map_append, ← List.append_assoc]; exact A3.own)
                (h2.step A3.fr fun y hy => hat2 y hy) (fun y hy => by
                  rcases A3.at_ y hy with h3 | h3
                  · exact hat2 y h3
                  · right; omega)
              exact ⟨i + 1, a3, c3, out ++ one ((1 : Int), d), by omega, by go_num, by rw [List.length_append, e, List.length_append, Nat.add_assoc], h⟩
      · by_cases hk : k < 1 ∨ 4 < k
        · have e := H.out.bad HX.out 3 (by unfold bad; exact if_pos (by rcases hk with hk | hk; exact .inl hk; exact .inr (.inl hk))) (by decide)
          have HE := Lib.hid (And.intro e H.out.fr)
          have b0 : (k == 1) = false := by simpa using hk1
          clear e
          by_cases hk2 : k < 1
          · have b1 : decide ((2 : Int) ≤ k) = false := by simp; omega
            go_wp2
            go_ret2
            rw [enc_bad HE.out.1 (by decide)]
            exact ⟨rfl, HE.out.2⟩
          · have b1 : decide ((2 : Int) ≤ k) = true := by simp; omega
            have b2 : decide (k ≤ 4) = false := by simp; omega
            go_wp2
            go_ret2
            rw [enc_bad HE.out.1 (by decide)]
            exact ⟨rfl, HE.out.2⟩
        · have b0 : (k == 1) = false := by simpa using hk1
          have b1 : decide ((2 : Int) ≤ k) = true := by simp; omega
          have b2 : decide (k ≤ 4) = true := by simp; omega
          have hgood : bad (k, d) = 0 := by unfold bad; rw [if_neg (by simp only; omega), if_neg (by simp only; omega)]
          obtain ⟨h4, eh4⟩ : ∃ h4, h4 = hex4 (k - 2).toNat := ⟨_, rfl⟩
          have lh4 : h4.length = 4 := by rw [eh4]; rfl
          have uh4 : h4.length ≤ 4 := by omega
          have hhx : ∀ w, Calls Try.prog 25 #[.int .i64 (k - 2)] w fun e w' => e = .returned (.string (str h4)) ∧ Fr [] w w' := fun w => by
            rw [eh4]
            have := hex_all (k - 2).toNat w (by omega)
            rw [show (((k - 2).toNat : Nat) : Int) = k - 2 from by omega] at this
            exact this
          have HG := Lib.hid (And.intro hgood (And.intro hhx (And.intro eh4 lh4)))
          clear hgood hhx eh4 lh4
          obtain ⟨S, hS⟩ : ∃ S, S = blk a := ⟨_, rfl⟩
          have HS := Lib.hid hS
          clear hS
          have k2 : (2 : Int) ≤ k ∧ k ≤ 4 := by omega
          clear b1 b2
          obtain ⟨k2, k4⟩ := k2
          clear hk
          go_wp2_with (first | (go_at_call 25; refine (HG.out.2.1 _).mono ?_; rintro e w1 ⟨rfl, f1⟩; have HO := Lib.hid (And.intro f1 (ownsRow_fr H.out.own f1 (by simp))); clear f1 c1 c0) | (refine wpList_append_str sliceU8 Try.underlying9 rfl _ _ rfl (.slice a out.length c) out.length (out.map bv) S rfl (by rw [own_blk, HS.out]) HO.out.2 h4 rfl (by omega) (by unfold maxLen; omega) ?_; intro a2 c2 w2 A1; have HA1 := Lib.hid A1; clear A1))
          go_roundg (N - (i + 1))
          case measure => omega
          case rel =>
            have e : one (k, d) = h4 := by unfold one; rw [if_neg hk1, HG.out.2.2.1]
            have A1 := HA1.out
            rw [HS.out] at A1
            have h := (H.out.fr0 HO.out.1).more HX.out HG.out.1 (n := out.length + h4.length) (a' := a2) (c' := c2) (w2 := w2) (by rw [e]) (by rw [e]; exact A1.own) A1.fr (fun y hy => (A1.at_ y hy).imp id fun h => Nat.le_of_eq h.symm)
            exact ⟨i + 1, a2, c2, out ++ one (k, d), by omega, by go_num, by rw [List.length_append, e], h⟩
    · have hk : gk = 0 := by omega
      clear hin
      have hown := cs_of_owns H.out.own
      have cv := run_conv wr Try.underlying23 Try.underlying5 Try.underlying9 rfl hown
      clear hown
      go_wp2
      go_ret2
      rw [H.out.ok (by rw [← HN.out]; omega)]
      exact ⟨rfl, H.out.fr⟩
end Go.Proofs.Yteldakjhnifbpaa.pkt
