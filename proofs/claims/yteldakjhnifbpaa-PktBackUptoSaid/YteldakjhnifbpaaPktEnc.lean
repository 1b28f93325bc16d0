/-
  pkt.Encode.
-/
import Derived.Test.YteldakjhnifbpaaPktMem
namespace Go.Proofs.Yteldakjhnifbpaa.pkt
open Go Go.RowKit Go.Proofs.Yteldakjhnifbpaa.lib Go.Proofs.Yteldakjhnifbpaa.bm

def digs16 : ByteArray := ⟨#[48, 49, 50, 51, 52, 53, 54, 55, 56, 57, 97, 98, 99, 100, 101, 102]⟩
theorem digs16_at : ∀ k : Fin 16, ∀ h, digs16[k.1]'h = hexd k.1 := by decide
theorem index_hexd (k : Nat) (hk : k < 16) (w : World) : (Instr.index 9 (.string ⟨#[48, 49, 50, 51, 52, 53, 54, 55, 56, 57, 97, 98, 99, 100, 101, 102]⟩) (.int .i64 k)).run Try.prog w = .ok (.int .u8 ((hexd k).toNat : Nat)) w := by
  have hs : digs16.size = 16 := by decide
  have e := run_index_string (P := Try.prog) w 9 digs16 .i64 k Try.underlying9
  rw [dif_pos ⟨by omega, by rw [hs]; omega⟩] at e
  have h2 := digs16_at ⟨k, hk⟩ (by rw [hs]; exact hk)
  simp only [Int.toNat_natCast] at e
  rw [h2] at e
  exact e
theorem sign_bytes (k : Int) (h : k = 2 ∨ k = 3 ∨ k = 4) : (hex4 (k - 2).toNat).map bv = [.int .u8 48, .int .u8 48, .int .u8 48, .int .u8 (48 + k - 2)] := by
  have e0 : hexd 0 = 48 := by decide
  have e1 : hexd 1 = 49 := by decide
  have e2 : hexd 2 = 50 := by decide
  rcases h with rfl | rfl | rfl
  · show [bv (hexd 0), bv (hexd 0), bv (hexd 0), bv (hexd 0)] = _
    rw [e0]; rfl
  · show [bv (hexd 0), bv (hexd 0), bv (hexd 0), bv (hexd 1)] = _
    rw [e0, e1]; rfl
  · show [bv (hexd 0), bv (hexd 0), bv (hexd 0), bv (hexd 2)] = _
    rw [e0, e2]; rfl
/-- How long lines are at most, written. -/
def tot : List Ln → Nat
  | [] => 0
  | x :: r => x.2.length + 4 + tot r
theorem one_le (x : Ln) : (one x).length ≤ x.2.length + 4 := by
  unfold one
  split
  · rw [List.length_append, hex4_length]
    omega
  · rw [hex4_length]
    omega
theorem encAll_le : ∀ l : List Ln, (encAll l).length ≤ tot l
  | [] => Nat.le_refl _
  | x :: l => by
    have h1 := one_le x
    have h2 := encAll_le l
    simp only [encAll, List.length_append, tot]
    omega
def Encoded (w : World) (l : List Ln) (e : Ending) (w' : World) : Prop :=
  ∃ (a : Option Addr) (n : Nat), e = .returned (.tuple #[.slice a n n, .int .i64 (enc l).2]) ∧ (enc l).1.length = n ∧ Cs w' a ((enc l).1.map bv) ∧ (a = none → n = 0) ∧ Fr [] w w'
theorem encoded_bad {w w' : World} {l : List Ln} {k : Nat} (h : encErr l = k) (h0 : k ≠ 0) (f : Fr [] w w') : Encoded w l (.returned (.tuple #[.slice none 0 0, .int .i64 k])) w' := by
  have e : enc l = ([], k) := by unfold enc; rw [if_neg (by omega), h]
  unfold Encoded
  rw [e]
  exact ⟨none, 0, rfl, rfl, .inl rfl, fun _ => rfl, f⟩
/-- Where the writing stands. -/
structure En (w wr : World) (l : List Ln) (i : Nat) (a : Option Addr) (c : Nat) (out : List UInt8) : Prop where
  own : wr.ownsRow 0 5 1 (.slice a out.length c) out.length (out.map bv)
  fr : Fr [] w wr
  new : ∀ x ∈ blk a, w.heap.size ≤ x
  err : encErr (l.drop i) = encErr l
  all : out ++ encAll (l.drop i) = encAll l
  few : out.length + tot (l.drop i) ≤ tot l
theorem en_start (w : World) (l : List Ln) : En w w l 0 none 0 [] := ⟨World.ownsRow_nil _ _ _ _, Fr.refl _ _, by simp [blk], rfl, rfl, by simp⟩
theorem En.fr0 {w wr wz : World} {l : List Ln} {i : Nat} {a : Option Addr} {c : Nat} {out : List UInt8} (h : En w wr l i a c out) (f : Fr [] wr wz) : En w wz l i a c out := ⟨ownsRow_fr h.own f (by simp), h.fr.trans f, h.new, h.err, h.all, h.few⟩
theorem En.bad {w wr : World} {l : List Ln} {i : Nat} {a : Option Addr} {c : Nat} {out : List UInt8} (h : En w wr l i a c out) {x : Ln} (hx : l[i]? = some x) (k : Nat) (hb : pkt.bad x = k) (h0 : k ≠ 0) : encErr l = k := by
  rw [← h.err]
  have hi := (List.getElem?_eq_some_iff.1 hx)
  obtain ⟨hi, e⟩ := hi
  rw [List.drop_eq_getElem_cons hi, e, encErr, if_neg (by omega), hb]
/-- A line is written. -/
theorem En.more {w w1 w2 : World} {l : List Ln} {i : Nat} {a a' : Option Addr} {c c' n : Nat} {out : List UInt8} (h : En w w1 l i a c out) {x : Ln} (hx : l[i]? = some x) (hb : pkt.bad x = 0) (hn : out.length + (one x).length = n)
    (own : w2.ownsRow 0 5 1 (.slice a' n c') n (out.map bv ++ (one x).map bv)) (fr : Fr (blk a) w1 w2) (hat : ∀ y ∈ blk a', y ∈ blk a ∨ w1.heap.size ≤ y) : En w w2 l (i + 1) a' c' (out ++ one x) := by
  obtain ⟨hi, e⟩ := List.getElem?_eq_some_iff.1 hx
  have hd : l.drop i = x :: l.drop (i + 1) := by rw [List.drop_eq_getElem_cons hi, e]
  have e1 := h.err
  have e2 := h.all
  have e3 := h.few
  rw [hd] at e1 e2 e3
  simp only [encErr, encAll, tot] at e1 e2 e3
  rw [if_pos hb] at e1
  have e4 := one_le x
  refine ⟨by rw [List.length_append, hn, List.map_append]; exact own, h.fr.step fr fun y hy => .inr (h.new y hy), fun y hy => ?_, e1, by rw [List.append_assoc]; exact e2, by rw [List.length_append]; omega⟩
  rcases hat y hy with h1 | h1
  · exact h.new y h1
  · have := h.fr.size
    omega
theorem En.done {w wr : World} {l : List Ln} {a : Option Addr} {c : Nat} {out : List UInt8} {i : Nat} (h : En w wr l i a c out) (hi : l.length ≤ i) : Encoded w l (.returned (.tuple #[.slice a out.length out.length, .int .i64 (0 : Nat)])) wr := by
  have e1 := h.err
  have e2 := h.all
  rw [List.drop_eq_nil_of_le hi] at e1 e2
  simp only [encErr, encAll, List.append_nil] at e1 e2
  have e : enc l = (out, 0) := by unfold enc; rw [if_pos e1.symm, e2]
  unfold Encoded
  rw [e]
  refine ⟨a, out.length, rfl, rfl, cs_of_owns h.own, fun hn => ?_, h.fr⟩
  rcases h.own.2 with ⟨h1, h2⟩ | ⟨g, cap', cur, h1, hb, hg, hn', hm, hs, ht⟩
  · exact h2
  · rw [hn] at h1
    simp at h1
set_option maxRecDepth 100000 in
set_option maxHeartbeats 4000000 in
theorem encode_all (ao : Option Addr) (cap : Nat) (ls : List Lv) (w : World) (L : Lines w ao cap ls) (hlim : tot (ls.map Lv.ln) ≤ 2199023255552) :
    Calls Try.prog 7 #[.slice ao ls.length cap] w (Encoded w (ls.map Lv.ln)) := by
  have hcap := L.max
  have hle := L.le
  have hls : ls.length ≤ 9223372036854775807 := by unfold maxLen at hcap; omega
  obtain ⟨N, hN⟩ : ∃ N, N = ls.length := ⟨_, rfl⟩
  have HN := Lib.hid hN
  have HL := Lib.hid L
  rw [← hN] at hls hle ⊢
  clear L hN
  go_enter Try.func7, Try.ntmps7
  go_wp2
  go_loopg [4, 10] N (fun k s4 s10 wr => ∃ i a c out, i + k = N ∧ s10 = .int .i64 (i : Nat) ∧ s4 = .slice a out.length c ∧ En w wr (ls.map Lv.ln) i a c out)
  case atStart => exact ⟨0, none, 0, [], by omega, rfl, rfl, en_start w _⟩
  case round =>
    obtain ⟨i, a, c, out, hi, rfl, rfl, h⟩ := hrel
    have H := Lib.hid h
    obtain ⟨_, _, he, hoc, hcm⟩ := owns_shape h.own
    simp only [Value.slice.injEq] at he
    obtain ⟨rfl, _, rfl⟩ := he
    have hfew := h.few
    clear h
    by_cases hin : i < N
    · have hil : i < ls.length := by have := HN.out; omega
      have hx : (ls.map Lv.ln)[i]? = some ls[i].ln := by simp [hil]
      obtain ⟨g, o, rfl, hc⟩ := HL.out.cs.at (by rw [lcells_length]; omega)
      obtain ⟨x0, x1⟩ := lcells_at ls i hil
      have c0 := H.out.fr.cell (hc _ _ x0) (by simp)
      have c1 := H.out.fr.cell (hc _ _ x1) (by simp)
      rw [← Nat.add_assoc] at c1
      have hok0 := HL.out.ok ls[i] (List.getElem_mem hil)
      have hok := hok0.fr H.out.fr
      generalize ls[i] = x at *
      have hxl : x.bs.length + 4 ≤ tot (ls.map Lv.ln) := by
        have e3 := H.out.few
        have : (ls.map Lv.ln).drop i = x.ln :: (ls.map Lv.ln).drop (i + 1) := by
          obtain ⟨h1, h2⟩ := List.getElem?_eq_some_iff.1 hx
          rw [List.drop_eq_getElem_cons h1, h2]
        rw [this] at e3
        simp only [tot, Lv.ln] at e3 ⊢
        omega
      obtain ⟨k, xa, xc, d⟩ := x
      simp only [Lv.ln] at *
      obtain ⟨D, hD⟩ : ∃ D, d.length = D := ⟨_, rfl⟩
      have hdl := hok.le
      have hdn := hok.nil
      have hdm := hok.max
      simp only at hdl hdn hdm
      have hxa : ∀ y ∈ blk xa, d ≠ [] → y ∉ blk a := fun y hy hne hya => by
        have h1 := hok0.cs.lt (by simpa using hne)
        have h2 := H.out.new y hya
        cases xa with
        | none => simp [blk] at hy
        | some z =>
          have := h1 z rfl
          simp [blk] at hy
          omega
      have Hxa := Lib.hid hxa
      have HX := Lib.hid (And.intro hx (And.intro hok.cs hD))
      clear hok0 hxa
      rw [hD] at c1 hxl hdl
      clear hc x0 x1 hx hok hD
      have hDm : D ≤ 9223372036854775807 := by omega
      go_upto_region 4 with fail
      go_cut [6] from 11 to 13 (fun s6 wz => ∃ b, s6 = .pointer (some ⟨b, 0, none⟩) ∧ wz.heap[b]? = some (.cells #[.int .i64 k, .slice xa D xc] 28 (0, 0)) ∧ Fr [] wr wz ∧ b ∉ blk a)
      case first =>
        go_wp2
        go_meet
        exact ⟨wr.heap.size, rfl, alloc_at wr _, (Fr.refl _ wr).alloc _, fun hy => by have := owns_lt H.out.own (blk_own hy); omega⟩
      case rest =>
      clear c0 c1
      obtain ⟨b, rfl, hb, f4, hba⟩ := hcut
      have c0 := cell_of hb 0
      have c1 := cell_of hb 1
      simp only [List.getElem?_toArray, List.getElem?_cons_zero, List.getElem?_cons_succ] at c0 c1
      have H4 := Lib.hid (H.out.fr0 f4)
      have HX4 := Lib.hid (And.intro HX.out.1 (And.intro (HX.out.2.1.fr f4 (by simp)) HX.out.2.2))
      clear H HX f4 hb
      by_cases hk : k < 1 ∨ 4 < k
      · have e := H4.out.bad HX4.out.1 3 (by unfold bad; exact if_pos (by rcases hk with hk | hk; exact .inl hk; exact .inr (.inl hk))) (by decide)
        have HE := Lib.hid (encoded_bad e (by decide) H4.out.fr)
        clear e
        by_cases hk1 : k < 1
        · have b1 : decide (k < 1) = true := by simpa using hk1
          go_wp2
          go_ret2
          exact HE.out
        · have b1 : decide (k < 1) = false := by simpa using hk1
          have b2 : decide (4 < k) = true := by simp; omega
          go_wp2
          go_ret2
          exact HE.out
      · have b1 : decide (k < 1) = false := by simp; omega
        have b2 : decide (4 < k) = false := by simp; omega
        by_cases hk1 : k = 1
        · subst hk1
          by_cases hD0 : D = 0
          · have hd0 : d = [] := List.eq_nil_of_length_eq_zero (by rw [HX4.out.2.2, hD0])
            have e := H4.out.bad HX4.out.1 3 (by unfold bad; exact if_pos (.inr (.inr ⟨rfl, hd0⟩))) (by decide)
            have HE := Lib.hid (encoded_bad e (by decide) H4.out.fr)
            clear e hd0 hk
            subst hD0
            go_wp2
            go_ret2
            exact HE.out
          · have b3 : ((D : Int) == 0) = false := by simp; omega
            have hdne : d ≠ [] := fun h => hD0 (by rw [← HX4.out.2.2, h]; rfl)
            by_cases hbig : 65516 < D
            · have e := H4.out.bad HX4.out.1 5 (by unfold bad; rw [if_neg (by simp [hdne]), if_pos ⟨rfl, by rw [HX4.out.2.2]; exact hbig⟩]) (by decide)
              have HE := Lib.hid (encoded_bad e (by decide) H4.out.fr)
              have b4 : decide ((65516 : Int) < D) = true := by simp; omega
              clear e hdne hk
              go_wp2
              go_ret2
              exact HE.out
            · have b4 : decide ((65516 : Int) < D) = false := by simp; omega
              have hgood : bad ((1 : Int), d) = 0 := by unfold bad; rw [if_neg (by simp [hdne]), if_neg (by rw [HX4.out.2.2]; simp; omega)]
              have HG := Lib.hid hgood
              clear hdne hk hgood
              obtain ⟨n, hn⟩ : ∃ n, n = D + 4 := ⟨_, rfl⟩
              have hn1 : (D : Int) + 4 = n := by omega
              have hnl : n < 65536 := by omega
              have Hn := Lib.hid hn
              clear hn
              go_upto_region 11 with fail
              go_cut [7] from 46 to 50 (fun s7 wz => s7 = .int .i64 n ∧ wc = wz)
              case first =>
                go_wp2
                go_meet
                exact ⟨by first | rfl | exact int_eq hn1, rfl⟩
              case rest =>
              clear hn1
              obtain ⟨rfl, rfl⟩ := hcut
              have hx0 := index_hexd (n / 4096 % 16) (by omega)
              have hx1 := index_hexd (n / 256 % 16) (by omega)
              have hx2 := index_hexd (n / 16 % 16) (by omega)
              have hx3 := index_hexd (n % 16) (by omega)
              have hm : ∀ x : Nat, bits .and .i64 (x : Int) 15 = ((x % 16 : Nat) : Int) := fun x => (i64_mask x 4 (by decide)).trans (by omega)
              have e0 : (n : Int) / 4096 = ((n / 4096 % 16 : Nat) : Int) := by omega
              have e1 : bits .and .i64 ((n : Int) / 256) 15 = ((n / 256 % 16 : Nat) : Int) := hm (n / 256)
              have e2 : bits .and .i64 ((n : Int) / 16) 15 = ((n / 16 % 16 : Nat) : Int) := hm (n / 16)
              have e3 : bits .and .i64 (n : Int) 15 = ((n % 16 : Nat) : Int) := hm n
              have hh : (hex4 n).map bv = [.int .u8 ((hexd (n / 4096 % 16)).toNat : Nat), .int .u8 ((hexd (n / 256 % 16)).toNat : Nat), .int .u8 ((hexd (n / 16 % 16)).toNat : Nat), .int .u8 ((hexd (n % 16)).toNat : Nat)] := rfl
              generalize (hexd (n / 4096 % 16)).toNat = h0 at *
              generalize (hexd (n / 256 % 16)).toNat = h1 at *
              generalize (hexd (n / 16 % 16)).toNat = h2 at *
              generalize (hexd (n % 16)).toNat = h3 at *
              generalize n / 4096 % 16 = k0 at *
              generalize n / 256 % 16 = k1 at *
              generalize n / 16 % 16 = k2 at *
              generalize n % 16 = k3 at *
              have HH := Lib.hid hh
              clear hh hm
              go_upto_region 12 with fail
              go_cut [4] from 55 to 71 (fun s4 wz => ∃ a2 c2, s4 = .slice a2 (out.length + 4) c2 ∧ wz.ownsRow 0 5 1 (.slice a2 (out.length + 4) c2) (out.length + 4) (out.map bv ++ (hex4 n).map bv) ∧ Fr (blk a) wc wz ∧ (∀ y ∈ blk a2, y ∈ blk a ∨ wc.heap.size ≤ y))
              case first =>
                refine region_mix 17 [(false, 0), (false, 1), (false, 2), (false, 3), (false, 4), (false, 5), (false, 6), (false, 7), (false, 8), (false, 9), (false, 10), (false, 11), (false, 12), (false, 13), (false, 14), (true, 15), (true, 16)] (blk a) (by kernel_rfl) (by kernel_rfl) (fun _ _ d _ _ h => by cases d <;> exact h) ?_
                simp only [List.map_cons, List.map_nil, List.getD_cons_zero, List.getD_cons_succ, List.drop_succ_cons, List.drop_zero, List.drop_nil]
                refine mix_seg 15 rfl ?_
                simp only [List.take_succ_cons, List.take_zero, List.drop_succ_cons, List.drop_zero, List.map_cons, List.map_nil]
                repeat (go_big_quiet_step (fail))
                refine wpQuiet_nil ?_
                clear e0 e1 e2 e3 hx0 hx1 hx2 hx3
                refine mix_eff rfl ?_
                intro X hX
                go_wp2
                refine hX.out _ _ ((Fr.refl _ wc.drew).alloc _) ?_
                clear hX X
                have fr0 : Fr [] wc (wc.drew.alloc (.cells #[.int .u8 (h0 : Nat), .int .u8 (h1 : Nat), .int .u8 (h2 : Nat), .int .u8 (h3 : Nat)] 5)) := (Fr.drew1 [] wc).alloc _
                have ownA := ownsRow_fr H4.out.own fr0 (by simp)
                have cA : Cs (wc.drew.alloc (.cells #[.int .u8 (h0 : Nat), .int .u8 (h1 : Nat), .int .u8 (h2 : Nat), .int .u8 (h3 : Nat)] 5)) (some ⟨wc.drew.heap.size, 0, none⟩) ((hex4 n).map bv) := by
                  rw [HH.out]
                  exact .inr ⟨wc.drew.heap.size, 0, rfl, fun j u hj => by rw [cell_of (alloc_at wc.drew _)]; simpa using hj⟩
                refine mix_eff rfl ?_
                intro X hX
                refine wp_append sliceU8 _ _ rfl (.slice a out.length c) out.length (out.map bv) (blk a) rfl (by rw [own_blk]) ownA (some ⟨wc.drew.heap.size, 0, none⟩) 4 4 ((hex4 n).map bv) rfl (by decide) (by simp) cA (by rfl) (bv_one _) (by omega) (by unfold maxLen; omega) ?_
                intro a2 c2 w2 A1
                refine hX.out _ _ A1.fr ?_
                clear hX X
                refine mix_nil ?_
                go_wp2
                go_meet
                exact ⟨a2, c2, rfl, A1.own, (fr0.mono (by simp)).trans A1.fr, fun y hy => (A1.at_ y hy).imp id fun h => Nat.le_trans fr0.size (Nat.le_of_eq h.symm)⟩
              case rest =>
              clear e0 e1 e2 e3 hx0 hx1 hx2 hx3
              obtain ⟨a2, c2, rfl, own2, f2, hat2⟩ := hcut
              obtain ⟨_, _, he2, hoc2, hcm2⟩ := owns_shape own2
              simp only [Value.slice.injEq] at he2
              obtain ⟨rfl, _, rfl⟩ := he2
              have c1 := f2.cell c1 hba
              have hcsd : Cs wc xa (d.map bv) := by
                by_cases hne : d = []
                · left; rw [hne]; rfl
                · exact HX4.out.2.1.fr f2 (fun y hy => Hxa.out y hy hne)
              have hdl' := HX4.out.2.2
              have H2 := Lib.hid (And.intro own2 (And.intro f2 (And.intro hat2 hcsd)))
              clear own2 f2 hat2 hcsd c0
              go_wp2_with (refine wpList_append sliceU8 rfl _ _ rfl (.slice a2 (out.length + 4) c2) (out.length + 4) (out.map bv ++ (hex4 n).map bv) (blk a2) rfl (by rw [own_blk]) H2.out.1 xa D xc (d.map bv) rfl hdl hdn H2.out.2.2.2 (by simp [hdl']) (bv_one _) (by omega) (by unfold maxLen; omega) ?_; intro a3 c3 w3 A3)
              go_roundg (N - (i + 1))
              case measure => omega
              case rel =>
                have e : one ((1 : Int), d) = hex4 n ++ d := by
                  show hex4 (d.length + 4) ++ d = _
                  rw [hdl', Hn.out]
                have h2 := H2.out
                have hsz := h2.2.1.size
                have h := H4.out.more HX4.out.1 HG.out (n := out.length + 4 + D) (a' := a3) (c' := c3) (w2 := w3) (by rw [e, List.length_append, hex4_length, hdl']; omega) (by rw [e, List.map_append, ← List.append_assoc]; exact A3.own)
                  (h2.2.1.step A3.fr fun y hy => h2.2.2.1 y hy) (fun y hy => by
                    rcases A3.at_ y hy with h3 | h3
                    · exact h2.2.2.1 y h3
                    · right; omega)
                exact ⟨i + 1, a3, c3, out ++ one ((1 : Int), d), by omega, by go_num, by rw [List.length_append, e, List.length_append, hex4_length, hdl', Nat.add_assoc], h⟩
        · have b3 : (k == 1) = false := by simpa using hk1
          have hgood : bad (k, d) = 0 := by unfold bad; rw [if_neg (by simp only; omega), if_neg (by simp only; omega)]
          have hone : (one (k, d)).map bv = [.int .u8 48, .int .u8 48, .int .u8 48, .int .u8 (48 + k - 2)] := by
            unfold one
            rw [if_neg hk1]
            exact sign_bytes k (by omega)
          have hlen1 : (one (k, d)).length = 4 := by unfold one; rw [if_neg hk1, hex4_length]
          have ownA := ownsRow_fr H4.out.own ((Fr.refl [] wc).alloc (.cells #[.int .u8 48, .int .u8 48, .int .u8 48, .int .u8 (48 + k - 2)] 5)) (by simp)
          have cA : Cs (wc.alloc (.cells #[.int .u8 48, .int .u8 48, .int .u8 48, .int .u8 (48 + k - 2)] 5)) (some ⟨wc.heap.size, 0, none⟩) [.int .u8 48, .int .u8 48, .int .u8 48, .int .u8 (48 + k - 2)] :=
            .inr ⟨wc.heap.size, 0, rfl, fun j u hj => by rw [cell_of (alloc_at wc _)]; simpa using hj⟩
          have HG := Lib.hid (And.intro hgood (And.intro hone (And.intro hlen1 (And.intro ownA cA))))
          clear hgood hone hlen1 ownA cA
          go_wp2_with (refine wpList_append sliceU8 rfl _ _ rfl (.slice a out.length c) out.length (out.map bv) (blk a) rfl (by rw [own_blk]) HG.out.2.2.2.1 (some ⟨wc.heap.size, 0, none⟩) 4 4 [.int .u8 48, .int .u8 48, .int .u8 48, .int .u8 (48 + k - 2)] rfl (by decide) (by simp) HG.out.2.2.2.2 (by rfl) (by simp [Value.oneCell']) (by omega) (by unfold maxLen; omega) ?_; intro a2 c2 w2 A1)
          go_roundg (N - (i + 1))
          case measure => omega
          case rel =>
            have hl := HG.out.2.2.1
            have A1 : Appended (wc.alloc (.cells #[.int .u8 48, .int .u8 48, .int .u8 48, .int .u8 (48 + k - 2)] 5)) w2 5 1 (blk a) a2 (out.length + 4) c2 (out.map bv ++ (one (k, d)).map bv) := by rw [HG.out.2.1]; exact A1
            have h := (H4.out.fr0 ((Fr.refl [] wc).alloc (.cells #[.int .u8 48, .int .u8 48, .int .u8 48, .int .u8 (48 + k - 2)] 5))).more HX4.out.1 HG.out.1 (by rw [hl]) A1.own A1.fr (fun y hy => (A1.at_ y hy).imp id fun h => Nat.le_of_eq h.symm)
            exact ⟨i + 1, a2, c2, out ++ one (k, d), by omega, by go_num, by rw [List.length_append, hl], h⟩
    · have hk : gk = 0 := by omega
      clear hin
      go_wp2_with (go_at_call 18; refine (clip_any a out.length c _ hoc hcm).mono ?_; rintro e w2 ⟨rfl, hw⟩; obtain rfl := hw.symm)
      go_ret2
      exact H.out.done (by rw [List.length_map, ← HN.out]; omega)
end Go.Proofs.Yteldakjhnifbpaa.pkt
