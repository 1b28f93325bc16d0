/-
  pkt.Unside.
-/
import Derived.Test.YteldakjhnifbpaaPktEnc
namespace Go.Proofs.Yteldakjhnifbpaa.pkt
open Go Go.RowKit Go.Proofs.Yteldakjhnifbpaa.lib Go.Proofs.Yteldakjhnifbpaa.bm

def Unsided (w : World) (l : List Ln) (e : Ending) (w' : World) : Prop :=
  ∃ (a b : Option Addr) (n m : Nat), e = .returned (.tuple #[.slice a n n, .slice b m m, .int .i64 (unside l [] []).2.2]) ∧ (unside l [] []).1.length = n ∧ (unside l [] []).2.1.length = m ∧
    Cs w' a ((unside l [] []).1.map bv) ∧ Cs w' b ((unside l [] []).2.1.map bv) ∧ Fr [] w w'
theorem unsided_of {w w' : World} {l : List Ln} {a b : Option Addr} {D M : List UInt8} {x : Nat} (h : unside l [] [] = (D, M, x)) (ha : Cs w' a (D.map bv)) (hb : Cs w' b (M.map bv)) (f : Fr [] w w') :
    Unsided w l (.returned (.tuple #[.slice a D.length D.length, .slice b M.length M.length, .int .i64 x])) w' := by
  unfold Unsided
  rw [h]
  exact ⟨a, b, _, _, rfl, rfl, rfl, ha, hb, f⟩
/-- Where the taking out stands. -/
structure Un (w wr : World) (l : List Ln) (i : Nat) (a : Option Addr) (c : Nat) (D : List UInt8) (b : Option Addr) (c' : Nat) (M : List UInt8) : Prop where
  ownD : wr.ownsRow 0 5 1 (.slice a D.length c) D.length (D.map bv)
  ownM : wr.ownsRow 0 5 1 (.slice b M.length c') M.length (M.map bv)
  fr : Fr [] w wr
  newD : ∀ x ∈ blk a, w.heap.size ≤ x
  newM : ∀ x ∈ blk b, w.heap.size ≤ x
  apart : ∀ x ∈ blk a, x ∉ blk b
  all : unside (l.drop i) D M = unside l [] []
  few : D.length + M.length + tot (l.drop i) ≤ tot l
theorem un_start (w : World) (l : List Ln) : Un w w l 0 none 0 [] none 0 [] := ⟨World.ownsRow_nil _ _ _ _, World.ownsRow_nil _ _ _ _, Fr.refl _ _, by simp [blk], by simp [blk], by simp [blk], rfl, by simp⟩
theorem Un.fr0 {w wr wz : World} {l : List Ln} {i : Nat} {a b : Option Addr} {c c' : Nat} {D M : List UInt8} (h : Un w wr l i a c D b c' M) (f : Fr [] wr wz) : Un w wz l i a c D b c' M :=
  ⟨ownsRow_fr h.ownD f (by simp), ownsRow_fr h.ownM f (by simp), h.fr.trans f, h.newD, h.newM, h.apart, h.all, h.few⟩
theorem drop_at {α : Type} {l : List α} {i : Nat} {x : α} (hx : l[i]? = some x) : l.drop i = x :: l.drop (i + 1) := by
  obtain ⟨hi, e⟩ := List.getElem?_eq_some_iff.1 hx
  rw [List.drop_eq_getElem_cons hi, e]
theorem Un.moreD {w w1 w2 : World} {l : List Ln} {i : Nat} {a a2 b : Option Addr} {c c2 c' n : Nat} {D M t : List UInt8} (h : Un w w1 l i a c D b c' M) (hx : l[i]? = some ((1 : Int), (1 : UInt8) :: t)) (hn : D.length + t.length = n)
    (A : Appended w1 w2 5 1 (blk a) a2 n c2 (D.map bv ++ t.map bv)) : Un w w2 l (i + 1) a2 c2 (D ++ t) b c' M := by
  have e1 := h.all
  have e2 := h.few
  rw [drop_at hx] at e1 e2
  simp only [tot, List.length_cons] at e2
  have e3 : unside (((1 : Int), (1 : UInt8) :: t) :: l.drop (i + 1)) D M = unside (l.drop (i + 1)) (D ++ t) M := by simp [unside]
  rw [e3] at e1
  have hM : ∀ y ∈ blk b, y ∉ blk a := fun y hy hya => h.apart y hya hy
  refine ⟨by rw [List.length_append, hn, List.map_append]; exact A.own, ownsRow_fr h.ownM A.fr (fun x hx => hM x (by rw [← own_blk b M.length c', hx]; simp)), h.fr.step A.fr fun y hy => .inr (h.newD y hy), fun y hy => ?_, h.newM, fun y hy hyb => ?_, e1, by rw [List.length_append]; omega⟩
  · rcases A.at_ y hy with h1 | h1
    · exact h.newD y h1
    · have := h.fr.size; omega
  · rcases A.at_ y hy with h1 | h1
    · exact h.apart y h1 hyb
    · have := owns_lt h.ownM (blk_own hyb); omega
theorem Un.moreM {w w1 w2 : World} {l : List Ln} {i : Nat} {a b b2 : Option Addr} {c c2 c' n : Nat} {D M t : List UInt8} (h : Un w w1 l i a c D b c' M) (hx : l[i]? = some ((1 : Int), (2 : UInt8) :: t)) (hn : M.length + t.length = n)
    (A : Appended w1 w2 5 1 (blk b) b2 n c2 (M.map bv ++ t.map bv)) : Un w w2 l (i + 1) a c D b2 c2 (M ++ t) := by
  have e1 := h.all
  have e2 := h.few
  rw [drop_at hx] at e1 e2
  simp only [tot, List.length_cons] at e2
  have e3 : unside (((1 : Int), (2 : UInt8) :: t) :: l.drop (i + 1)) D M = unside (l.drop (i + 1)) D (M ++ t) := by simp [unside]
  rw [e3] at e1
  refine ⟨ownsRow_fr h.ownD A.fr (fun x hx => h.apart x (by rw [← own_blk a D.length c, hx]; simp)), by rw [List.length_append, hn, List.map_append]; exact A.own, h.fr.step A.fr fun y hy => .inr (h.newM y hy), h.newD, fun y hy => ?_, fun y hy hyb => ?_, e1, by rw [List.length_append]; omega⟩
  · rcases A.at_ y hy with h1 | h1
    · exact h.newM y h1
    · have := h.fr.size; omega
  · rcases A.at_ y hyb with h1 | h1
    · exact h.apart y hy h1
    · have := owns_lt h.ownD (blk_own hy); omega
theorem Un.bad {w wr : World} {l : List Ln} {i : Nat} {a b : Option Addr} {c c' : Nat} {D M : List UInt8} (h : Un w wr l i a c D b c' M) {k : Int} {d : List UInt8} (hx : l[i]? = some (k, d)) (hb : k ≠ 1 ∨ d = [] ∨ ∃ x t, d = x :: t ∧ x ≠ 1 ∧ x ≠ 2 ∧ x ≠ 3) : unside l [] [] = ([], [], 3) := by
  rw [← h.all, drop_at hx]
  by_cases hk : k = 1
  · subst hk
    rcases hb with hb | rfl | ⟨x, t, rfl, h1, h2, h3⟩
    · exact absurd rfl hb
    · simp [unside]
    · simp [unside, h1, h2, h3]
  · simp [unside, hk]
theorem Un.remote {w wr : World} {l : List Ln} {i : Nat} {a b : Option Addr} {c c' : Nat} {D M t : List UInt8} (h : Un w wr l i a c D b c' M) (hx : l[i]? = some ((1 : Int), (3 : UInt8) :: t)) : unside l [] [] = ([], t, 80) := by
  rw [← h.all, drop_at hx]
  simp [unside]
theorem Un.done {w wr : World} {l : List Ln} {i : Nat} {a b : Option Addr} {c c' : Nat} {D M : List UInt8} (h : Un w wr l i a c D b c' M) (hi : l.length ≤ i) : unside l [] [] = (D, M, 0) := by
  rw [← h.all, List.drop_eq_nil_of_le hi]
  rfl
set_option maxRecDepth 100000 in
set_option maxHeartbeats 4000000 in
theorem unside_all (ao : Option Addr) (cap : Nat) (ls : List Lv) (w : World) (L : Lines w ao cap ls) (hlim : tot (ls.map Lv.ln) ≤ 2199023255552) :
    Calls Try.prog 14 #[.slice ao ls.length cap] w (Unsided w (ls.map Lv.ln)) := by
  have hcap := L.max
  have hle := L.le
  have hls : ls.length ≤ 9223372036854775807 := by unfold maxLen at hcap; omega
  obtain ⟨N, hN⟩ : ∃ N, N = ls.length := ⟨_, rfl⟩
  have HN := Lib.hid hN
  have HL := Lib.hid L
  rw [← hN] at hls hle ⊢
  clear L hN
  go_enter Try.func14, Try.ntmps14
  go_wp2
  go_loopg [2, 3, 9] N (fun k s2 s3 s9 wr => ∃ i a c D b c' M, i + k = N ∧ s9 = .int .i64 (i : Nat) ∧ s2 = .slice a D.length c ∧ s3 = .slice b M.length c' ∧ Un w wr (ls.map Lv.ln) i a c D b c' M)
  case atStart => exact ⟨0, none, 0, [], none, 0, [], by omega, rfl, rfl, rfl, un_start w _⟩
  case round =>
    obtain ⟨i, a, c, D, b, c', M, hi, rfl, rfl, rfl, h⟩ := hrel
    have H := Lib.hid h
    obtain ⟨_, _, he, hoc, hcm⟩ := owns_shape h.ownD
    simp only [Value.slice.injEq] at he
    obtain ⟨rfl, _, rfl⟩ := he
    obtain ⟨_, _, he, hoc', hcm'⟩ := owns_shape h.ownM
    simp only [Value.slice.injEq] at he
    obtain ⟨rfl, _, rfl⟩ := he
    have hfew := h.few
    clear h
    by_cases hin : i < N
    · have hil : i < ls.length := by have := HN.out; omega
      have hx : (ls.map Lv.ln)[i]? = some ls[i].ln := by simp [hil]
      obtain ⟨g, o, rfl, hc⟩ := HL.out.cs.at (by rw [lcells_length]; omega)
      obtain ⟨x0, x1⟩ := lcells_at ls i hil
      have c0 := H.out.fr.cell (hc _ _ x0) (by simp)
      have c1 := H.out.fr.cell (hc _ _ x1) (by simp)
      rw [← Nat.add_assoc] at c1
      have hok0 := HL.out.ok ls[i] (List.getElem_mem hil)
      have hok := hok0.fr H.out.fr
      generalize ls[i] = x at *
      have hxl : D.length + M.length + (x.bs.length + 4) ≤ tot (ls.map Lv.ln) := by
        have e3 := H.out.few
        rw [drop_at hx] at e3
        simp only [tot, Lv.ln] at e3 ⊢
        omega
      obtain ⟨k, xa, xc, d⟩ := x
      simp only [Lv.ln] at *
      have hdl := hok.le
      have hdn := hok.nil
      have hdm := hok.max
      simp only at hdl hdn hdm
      have hxa : ∀ y ∈ blk xa, d ≠ [] → y ∉ blk a ∧ y ∉ blk b := fun y hy hne => by
        have h1 := hok0.cs.lt (by simpa using hne)
        cases xa with
        | none => simp [blk] at hy
        | some z =>
          have h3 := h1 z rfl
          simp [blk] at hy
          exact ⟨fun h => by have := H.out.newD y h; omega, fun h => by have := H.out.newM y h; omega⟩
      have Hxa := Lib.hid hxa
      have HX := Lib.hid (And.intro hx hok.cs)
      have hDm : d.length ≤ 9223372036854775807 := by omega
      clear hc x0 x1 hx hok hok0 hxa
      go_upto_region 3 with fail
      go_cut [6] from 10 to 12 (fun s6 wz => ∃ q, s6 = .pointer (some ⟨q, 0, none⟩) ∧ wz.heap[q]? = some (.cells #[.int .i64 k, .slice xa d.length xc] 28 (0, 0)) ∧ Fr [] wr wz)
      case first =>
        go_wp2
        go_meet
        exact ⟨wr.heap.size, rfl, alloc_at wr _, (Fr.refl _ wr).alloc _⟩
      case rest =>
      clear c0 c1
      obtain ⟨q, rfl, hq, f4⟩ := hcut
      have c0 := cell_of hq 0
      have c1 := cell_of hq 1
      simp only [List.getElem?_toArray, List.getElem?_cons_zero, List.getElem?_cons_succ] at c0 c1
      have H4 := Lib.hid (H.out.fr0 f4)
      have hcsd := HX.out.2.fr f4 (by simp)
      have hxx := HX.out.1
      clear H HX f4 hq
      have hnil : ∀ wz : World, Cs wz none (([] : List UInt8).map bv) := fun wz => .inl rfl
      by_cases hk : k = 1
      · subst hk
        cases d with
        | nil =>
          have hu := unsided_of (a := none) (b := none) (H4.out.bad hxx (.inr (.inl rfl))) (hnil _) (hnil _) H4.out.fr
          have HU := Lib.hid hu
          clear hu hnil hcsd hxx
          go_wp2
          go_ret3
          exact HU.out
        | cons y t =>
          obtain ⟨g2, o2, rfl, hc⟩ := hcsd.at (by simp)
          have e0 := hc 0 (bv y) rfl
          rw [Nat.add_zero] at e0
          unfold bv at e0
          have hcut := hcsd.cut xc 1 (t.length + 1) (by omega) (by simp) (by simpa using hdl)
          rw [List.take_of_length_le (by simp), ← cutAtN_one] at hcut
          have HC := Lib.hid (show Cs wc (cutAtN (some ⟨g2, o2, none⟩) xc 1 1) (t.map bv) from hcut)
          simp only [List.length_cons] at hdl hDm hxl c1
          clear hc hcut hcsd hnil
          by_cases hy1 : y = 1
          · subst hy1
            go_wp2_with (first | (refine wpList_slice_from sliceU8 1 rfl _ _ rfl (some ⟨g2, o2, none⟩) (t.length + 1) xc _ rfl rfl rfl (by omega) (by omega) ?_) | (refine wpList_append sliceU8 rfl _ _ rfl (.slice a D.length c) D.length (D.map bv) (blk a) rfl (by rw [own_blk]) H4.out.ownD (cutAtN (some ⟨g2, o2, none⟩) xc 1 1) (t.length + 1 - 1) (xc - 1) (t.map bv) rfl (by omega) (fun e => by have := cutAtN_none e; cases this) HC.out (by simp) (bv_one _) (by omega) (by unfold maxLen; omega) ?_; intro a2 c2 w2 A1))
            go_roundg (N - (i + 1))
            case measure => omega
            case rel =>
              have h := H4.out.moreD hxx (n := D.length + (t.length + 1 - 1)) (by omega) A1
              exact ⟨i + 1, a2, c2, D ++ t, b, c', M, by omega, by go_num, by rw [List.length_append], rfl, h⟩
          · by_cases hy2 : y = 2
            · subst hy2
              go_wp2_with (first | (refine wpList_slice_from sliceU8 1 rfl _ _ rfl (some ⟨g2, o2, none⟩) (t.length + 1) xc _ rfl rfl rfl (by omega) (by omega) ?_) | (refine wpList_append sliceU8 rfl _ _ rfl (.slice b M.length c') M.length (M.map bv) (blk b) rfl (by rw [own_blk]) H4.out.ownM (cutAtN (some ⟨g2, o2, none⟩) xc 1 1) (t.length + 1 - 1) (xc - 1) (t.map bv) rfl (by omega) (fun e => by have := cutAtN_none e; cases this) HC.out (by simp) (bv_one _) (by omega) (by unfold maxLen; omega) ?_; intro a2 c2 w2 A1))
              go_roundg (N - (i + 1))
              case measure => omega
              case rel =>
                have h := H4.out.moreM hxx (n := M.length + (t.length + 1 - 1)) (by omega) A1
                exact ⟨i + 1, a, c, D, a2, c2, M ++ t, by omega, by go_num, rfl, by rw [List.length_append], h⟩
            · by_cases hy3 : y = 3
              · subst hy3
                have hcl := clone_any (cutAtN (some ⟨g2, o2, none⟩) xc 1 1) (xc - 1) t wc HC.out (by omega) (fun e => by have := cutAtN_none e; cases this) (by omega)
                unfold Copied at hcl
                go_wp2_with (first | (refine wpList_slice_from sliceU8 1 rfl _ _ rfl (some ⟨g2, o2, none⟩) (t.length + 1) xc _ rfl rfl rfl (by omega) (by omega) ?_) | (go_at_call 20; refine hcl.mono ?_; rintro e w1 ⟨a1, c1', rfl, k1, l1, m1, n1, b1, f1⟩) | (go_at_call 18; refine (clip_any a1 t.length c1' _ l1 m1).mono ?_; rintro e w2 ⟨rfl, hw⟩; obtain rfl := hw.symm))
                go_ret3
                exact unsided_of (a := none) (D := []) (H4.out.remote hxx) (.inl rfl) k1.cs (H4.out.fr.trans f1)
              · have hu := unsided_of (a := none) (b := none) (H4.out.bad hxx (.inr (.inr ⟨y, t, rfl, hy1, hy2, hy3⟩))) (.inl rfl) (.inl rfl) H4.out.fr
                have HU := Lib.hid hu
                have z1 : ((y.toNat : Int) == 1) = false := by
                  have : y.toNat ≠ 1 := fun h => hy1 (UInt8.toNat_inj.1 h)
                  simp; omega
                have z2 : ((y.toNat : Int) == 2) = false := by
                  have : y.toNat ≠ 2 := fun h => hy2 (UInt8.toNat_inj.1 h)
                  simp; omega
                have z3 : ((y.toNat : Int) == 3) = false := by
                  have : y.toNat ≠ 3 := fun h => hy3 (UInt8.toNat_inj.1 h)
                  simp; omega
                clear hu hxx
                go_wp2
                go_ret3
                exact HU.out
      · have hk' : (k == 1) = false := by simpa using hk
        have hu := unsided_of (a := none) (b := none) (H4.out.bad hxx (.inl hk)) (hnil _) (hnil _) H4.out.fr
        have HU := Lib.hid hu
        clear hu hnil hcsd hxx
        go_wp2
        go_ret3
        exact HU.out
    · have hk : gk = 0 := by omega
      have hd := H.out.done (by rw [List.length_map, ← HN.out]; omega)
      have hu := unsided_of hd (cs_of_owns H.out.ownD) (cs_of_owns H.out.ownM) H.out.fr
      have HU := Lib.hid hu
      clear hd hu hin
      go_wp2_with (first | (go_at_call 18; refine (clip_any a D.length c _ hoc hcm).mono ?_; rintro e w2 ⟨rfl, hw⟩; obtain rfl := hw.symm) | (go_at_call 18; refine (clip_any b M.length c' _ hoc' hcm').mono ?_; rintro e w2 ⟨rfl, hw⟩; obtain rfl := hw.symm))
      go_ret3
      exact HU.out
end Go.Proofs.Yteldakjhnifbpaa.pkt
