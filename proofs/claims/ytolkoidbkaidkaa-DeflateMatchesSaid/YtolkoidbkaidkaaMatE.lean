/-
  deflate.Matches: its memory (the map of heads, the row of places before), and the closure that enters a place.
-/
import Derived.Test.YtolkoidbkaidkaaMat
import Derived.Maps.OwnOps
import Derived.Maps.OwnSet
import Derived.WalkMore
namespace Go.Proofs.Ytolkoidbkaidkaa.mat
open Go Go.RowKit Go.Proofs.Ytolkoidbkaidkaa.lib Go.Proofs.Ytolkoidbkaidkaa.bm

theorem und_u32 : Try.prog.underlying 37 = some (.int .u32) := by kernel_rfl
theorem und_int : Try.prog.underlying 3 = some (.int .i64) := by kernel_rfl
theorem und_map : Try.prog.underlying 35 = some (.map 37 3) := by kernel_rfl
theorem keyed_u32 : Maps.Keyed Try.prog 37 := Maps.int_keyed und_u32
theorem zero_int (w : World) : (zeroValue 3).run Try.prog w = .ok (.int .i64 0) w := by kernel_rfl
theorem wf_u32n {k : Nat} (h : k < 4294967296) : (Lit.int .u32 (k : Int)).wf = true := WalkArith.wf_u32 (by omega)
theorem wf_i64n {k : Int} (h : -9223372036854775808 ≤ k) (h2 : k ≤ 9223372036854775807) : (Lit.int .i64 k).wf = true := WalkArith.wf_i64 (by omega)
theorem key_u32 {k : Nat} (h : k < 4294967296) : keyOf Try.prog 37 (.int .u32 (k : Int)) = some (.int .u32 (k : Int)) := Maps.keyOf_int_mk und_u32 (wf_u32n h)
theorem cutAtN_map {a : Option Addr} {cap lo : Nat} (h : lo < cap) : cutAtN a cap lo 1 = Option.map (fun x => x.add lo) a := by
  unfold cutAtN
  rw [if_neg (by omega), Nat.mul_one]
/-- What the map says of a key: a place, if there is one. -/
def pq : Option Nat → Int × Bool
  | none => (0, false)
  | some p => ((p : Int), true)
/-- What stands in the row of places before. -/
def pv (b : List UInt8) (j : Nat) : Int := match last b j (three b j) with
  | none => -1
  | some p => (p : Int)
def MapOk (b : List UInt8) (i : Nat) (D : DataW Unit) : Prop :=
  Maps.IsMap D ∧ ∀ k : Nat, k < 4294967296 → D.atKey (.int .u32 (k : Int)) (.lit (.int .i64 0)) = .lit (.int .i64 (pq (last b i k)).1) ∧ Maps.has D (.int .u32 (k : Int)) = (pq (last b i k)).2
theorem mapOk_start (b : List UInt8) : MapOk b 0 (.map []) := ⟨Maps.isMap_empty, fun k _ => ⟨rfl, rfl⟩⟩
theorem MapOk.put {b : List UInt8} {i : Nat} {D : DataW Unit} (h : MapOk b i D) (hi : i + 3 ≤ b.length) : MapOk b (i + 1) (D.put (.int .u32 (three b i : Nat)) (.lit (.int .i64 (i : Int)))) := by
  refine ⟨h.1.put _ _, fun k hk => ?_⟩
  by_cases he : three b i = k
  · have hl : last b (i + 1) k = some i := by rw [last, if_pos ⟨hi, he⟩]
    rw [hl, he]
    have hkl : WideAt.IsKeyLit (.int .u32 (k : Int)) := by first | trivial | exact wf_u32n hk | simp [WideAt.IsKeyLit]
    exact ⟨Maps.atKey_put_same h.1 hkl _ _, Maps.has_put_same h.1 hkl _⟩
  · have hl : last b (i + 1) k = last b i k := by rw [last, if_neg (fun hc => he hc.2)]
    have hne : (Lit.int .u32 (k : Int)) ≠ .int .u32 (three b i : Nat) := by
      intro e
      simp only [Lit.int.injEq, true_and] at e
      omega
    rw [hl, Maps.atKey_put_other hne, Maps.has_put_other hne]
    exact h.2 k hk
theorem MapOk.skip {b : List UInt8} {i : Nat} {D : DataW Unit} (h : MapOk b i D) (hi : ¬ i + 3 ≤ b.length) : MapOk b (i + 1) D := by
  refine ⟨h.1, fun k hk => ?_⟩
  rw [last, if_neg (fun hc => hi hc.1)]
  exact h.2 k hk
theorem ownsMap_block {H : Type} {P : Program} {w w' : World} {k : TypeId} {R : Value → Option (DataW H × List MemPlace)} {m n : Nat} {D : DataW H} (h : w.ownsMap P k R m n D) (hb : w'.heap[m]? = w.heap[m]?) : w'.ownsMap P k R m n D := by
  obtain ⟨es, c, h1, r⟩ := h
  exact ⟨es, c, hb.trans h1, r⟩
theorem map_look {b : List UInt8} {i bm cnt : Nat} {D : DataW Unit} {w : World} (h : w.ownsMap Try.prog 37 (plainElem Try.prog 3) bm cnt D) (hm : MapOk b i D) {k : Nat} (hk : k < 4294967296) :
    (Instr.lookup 35 (.map (some bm)) (.int .u32 (k : Int)) true).run Try.prog w = .ok (.tuple #[.int .i64 (pq (last b i k)).1, .bool (pq (last b i k)).2]) w := by
  obtain ⟨v, ps, hrun, hv⟩ := h.look_ok keyed_u32 und_map (zero_int w) (plainElem_int und_int (by decide)) (key_u32 hk)
  obtain ⟨ha, hh⟩ := hm.2 k hk
  obtain ⟨c, rfl, hc, _⟩ := plainElem_int_inv und_int hv
  simp only [Prod.mk.injEq] at hc
  rw [ha] at hc
  have e : c = (pq (last b i k)).1 := by simpa using hc.1.symm
  rw [hrun, hh, e]
def pd : Option Nat → Int
  | none => -1
  | some p => (p : Int)
theorem pv_pd (b : List UInt8) (j : Nat) : pv b j = pd (last b j (three b j)) := by unfold pv pd; rfl
/-- The blocks. -/
structure Eb (w : World) (b : List UInt8) (a : Option Addr) (cap qb qp qh bp bm cnt : Nat) (D : DataW Unit) (P : Array Value) : Prop where
  vb : w.heap[qb]? = some (.cells #[.slice a b.length cap] 22 (0, 0))
  vp : w.heap[qp]? = some (.cells #[.slice (some ⟨bp, 0, none⟩) b.length b.length] 36 (0, 0))
  vh : w.heap[qh]? = some (.cells #[.map (some bm)] 35 (0, 0))
  rd : Rd w a cap b
  map : w.ownsMap Try.prog 37 (plainElem Try.prog 3) bm cnt D
  row : w.heap[bp]? = some (.cells P 3 (0, 0))
  size : P.size = b.length
  np : qb ≠ bp ∧ qp ≠ bp ∧ qh ≠ bp ∧ bm ≠ bp
  nm : qb ≠ bm ∧ qp ≠ bm ∧ qh ≠ bm
  na : b ≠ [] → ∀ x ∈ blk a, x ≠ bp ∧ x ≠ bm
theorem Eb.fr {w w' : World} {b : List UInt8} {a : Option Addr} {cap qb qp qh bp bm cnt : Nat} {D : DataW Unit} {P : Array Value} (h : Eb w b a cap qb qp qh bp bm cnt D P) (f : Fr [] w w') : Eb w' b a cap qb qp qh bp bm cnt D P :=
  ⟨f.blk h.vb (by simp), f.blk h.vp (by simp), f.blk h.vh (by simp), h.rd.fr f, ownsMap_block h.map (f.block _ h.map.lt (by simp)), f.blk h.row (by simp), h.size, h.np, h.nm, h.na⟩
theorem Eb.store {w : World} {b : List UInt8} {a : Option Addr} {cap qb qp qh bp bm cnt : Nat} {D : DataW Unit} {P : Array Value} (h : Eb w b a cap qb qp qh bp bm cnt D P) (i : Nat) (v : Value) :
    Eb (w.setCell ⟨bp, i, none⟩ v) b a cap qb qp qh bp bm cnt D (P.setIfInBounds i v) ∧ Fr [bp] w (w.setCell ⟨bp, i, none⟩ v) := by
  have f : Fr [bp] w (w.setCell ⟨bp, i, none⟩ v) := (Fr.refl [bp] w).setCell (by simp) v
  obtain ⟨n1, n2, n3, n4⟩ := h.np
  exact ⟨⟨f.blk h.vb (by simpa using n1), f.blk h.vp (by simpa using n2), f.blk h.vh (by simpa using n3), rd_frE h.rd f (fun hb x hx => by simpa using (h.na hb x hx).1), ownsMap_block h.map (f.block _ h.map.lt (by simpa using n4)), setCell_of h.row v, by simp [h.size], h.np, h.nm, h.na⟩, f⟩
theorem Eb.put {w w' : World} {b : List UInt8} {a : Option Addr} {cap qb qp qh bp bm cnt cnt' : Nat} {D D' : DataW Unit} {P : Array Value} (h : Eb w b a cap qb qp qh bp bm cnt D P) (hm : w'.ownsMap Try.prog 37 (plainElem Try.prog 3) bm cnt' D') (hg : w.grownBy w' (some bm)) :
    Eb w' b a cap qb qp qh bp bm cnt' D' P ∧ Fr [bm] w w' := by
  have f : Fr [bm] w w' := (Fr.refl [bm] w).grown hg (fun k hk => by simp only [Option.some.injEq] at hk; simp [hk])
  obtain ⟨n1, n2, n3, n4⟩ := h.np
  obtain ⟨m1, m2, m3⟩ := h.nm
  exact ⟨⟨f.blk h.vb (by simpa using m1), f.blk h.vp (by simpa using m2), f.blk h.vh (by simpa using m3), rd_frE h.rd f (fun hb x hx => by simpa using (h.na hb x hx).2), hm, f.blk h.row (by simpa using (Ne.symm n4)), h.size, h.np, h.nm, h.na⟩, f⟩
/-- What is entered up to i. -/
def En (w : World) (b : List UInt8) (a : Option Addr) (cap qb qp qh bp bm i : Nat) : Prop :=
  ∃ D P cnt, Eb w b a cap qb qp qh bp bm cnt D P ∧ cnt ≤ i ∧ MapOk b i D ∧ ∀ j, j < i → j + 3 ≤ b.length → P[j]? = some (.int .i64 (pv b j))
theorem En.fr {w w' : World} {b : List UInt8} {a : Option Addr} {cap qb qp qh bp bm i : Nat} (h : En w b a cap qb qp qh bp bm i) (f : Fr [] w w') : En w' b a cap qb qp qh bp bm i := by
  obtain ⟨D, P, cnt, h1, r⟩ := h
  exact ⟨D, P, cnt, h1.fr f, r⟩
theorem En.skip {w : World} {b : List UInt8} {a : Option Addr} {cap qb qp qh bp bm i : Nat} (h : En w b a cap qb qp qh bp bm i) (hi : ¬ i + 3 ≤ b.length) : En w b a cap qb qp qh bp bm (i + 1) := by
  obtain ⟨D, P, cnt, h1, h2, h3, h4⟩ := h
  exact ⟨D, P, cnt, h1, by omega, h3.skip hi, fun j hj hj2 => h4 j (by omega) hj2⟩
set_option maxRecDepth 100000 in
set_option maxHeartbeats 1000000 in
theorem enter_any (b : List UInt8) (a : Option Addr) (cap qb qp qh bp bm i : Nat) (w : World) (h : En w b a cap qb qp qh bp bm i) (hi : i < b.length) (hlen : b.length ≤ 100000) :
    Calls Try.prog 11 #[.int .i64 i, .pointer (some ⟨qb, 0, none⟩), .pointer (some ⟨qp, 0, none⟩), .pointer (some ⟨qh, 0, none⟩)] w fun e w' =>
      e = .returned (.tuple #[]) ∧ Fr [bp, bm] w w' ∧ En w' b a cap qb qp qh bp bm (i + 1) := by
  by_cases h3 : i + 3 ≤ b.length
  · obtain ⟨D, P, cnt, E, hcnt, hmap, hrow⟩ := h
    obtain ⟨L, hL⟩ : ∃ L, L = b.length := ⟨_, rfl⟩
    have cb := cell_of E.vb 0
    simp only [List.getElem?_toArray, List.getElem?_cons_zero] at cb
    have hle := E.rd.le
    have hth := three_any (cutAtN a cap i 1) (cap - i) (b.drop i) w (E.rd.drop i (by omega)) (by rw [List.length_drop]; omega)
    rw [List.length_drop, three_drop, cutAtN_map (by omega)] at hth
    have hkl := three_lt b i
    obtain ⟨ha, hh⟩ := hmap.2 _ hkl
    have hpv : ∀ p, last b i (three b i) = some p → pv b i = p := fun p hp => by unfold pv; rw [hp]
    have hpn : last b i (three b i) = none → pv b i = -1 := fun hp => by unfold pv; rw [hp]
    rw [← hL] at cb hi h3 hle hlen hth
    have HM := Lib.hid (And.intro E (And.intro hmap (And.intro hrow hL)))
    have HP := Lib.hid (And.intro hpv hpn)
    obtain ⟨k, hk⟩ : ∃ k, k = three b i := ⟨_, rfl⟩
    rw [← hk] at hkl ha hh hth
    have HT := Lib.hid hth
    have hkey := key_u32 hkl
    have HK := Lib.hid hk
    have HL : Hid (L = b.length) := HM.out.2.2.2 |> Lib.hid
    clear hth hpv hpn hL E hmap hrow hk
    have d0 : decide ((L : Int) < (i : Int) + 3) = false := by simp; omega
    go_enter Try.func11, Try.ntmps11
    go_upto_region 2 with (go_at_call 12; (with_reducible refine HT.out.mono ?_); rintro e w1 ⟨rfl, n1, hw1⟩; have HW1 := Lib.hid hw1; clear hw1)
    have E1 : Eb w1 b a cap qb qp qh bp bm cnt D P := HM.out.1.fr (by rw [HW1.out]; exact Fr.drewN [] w n1)
    have cp := cell_of E1.vp 0
    simp only [List.getElem?_toArray, List.getElem?_cons_zero] at cp
    rw [← HL.out] at cp
    have hz1 := frozen_of E1.row i
    have hpl : i < P.size := by rw [E1.size, ← HL.out]; exact hi
    obtain ⟨x0, hx0⟩ : ∃ x, w1.cell? ⟨bp, i, none⟩ = some x := ⟨P[i], by rw [cell_of E1.row]; exact Array.getElem?_eq_getElem hpl⟩
    have HE1 := Lib.hid (And.intro E1 hpl)
    clear E1 hpl cb
    go_upto_region 3 with fail
    obtain ⟨E2, f2⟩ := HE1.out.1.store i (.int .i64 (-1))
    generalize hw2 : w1.setCell ⟨bp, i, none⟩ (.int .i64 (-1)) = w2 at *
    have ch := cell_of E2.vh 0
    simp only [List.getElem?_toArray, List.getElem?_cons_zero] at ch
    have hown := E2.map
    have HE2 := Lib.hid (And.intro E2 f2)
    clear hw2 E2 f2 cp hz1 hx0
    have hcm : cnt < maxLen := by unfold maxLen; omega
    have HWF : Hid ((Lit.int .i64 (i : Int)).wf = true) := Lib.hid (wf_i64n (by omega) (by omega))
    cases hq : last b i k with
    | none =>
      rw [hq] at hh
      have hq' : last b i (three b i) = none := by rw [← HK.out]; exact hq
      have HQ := Lib.hid hq'
      simp only [pq] at hh
      clear hq hq' ha
      go_upto_region 6 with (at_lookup; refine wpList_lookup_own_ok_int _ rfl _ _ 35 rfl 37 3 .i64 keyed_u32 und_map und_int (zero_int _) bm cnt D rfl hown _ (.int .u32 (k : Int)) rfl hkey ?_; intro c hat _; rw [hh]; clear hat)
      go_wp2_with (at_mapUpdate; refine wpList_mapUpdate_own _ rfl _ _ _ 35 rfl 37 3 keyed_u32 und_map _ bm cnt D rfl hown hcm _ _ (.int .u32 (k : Int)) rfl rfl hkey _ [] (plainElem_int und_int (a := (i : Int)) HWF.out) ?_; intro w3 hown3 hgrow3)
      go_end0
      obtain ⟨E3, f3⟩ := HE2.out.1.put hown3 hgrow3
      refine ⟨rfl, ?_, _, _, _, E3, by omega, ?_, fun j hj hj2 => ?_⟩
      · have f1 : Fr [bp, bm] w w1 := by rw [HW1.out]; exact Fr.drewN [bp, bm] w n1
        exact (f1.step HE2.out.2 (fun y hy => .inl (by simp at hy; simp [hy]))).step f3 (fun y hy => .inl (by simp at hy; simp [hy]))
      · rw [HK.out]
        exact HM.out.2.1.put (by rw [← HL.out]; exact h3)
      · by_cases e : j = i
        · subst e
          rw [Array.getElem?_setIfInBounds_self_of_lt HE1.out.2, HP.out.2 HQ.out]
        · rw [Array.getElem?_setIfInBounds_ne (by omega)]
          exact HM.out.2.2.1 j (by omega) hj2
    | some p =>
      rw [hq] at hh ha
      have hq' : last b i (three b i) = some p := by rw [← HK.out]; exact hq
      have HQ := Lib.hid hq'
      simp only [pq] at hh ha
      have HA := Lib.hid ha
      clear hq hq' ha
      have cp := cell_of HE2.out.1.vp 0
      simp only [List.getElem?_toArray, List.getElem?_cons_zero] at cp
      rw [← HL.out] at cp
      have hz1 := frozen_of HE2.out.1.row i
      obtain ⟨x1, hx1⟩ : ∃ x, w2.cell? ⟨bp, i, none⟩ = some x := ⟨_, by rw [cell_of HE2.out.1.row]; exact Array.getElem?_setIfInBounds_self_of_lt HE1.out.2⟩
      go_upto_region 6 with (at_lookup; refine wpList_lookup_own_ok_int _ rfl _ _ 35 rfl 37 3 .i64 keyed_u32 und_map und_int (zero_int _) bm cnt D rfl hown _ (.int .u32 (k : Int)) rfl hkey ?_; intro c hat _; rw [hh]; have HC : Hid (c = (p : Int)) := Lib.hid (by rw [HA.out] at hat; simpa using hat.symm); clear hat)
      obtain ⟨E3, f3⟩ := HE2.out.1.store i (.int .i64 c)
      generalize hw3 : w2.setCell ⟨bp, i, none⟩ (.int .i64 c) = w3 at *
      have ch3 := cell_of E3.vh 0
      simp only [List.getElem?_toArray, List.getElem?_cons_zero] at ch3
      have hown3 := E3.map
      have HE3 := Lib.hid (And.intro E3 f3)
      clear hw3 E3 f3 cp hz1 hx1 hown ch
      go_wp2_with (at_mapUpdate; refine wpList_mapUpdate_own _ rfl _ _ _ 35 rfl 37 3 keyed_u32 und_map _ bm cnt D rfl hown3 hcm _ _ (.int .u32 (k : Int)) rfl rfl hkey _ [] (plainElem_int und_int (a := (i : Int)) HWF.out) ?_; intro w4 hown4 hgrow4)
      go_end0
      obtain ⟨E4, f4⟩ := HE3.out.1.put hown4 hgrow4
      refine ⟨rfl, ?_, _, _, _, E4, by omega, ?_, fun j hj hj2 => ?_⟩
      · have f1 : Fr [bp, bm] w w1 := by rw [HW1.out]; exact Fr.drewN [bp, bm] w n1
        exact ((f1.step HE2.out.2 (fun y hy => .inl (by simp at hy; simp [hy]))).step HE3.out.2 (fun y hy => .inl (by simp at hy; simp [hy]))).step f4 (fun y hy => .inl (by simp at hy; simp [hy]))
      · rw [HK.out]
        exact HM.out.2.1.put (by rw [← HL.out]; exact h3)
      · by_cases e : j = i
        · subst e
          rw [Array.getElem?_setIfInBounds_self_of_lt (by rw [Array.size_setIfInBounds]; exact HE1.out.2), HP.out.1 p HQ.out, HC.out]
        · rw [Array.getElem?_setIfInBounds_ne (by omega), Array.getElem?_setIfInBounds_ne (by omega)]
          exact HM.out.2.2.1 j (by omega) hj2
  · have hsk := h.skip h3
    obtain ⟨D, P, cnt, E, _⟩ := h
    have cb := cell_of E.vb 0
    simp only [List.getElem?_toArray, List.getElem?_cons_zero] at cb
    have HS := Lib.hid hsk
    clear hsk E
    have d0 : decide ((b.length : Int) < (i : Int) + 3) = true := by simp; omega
    go_enter Try.func11, Try.ntmps11
    go_wp2
    (try simp only [Exit.inBlock, Exit.then])
    refine bodyPost_ret (results_none rfl _ _ _) rfl ?_
    exact ⟨rfl, Fr.refl _ _, HS.out⟩
end Go.Proofs.Ytolkoidbkaidkaa.mat
