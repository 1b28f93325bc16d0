/-
  stemmaref2.Net: the document's net; New, Send, At, Take, Twice.
-/
import Derived.Test.YtmoiahgbenaihaaNet4
import Derived.Test.YtmoiahgbenaihaaOps2
import Derived.Laws.ResultCell
import Derived.Laws.Rows
namespace Go.Proofs.Ytmoiahgbenaihaa.net
open Go Go.RowKit Go.Proofs.Ytmoiahgbenaihaa.lib

def Gr.dcells (g : Gr) : List Value := [.int .i64 g.src, .int .i64 g.dst, .string (str g.bs)]
def dcellsOf : List Gr → List Value
  | [] => []
  | g :: r => g.dcells ++ dcellsOf r
theorem dcellsOf_append : ∀ a b : List Gr, dcellsOf (a ++ b) = dcellsOf a ++ dcellsOf b
  | [], b => rfl
  | g :: a, b => by simp only [List.cons_append, dcellsOf, dcellsOf_append a b, List.append_assoc]
theorem dcellsOf_length : ∀ a : List Gr, (dcellsOf a).length = a.length * 3
  | [] => rfl
  | g :: a => by simp only [dcellsOf, List.length_append, dcellsOf_length a, Gr.dcells, List.length_cons, List.length_nil]; omega
theorem dcellsOf_one : ∀ (a : List Gr), ∀ u ∈ dcellsOf a, u.oneCell' = true
  | [], u, h => by cases h
  | g :: a, u, h => by
    rcases List.mem_append.1 h with h | h
    · simp only [Gr.dcells, List.mem_cons, List.not_mem_nil, or_false] at h
      rcases h with rfl | rfl | rfl <;> rfl
    · exact dcellsOf_one a u h
theorem dcellsOf_at : ∀ (l : List Gr) (i : Nat) (h : i < l.length), (dcellsOf l)[i * 3]? = some (.int .i64 l[i].src) ∧ (dcellsOf l)[i * 3 + 1]? = some (.int .i64 l[i].dst) ∧ (dcellsOf l)[i * 3 + 2]? = some (.string (str l[i].bs))
  | g :: l, 0, h => ⟨rfl, rfl, rfl⟩
  | g :: l, i + 1, h => by
    have h' : i < l.length := by simpa using h
    have hs : ∀ k, (dcellsOf (g :: l))[(i + 1) * 3 + k]? = (dcellsOf l)[i * 3 + k]? := fun k => by
      simp only [dcellsOf]
      rw [List.getElem?_append_right (by simp [Gr.dcells]; omega)]
      congr 1
      simp [Gr.dcells]; omega
    have h0 := hs 0
    simp only [Nat.add_zero] at h0
    rw [h0, hs 1, hs 2]
    exact dcellsOf_at l i h'
theorem dcellsOf_take : ∀ (l : List Gr) (i : Nat), dcellsOf (l.take i) = (dcellsOf l).take (i * 3)
  | [], i => by simp [dcellsOf]
  | g :: l, 0 => by simp [dcellsOf]
  | g :: l, i + 1 => by
    rw [show (i + 1) * 3 = i * 3 + 1 + 1 + 1 from by omega]
    simp only [List.take_succ_cons, dcellsOf, dcellsOf_take l i, Gr.dcells, List.cons_append, List.nil_append]
theorem dcellsOf_drop : ∀ (l : List Gr) (i : Nat), dcellsOf (l.drop i) = (dcellsOf l).drop (i * 3)
  | [], i => by simp [dcellsOf]
  | g :: l, 0 => by simp [dcellsOf]
  | g :: l, i + 1 => by
    rw [show (i + 1) * 3 = i * 3 + 1 + 1 + 1 from by omega]
    simp only [List.drop_succ_cons, dcellsOf, dcellsOf_drop l i, Gr.dcells, List.cons_append, List.nil_append]

structure DtV (w : World) (p : Nat) (v : Value) (mtu most lost : Nat) (l : List Gr) : Prop where
  hr : w.heap[p]? = some (.cells #[.int .i64 mtu, .int .i64 most, .int .i64 lost, v] 48 (0, 0))
  own : w.ownsRow 0 42 3 v l.length (dcellsOf l)
  pb : v.ownBlock ≠ some p
  mostLe : most ≤ 1000
  len : l.length ≤ most
/-- The document's net, and the blocks that it lies in. -/
def Dt (w : World) (p : Nat) (F : List Nat) (mtu most lost : Nat) (l : List Gr) : Prop := ∃ v, DtV w p v mtu most lost l ∧ F = p :: v.ownBlock.toList
theorem dt_fr {w w' : World} {p : Nat} {F S : List Nat} {mtu most lost : Nat} {l : List Gr} (h : Dt w p F mtu most lost l) (f : Fr S w w') (hn : ∀ x ∈ F, x ∉ S) : Dt w' p F mtu most lost l := by
  obtain ⟨v, h, rfl⟩ := h
  exact ⟨v, ⟨f.blk h.hr (hn p (by simp)), ownsRow_fr h.own f (fun k hk => hn k (by simp [hk])), h.pb, h.mostLe, h.len⟩, rfl⟩
theorem dt_lt {w : World} {p : Nat} {F : List Nat} {mtu most lost : Nat} {l : List Gr} (h : Dt w p F mtu most lost l) : ∀ x ∈ F, x < w.heap.size := by
  obtain ⟨v, h, rfl⟩ := h
  intro x hx
  simp only [List.mem_cons] at hx
  rcases hx with rfl | hx
  · exact lt_of_block h.hr
  · exact owns_lt h.own (by simpa using hx)
theorem dt_mem {w : World} {p : Nat} {F : List Nat} {mtu most lost : Nat} {l : List Gr} (h : Dt w p F mtu most lost l) : p ∈ F := by
  obtain ⟨v, h, rfl⟩ := h
  simp
theorem sliceGram : SliceTy Try.prog 46 42 (.agg #[.int .i64 0, .int .i64 0, .string ⟨#[]⟩]) 3 32 := SliceTy.of Try.underlying46 (by kernel_rfl) (by kernel_rfl) (by decide)

theorem mem_blk {ao : Option Addr} {len cap x : Nat} (e : (Value.slice ao len cap).ownBlock = some x) : x ∈ blk ao := by
  rw [← own_blk ao len cap, e]
  simp
/-! ### New -/
def DMade (mtu most : Nat) (w : World) (e : Ending) (w' : World) : Prop :=
  ∃ p, e = .returned (.tuple #[.pointer (some ⟨p, 0, none⟩), .int .i64 0]) ∧ Dt w' p [p] mtu most 0 [] ∧ Fr [] w w' ∧ w.heap.size ≤ p
set_option maxHeartbeats 1000000 in
theorem dnew_good (mtu most : Nat) (w : World) (h1 : 64 ≤ mtu) (h2 : mtu ≤ 1500) (h3 : 1 ≤ most) (h4 : most ≤ 1000) :
    Calls Try.prog 12 #[.int .i64 mtu, .int .i64 most] w (DMade mtu most w) := by
  have g1 : decide ((mtu : Int) < 64) = false := by simp; omega
  have g2 : decide ((1500 : Int) < mtu) = false := by simp; omega
  have g3 : decide ((most : Int) < 1) = false := by simp; omega
  have g4 : decide ((1000 : Int) < most) = false := by simp; omega
  go_enter Try.func12, Try.ntmps12
  go_wp2
  go_ret2
  exact ⟨w.heap.size, rfl, ⟨.slice none 0 0, ⟨alloc_at _ _, World.ownsRow_nil _ _ _ _, by simp [Value.ownBlock], h4, by simp⟩, by simp [Value.ownBlock]⟩, (Fr.refl _ w).alloc _, Nat.le_refl _⟩
theorem dnew_bad (mtu most : Int) (w : World) (h : mtu < 64 ∨ 1500 < mtu ∨ most < 1 ∨ 1000 < most) :
    Calls Try.prog 12 #[.int .i64 mtu, .int .i64 most] w fun e w' => e = .returned (.tuple #[.pointer none, .int .i64 1]) ∧ w' = w := by
  by_cases h1 : mtu < 64
  · have g1 : decide (mtu < 64) = true := by simp; omega
    go_enter Try.func12, Try.ntmps12
    go_wp2
    go_ret2
    exact ⟨rfl, rfl⟩
  · have g1 : decide (mtu < 64) = false := by simp; omega
    by_cases h2 : 1500 < mtu
    · have g2 : decide (1500 < mtu) = true := by simp; omega
      go_enter Try.func12, Try.ntmps12
      go_wp2
      go_ret2
      exact ⟨rfl, rfl⟩
    · have g2 : decide (1500 < mtu) = false := by simp; omega
      by_cases h3 : most < 1
      · have g3 : decide (most < 1) = true := by simp; omega
        go_enter Try.func12, Try.ntmps12
        go_wp2
        go_ret2
        exact ⟨rfl, rfl⟩
      · have g3 : decide (most < 1) = false := by simp; omega
        have g4 : decide (1000 < most) = true := by simp; omega
        go_enter Try.func12, Try.ntmps12
        go_wp2
        go_ret2
        exact ⟨rfl, rfl⟩

/-! ### Send -/
theorem str_size (bs : List UInt8) : (str bs).size = bs.length := by simp [str, ByteArray.size]
theorem dsend_neg (p : Nat) (s t : Int) (v : Value) (w : World) (h : s < 0 ∨ t < 0) :
    Calls Try.prog 13 #[.pointer (some ⟨p, 0, none⟩), .int .i64 s, .int .i64 t, v] w fun e w' => e = .returned (.int .i64 1) ∧ w' = w := by
  by_cases h1 : s < 0
  · have g1 : decide (s < 0) = true := by simpa using h1
    go_enter Try.func13, Try.ntmps13
    go_wp2
    go_ret
    exact ⟨rfl, rfl⟩
  · have g1 : decide (s < 0) = false := by simpa using h1
    have g2 : decide (t < 0) = true := by simp; omega
    go_enter Try.func13, Try.ntmps13
    go_wp2
    go_ret
    exact ⟨rfl, rfl⟩
theorem dsend_long (p : Nat) (F : List Nat) (mtu most lost : Nat) (l : List Gr) (s t : Int) (bs : List UInt8) (w : World) (h : Dt w p F mtu most lost l) (hs : 0 ≤ s) (ht : 0 ≤ t) (hl : mtu < bs.length) (hlim : bs.length ≤ 9223372036854775807) :
    Calls Try.prog 13 #[.pointer (some ⟨p, 0, none⟩), .int .i64 s, .int .i64 t, .string (str bs)] w fun e w' => e = .returned (.int .i64 2) ∧ w' = w := by
  obtain ⟨v, h, rfl⟩ := h
  have c0 := cell_of h.hr 0
  simp only [List.getElem?_toArray, List.getElem?_cons_zero] at c0
  clear h
  have hsz := str_size bs
  obtain ⟨z, hz⟩ : ∃ z, z = str bs := ⟨_, rfl⟩
  rw [← hz] at hsz ⊢
  clear hz
  have g1 : decide (s < 0) = false := by simp; omega
  have g2 : decide (t < 0) = false := by simp; omega
  have g3 : decide ((mtu : Int) < bs.length) = true := by simp; omega
  clear hs ht
  go_enter Try.func13, Try.ntmps13
  go_wp2
  go_ret
  exact ⟨rfl, rfl⟩
def DFull (p : Nat) (F : List Nat) (mtu most lost : Nat) (l : List Gr) (w : World) (e : Ending) (w' : World) : Prop :=
  e = .returned (.int .i64 60) ∧ Dt w' p F mtu most (lost + 1) l ∧ Fr F w w'
set_option maxHeartbeats 1000000 in
theorem dsend_full (p : Nat) (F : List Nat) (mtu most lost : Nat) (l : List Gr) (s t : Int) (bs : List UInt8) (w : World) (h : Dt w p F mtu most lost l) (hs : 0 ≤ s) (ht : 0 ≤ t) (hl : bs.length ≤ mtu) (hmt : mtu ≤ 1500) (hm : most ≤ l.length) (hlo : lost ≤ 1000000) :
    Calls Try.prog 13 #[.pointer (some ⟨p, 0, none⟩), .int .i64 s, .int .i64 t, .string (str bs)] w (DFull p F mtu most lost l w) := by
  obtain ⟨v, h, rfl⟩ := h
  obtain ⟨g, c, rfl, _, _⟩ := owns_shape h.own
  have c0 := cell_of h.hr 0
  have c1 := cell_of h.hr 1
  have c2 := cell_of h.hr 2
  have c3 := cell_of h.hr 3
  have f2 := frozen_of h.hr 2
  simp only [List.getElem?_toArray, List.getElem?_cons_zero, List.getElem?_cons_succ] at c0 c1 c2 c3
  have H := Lib.hid h
  clear h
  have hsz := str_size bs
  obtain ⟨z, hz⟩ : ∃ z, z = str bs := ⟨_, rfl⟩
  rw [← hz] at hsz ⊢
  clear hz
  have g1 : decide (s < 0) = false := by simp; omega
  have g2 : decide (t < 0) = false := by simp; omega
  have g3 : decide ((mtu : Int) < bs.length) = false := by simp; omega
  have g4 : decide ((most : Int) ≤ l.length) = true := by simp; omega
  clear hs ht
  go_enter Try.func13, Try.ntmps13
  go_upto_region 5 with fail
  go_quiet (fail)
  go_wp2
  go_ret
  have fr : Fr [p] w ((w.drewN nq).setCell ⟨p, 2, none⟩ (.int .i64 (lost + 1))) := ((Fr.refl [p] w).drewsN nq).setCell (by simp) _
  have h := H.out
  exact ⟨rfl, ⟨_, ⟨(setCell_of (w := w.drewN nq) h.hr _).trans rfl, ownsRow_fr h.own fr (fun k hk => by simp; rintro rfl; exact h.pb hk), h.pb, h.mostLe, h.len⟩, rfl⟩, fr.mono (by simp)⟩
def DSent (p : Nat) (F : List Nat) (mtu most lost : Nat) (l : List Gr) (g : Gr) (w : World) (e : Ending) (w' : World) : Prop :=
  e = .returned (.int .i64 0) ∧ ∃ F', Dt w' p F' mtu most lost (l ++ [g]) ∧ Fr F w w' ∧ ∀ x ∈ F', x ∈ F ∨ w.heap.size ≤ x
set_option maxHeartbeats 2000000 in
theorem dsend_good (p : Nat) (F : List Nat) (mtu most lost : Nat) (l : List Gr) (gr : Gr) (w : World) (h : Dt w p F mtu most lost l) (hs : 0 ≤ gr.src) (ht : 0 ≤ gr.dst) (hl : gr.bs.length ≤ mtu) (hmt : mtu ≤ 1500) (hm : l.length < most) :
    Calls Try.prog 13 #[.pointer (some ⟨p, 0, none⟩), .int .i64 gr.src, .int .i64 gr.dst, .string (str gr.bs)] w (DSent p F mtu most lost l gr w) := by
  obtain ⟨v, h, rfl⟩ := h
  obtain ⟨g, c, rfl, hc1, hc2⟩ := owns_shape h.own
  have c0 := cell_of h.hr 0
  have c1 := cell_of h.hr 1
  have c3 := cell_of h.hr 3
  simp only [List.getElem?_toArray, List.getElem?_cons_zero, List.getElem?_cons_succ] at c0 c1 c3
  have hmo := h.mostLe
  have H := Lib.hid h
  clear h
  have hd : dcellsOf [gr] = [.int .i64 gr.src, .int .i64 gr.dst, .string (str gr.bs)] := rfl
  have Hd := Lib.hid hd
  clear hd
  have hsz := str_size gr.bs
  generalize gr.src = s at *
  generalize gr.dst = t at *
  obtain ⟨L, hL⟩ : ∃ L, gr.bs.length = L := ⟨_, rfl⟩
  rw [hL] at hsz hl
  generalize str gr.bs = z at *
  clear hL
  have g1 : decide (s < 0) = false := by simp; omega
  have g2 : decide (t < 0) = false := by simp; omega
  have g3 : decide ((mtu : Int) < L) = false := by simp; omega
  have g4 : decide ((most : Int) ≤ l.length) = false := by simp; omega
  clear hs ht
  obtain ⟨S, hS⟩ : ∃ S, S = blk g := ⟨_, rfl⟩
  have hpS : p ∉ S := fun hx => H.out.pb (by rw [hS] at hx; exact blk_own hx)
  have HS := Lib.hid hS
  clear hS
  go_enter Try.func13, Try.ntmps13
  go_upto_region 5 with fail
  go_quiet (fail)
  obtain ⟨w0, hw0⟩ : ∃ w0, w0 = w.drewN nq := ⟨_, rfl⟩
  rw [← hw0]
  have fr0 : Fr [] w w0 := by rw [hw0]; exact (Fr.refl [] w).drewsN nq
  clear c0 c1 hw0
  have c3 := fr0.cell c3 (by simp)
  have ownA := ownsRow_fr H.out.own (fr0.alloc (.cells #[.int .i64 s, .int .i64 t, .string z] 42)) (by simp)
  have cA : Cs (w0.alloc (.cells #[.int .i64 s, .int .i64 t, .string z] 42)) (some ⟨w0.heap.size, 0, none⟩) [.int .i64 s, .int .i64 t, .string z] :=
    .inr ⟨w0.heap.size, 0, rfl, fun j u hj => by rw [cell_of (alloc_at w0 _)]; simpa using hj⟩
  go_wp2_with (refine wpList_append sliceGram rfl _ _ rfl (.slice g l.length c) l.length (dcellsOf l) S rfl (by rw [own_blk, HS.out]) ownA (some ⟨w0.heap.size, 0, none⟩) 1 1 [.int .i64 s, .int .i64 t, .string z] rfl (by decide) (by simp) cA (by rfl) (by simp [Value.oneCell']) (by omega) (by unfold maxLen; omega) ?_; intro ao2 cap2 w2 A1; have frB : Fr S w w2 := ((fr0.alloc _).mono (by simp)).trans A1.fr; have hb2 := frB.blk H.out.hr hpS; have d3 := cell_of hb2 3; have z3 := frozen_of hb2 3; simp only [List.getElem?_toArray, List.getElem?_cons_zero, List.getElem?_cons_succ] at d3; have Hb2 := Lib.hid hb2; clear hb2)
  go_ret
  have h := H.out
  have hsz0 := fr0.size
  have hlt := lt_of_block h.hr
  have hat : ∀ x ∈ blk ao2, x ∈ S ∨ w.heap.size ≤ x := fun x hx => (A1.at_ x hx).imp id fun h => by
    rw [h, World.size_alloc]
    omega
  have hnp : p ∉ blk ao2 := fun hx => by
    rcases hat p hx with h1 | h1
    · exact hpS h1
    · omega
  have fr4 : Fr (p :: S) w (w2.setCell ⟨p, 3, none⟩ (.slice ao2 (l.length + 1) cap2)) := (frB.mono (by simp; intro x hx; exact .inl (.inr hx))).setCell (by simp) _
  refine ⟨rfl, p :: (Value.slice ao2 (l.length + 1) cap2).ownBlock.toList, ⟨_, ⟨(setCell_of Hb2.out _).trans rfl, ?_, fun e => hnp (by rw [← own_blk ao2 (l.length + 1) cap2, e]; simp), h.mostLe, by rw [List.length_append]; simp; omega⟩, rfl⟩, fr4.mono ?_, fun y hy => ?_⟩
  · rw [List.length_append, dcellsOf_append, Hd.out]
    exact ownsRow_setCell_other A1.own (fun e => hnp (by rw [← own_blk ao2 (l.length + 1) cap2, e]; simp)) _
  · intro x hx
    rcases List.mem_cons.1 hx with rfl | hx
    · simp
    · simp only [List.mem_append, List.mem_cons, own_blk]
      exact .inl (.inr (by rw [← HS.out]; exact hx))
  · simp only [List.mem_cons, own_blk] at hy ⊢
    rcases hy with rfl | hy
    · exact .inl (.inl rfl)
    · rcases hat y hy with h3 | h3
      · exact .inl (.inr (by rw [← HS.out]; exact h3))
      · exact .inr h3

/-! ### At -/
def agg3 (g : Gr) : Value := .agg #[.int .i64 g.src, .int .i64 g.dst, .string (str g.bs)]
theorem infoGram : (Try.prog.info? 42).map (·.size) = some 3 := by kernel_rfl
theorem results_gram {fn : Func} {p u : Tmp} (h : fn.results = #[.cell p 42, .tmp u]) (tmps : Array Value) (w : World) (g : Nat) (cs : Array Value) (fr : Nat × Nat)
    (hp : tmps.getD p undef = .pointer (some ⟨g, 0, none⟩)) (hg : w.heap[g]? = some (.cells cs 42 fr)) (hs : cs.size = 3) :
    (results fn tmps).run Try.prog w = .ok (.tuple #[.agg cs, tmps.getD u undef]) w := by
  have hp' : tmps[p]?.getD undef = .pointer (some ⟨g, 0, none⟩) := by simpa using hp
  rw [results_cell_tmp h]
  have h1 := run_loadVar_row (P := Try.prog) w g 42 42 cs fr _ hg Try.underlying42 rfl (by rw [infoGram, hs])
  simp only [hp, asAddr, Sem.run_pure, Result.andThen_ok, h1]
set_option maxHeartbeats 1000000 in
theorem dat_bad (p : Nat) (F : List Nat) (mtu most lost : Nat) (l : List Gr) (i : Int) (w : World) (h : Dt w p F mtu most lost l) (hi : i < 0 ∨ l.length ≤ i) :
    Calls Try.prog 18 #[.pointer (some ⟨p, 0, none⟩), .int .i64 i] w fun e w' => e = .returned (.tuple #[agg3 ⟨0, 0, none, 0, []⟩, .bool false]) ∧ Fr [] w w' := by
  obtain ⟨v, h, rfl⟩ := h
  obtain ⟨ao, cap, rfl, _, _⟩ := owns_shape h.own
  have c3 := cell_of h.hr 3
  simp only [List.getElem?_toArray, List.getElem?_cons_zero, List.getElem?_cons_succ] at c3
  clear h
  go_enter Try.func18, Try.ntmps18
  have fr : Fr [] w (w.alloc (.cells #[.int .i64 0, .int .i64 0, .string ⟨#[]⟩] 42)) := (Fr.refl [] w).alloc _
  have c3' := fr.cell c3 (by simp)
  by_cases h0 : i < 0
  · have g1 : decide (i < 0) = true := by simpa using h0
    go_wp2
    (try simp only [Exit.inBlock, Exit.then])
    refine bodyPost_ret (results_gram rfl _ _ w.heap.size _ (0, 0) rfl (alloc_at w _) rfl) rfl ?_
    exact ⟨rfl, fr⟩
  · have g1 : decide (i < 0) = false := by simpa using h0
    have g2 : decide ((l.length : Int) ≤ i) = true := by simp; omega
    go_wp2
    (try simp only [Exit.inBlock, Exit.then])
    refine bodyPost_ret (results_gram rfl _ _ w.heap.size _ (0, 0) rfl (alloc_at w _) rfl) rfl ?_
    exact ⟨rfl, fr⟩
theorem dat_cells {w : World} {v : Value} {l : List Gr} (h : w.ownsRow 0 42 3 v l.length (dcellsOf l)) (i : Nat) (hi : i < l.length) :
    ∃ b c, v = .slice (some ⟨b, 0, none⟩) l.length c ∧ w.cell? ⟨b, i * 3, none⟩ = some (.int .i64 l[i].src) ∧ w.cell? ⟨b, i * 3 + 1, none⟩ = some (.int .i64 l[i].dst) ∧ w.cell? ⟨b, i * 3 + 2, none⟩ = some (.string (str l[i].bs)) := by
  obtain ⟨b, c, rfl⟩ : ∃ b c, v = .slice (some ⟨b, 0, none⟩) l.length c := by
    rcases h.2 with ⟨h2, h3⟩ | ⟨g, cap, cur, rfl, _⟩
    · omega
    · exact ⟨g, cap, rfl⟩
  obtain ⟨x0, x1, x2⟩ := dcellsOf_at l i hi
  exact ⟨b, c, rfl, (h.cellAt (i * 3) (by omega)).trans x0, (h.cellAt (i * 3 + 1) (by omega)).trans x1, (h.cellAt (i * 3 + 2) (by omega)).trans x2⟩
set_option maxHeartbeats 1000000 in
theorem dat_good (p : Nat) (F : List Nat) (mtu most lost : Nat) (l : List Gr) (i : Nat) (w : World) (h : Dt w p F mtu most lost l) (hi : i < l.length) :
    Calls Try.prog 18 #[.pointer (some ⟨p, 0, none⟩), .int .i64 i] w fun e w' => e = .returned (.tuple #[agg3 l[i], .bool true]) ∧ Fr [] w w' := by
  obtain ⟨v, h, rfl⟩ := h
  obtain ⟨b, c, rfl, d0, d1, d2⟩ := dat_cells h.own i hi
  have c3 := cell_of h.hr 3
  simp only [List.getElem?_toArray, List.getElem?_cons_zero, List.getElem?_cons_succ] at c3
  have hmo := h.mostLe
  have hle := h.len
  clear h
  unfold agg3
  generalize l[i].src = s at *
  generalize l[i].dst = t at *
  generalize str l[i].bs = z at *
  have fr : Fr [] w (w.alloc (.cells #[.int .i64 0, .int .i64 0, .string ⟨#[]⟩] 42)) := (Fr.refl [] w).alloc _
  have c3' := fr.cell c3 (by simp)
  have d0' := fr.cell d0 (by simp)
  have d1' := fr.cell d1 (by simp)
  have d2' := fr.cell d2 (by simp)
  have g1 : decide ((i : Int) < 0) = false := by simp
  have g2 : decide ((l.length : Int) ≤ i) = false := by simp; omega
  clear fr
  go_enter Try.func18, Try.ntmps18
  go_wp2
  (try simp only [Exit.inBlock, Exit.then])
  refine bodyPost_ret (results_gram rfl _ _ w.heap.size #[.int .i64 s, .int .i64 t, .string z] (0, 0) rfl (alloc_at w _) rfl) rfl ?_
  exact ⟨rfl, (Fr.refl _ w).alloc _⟩

/-! ### Twice -/
set_option maxHeartbeats 1000000 in
theorem dtwice_bad (p : Nat) (F : List Nat) (mtu most lost : Nat) (l : List Gr) (i : Int) (w : World) (h : Dt w p F mtu most lost l) (hi : i < 0 ∨ l.length ≤ i ∨ most ≤ l.length) :
    Calls Try.prog 16 #[.pointer (some ⟨p, 0, none⟩), .int .i64 i] w fun e w' => e = .returned (.bool false) ∧ Fr [] w w' := by
  have hgood := dat_good p F mtu most lost l i.toNat w h
  have hbad := dat_bad p F mtu most lost l i w h
  obtain ⟨v, h, rfl⟩ := h
  obtain ⟨g, c, rfl, _, _⟩ := owns_shape h.own
  have c1 := cell_of h.hr 1
  have c3 := cell_of h.hr 3
  simp only [List.getElem?_toArray, List.getElem?_cons_zero, List.getElem?_cons_succ] at c1 c3
  clear h
  go_enter Try.func16, Try.ntmps16
  go_upto_region 1 with fail
  by_cases h0 : i < 0 ∨ l.length ≤ i
  · go_cut [6] (fun s6 wz => s6 = .bool false ∧ Fr [] w wz)
    case first =>
      have hb := hbad h0
      clear hbad hgood
      go_wp2_with (go_at_call 18; refine hb.mono ?_; unfold agg3; rintro e w1 ⟨rfl, f1⟩)
      go_meet
      exact ⟨rfl, f1.alloc _⟩
    case rest =>
    clear hbad hgood
    obtain ⟨rfl, f1⟩ := hcut
    clear c1 c3
    go_upto_region 2 with fail
    go_quiet (fail)
    go_wp2
    go_ret
    exact ⟨rfl, f1.drewsN _⟩
  · have hm : most ≤ l.length := by omega
    obtain ⟨i, rfl⟩ : ∃ k : Nat, i = k := ⟨i.toNat, by omega⟩
    have hb := hgood (by omega)
    have g3 : decide ((most : Int) ≤ l.length) = true := by simpa using hm
    go_cut [6] (fun s6 wz => s6 = .bool true ∧ Fr [] w wz)
    case first =>
      clear hbad hgood
      simp only [Int.toNat_natCast] at hb
      go_wp2_with (go_at_call 18; refine hb.mono ?_; unfold agg3; rintro e w1 ⟨rfl, f1⟩)
      go_meet
      exact ⟨rfl, f1.alloc _⟩
    case rest =>
    clear hbad hgood hb
    obtain ⟨rfl, f1⟩ := hcut
    have c1 := f1.cell c1 (by simp)
    have c3 := f1.cell c3 (by simp)
    go_upto_region 2 with fail
    go_quiet (fail)
    go_wp2
    go_ret
    exact ⟨rfl, f1.drewsN _⟩
def DDoubled (p : Nat) (F : List Nat) (mtu most lost : Nat) (l : List Gr) (g : Gr) (w : World) (e : Ending) (w' : World) : Prop :=
  e = .returned (.bool true) ∧ ∃ F', Dt w' p F' mtu most lost (l ++ [g]) ∧ Fr F w w' ∧ ∀ x ∈ F', x ∈ F ∨ w.heap.size ≤ x
set_option maxHeartbeats 2000000 in
theorem dtwice_good (p : Nat) (F : List Nat) (mtu most lost : Nat) (l : List Gr) (i : Nat) (w : World) (h : Dt w p F mtu most lost l) (hi : i < l.length) (hm : l.length < most) :
    Calls Try.prog 16 #[.pointer (some ⟨p, 0, none⟩), .int .i64 i] w (DDoubled p F mtu most lost l l[i] w) := by
  have hgood := dat_good p F mtu most lost l i w h hi
  obtain ⟨v, h, rfl⟩ := h
  obtain ⟨g, c, rfl, hc1, hc2⟩ := owns_shape h.own
  have c1 := cell_of h.hr 1
  have c3 := cell_of h.hr 3
  simp only [List.getElem?_toArray, List.getElem?_cons_zero, List.getElem?_cons_succ] at c1 c3
  have hmo := h.mostLe
  have H := Lib.hid h
  clear h
  generalize l[i] = gr at *
  have hd : dcellsOf [gr] = [.int .i64 gr.src, .int .i64 gr.dst, .string (str gr.bs)] := rfl
  have Hd := Lib.hid hd
  clear hd
  unfold agg3 at hgood
  generalize gr.src = s at *
  generalize gr.dst = t at *
  generalize str gr.bs = z at *
  obtain ⟨S, hS⟩ : ∃ S, S = blk g := ⟨_, rfl⟩
  have hpS : p ∉ S := fun hx => H.out.pb (by rw [hS] at hx; exact blk_own hx)
  have HS := Lib.hid hS
  clear hS
  have g3 : decide ((most : Int) ≤ l.length) = false := by simp; omega
  go_enter Try.func16, Try.ntmps16
  go_upto_region 1 with fail
  go_cut [5, 6] (fun s5 s6 wz => ∃ q, s5 = .pointer (some ⟨q, 0, none⟩) ∧ s6 = .bool true ∧ w.heap.size ≤ q ∧ wz.heap[q]? = some (.cells #[.int .i64 s, .int .i64 t, .string z] 42 (0, 0)) ∧ Fr [] w wz)
  case first =>
    go_wp2_with (go_at_call 18; refine hgood.mono ?_; rintro e w1 ⟨rfl, f1⟩)
    go_meet
    exact ⟨w1.heap.size, rfl, rfl, f1.size, alloc_at w1 _, f1.alloc _⟩
  case rest =>
  clear hgood
  obtain ⟨q, rfl, rfl, hq, hb, f1⟩ := hcut
  have c1 := f1.cell c1 (by simp)
  have c3 := f1.cell c3 (by simp)
  have q0 := cell_of hb 0
  have q1 := cell_of hb 1
  have q2 := cell_of hb 2
  simp only [List.getElem?_toArray, List.getElem?_cons_zero, List.getElem?_cons_succ] at q0 q1 q2
  have Hb := Lib.hid hb
  clear hb
  go_upto_region 2 with fail
  go_quiet (fail)
  obtain ⟨w0, hw0⟩ : ∃ w0, w0 = wc.drewN nq := ⟨_, rfl⟩
  rw [← hw0]
  have f2 : Fr [] wc w0 := by rw [hw0]; exact (Fr.refl [] wc).drewsN nq
  clear c1 hw0
  have c3 := f2.drew.cell c3 (by simp)
  have q0 := f2.drew.cell q0 (by simp)
  have q1 := f2.drew.cell q1 (by simp)
  have q2 := f2.drew.cell q2 (by simp)
  go_upto_region 4 with fail
  have hqS : q ∉ S := fun hx => by
    have := owns_lt H.out.own (blk_own (by rw [← HS.out]; exact hx))
    omega
  have cS : ∀ x, (sup S w0.drew x).cell? ⟨p, 3, none⟩ = some (.slice g l.length c) := fun x => by rw [cell?_sup (by rw [c3]; rfl) hpS]; exact c3
  have qS0 : ∀ x, (sup S w0.drew x).cell? ⟨q, 0, none⟩ = some (.int .i64 s) := fun x => by rw [cell?_sup (by rw [q0]; rfl) hqS]; exact q0
  have qS1 : ∀ x, (sup S w0.drew x).cell? ⟨q, 1, none⟩ = some (.int .i64 t) := fun x => by rw [cell?_sup (by rw [q1]; rfl) hqS]; exact q1
  have qS2 : ∀ x, (sup S w0.drew x).cell? ⟨q, 2, none⟩ = some (.string z) := fun x => by rw [cell?_sup (by rw [q2]; rfl) hqS]; exact q2
  clear c3 q0 q1 q2
  refine region_mix 8 [(false, 0), (false, 1), (false, 2), (false, 3), (false, 4), (false, 5), (true, 6), (true, 7)] S (by kernel_rfl) (by kernel_rfl) (fun _ _ d _ _ h => by cases d <;> exact h) ?_
  simp only [List.map_cons, List.map_nil, List.getD_cons_zero, List.getD_cons_succ, List.drop_succ_cons, List.drop_zero, List.drop_nil]
  refine mix_seg 6 rfl ?_
  simp only [List.take_succ_cons, List.take_zero, List.drop_succ_cons, List.drop_zero, List.map_cons, List.map_nil]
  repeat (go_big_quiet_step (fail))
  refine wpQuiet_nil ?_
  clear cS qS0 qS1 qS2
  refine mix_eff rfl ?_
  intro K hK
  go_wp2
  refine hK.out _ _ ((Fr.refl S w0.drew).alloc _) ?_
  clear hK K
  have frA : Fr [] w w0.drew := f1.trans f2.drew
  have ownA := ownsRow_fr H.out.own (frA.alloc (.cells #[.int .i64 s, .int .i64 t, .string z] 42)) (by simp)
  have cA : Cs (w0.drew.alloc (.cells #[.int .i64 s, .int .i64 t, .string z] 42)) (some ⟨w0.drew.heap.size, 0, none⟩) [.int .i64 s, .int .i64 t, .string z] :=
    .inr ⟨w0.drew.heap.size, 0, rfl, fun j u hj => by rw [cell_of (alloc_at w0.drew _)]; simpa using hj⟩
  refine mix_eff rfl ?_
  intro K hK
  refine wp_append sliceGram _ _ rfl (.slice g l.length c) l.length (dcellsOf l) S rfl (by rw [own_blk, HS.out]) ownA (some ⟨w0.drew.heap.size, 0, none⟩) 1 1 [.int .i64 s, .int .i64 t, .string z] rfl (by decide) (by simp) cA (by rfl) (by simp [Value.oneCell']) (by omega) (by unfold maxLen; omega) ?_
  intro ao2 cap2 w2 A1
  refine hK.out _ _ A1.fr ?_
  clear hK K
  have frB : Fr S w w2 := ((frA.alloc _).mono (by simp)).trans A1.fr
  have hb2 := frB.blk H.out.hr hpS
  have d3 := cell_of hb2 3
  have z3 := frozen_of hb2 3
  simp only [List.getElem?_toArray, List.getElem?_cons_zero, List.getElem?_cons_succ] at d3
  have hlt := lt_of_block H.out.hr
  have hsz : w.heap.size ≤ w0.heap.size := (f1.trans f2).size
  have hat : ∀ x ∈ blk ao2, x ∈ S ∨ w0.heap.size ≤ x := fun x hx => (A1.at_ x hx).imp id fun h => by
    rw [h]
    exact Nat.le_trans (Nat.le_succ _) (Nat.le_of_eq (World.size_alloc w0.drew _).symm)
  have Hat := Lib.hid hat
  have Hb2 := Lib.hid hb2
  clear hat hb2
  refine mix_nil ?_
  go_wp2
  go_ret
  have h := H.out
  have hnp : p ∉ blk ao2 := fun hx => by
    rcases Hat.out p hx with h1 | h1
    · exact hpS h1
    · omega
  have fr4 : Fr (p :: S) w (w2.setCell ⟨p, 3, none⟩ (.slice ao2 (l.length + 1) cap2)) := (frB.mono (by simp; intro x hx; exact .inl (.inr hx))).setCell (by simp) _
  refine ⟨rfl, p :: (Value.slice ao2 (l.length + 1) cap2).ownBlock.toList, ⟨_, ⟨(setCell_of Hb2.out _).trans rfl, ?_, fun e => hnp (by rw [← own_blk ao2 (l.length + 1) cap2, e]; simp), h.mostLe, by rw [List.length_append]; simp; omega⟩, rfl⟩, fr4.mono ?_, fun y hy => ?_⟩
  · rw [List.length_append, dcellsOf_append, Hd.out]
    exact ownsRow_setCell_other A1.own (fun e => hnp (by rw [← own_blk ao2 (l.length + 1) cap2, e]; simp)) _
  · intro x hx
    rcases List.mem_cons.1 hx with rfl | hx
    · simp
    · simp only [List.mem_append, List.mem_cons, own_blk]
      exact .inl (.inr (by rw [← HS.out]; exact hx))
  · simp only [List.mem_cons, own_blk] at hy ⊢
    rcases hy with rfl | hy
    · exact .inl (.inl rfl)
    · rcases Hat.out y hy with h3 | h3
      · exact .inl (.inr (by rw [← HS.out]; exact h3))
      · right; omega

/-! ### Take -/
set_option maxHeartbeats 1000000 in
theorem dtake_bad (p : Nat) (F : List Nat) (mtu most lost : Nat) (l : List Gr) (i : Int) (w : World) (h : Dt w p F mtu most lost l) (hi : i < 0 ∨ l.length ≤ i) :
    Calls Try.prog 14 #[.pointer (some ⟨p, 0, none⟩), .int .i64 i] w fun e w' => e = .returned (.tuple #[agg3 ⟨0, 0, none, 0, []⟩, .bool false]) ∧ Fr [] w w' := by
  have f0 : Fr [] w (w.alloc (.cells #[.int .i64 0, .int .i64 0, .string ⟨#[]⟩] 42)) := (Fr.refl [] w).alloc _
  have hbad := dat_bad p F mtu most lost l i _ (dt_fr h f0 (by simp)) hi
  have ha := alloc_at w (.cells #[.int .i64 0, .int .i64 0, .string ⟨#[]⟩] 42)
  clear h
  unfold agg3 at *
  rw [show str [] = ⟨#[]⟩ from rfl] at *
  go_enter Try.func14, Try.ntmps14
  go_upto_region 1 with fail
  go_cut [6, 7] (fun s6 s7 wz => ∃ q, s6 = .pointer (some ⟨q, 0, none⟩) ∧ s7 = .bool false ∧ w.heap.size < q ∧ wz.heap[q]? = some (.cells #[.int .i64 0, .int .i64 0, .string ⟨#[]⟩] 42 (0, 0)) ∧ wz.heap[w.heap.size]? = some (.cells #[.int .i64 0, .int .i64 0, .string ⟨#[]⟩] 42 (0, 0)) ∧ Fr [] w wz)
  case first =>
    go_wp2_with (go_at_call 18; refine hbad.mono ?_; rintro e w1 ⟨rfl, f1⟩)
    go_meet
    exact ⟨w1.heap.size, rfl, rfl, by have := f1.size; rw [World.size_alloc] at this; omega, alloc_at w1 _, (f1.alloc _).blk ha (by simp), (f0.trans f1).alloc _⟩
  case rest =>
  clear hbad f0 ha
  obtain ⟨q, rfl, rfl, hq, hb, ha, f1⟩ := hcut
  have q0 := cell_of hb 0
  have q1 := cell_of hb 1
  have q2 := cell_of hb 2
  have a0 := cell_of ha 0
  have a1 := cell_of ha 1
  have a2 := cell_of ha 2
  have z0 := frozen_of ha 0
  have z1 := frozen_of ha 1
  have z2 := frozen_of ha 2
  simp only [List.getElem?_toArray, List.getElem?_cons_zero, List.getElem?_cons_succ] at q0 q1 q2 a0 a1 a2
  generalize hk : w.heap.size = k at *
  have Hk := Lib.hid hk
  have Ha := Lib.hid ha
  clear hk ha hb
  go_wp2
  (try simp only [Exit.inBlock, Exit.then])
  have hbk : (((wc.setCell ⟨k, 0, none⟩ (.int .i64 0)).setCell ⟨k, 1, none⟩ (.int .i64 0)).setCell ⟨k, 2, none⟩ (.string ⟨#[]⟩)).heap[k]? = some (.cells #[.int .i64 0, .int .i64 0, .string ⟨#[]⟩] 42 (0, 0)) := (setCell_of (setCell_of (setCell_of Ha.out _) _) _).trans rfl
  refine bodyPost_ret (results_gram rfl _ _ k _ (0, 0) rfl hbk rfl) rfl ?_
  exact ⟨rfl, f1.step ((((Fr.refl [k] wc).setCell (by simp) _).setCell (by simp) _).setCell (by simp) _) fun x hx => .inr (by simp at hx; rw [hx, Hk.out]; exact Nat.le_refl _)⟩
def DTaken (p : Nat) (F : List Nat) (mtu most lost : Nat) (l : List Gr) (i : Nat) (g : Gr) (w : World) (e : Ending) (w' : World) : Prop :=
  e = .returned (.tuple #[agg3 g, .bool true]) ∧ ∃ F', Dt w' p F' mtu most lost (l.eraseIdx i) ∧ Fr F w w' ∧ ∀ x ∈ F', x ∈ F ∨ w.heap.size ≤ x
set_option maxHeartbeats 2000000 in
theorem dtake_good (p : Nat) (F : List Nat) (mtu most lost : Nat) (l : List Gr) (i : Nat) (w : World) (h : Dt w p F mtu most lost l) (hi : i < l.length) :
    Calls Try.prog 14 #[.pointer (some ⟨p, 0, none⟩), .int .i64 i] w (DTaken p F mtu most lost l i l[i] w) := by
  have f0 : Fr [] w (w.alloc (.cells #[.int .i64 0, .int .i64 0, .string ⟨#[]⟩] 42)) := (Fr.refl [] w).alloc _
  have hgood := dat_good p F mtu most lost l i _ (dt_fr h f0 (by simp)) hi
  have ha := alloc_at w (.cells #[.int .i64 0, .int .i64 0, .string ⟨#[]⟩] 42)
  obtain ⟨v, h, rfl⟩ := h
  obtain ⟨b, c, rfl, _, _, _⟩ := dat_cells h.own i hi
  obtain ⟨_, _, he, hc1, hc2⟩ := owns_shape h.own
  simp only [Value.slice.injEq] at he
  obtain ⟨_, _, rfl⟩ := he
  have c3 := cell_of h.hr 3
  simp only [List.getElem?_toArray, List.getElem?_cons_zero, List.getElem?_cons_succ] at c3
  have hmo := h.mostLe
  have hle := h.len
  have hpb : p ≠ b := fun e => h.pb (by simp [Value.ownBlock, e])
  have H := Lib.hid h
  clear h
  have hcap : c ≤ 9223372036854775807 := hc2
  unfold DTaken agg3 at *
  generalize l[i] = gr at *
  generalize gr.src = s at *
  generalize gr.dst = t at *
  generalize str gr.bs = z at *
  go_enter Try.func14, Try.ntmps14
  go_upto_region 1 with fail
  go_cut [6, 7] (fun s6 s7 wz => ∃ q, s6 = .pointer (some ⟨q, 0, none⟩) ∧ s7 = .bool true ∧ w.heap.size < q ∧ wz.heap[q]? = some (.cells #[.int .i64 s, .int .i64 t, .string z] 42 (0, 0)) ∧ wz.heap[w.heap.size]? = some (.cells #[.int .i64 0, .int .i64 0, .string ⟨#[]⟩] 42 (0, 0)) ∧ Fr [] w wz)
  case first =>
    clear hpb
    go_wp2_with (go_at_call 18; refine hgood.mono ?_; rintro e w1 ⟨rfl, f1⟩)
    go_meet
    exact ⟨w1.heap.size, rfl, rfl, by have := f1.size; rw [World.size_alloc] at this; omega, alloc_at w1 _, (f1.alloc _).blk ha (by simp), (f0.trans f1).alloc _⟩
  case rest =>
  clear hgood f0 ha
  obtain ⟨q, rfl, rfl, hq, hb, ha, f1⟩ := hcut
  have c3 := f1.cell c3 (by simp)
  have own1 := ownsRow_fr H.out.own f1 (by simp)
  obtain ⟨g, hg⟩ : ∃ g, g = some (⟨b, 0, none⟩ : Addr) := ⟨_, rfl⟩
  rw [← hg] at c3
  have hnews : Cs wc (cutAtN g c (i + 1) 3) (dcellsOf (l.drop (i + 1))) := by
    rw [hg]
    unfold cutAtN
    by_cases hc : c = i + 1
    · left
      rw [List.drop_eq_nil_of_le (by omega)]
      rfl
    · rw [if_neg hc]
      refine .inr ⟨b, 0 + (i + 1) * 3, rfl, fun j u hj => ?_⟩
      rw [dcellsOf_drop, List.getElem?_drop] at hj
      have hlt : (i + 1) * 3 + j < (dcellsOf l).length := (List.getElem?_eq_some_iff.1 hj).1
      have := own1.cellAt ((i + 1) * 3 + j) (by rw [dcellsOf_length] at hlt; omega)
      rw [Nat.zero_add, this, hj]
  have hfront : Cs wc g (dcellsOf (l.take i)) := by
    rw [hg]
    refine .inr ⟨b, 0, rfl, fun j u hj => ?_⟩
    rw [dcellsOf_take, List.getElem?_take] at hj
    split at hj
    · have hlt : j < (dcellsOf l).length := (List.getElem?_eq_some_iff.1 hj).1
      rw [Nat.zero_add, own1.cellAt j (by rw [dcellsOf_length] at hlt; omega), hj]
    · cases hj
  have hgn : g = none → c = 0 := fun e => by rw [hg] at e; cases e
  have Hn := Lib.hid hnews
  have Hf := Lib.hid hfront
  have Ha := Lib.hid ha
  have Hb := Lib.hid hb
  have F1 := Lib.hid f1
  have Hg := Lib.hid hg
  clear ha hb hnews hfront own1 f1 hg
  go_upto_region 4 with fail
  go_cut [8] (fun s8 wz => ∃ ao cap, s8 = .slice ao i cap ∧ Appended wc wz 42 3 [] ao i cap (dcellsOf (l.take i)))
  case first =>
    clear hpb
    go_wp2_with (first | (refine wpList_slice_to sliceGram i rfl _ _ rfl g l.length c _ rfl rfl rfl (by omega) ?_) | (refine wpList_append sliceGram rfl _ _ rfl (.slice none 0 0) 0 [] [] rfl rfl (World.ownsRow_nil _ _ _ _) g i c (dcellsOf (l.take i)) rfl (by omega) hgn Hf.out (by rw [dcellsOf_length, List.length_take, Nat.min_eq_left (by omega)]) (dcellsOf_one _) (by omega) (by unfold maxLen; omega) ?_; intro ao2 cap2 w2 A1))
    go_meet
    simp only [Nat.zero_add, List.nil_append] at A1 ⊢
    exact ⟨ao2, cap2, rfl, A1⟩
  case rest =>
  obtain ⟨ao2, cap2, rfl, A1⟩ := hcut
  have hl2 := A1.le
  have hm2 := A1.max
  have hn2 := A1.nil
  have hpn : p ∉ blk ao2 := fun hx => by
    have := A1.at_ p hx
    have h3 := lt_of_block H.out.hr
    have h4 := F1.out.size
    simp at this
    omega
  have c3 := A1.fr.cell c3 (by simp)
  have HA := Lib.hid A1
  clear A1
  go_upto_region 5 with fail
  go_cut [] (fun wz => ∃ ao3 cap3 wy, Appended wc wy 42 3 (blk ao2) ao3 (l.length - 1) cap3 (dcellsOf (l.eraseIdx i)) ∧ wz = wy.setCell ⟨p, 3, none⟩ (.slice ao3 (l.length - 1) cap3))
  case first =>
    go_wp2_with (first | (refine wpList_slice_from sliceGram (i + 1) rfl _ _ rfl g l.length c _ rfl rfl rfl (by omega) (by omega) ?_) | (refine wpList_append sliceGram rfl _ _ rfl (.slice ao2 i cap2) i (dcellsOf (l.take i)) (blk ao2) rfl (own_blk _ _ _) HA.out.own (cutAtN g c (i + 1) 3) (l.length - (i + 1)) (c - (i + 1)) (dcellsOf (l.drop (i + 1))) rfl (by omega) (fun e => by have := hgn (cutAtN_none e); omega) (Hn.out.fr HA.out.fr (by simp)) (by rw [dcellsOf_length, List.length_drop]) (dcellsOf_one _) (by omega) (by unfold maxLen; omega) ?_; intro ao3 cap3 w3 A3; have hb3 := A3.fr.blk (HA.out.fr.blk (F1.out.blk H.out.hr (by simp)) (by simp)) hpn; have d3 := cell_of hb3 3; have z3 := frozen_of hb3 3; simp only [List.getElem?_toArray, List.getElem?_cons_zero, List.getElem?_cons_succ] at d3; have HA3 := Lib.hid A3; clear A3 hb3))
    go_meet
    have A3 := HA3.out
    rw [← dcellsOf_append, ← List.eraseIdx_eq_take_drop_succ, show i + (l.length - (i + 1)) = l.length - 1 from by omega] at A3
    exact ⟨ao3, cap3, w3, A3, by rw [show i + (l.length - (i + 1)) = l.length - 1 from by omega]⟩
  case rest =>
  clear c3 hpb
  obtain ⟨ao3, cap3, wy, A3, rfl⟩ := hcut
  have hlt := lt_of_block H.out.hr
  have F12 := F1.out.trans HA.out.fr
  have hB2 : ∀ x ∈ blk ao2, w.heap.size < x ∧ q < x := fun x hx => by
    have h1 := HA.out.at_ x hx
    have h2 := lt_of_block Hb.out
    simp at h1
    omega
  have hB3 : ∀ x ∈ blk ao3, w.heap.size < x := fun x hx => by
    rcases A3.at_ x hx with h1 | h1
    · exact (hB2 x h1).1
    · have h2 := lt_of_block Hb.out
      have h3 := HA.out.fr.size
      omega
  have F13 : Fr [] w wy := F12.step A3.fr fun x hx => .inr (Nat.le_of_lt (hB2 x hx).1)
  have frP : Fr [p] wy (wy.setCell ⟨p, 3, none⟩ (.slice ao3 (l.length - 1) cap3)) := (Fr.refl [p] wy).setCell (by simp) _
  have hq3 := frP.blk (A3.fr.blk (HA.out.fr.blk Hb.out (by simp)) (fun hx => by have := (hB2 q hx).2; omega)) (by simp; omega)
  have hk3 := frP.blk (A3.fr.blk (HA.out.fr.blk Ha.out (by simp)) (fun hx => by have := (hB2 _ hx).1; omega)) (by simp; omega)
  have hp3 : (wy.setCell ⟨p, 3, none⟩ (.slice ao3 (l.length - 1) cap3)).heap[p]? = some (.cells #[.int .i64 mtu, .int .i64 most, .int .i64 lost, .slice ao3 (l.length - 1) cap3] 48 (0, 0)) :=
    (setCell_of (F13.blk H.out.hr (by simp)) _).trans rfl
  have own3 := ownsRow_setCell_other A3.own (a := ⟨p, 3, none⟩) (fun e => by have := hB3 p (mem_blk e); omega) (.slice ao3 (l.length - 1) cap3)
  have fr0 : Fr [p] w (wy.setCell ⟨p, 3, none⟩ (.slice ao3 (l.length - 1) cap3)) := (F13.mono (by simp)).trans frP
  generalize wy.setCell ⟨p, 3, none⟩ (.slice ao3 (l.length - 1) cap3) = wf at *
  have q0 := cell_of hq3 0
  have q1 := cell_of hq3 1
  have q2 := cell_of hq3 2
  have a0 := cell_of hk3 0
  have a1 := cell_of hk3 1
  have a2 := cell_of hk3 2
  have z0 := frozen_of hk3 0
  have z1 := frozen_of hk3 1
  have z2 := frozen_of hk3 2
  simp only [List.getElem?_toArray, List.getElem?_cons_zero, List.getElem?_cons_succ] at q0 q1 q2 a0 a1 a2
  have HR := Lib.hid (And.intro hp3 own3)
  have HB3 := Lib.hid hB3
  have Hk3 := Lib.hid hk3
  clear Ha Hb HA A3 F12 F13 frP hB2 hB3 hq3 hk3 hp3 own3 Hn Hf Hg F1 hl2 hm2 hn2 hpn
  generalize hk : w.heap.size = k at *
  have HK := Lib.hid hk
  clear hk
  have Fr0 := Lib.hid fr0
  clear fr0
  go_wp2
  (try simp only [Exit.inBlock, Exit.then])
  have hbk : (((wf.setCell ⟨k, 0, none⟩ (.int .i64 s)).setCell ⟨k, 1, none⟩ (.int .i64 t)).setCell ⟨k, 2, none⟩ (.string z)).heap[k]? = some (.cells #[.int .i64 s, .int .i64 t, .string z] 42 (0, 0)) := (setCell_of (setCell_of (setCell_of Hk3.out _) _) _).trans rfl
  refine bodyPost_ret (results_gram rfl _ _ k _ (0, 0) rfl hbk rfl) rfl ?_
  have frK : Fr [k] wf (((wf.setCell ⟨k, 0, none⟩ (.int .i64 s)).setCell ⟨k, 1, none⟩ (.int .i64 t)).setCell ⟨k, 2, none⟩ (.string z)) := (((Fr.refl [k] wf).setCell (by simp) _).setCell (by simp) _).setCell (by simp) _
  have hkl := hlt
  have hel : (l.eraseIdx i).length = l.length - 1 := by rw [List.length_eraseIdx, if_pos hi]
  have frw : Fr [p] w _ := Fr0.out.step frK fun x hx => .inr (by simp at hx; rw [hx, HK.out]; exact Nat.le_refl _)
  refine ⟨rfl, p :: (Value.slice ao3 (l.length - 1) cap3).ownBlock.toList, ⟨_, ⟨frK.blk HR.out.1 (by simp; omega), ?_, fun e => by have := HB3.out p (mem_blk e); omega, H.out.mostLe, by rw [hel]; omega⟩, rfl⟩, frw.mono (by simp), fun y hy => ?_⟩
  · rw [hel]
    exact ownsRow_fr HR.out.2 frK (fun x hx => by have := HB3.out x (mem_blk hx); simp; omega)
  · simp only [List.mem_cons, own_blk] at hy
    rcases hy with rfl | hy
    · left; simp
    · right
      have := HB3.out y hy
      have := HK.out
      omega
end Go.Proofs.Ytmoiahgbenaihaa.net
