/-
  Texts of this proof, one behind the other: MatM, Each, HuffPm, HuffKr, HuffStab, Mix, MixE, MixR, Take, Put, Read, HuffC.
-/
import Derived.Test.YtolkoidbkaidkaaGreatG1
import Derived.OwnWalk
import Derived.Laws.OwnMore
import Derived.OrdersHeld
import Derived.Deep.DeepCutAuto
import Derived.StillTailTactics
import Derived.Deep.LoopGhost
import Derived.Deep.CutBlock
import Derived.WalkMore
set_option linter.unusedVariables false
set_option linter.unusedSimpArgs false
/-
  deflate.Matches.
-/
namespace Go.Proofs.YtolkoidbkaidkaaGreat.mat
open Go Go.RowKit Go.Proofs.YtolkoidbkaidkaaGreat.lib Go.Proofs.YtolkoidbkaidkaaGreat.bm

def mcells (l : List Mt) : List Value := l.flatMap fun x => [.int .i64 (x.1 : Nat), .int .i64 (x.2.1 : Nat), .int .i64 (x.2.2 : Nat)]
theorem mcells_length (l : List Mt) : (mcells l).length = l.length * 3 := by
  unfold mcells
  induction l with
  | nil => rfl
  | cons x l ih => simp only [List.flatMap_cons, List.length_append, List.length_cons, List.length_nil, ih]; omega
theorem mcells_append (l m : List Mt) : mcells (l ++ m) = mcells l ++ mcells m := by unfold mcells; rw [List.flatMap_append]
theorem mcells_at : ∀ (l : List Mt) (i : Nat) (h : i < l.length), (mcells l)[i * 3]? = some (.int .i64 (l[i].1 : Nat)) ∧ (mcells l)[i * 3 + 1]? = some (.int .i64 (l[i].2.1 : Nat)) ∧ (mcells l)[i * 3 + 2]? = some (.int .i64 (l[i].2.2 : Nat))
  | x :: l, 0, _ => ⟨rfl, rfl, rfl⟩
  | x :: l, i + 1, h => by
    have hc : mcells (x :: l) = [.int .i64 (x.1 : Nat), .int .i64 (x.2.1 : Nat), .int .i64 (x.2.2 : Nat)] ++ mcells l := rfl
    have e : ∀ j, (mcells (x :: l))[(i + 1) * 3 + j]? = (mcells l)[i * 3 + j]? := fun j => by
      rw [hc, List.getElem?_append_right (by simp; omega)]
      congr 1
      simp
      omega
    have h0 := mcells_at l i (by simpa using h)
    have e0 := e 0
    simp only [Nat.add_zero] at e0
    rw [e0, e 1, e 2]
    exact h0
/-- The blocks lie below B0. -/
structure Low (w : World) (b : List UInt8) (a : Option Addr) (qb qp qh bp bm B0 : Nat) : Prop where
  q : qb < B0 ∧ qp < B0 ∧ qh < B0 ∧ bp < B0 ∧ bm < B0
  new : w.heap.size ≤ bp ∧ w.heap.size ≤ bm
  a : b ≠ [] → ∀ x ∈ blk a, x < B0
theorem En.up {S : List Nat} {w0 w w' : World} {b : List UInt8} {a : Option Addr} {cap qb qp qh bp bm i B0 : Nat} (h : En w b a cap qb qp qh bp bm i) (l : Low w0 b a qb qp qh bp bm B0) (f : Fr S w w') (hS : ∀ x ∈ S, B0 ≤ x) : En w' b a cap qb qp qh bp bm i := by
  obtain ⟨D, P, cnt, h1, r⟩ := h
  obtain ⟨l1, l2, l3, l4, l5⟩ := l.q
  have no : ∀ x, x < B0 → x ∉ S := fun x hx hm => by have := hS x hm; omega
  exact ⟨D, P, cnt, ⟨f.blk h1.vb (no _ l1), f.blk h1.vp (no _ l2), f.blk h1.vh (no _ l3), rd_frE h1.rd f (fun hb x hx => no x (l.a hb x hx)), ownsMap_block h1.map (f.block _ h1.map.lt (no _ l5)), f.blk h1.row (no _ l4), h1.size, h1.np, h1.nm, h1.na⟩, r⟩
/-- Where Matches stands. -/
structure Ms (w wr : World) (b : List UInt8) (a : Option Addr) (cap qb qp qh bp bm B0 i : Nat) (l : List Mt) (ao : Option Addr) (c : Nat) : Prop where
  own : wr.ownsRow 0 74 3 (.slice ao l.length c) l.length (mcells l)
  en : En wr b a cap qb qp qh bp bm i
  fr : Fr [] w wr
  new : ∀ x ∈ blk ao, B0 ≤ x
  low : Low w b a qb qp qh bp bm B0
  big : B0 ≤ wr.heap.size
theorem Ms.fr0 {w wr w2 : World} {b : List UInt8} {a ao : Option Addr} {cap qb qp qh bp bm B0 i c : Nat} {l : List Mt} (h : Ms w wr b a cap qb qp qh bp bm B0 i l ao c) (f : Fr [] wr w2) : Ms w w2 b a cap qb qp qh bp bm B0 i l ao c :=
  ⟨ownsRow_fr h.own f (by simp), h.en.fr f, h.fr.trans f, h.new, h.low, Nat.le_trans h.big f.size⟩
theorem Ms.enter {w wr w2 : World} {b : List UInt8} {a ao : Option Addr} {cap qb qp qh bp bm B0 i j c : Nat} {l : List Mt} (h : Ms w wr b a cap qb qp qh bp bm B0 i l ao c) (f : Fr [bp, bm] wr w2) (e : En w2 b a cap qb qp qh bp bm j) : Ms w w2 b a cap qb qp qh bp bm B0 j l ao c := by
  obtain ⟨l1, l2, l3, l4, l5⟩ := h.low.q
  refine ⟨ownsRow_fr h.own f fun k hk hm => ?_, e, h.fr.step f fun y hy => ?_, h.new, h.low, Nat.le_trans h.big f.size⟩
  · have := h.new k (by rw [← own_blk ao l.length c, hk]; simp)
    simp only [List.mem_cons, List.not_mem_nil, or_false] at hm
    omega
  · have := h.low.new
    simp only [List.mem_cons, List.not_mem_nil, or_false] at hy
    right
    omega
theorem mloop_step {b : List UInt8} {r k i : Nat} (h3 : i + 3 ≤ b.length) : mloop b r (k + 1) i = (if 3 ≤ (best b r i).1 then [(i, (best b r i).1, i - (best b r i).2)] else []) ++ mloop b r k (i + step b r i) := by
  rw [mloop, if_pos h3]
  split <;> rfl
def MatchesNew (w : World) (l : List Mt) (e : Ending) (w' : World) : Prop := ∃ ao, e = .returned (.slice ao l.length l.length) ∧ Cs w' ao (mcells l) ∧ (ao = none → l.length = 0) ∧ (∀ x ∈ blk ao, x < w'.heap.size) ∧ Fr [] w w'
theorem matchTy : SliceTy Tryz.prog 33 74 (.agg #[.int .i64 0, .int .i64 0, .int .i64 0]) 3 24 := SliceTy.of Tryz.underlying33 (by kernel_rfl) rfl (by decide)
theorem intsTy : SliceTy Tryz.prog 35 3 (.int .i64 0) 1 8 := SliceTy.of Tryz.underlying35 (by kernel_rfl) rfl (by decide)
theorem ms_start {b : List UInt8} {a : Option Addr} {cap : Nat} {w w3 : World} (h : Rd w a cap b)
    (own3 : w3.ownsRow 0 3 1 (.slice (some ⟨w.heap.size + 1 + 1 + 1, 0, none⟩) b.length b.length) b.length (madeCells (Value.int .i64 0).cells (b.length * 1)).toList)
    (grow3 : (((w.alloc (.cells #[.slice a b.length cap] 22)).alloc (.map #[] 0)).alloc (.cells #[.map (some (w.heap.size + 1))] 70)).grownBy w3 none) :
    Ms w (w3.alloc (.cells #[.slice (some ⟨w.heap.size + 1 + 1 + 1, 0, none⟩) b.length b.length] 35)) b a cap w.heap.size w3.heap.size (w.heap.size + 1 + 1) (w.heap.size + 1 + 1 + 1) (w.heap.size + 1) (w3.heap.size + 1) 0 [] none 0 := by
  obtain ⟨W0, hW0⟩ : ∃ W0, W0 = ((w.alloc (.cells #[.slice a b.length cap] 22)).alloc (.map #[] 0)).alloc (.cells #[.map (some (w.heap.size + 1))] 70) := ⟨_, rfl⟩
  rw [← hW0] at grow3
  have hz0 : W0.heap.size = w.heap.size + 1 + 1 + 1 := by rw [hW0]; simp only [World.size_alloc]
  have f3 : Fr [] W0 w3 := (Fr.refl [] W0).grown grow3 (fun k hk => by cases hk)
  have f0 : Fr [] w W0 := by rw [hW0]; exact (((Fr.refl [] w).alloc _).alloc _).alloc _
  have b0 : W0.heap[w.heap.size]? = some (.cells #[.slice a b.length cap] 22 (0, 0)) := by
    rw [hW0]
    exact alloc_old _ (alloc_old _ (alloc_at w _))
  have b1 : W0.heap[w.heap.size + 1]? = some (.map #[] 0) := by
    rw [hW0]
    have := alloc_at (w.alloc (.cells #[.slice a b.length cap] 22)) (.map #[] 0)
    rw [World.size_alloc] at this
    exact alloc_old _ this
  have b2 : W0.heap[w.heap.size + 1 + 1]? = some (.cells #[.map (some (w.heap.size + 1))] 70 (0, 0)) := by
    rw [hW0]
    have := alloc_at ((w.alloc (.cells #[.slice a b.length cap] 22)).alloc (.map #[] 0)) (.cells #[.map (some (w.heap.size + 1))] 70)
    rw [World.size_alloc, World.size_alloc] at this
    exact this
  have hmap : W0.ownsMap Tryz.prog 66 (plainElem (H := Unit) Tryz.prog 3) (w.heap.size + 1) 0 (.map []) := by
    have := World.ownsMap_made (w.alloc (.cells #[.slice a b.length cap] 22)) Tryz.prog 66 (plainElem (H := Unit) Tryz.prog 3)
    rw [World.size_alloc] at this
    rw [hW0]
    exact this.alloc _
  obtain ⟨o1, o2⟩ := own3
  rcases o2 with ⟨o2, _⟩ | ⟨g, c', cur, o2, _, hg, _, _, hsz, _⟩
  · cases o2
  · simp only [Value.slice.injEq, Option.some.injEq, Addr.mk.injEq, and_true, true_and] at o2
    obtain ⟨rfl, rfl⟩ := o2
    have hlt := lt_of_block hg
    have f4 : Fr [] w3 (w3.alloc (.cells #[.slice (some ⟨w.heap.size + 1 + 1 + 1, 0, none⟩) b.length b.length] 35)) := (Fr.refl [] w3).alloc _
    have fall := (f0.trans f3).trans f4
    have f34 := f3.trans f4
    refine ⟨World.ownsRow_nil _ _ _ _, ⟨.map [], cur, 0, ⟨f34.blk b0 (by simp), alloc_at w3 _, f34.blk b2 (by simp), h.fr fall, ownsMap_block hmap (f34.block _ hmap.lt (by simp)), f4.blk hg (by simp), by omega, ⟨by omega, by omega, by omega, by omega⟩, ⟨by omega, by omega, by omega⟩, fun hb x hx => ?_⟩, Nat.le_refl _, mapOk_start b, fun j hj => by omega⟩, fall, by simp [blk], ⟨⟨by omega, by omega, by omega, by omega, by omega⟩, ⟨by omega, by omega⟩, fun hb x hx => ?_⟩, by rw [World.size_alloc]; exact Nat.le_refl _⟩
    · have := rd_lt h hb x hx
      omega
    · have := rd_lt h hb x hx
      omega
theorem Ms.push {w wr w2 : World} {b : List UInt8} {a ao a2 : Option Addr} {cap qb qp qh bp bm B0 i c c2 : Nat} {l : List Mt} (h : Ms w wr b a cap qb qp qh bp bm B0 i l ao c) (x : Mt) (o : Obj) (n : Nat) (hn : l.length = n)
    (A : Appended (wr.alloc o) w2 74 3 (blk ao) a2 (n + 1) c2 (mcells l ++ mcells [x])) : Ms w w2 b a cap qb qp qh bp bm B0 i (l ++ [x]) a2 c2 := by
  have f1 : Fr [] wr (wr.alloc o) := (Fr.refl [] wr).alloc o
  have hz : (wr.alloc o).heap.size = wr.heap.size + 1 := World.size_alloc _ _
  have hbig := h.big
  have hlow := h.low.new
  have hlq := h.low.q
  have hs := A.fr.size
  refine ⟨by rw [List.length_append, List.length_singleton, mcells_append, hn]; exact A.own, (h.en.up h.low f1 (by simp)).up h.low A.fr h.new, (h.fr.trans f1).step A.fr fun y hy => .inr (by have := h.new y hy; omega), fun y hy => ?_, h.low, by omega⟩
  rcases A.at_ y hy with k | k
  · exact h.new y k
  · omega
set_option maxRecDepth 100000 in
set_option maxHeartbeats 4000000 in
theorem matches_any (b : List UInt8) (a : Option Addr) (cap : Nat) (reach : Int) (w : World) (h : Rd w a cap b) (hlen : b.length ≤ 100000) :
    Calls Tryz.prog 11 #[.slice a b.length cap, .int .i64 reach] w (MatchesNew w (matches_ b reach)) := by
  have hmm := @run_makeMap Tryz.prog
  obtain ⟨L, hL⟩ : ∃ L, L = b.length := ⟨_, rfl⟩
  have hle := h.le
  obtain ⟨r, hr⟩ : ∃ r : Int, r = if 32768 < reach then 32768 else reach := ⟨_, rfl⟩
  have hr1 : r ≤ 32768 := by rw [hr]; split <;> omega
  rw [← hL] at hle hlen ⊢
  have H := Lib.hid (And.intro h (And.intro hL hr))
  obtain ⟨hu, ⟨ti, hi', hz', hs', hb'⟩, hcz, hp⟩ := intsTy
  clear h hL hr
  go_enter Tryz.func11, Tryz.ntmps11
  go_upto_block 0 with (first | (refine wpList_min2 r rfl _ _ _ rfl reach 32768 rfl rfl H.out.2.2 ?_) | (refine wpList_make_full _ rfl _ _ 35 rfl 0 3 ti (.int .i64 0) 1 hu hi' hz' hs' .i64 .i64 (L : Nat) (L : Nat) L rfl rfl rfl rfl (by rw [hb']; omega) (by unfold maxLen; omega) (by omega) ?_; intro w3 own3 grow3; have H3 := Lib.hid (And.intro own3 grow3); clear own3 grow3))
  obtain ⟨qb, qp, qh, bp, bm, B0, w4, e1, e2, e3, e4, e5, e6, hms⟩ : ∃ qb qp qh bp bm B0 w4, w4 = w3.alloc (.cells #[.slice (some ⟨w.heap.size + 1 + 1 + 1, 0, none⟩) L L] 35) ∧ qp = w3.heap.size ∧ bp = w.heap.size + 1 + 1 + 1 ∧ qh = w.heap.size + 1 + 1 ∧ bm = w.heap.size + 1 ∧ qb = w.heap.size ∧ Ms w w4 b a cap qb qp qh bp bm B0 0 [] none 0 := by
    have := ms_start H.out.1 (by have h := H3.out.1; simp only [World.size_alloc] at h; rw [← H.out.2.1]; exact h) (by rw [← H.out.2.1]; exact H3.out.2)
    rw [← H.out.2.1] at this
    exact ⟨_, _, _, _, _, _, _, rfl, rfl, rfl, rfl, rfl, rfl, this⟩
  rw [← e1, ← e3, ← e4, ← e5, ← e6, ← e2]
  obtain ⟨M, hM⟩ : ∃ M, M = matches_ b reach := ⟨_, rfl⟩
  obtain ⟨R, hR⟩ : ∃ R, R = (min reach 32768).toNat := ⟨_, rfl⟩
  have hstart : (0 < r → ([] : List Mt) ++ mloop b R L 0 = M) ∧ (r ≤ 0 → ([] : List Mt) = M) := by
    have hrr := H.out.2.2
    rw [hM, hR, H.out.2.1]
    unfold matches_
    constructor
    · intro h0
      rw [if_pos (by rw [hrr] at h0; split at h0 <;> omega)]
      rfl
    · intro h0
      rw [if_neg (by rw [hrr] at h0; split at h0 <;> omega)]
  have hRr : 0 < r → (R : Int) = r := by
    have hrr := H.out.2.2
    intro h0
    rw [hR, hrr]
    rw [hrr] at h0
    split at h0 <;> split <;> omega
  have HS := Lib.hid (And.intro hstart (And.intro hms hM))
  have HR := Lib.hid hRr
  clear e1 e2 e3 e4 e5 e6 hms hstart hRr hM hR H3 hu hi' hz' hs' hb' hcz hp
  go_wp2
  go_loopg [5, 9] L (fun k s5 s9 wr => ∃ (i c : Nat) (ao : Option Addr) (l : List Mt), s5 = .slice ao l.length c ∧ s9 = .int .i64 (i : Nat) ∧ Ms w wr b a cap qb qp qh bp bm B0 i l ao c ∧ L ≤ i + k ∧ i ≤ L ∧ l.length ≤ i ∧ (0 < r → l ++ mloop b R k i = M) ∧ (r ≤ 0 → l = M))
  case atStart => exact ⟨0, 0, none, [], rfl, rfl, HS.out.2.1, by omega, Nat.zero_le _, Nat.le_refl _, HS.out.1⟩
  case round =>
    obtain ⟨i, c, ao, l, rfl, rfl, hms, hik, hiL, hli, hpos, hneg⟩ := hrel
    obtain ⟨D, P, cnt, E, _⟩ := hms.en
    have cb := cell_of E.vb 0
    simp only [List.getElem?_toArray, List.getElem?_cons_zero] at cb
    rw [← H.out.2.1] at cb
    obtain ⟨_, _, hsh, o1, o2, o3⟩ := owns_form hms.own
    simp only [Value.slice.injEq] at hsh
    obtain ⟨rfl, _, rfl⟩ := hsh
    have hsl := fun w => run_slice_cut3 matchTy l.length ao c o1 w
    have HMS := Lib.hid hms
    have HO := Lib.hid (And.intro hpos hneg)
    clear hms hpos hneg E
    have hmi : IntKind.i64.wrap ((i : Int) + 3) = (i : Int) + 3 := IntWalk.i64_in _ (by omega)
    by_cases h3 : i + 3 ≤ L
    · by_cases h0 : 0 < r
      · have d1 : decide ((i : Int) + 3 ≤ L) = true := by simp; omega
        obtain ⟨k, rfl⟩ : ∃ k, gk = k + 1 := ⟨gk - 1, by omega⟩
        have hRr := HR.out h0
        obtain ⟨wo, rfl⟩ : ∃ wo : World, wo = wr := ⟨_, rfl⟩
        obtain ⟨⟨x1, x2⟩, hx⟩ : ∃ x, x = best b R i := ⟨_, rfl⟩
        have hbl : b.length = L := H.out.2.1.symm
        obtain ⟨D, P, cnt, E, hcnt, hmap, hrow⟩ := HMS.out.en
        have ch := cell_of E.vh 0
        simp only [List.getElem?_toArray, List.getElem?_cons_zero] at ch
        obtain ⟨q0, hq0⟩ : ∃ q0, q0 = last b i (three b i) := ⟨_, rfl⟩
        have hth : ∀ x, Calls Tryz.prog 29 #[.slice (Option.map (fun x => x.add i) a) (L - i) (cap - i)] (wo.drewN x) fun e w' => e = .returned (.int .u32 (three b i : Nat)) ∧ ∃ n, w' = (wo.drewN x).drewN n := fun x => by
          have := three_any (cutAtN a cap i 1) (cap - i) (b.drop i) (wo.drewN x) ((E.rd.drop i (by omega)).fr (Fr.drewN [] wo x)) (by rw [List.length_drop]; omega)
          rw [List.length_drop, three_drop, cutAtN_map (by omega), hbl] at this
          exact this
        have hlk : ∀ x, (Instr.lookup 70 (.map (some bm)) (.int .u32 (three b i : Nat)) true).run Tryz.prog (wo.drewN x) = .ok (.tuple #[.int .i64 (pq q0).1, .bool (pq q0).2]) (wo.drewN x) := fun x => by
          have := map_look (ownsMap_block E.map ((Fr.drewN [] wo x).block _ E.map.lt (by simp))) hmap (three_lt b i)
          rw [← hq0] at this
          exact this
        have hk3 := three_lt b i
        generalize three b i = kk at hth hlk hk3
        have HX := Lib.hid (And.intro hx (And.intro hbl hq0))
        have HE := Lib.hid (And.intro E hrow)
        have HTH := Lib.hid hth
        clear hx hbl hq0 hth E hrow hmap hcnt
        go_upto_region 9 with fail
        go_quiet ((go_at_call 29; exact Calls.quiet_of (HTH.out _)))
        go_upto_block 2 with fail
        clear hlk hk3 ch
        go_cut [10, 11, 12, 14, 15] from 42 to 73 (fun s10 s11 s12 s14 s15 wz => s10 = .int .i64 (x1 : Nat) ∧ s11 = .int .i64 (x2 : Nat) ∧ Fr [] wo wz)
        case first =>
          cases q0 with
          | none =>
            have hx0 : x1 = 0 ∧ x2 = 0 := by
              have h1 := HX.out.1
              unfold best at h1
              rw [← HX.out.2.2] at h1
              simp only [chase, Prod.mk.injEq] at h1
              exact h1
            obtain ⟨rfl, rfl⟩ := hx0
            simp only [pq]
            go_wp2
            refine wp_loop_rounds 1 ?_
            rw [rounds_succ]
            go_wp2
            go_meet
            exact ⟨rfl, rfl, Fr.drewN [] wo _⟩
          | some p0 =>
            simp only [pq]
            go_wp2
            go_loopg [10, 11, 12, 14, 15] 48 (fun k s10 s11 s12 s14 s15 wz => ∃ (n bb aa : Nat) (q : Option Nat), s10 = .int .i64 (bb : Nat) ∧ s11 = .int .i64 (aa : Nat) ∧ s12 = .int .i64 (pd q) ∧ s14 = .int .i64 (n : Nat) ∧ n + k = 48 ∧ (∀ p, q = some p → p < i ∧ p + 3 ≤ L) ∧ chase b R i k q bb aa = (x1, x2) ∧ bb ≤ 258 ∧ Fr [] wo wz)
            case atStart => exact ⟨0, 0, 0, some p0, rfl, rfl, rfl, rfl, rfl, fun p hp => by have := last_lt b _ _ _ (HX.out.2.2.symm.trans hp); rw [HX.out.2.1] at this; exact ⟨this.1, this.2.1⟩, by have h1 := HX.out.1; unfold best at h1; rw [← HX.out.2.2] at h1; exact h1.symm, by omega, Fr.drewN [] wo _⟩
            case round =>
              obtain ⟨n, bb, aa, q, rfl, rfl, rfl, rfl, hn, hq, hch, hbb, hf⟩ := hrel
              by_cases hn48 : n < 48
              · obtain ⟨k2, rfl⟩ : ∃ k2, gk = k2 + 1 := ⟨gk - 1, by omega⟩
                have d0 : decide ((n : Int) < 48) = true := by simp; omega
                cases q with
                | none =>
                  simp only [chase, Prod.mk.injEq] at hch
                  obtain ⟨rfl, rfl⟩ := hch
                  simp only [pd]
                  have HF := Lib.hid hf
                  clear hf hq
                  go_wp2
                  go_meet
                  exact ⟨rfl, rfl, HF.out⟩
                | some p =>
                  obtain ⟨hp1, hp2⟩ := hq p rfl
                  simp only [pd]
                  by_cases hrange : i - p ≤ R
                  · have d2 : decide ((i : Int) - p ≤ r) = true := by simp; omega
                    have hal := fun w' h => alike_any a cap p i b w' h (by omega) (by rw [HX.out.2.1]; omega)
                    rw [HX.out.2.1] at hal
                    have hsp := (alike_spec b p i (by rw [HX.out.2.1]; omega)).1
                    have hpp := HE.out.2 p hp1 (by rw [HX.out.2.1]; exact hp2)
                    rw [pv_pd] at hpp
                    have hqn : ∀ p', last b p (three b p) = some p' → p' < i ∧ p' + 3 ≤ L := fun p' hp' => by have := last_lt b _ _ _ hp'; rw [HX.out.2.1] at this; omega
                    rw [chase, if_pos hrange] at hch
                    generalize last b p (three b p) = q' at hpp hqn hch
                    generalize alike b p i = al at hal hsp hch
                    have E2 := HE.out.1.fr hf
                    have cb2 := cell_of E2.vb 0
                    have cp2 := cell_of E2.vp 0
                    have cr2 := cell_of E2.row p
                    simp only [List.getElem?_toArray, List.getElem?_cons_zero] at cb2 cp2
                    rw [hpp] at cr2
                    rw [HX.out.2.1] at cb2 cp2
                    have HF := Lib.hid (And.intro hf (And.intro (hal _ E2.rd) (And.intro hqn (And.intro E2 (cr2.trans rfl)))))
                    have c9 : wr.cell? ⟨bp, p, none⟩ = some (.int .i64 (pd q')) := cr2
                    clear hf hal hqn cr2 E2 hpp hq
                    by_cases hbest : bb < al
                    · have d3 : decide (bb < al) = true := by simpa using hbest
                      rw [if_pos hbest] at hch
                      have HCH := Lib.hid hch
                      clear hch
                      go_upto_region 14 with (go_at_call 30; refine HF.out.2.1.mono ?_; rintro e wy ⟨rfl, fy⟩; have cp3 := fy.cell cp2 (by simp); have c10 := fy.cell c9 (by simp); have HY := Lib.hid fy; clear fy cp2 c9 cb2)
                      go_wp2
                      go_roundg k2
                      case measure => omega
                      case rel => exact ⟨n + 1, al, p, q', rfl, rfl, rfl, by go_num, by omega, HF.out.2.2.1, HCH.out, by omega, HF.out.1.trans HY.out⟩
                    · have d3 : decide (bb < al) = false := by simpa using hbest
                      rw [if_neg hbest] at hch
                      have HCH := Lib.hid hch
                      clear hch
                      go_upto_region 14 with (go_at_call 30; refine HF.out.2.1.mono ?_; rintro e wy ⟨rfl, fy⟩; have cp3 := fy.cell cp2 (by simp); have c10 := fy.cell c9 (by simp); have HY := Lib.hid fy; clear fy cp2 c9 cb2)
                      go_wp2
                      go_roundg k2
                      case measure => omega
                      case rel => exact ⟨n + 1, bb, aa, q', rfl, rfl, rfl, by go_num, by omega, HF.out.2.2.1, HCH.out, by omega, HF.out.1.trans HY.out⟩
                  · have d2 : decide ((i : Int) - p ≤ r) = false := by simp; omega
                    rw [chase, if_neg hrange] at hch
                    simp only [Prod.mk.injEq] at hch
                    obtain ⟨rfl, rfl⟩ := hch
                    have HF := Lib.hid hf
                    clear hf hq
                    go_wp2
                    go_meet
                    exact ⟨rfl, rfl, HF.out⟩
              · obtain rfl : n = 48 := by omega
                obtain rfl : gk = 0 := by omega
                simp only [chase, Prod.mk.injEq] at hch
                obtain ⟨rfl, rfl⟩ := hch
                have HF := Lib.hid hf
                clear hf hq
                go_wp2
                go_meet
                exact ⟨rfl, rfl, HF.out⟩
        case rest =>
        obtain ⟨rfl, rfl, hf⟩ := hcut
        obtain ⟨w5, rfl⟩ : ∃ w5 : World, w5 = wc := ⟨_, rfl⟩
        obtain ⟨s, hs⟩ : ∃ s, s = step b R i := ⟨_, rfl⟩
        obtain ⟨nw, hnw⟩ : ∃ nw : List Mt, nw = if 3 ≤ x1 then [(i, x1, i - x2)] else [] := ⟨_, rfl⟩
        have hsx : s = if 3 ≤ x1 then x1 else 1 := by rw [hs]; unfold step; rw [← HX.out.1]
        have hML : l ++ (nw ++ mloop b R k (i + s)) = M := by
          have := HO.out.1 h0
          rw [mloop_step (by rw [HX.out.2.1]; exact h3), ← hs, ← HX.out.1, ← hnw] at this
          exact this
        have hb3 : 3 ≤ x1 → x2 < i ∧ i + x1 ≤ L ∧ x1 ≤ 258 := fun h => by
          obtain ⟨k1, k2, k3⟩ := best_spec b R i (by rw [← HX.out.1]; exact Nat.lt_of_lt_of_le (by decide) h)
          rw [← HX.out.1] at k1 k2 k3
          obtain ⟨m1, m2, _⟩ := alike_spec b x2 i (by rw [HX.out.2.1]; exact hiL)
          rw [← k1] at m1 m2
          rw [HX.out.2.1] at m2
          exact ⟨k2, m2, m1⟩
        have h5 := HMS.out.fr0 hf
        have HML := Lib.hid (And.intro hML (And.intro hsx (And.intro h5 hnw)))
        have hsL : 1 ≤ s ∧ i + s ≤ L := by
          rw [hsx]
          split
          · rename_i h; have := hb3 h; omega
          · omega
        have hnl : nw.length ≤ 1 := by rw [hnw]; split <;> simp
        clear hML hs hsx h5 hf hnw
        go_upto_if 74 with fail
        go_cut [5, 16] from 73 to 85 (fun s5 s16 wz => ∃ (a2 : Option Addr) (c2 n2 : Nat), s5 = .slice a2 n2 c2 ∧ s16 = .int .i64 (s : Nat) ∧ n2 = (l ++ nw).length ∧ Ms w wz b a cap qb qp qh bp bm B0 i (l ++ nw) a2 c2)
        case first =>
          have hsx := HML.out.2.1
          by_cases hb : 3 ≤ x1
          · obtain ⟨hb1, hb2, hb4⟩ := hb3 hb
            rw [if_pos hb] at hsx
            subst hsx
            have hnw := HML.out.2.2.2
            rw [if_pos hb] at hnw
            have d3 : decide ((3 : Int) ≤ (s : Int)) = true := by simp; omega
            obtain ⟨dd, hdd⟩ : ∃ dd, dd = i - x2 := ⟨_, rfl⟩
            rw [← hdd] at hnw
            have hd : (i : Int) - (x2 : Int) = (dd : Int) := by omega
            have HN := Lib.hid hnw
            obtain ⟨N, hN⟩ : ∃ N, N = l.length := ⟨_, rfl⟩
            rw [← hN] at hli ⊢
            have HNN := Lib.hid hN
            clear hnw hb3 hN hdd hsl o1
            go_wp2_with (refine wpList_append matchTy rfl _ _ rfl (.slice ao N c) N (mcells l) (blk ao) rfl (own_blk _ _ _) (by rw [HNN.out]; exact HML.out.2.2.1.own.alloc _) (some ⟨w5.heap.size, 0, none⟩) 1 1 [.int .i64 (i : Nat), .int .i64 (s : Nat), .int .i64 (dd : Nat)] rfl (by omega) (by simp) (cs_new w5 _ _ _) rfl (by simp [Value.oneCell']) (by omega) (by unfold maxLen; omega) ?_; intro a2 c2 w6 A2; have HA := Lib.hid A2; clear A2)
            go_meet
            refine ⟨a2, c2, _, rfl, rfl, by rw [List.length_append, HN.out, HNN.out]; rfl, ?_⟩
            rw [HN.out]
            exact HML.out.2.2.1.push _ _ N HNN.out.symm HA.out
          · rw [if_neg hb] at hsx
            subst hsx
            have hnw := HML.out.2.2.2
            rw [if_neg hb] at hnw
            have HN := Lib.hid hnw
            have d3 : decide ((3 : Int) ≤ (x1 : Int)) = false := by simp; omega
            clear hnw hb3
            go_wp2
            go_meet
            exact ⟨ao, c, _, rfl, rfl, by rw [HN.out, List.append_nil], by rw [HN.out, List.append_nil]; exact HML.out.2.2.1⟩
        case rest =>
        obtain ⟨a2, c2, n2, rfl, rfl, hn2, h6⟩ := hcut
        obtain ⟨w6, rfl⟩ : ∃ w6 : World, w6 = wc := ⟨_, rfl⟩
        have H6 := Lib.hid (And.intro h6 hn2)
        clear h6 hn2 hb3 hsl cb
        go_upto_block 4 with fail
        go_wp2
        go_loopg [9, 86] s (fun k s9 s86 wr => ∃ j : Nat, s9 = .int .i64 ((i + j : Nat) : Int) ∧ s86 = .int .i64 (j : Nat) ∧ j + k = s ∧ Ms w wr b a cap qb qp qh bp bm B0 (i + j) (l ++ nw) a2 c2)
        case atStart => exact ⟨0, rfl, rfl, by omega, H6.out.1⟩
        case round =>
          obtain ⟨j, rfl, rfl, hjs, h7⟩ := hrel
          by_cases hj : j < s
          · obtain ⟨k2, rfl⟩ : ∃ k2, gk = k2 + 1 := ⟨gk - 1, by omega⟩
            have hen := enter_any b a cap qb qp qh bp bm (i + j) wr h7.en (by rw [HX.out.2.1]; omega) (by rw [HX.out.2.1]; exact hlen)
            have H7 := Lib.hid (And.intro h7 hen)
            clear h7 hen
            go_wp2_with (go_at_call 28; refine H7.out.2.mono ?_; rintro e w8 ⟨rfl, f8, en8⟩; have H8 := Lib.hid (And.intro f8 en8); clear f8 en8)
            go_roundg k2
            case measure => omega
            case rel => exact ⟨j + 1, by go_num, by go_num, by omega, H7.out.1.enter H8.out.1 H8.out.2⟩
          · obtain rfl : j = s := by omega
            have H7 := Lib.hid h7
            clear h7
            go_wp2
            go_roundg k
            case measure => omega
            case rel => exact ⟨i + j, c2, a2, l ++ nw, by rw [H6.out.2], rfl, H7.out, by omega, hsL.2, by rw [List.length_append]; omega, fun _ => by rw [List.append_assoc]; exact HML.out.1, fun h => by omega⟩
      · have d1 : decide ((i : Int) + 3 ≤ L) = true := by simp; omega
        have d2 : decide ((0 : Int) < r) = false := by simp; omega
        go_wp2
        go_ret
        exact ⟨ao, by rw [← HS.out.2.2, ← HO.out.2 (by omega)]; rfl, by rw [← HS.out.2.2, ← HO.out.2 (by omega)]; exact cs_owns HMS.out.own, fun hn => by rw [← HS.out.2.2, ← HO.out.2 (by omega)]; have := o3 hn; omega, fun x hx => owns_lt HMS.out.own (blk_own hx), HMS.out.fr⟩
    · have d1 : decide ((i : Int) + 3 ≤ L) = false := by simp; omega
      have hlM : l = M := by
        by_cases h0 : 0 < r
        · have := HO.out.1 h0
          cases gk with
          | zero => rw [← this, mloop, List.append_nil]
          | succ k => rw [← this, mloop, if_neg (by rw [← H.out.2.1]; exact h3), List.append_nil]
        · exact HO.out.2 (by omega)
      have HLM := Lib.hid hlM
      clear hlM
      go_wp2
      go_ret
      exact ⟨ao, by rw [← HS.out.2.2, ← HLM.out]; rfl, by rw [← HS.out.2.2, ← HLM.out]; exact cs_owns HMS.out.own, fun hn => by rw [← HS.out.2.2, ← HLM.out]; have := o3 hn; omega, fun x hx => owns_lt HMS.out.own (blk_own hx), HMS.out.fr⟩
end Go.Proofs.YtolkoidbkaidkaaGreat.mat
/-
  deflate.coded.each: literals and matches, in order, told to whatever function.
-/
namespace Go.Proofs.YtolkoidbkaidkaaGreat.defl
open Go Go.RowKit Go.Proofs.YtolkoidbkaidkaaGreat.lib Go.Proofs.YtolkoidbkaidkaaGreat.bm Go.Proofs.YtolkoidbkaidkaaGreat.mat

inductive Tok where
  | lit (c : UInt8)
  | mat (n d : Nat)
/-- Literals and matches from a place on. -/
def toks (b : List UInt8) (i : Nat) (l : List Mt) : List Tok :=
  if h : i < b.length then
    match l with
    | (a, n, d) :: t => if hc : a = i ∧ 0 < n then .mat n d :: toks b (i + n) t else .lit b[i] :: toks b (i + 1) ((a, n, d) :: t)
    | [] => .lit b[i] :: toks b (i + 1) []
  else []
termination_by b.length - i
decreasing_by all_goals omega
theorem toks_end {b : List UInt8} {i : Nat} {l : List Mt} (h : b.length ≤ i) : toks b i l = [] := by
  unfold toks; rw [dif_neg (by omega)]
theorem toks_mat {b : List UInt8} {i n d : Nat} {t : List Mt} (h : i < b.length) (hn : 0 < n) : toks b i ((i, n, d) :: t) = .mat n d :: toks b (i + n) t := by
  rw [toks, dif_pos h]; dsimp only; rw [dif_pos ⟨rfl, hn⟩]
theorem toks_lit {b : List UInt8} {i : Nat} {l : List Mt} (h : i < b.length) (hl : ∀ a n d t, l = (a, n, d) :: t → a ≠ i) : toks b i l = .lit b[i] :: toks b (i + 1) l := by
  match l with
  | [] => rw [toks, dif_pos h]
  | (a, n, d) :: t => rw [toks, dif_pos h]; dsimp only; rw [dif_neg (fun hc => hl a n d t rfl hc.1)]
theorem chain_next {b : List UInt8} {r e : Nat} : ∀ {l : List Mt}, Chain b r e l → ∀ a n d t, l = (a, n, d) :: t → a ≠ e → Chain b r (e + 1) l
  | (a', n', d') :: t', h, a, n, d, t, he, hne => by
    simp only [List.cons.injEq, Prod.mk.injEq] at he
    obtain ⟨⟨rfl, rfl, rfl⟩, rfl⟩ := he
    exact ⟨by have := h.1; omega, h.2⟩
theorem toks_len (b : List UInt8) (i : Nat) (l : List Mt) : (toks b i l).length ≤ b.length - i := by
  obtain ⟨k, hk⟩ : ∃ k, k = b.length - i := ⟨_, rfl⟩
  induction k using Nat.strongRecOn generalizing i l with
  | ind k ih =>
    by_cases h : i < b.length
    · match l with
      | [] =>
        rw [toks_lit h (fun a n d t he => by cases he)]
        have := ih (b.length - (i + 1)) (by omega) (i + 1) [] rfl
        simp only [List.length_cons]; omega
      | (a, n, d) :: t =>
        by_cases hc : a = i ∧ 0 < n
        · obtain ⟨rfl, hn⟩ := hc
          rw [toks_mat h hn]
          have := ih (b.length - (a + n)) (by omega) (a + n) t rfl
          simp only [List.length_cons]; omega
        · rw [toks, dif_pos h]; dsimp only; rw [dif_neg hc]
          have := ih (b.length - (i + 1)) (by omega) (i + 1) ((a, n, d) :: t) rfl
          simp only [List.length_cons]; omega
    · rw [toks_end (by omega)]; exact Nat.zero_le _
def boxT (a al : Option Addr) (bl cap ll cl : Nat) (litV distV : Value) (told : Bool) : Value := .agg #[.slice a bl cap, .slice al ll cl, litV, distV, .bool told]
set_option maxRecDepth 100000 in
set_option maxHeartbeats 4000000 in
theorem each_any (fid : FuncId) (cv : Array Value) (eg : ∀ args w, (callFunc fid args).run Tryz.prog w = .ok (.enter fid args) w) (I : List Tok → List Nat → World → Prop) (F0 : List Nat)
    (b : List UInt8) (a al : Option Addr) (cap cl r : Nat) (l : List Mt) (litV distV : Value) (told : Bool) (w : World) (hlit1 : litV.oneCell' = true) (hdist1 : distV.oneCell' = true)
    (hb : Rd w a cap b) (hl : Cs w al (mcells l)) (hlc : l.length ≤ cl) (hln : al = none → cl = 0) (hcm : cl ≤ maxLen) (hch : Chain b r 0 l) (hr : r ≤ 32768) (hblen : b.length ≤ 1000000)
    (hF : ∀ x ∈ F0, x < w.heap.size ∧ x ∉ blk a ∧ x ∉ blk al)
    (hI0 : ∀ w', Fr [] w w' → I [] F0 w')
    (hlit : ∀ t F c w', t.length < b.length → I t F w' → Calls Tryz.prog fid (#[.int .u8 (c : UInt8).toNat, .pointer none] ++ cv) w' fun e w2 => e = .returned (.tuple #[]) ∧ Fr F w' w2 ∧ ∃ F', I (t ++ [.lit c]) F' w2 ∧ ∀ y ∈ F', y ∈ F ∨ w'.heap.size ≤ y)
    (hmat : ∀ t F n d g o w', t.length < b.length → I t F w' → 3 ≤ n → n ≤ 258 → 1 ≤ d → d ≤ 32768 → g ∉ F → w'.cell? ⟨g, o + 1, none⟩ = some (.int .i64 (n : Nat)) → w'.cell? ⟨g, o + 2, none⟩ = some (.int .i64 (d : Nat)) →
      Calls Tryz.prog fid (#[.int .u8 0, .pointer (some ⟨g, o, none⟩)] ++ cv) w' fun e w2 => e = .returned (.tuple #[]) ∧ Fr F w' w2 ∧ ∃ F', I (t ++ [.mat n d]) F' w2 ∧ ∀ y ∈ F', y ∈ F ∨ w'.heap.size ≤ y) :
    Calls Tryz.prog 32 #[boxT a al b.length cap l.length cl litV distV told, .func (.func fid) #[] cv] w fun e w' => e = .returned (.tuple #[]) ∧ Fr F0 w w' ∧ ∃ F, I (toks b 0 l) F w' ∧ ∀ y ∈ F, y ∈ F0 ∨ w.heap.size ≤ y := by
  obtain ⟨BL, hBL⟩ : ∃ BL, BL = b.length := ⟨_, rfl⟩
  obtain ⟨LL, hLL⟩ : ∃ LL, LL = l.length := ⟨_, rfl⟩
  rw [← hBL] at hblen hlit hmat ⊢
  rw [← hLL] at hlc ⊢
  obtain ⟨w1, hw1⟩ : ∃ w1, w1 = w.alloc (.cells #[.slice a BL cap, .slice al LL cl, litV, distV, .bool told] 37 (0, 0)) := ⟨_, rfl⟩
  have f1 : Fr [] w w1 := by rw [hw1]; exact (Fr.refl [] w).alloc _
  have hz1 : w1.heap.size = w.heap.size + 1 := by rw [hw1, World.size_alloc]
  have hbox : w1.heap[w.heap.size]? = some (.cells #[.slice a BL cap, .slice al LL cl, litV, distV, .bool told] 37 (0, 0)) := by rw [hw1]; exact alloc_at w _
  have HB := Lib.hid (And.intro (hb.fr f1) (And.intro (hl.fr f1 (by simp)) (And.intro hch (And.intro hbox (And.intro hz1 (And.intro f1 (And.intro hF (And.intro hBL hLL))))))))
  have HI := Lib.hid (And.intro (hI0 w1 f1) (And.intro hlit hmat))
  have HW := Lib.hid hw1.symm
  obtain ⟨B, hB⟩ : ∃ B, B = w.heap.size := ⟨_, rfl⟩
  have HBB := Lib.hid hB
  clear hb hl hch hF hI0 hlit hmat hBL hLL hw1 f1 hz1 hbox hB
  unfold boxT
  go_enter Tryz.func32, Tryz.ntmps32
  go_upto_block 0 with fail
  have hcm2 : cl ≤ 9223372036854775807 := hcm
  rw [HW.out, ← HBB.out]
  go_wp2
  go_loopg [4, 5] BL (fun gk s4 s5 wr => ∃ (i k : Nat) (done : List Tok) (F : List Nat), s5 = .int .i64 (i : Nat) ∧ s4 = .int .i64 (k : Nat) ∧ gk = BL - i ∧ i ≤ BL ∧ k ≤ LL ∧ done ++ toks b i (l.drop k) = toks b 0 l ∧ done.length ≤ i ∧ Chain b r i (l.drop k) ∧ I done F wr ∧ Fr F0 w1 wr ∧ ∀ y ∈ F, y ∈ F0 ∨ w1.heap.size ≤ y)
  case atStart => exact ⟨0, 0, [], F0, rfl, rfl, rfl, Nat.zero_le _, Nat.zero_le _, rfl, Nat.le_refl _, HB.out.2.2.1, HI.out.1, .refl _ _, fun y hy => .inl hy⟩
  case round =>
    obtain ⟨i, k, done, F, rfl, rfl, hk, hib, hkl, htk, hdl, hch, hI, hfr, hFn⟩ := hrel
    obtain ⟨hb, hl, hch0, hbox, hz1, f1, hF, hBL, hLL⟩ := HB.out
    have hbx := hfr.blk hbox (fun hx => by have := (hF _ hx).1; omega)
    have c0 := cell_of hbx 0
    have c1 := cell_of hbx 1
    simp only [List.getElem?_toArray, List.getElem?_cons_zero, List.getElem?_cons_succ] at c0 c1
    rw [← HBB.out] at c0 c1
    have hB1 : B ∉ F := fun hx => by
      have := HBB.out
      rcases hFn B hx with q | q
      · have := (hF _ q).1; omega
      · omega
    by_cases hi : i < BL
    · have hil : i < b.length := by rw [← hBL]; exact hi
      have hbr := hb.frS hfr fun x hx hx2 => (hF x hx2).2.1 hx
      obtain ⟨ga, oa, rfl, hca⟩ := hbr.cs.at (by rw [List.length_map]; omega)
      have d0 : wr.cell? ⟨ga, oa + i, none⟩ = some (.int .u8 (b[i]'hil).toNat) := hca i _ (by simp [hil, bv])
      have hlr := hl.fr hfr fun x hx hx2 => (hF x hx2).2.2 hx
      by_cases hkk : k < LL
      · have hkl' : k < l.length := by rw [← hLL]; exact hkk
        obtain ⟨gl, ol, rfl, hcl⟩ := hlr.at (by rw [mcells_length]; omega)
        obtain ⟨m1, m2, m3⟩ := mcells_at l k hkl'
        have hdrop := List.drop_eq_getElem_cons hkl'
        obtain ⟨m, hm⟩ : ∃ m, m = l[k] := ⟨_, rfl⟩
        rw [← hm] at m1 m2 m3 hdrop
        obtain ⟨x, n, d⟩ := m
        simp only at m1 m2 m3
        have p1 : wr.cell? ⟨gl, ol + k * 3, none⟩ = some (.int .i64 (x : Nat)) := hcl _ _ m1
        have p2 : wr.cell? ⟨gl, ol + k * 3 + 1, none⟩ = some (.int .i64 (n : Nat)) := hcl _ _ m2
        have p3 : wr.cell? ⟨gl, ol + k * 3 + 2, none⟩ = some (.int .i64 (d : Nat)) := hcl _ _ m3
        rw [hdrop] at htk hch
        have hgl : gl ∉ F := fun hx => by
          have h1 := hl.lt (by intro h; have := congrArg List.length h; rw [mcells_length] at this; simp at this; omega) ⟨gl, ol, none⟩ rfl
          rcases hFn gl hx with q | q
          · exact (hF gl q).2.2 (by simp [blk])
          · have := f1.size; simp only at h1; omega
        by_cases hxi : x = i
        · subst hxi
          obtain ⟨h3, h258, h1, hdr, hdx, hxn, _, hch2⟩ : 3 ≤ n ∧ n ≤ 258 ∧ 1 ≤ d ∧ d ≤ r ∧ d ≤ x ∧ x + n ≤ b.length ∧ True ∧ Chain b r (x + n) (l.drop (k + 1)) := ⟨hch.2.1, hch.2.2.1, hch.2.2.2.1, hch.2.2.2.2.1, hch.2.2.2.2.2.1, hch.2.2.2.2.2.2.1, trivial, hch.2.2.2.2.2.2.2.2⟩
          have hcall := HI.out.2.2 done F n d gl (ol + k * 3) wr (by omega) hI h3 h258 h1 (by omega) hgl p2 p3
          have HJ := Lib.hid (And.intro hcall (And.intro hfr (And.intro hFn (And.intro htk (And.intro hch2 (And.intro hdl hk))))))
          have hxb : x + n ≤ 1000000 := by omega
          have hxB : x + n ≤ BL := by omega
          have hn3 : 0 < n := by omega
          clear hcall hfr hFn htk hch hch2 hdl hI hk hF hch0 hb hl hlr hcl hca hbr hbx m1 m2 m3 hdrop hm hxn h3 h258 h1 hdr hdx hz1 f1 hbox p3 hBL hLL
          go_wp2
          refine HJ.out.1.mono ?_
          rintro e w2 ⟨rfl, f2, F2, hI2, hF2⟩
          have c1b := f2.cell c1 hB1
          have p2b := f2.cell p2 hgl
          have H2 := Lib.hid (And.intro f2 (And.intro hI2 hF2))
          clear f2 hI2 hF2 hB1 hgl c1 p2 c0 p1 eg
          go_wp2
          go_roundg (BL - (x + n))
          case measure => have := HJ.out.2.2.2.2.2.2; omega
          case rel =>
            obtain ⟨_, hfr, hFn, htk, hch, hdl, hk⟩ := HJ.out
            obtain ⟨f2, hI2, hF2⟩ := H2.out
            refine ⟨x + n, k + 1, done ++ [.mat n d], F2, by go_num, by go_num, rfl, hxB, by omega, ?_, ?_, hch, hI2, hfr.step f2 fun y hy => hFn y hy, fun y hy => ?_⟩
            · rw [List.append_assoc, ← htk, toks_mat hil hn3]; rfl
            · rw [List.length_append]; simp only [List.length_cons, List.length_nil]; omega
            · rcases hF2 y hy with q | q
              · exact hFn y q
              · exact .inr (Nat.le_trans hfr.size q)
        · have hne : ((x : Int) == (i : Int)) = false := by simp only [beq_eq_false_iff_ne]; omega
          have hnx : ∀ a n' d' t, (x, n, d) :: l.drop (k + 1) = (a, n', d') :: t → a ≠ i := fun a n' d' t he => by
            simp only [List.cons.injEq, Prod.mk.injEq] at he
            rw [← he.1.1]; exact hxi
          have hch2 := chain_next (l := (x, n, d) :: l.drop (k + 1)) hch _ _ _ _ rfl hxi
          rw [toks_lit hil hnx, ← hdrop] at htk
          rw [← hdrop] at hch2
          clear p2 p3 hdrop hm m1 m2 m3 hgl hxi hnx hch hcl
          have hcall := HI.out.2.1 done F (b[i]'hil) wr (by omega) hI
          obtain ⟨cc, hcc⟩ : ∃ cc, cc = b[i]'hil := ⟨_, rfl⟩
          rw [← hcc] at hcall d0 htk
          obtain ⟨cn, hcn⟩ : ∃ cn, cn = cc.toNat := ⟨_, rfl⟩
          rw [← hcn] at hcall d0
          have hiB : i + 1 ≤ BL := hi
          have hi6 : i ≤ 1000000 := by omega
          have HJ := Lib.hid (And.intro hcall (And.intro hfr (And.intro hFn (And.intro htk (And.intro hch2 (And.intro hdl (And.intro hk hkl)))))))
          clear hcall hfr hFn htk hch2 hdl hI hk hF hch0 hb hl hlr hca hbr hbx hz1 f1 hbox hBL hLL hB1 hcc hib hcn
          go_wp2
          refine HJ.out.1.mono ?_
          rintro e w2 ⟨rfl, f2, F2, hI2, hF2⟩
          have H2 := Lib.hid (And.intro f2 (And.intro hI2 hF2))
          clear f2 hI2 hF2 c0 c1 d0 eg
          go_wp2
          go_roundg (BL - (i + 1))
          case measure => have := HJ.out.2.2.2.2.2.2.1; omega
          case rel =>
            obtain ⟨_, hfr, hFn, htk, hch, hdl, hk, hkl⟩ := HJ.out
            obtain ⟨f2, hI2, hF2⟩ := H2.out
            refine ⟨i + 1, k, done ++ [.lit cc], F2, by go_num, rfl, rfl, hiB, hkl, ?_, ?_, hch, hI2, hfr.step f2 fun y hy => hFn y hy, fun y hy => ?_⟩
            · rw [List.append_assoc]; exact htk
            · rw [List.length_append]; simp only [List.length_cons, List.length_nil]; omega
            · rcases hF2 y hy with q | q
              · exact hFn y q
              · exact .inr (Nat.le_trans hfr.size q)
      · have hnl : l.drop k = [] := List.drop_eq_nil_of_le (by rw [← hLL]; omega)
        have hch2 : Chain b r (i + 1) (l.drop k) := by rw [hnl]; trivial
        rw [toks_lit hil (fun a n' d' t he => by rw [hnl] at he; cases he)] at htk
        clear hch hnl
        have hcall := HI.out.2.1 done F (b[i]'hil) wr (by omega) hI
        obtain ⟨cc, hcc⟩ : ∃ cc, cc = b[i]'hil := ⟨_, rfl⟩
        rw [← hcc] at hcall d0 htk
        obtain ⟨cn, hcn⟩ : ∃ cn, cn = cc.toNat := ⟨_, rfl⟩
        rw [← hcn] at hcall d0
        have hiB : i + 1 ≤ BL := hi
        have hi6 : i ≤ 1000000 := by omega
        have HJ := Lib.hid (And.intro hcall (And.intro hfr (And.intro hFn (And.intro htk (And.intro hch2 (And.intro hdl (And.intro hk hkl)))))))
        clear hcall hfr hFn htk hch2 hdl hI hk hF hch0 hb hl hlr hca hbr hbx hz1 f1 hbox hBL hLL hB1 hcc hib hcn
        go_wp2
        refine HJ.out.1.mono ?_
        rintro e w2 ⟨rfl, f2, F2, hI2, hF2⟩
        have H2 := Lib.hid (And.intro f2 (And.intro hI2 hF2))
        clear f2 hI2 hF2 c0 c1 d0 eg
        go_wp2
        go_roundg (BL - (i + 1))
        case measure => have := HJ.out.2.2.2.2.2.2.1; omega
        case rel =>
          obtain ⟨_, hfr, hFn, htk, hch, hdl, hk, hkl⟩ := HJ.out
          obtain ⟨f2, hI2, hF2⟩ := H2.out
          refine ⟨i + 1, k, done ++ [.lit cc], F2, by go_num, rfl, rfl, hiB, hkl, ?_, ?_, hch, hI2, hfr.step f2 fun y hy => hFn y hy, fun y hy => ?_⟩
          · rw [List.append_assoc]; exact htk
          · rw [List.length_append]; simp only [List.length_cons, List.length_nil]; omega
          · rcases hF2 y hy with q | q
            · exact hFn y q
            · exact .inr (Nat.le_trans hfr.size q)
    · have HJ := Lib.hid (And.intro hI (And.intro hfr (And.intro hFn htk)))
      clear hI hfr hFn htk hch hF hch0 hb hl hbx hz1 f1 hbox hBL hLL hB1
      go_wp2
      (try simp only [Exit.inBlock, Exit.then])
      refine bodyPost_end (results_none rfl _ _ _) rfl ?_
      obtain ⟨hI, hfr, hFn, htk⟩ := HJ.out
      rw [toks_end (by have := HB.out.2.2.2.2.2.2.2.1; omega), List.append_nil] at htk
      rw [htk] at hI
      have hB := HBB.out
      exact ⟨rfl, (HB.out.2.2.2.2.2.1.mono (by simp)).trans hfr, F, hI, fun y hy => (hFn y hy).imp id fun q => Nat.le_trans HB.out.2.2.2.2.2.1.size q⟩
end Go.Proofs.YtolkoidbkaidkaaGreat.defl
/-
  Package-merge: the plain law: the lengths that it makes are those of a complete code, none too long.
-/
namespace Go.Proofs.YtolkoidbkaidkaaGreat.huf
open Go

/-- A coin: its worth, and which symbols lie in it. -/
abbrev Coin := Nat × List Nat
def packs : List Coin → List Coin
  | x :: y :: t => (x.1 + y.1, x.2 ++ y.2) :: packs t
  | _ => []
/-- Two rows in order, put together in order; of equals the first row's come first. -/
def mrg : List Coin → List Coin → List Coin
  | [], p => p
  | x :: l, p => go x l (mrg l) p
where go (x : Coin) (l : List Coin) (f : List Coin → List Coin) : List Coin → List Coin
  | [] => x :: l
  | y :: p => if x.1 ≤ y.1 then x :: f (y :: p) else y :: go x l f p
theorem mrg_nil (p : List Coin) : mrg [] p = p := rfl
theorem mrg_nil_right (l : List Coin) : mrg l [] = l := by cases l <;> rfl
theorem mrg_le {x y : Coin} {l p : List Coin} (h : x.1 ≤ y.1) : mrg (x :: l) (y :: p) = x :: mrg l (y :: p) := by
  show mrg.go x l (mrg l) (y :: p) = _
  rw [mrg.go, if_pos h]
theorem mrg_gt {x y : Coin} {l p : List Coin} (h : ¬ x.1 ≤ y.1) : mrg (x :: l) (y :: p) = y :: mrg (x :: l) p := by
  show mrg.go x l (mrg l) (y :: p) = _
  rw [mrg.go, if_neg h]
  rfl
def Sorted (l : List Coin) : Prop := l.Pairwise fun a b => a.1 ≤ b.1
/-- How many of the first m come from the first row, and how many from the second. -/
def sel : List Coin → List Coin → Nat → Nat × Nat
  | _, _, 0 => (0, 0)
  | [], p, m + 1 => (0, min (m + 1) p.length)
  | x :: l, [], m + 1 => (min (m + 1) (l.length + 1), 0)
  | x :: l, y :: p, m + 1 => if x.1 ≤ y.1 then ((sel l (y :: p) m).1 + 1, (sel l (y :: p) m).2) else ((sel (x :: l) p m).1, (sel (x :: l) p m).2 + 1)
theorem mrg_length : ∀ (l p : List Coin), (mrg l p).length = l.length + p.length
  | [], p => by simp [mrg_nil]
  | x :: l, [] => by simp [mrg_nil_right]
  | x :: l, y :: p => by
    by_cases h : x.1 ≤ y.1
    · rw [mrg_le h, List.length_cons, mrg_length l (y :: p)]
      simp only [List.length_cons]
      omega
    · rw [mrg_gt h, List.length_cons, mrg_length (x :: l) p]
      simp only [List.length_cons]
      omega
termination_by l p => l.length + p.length
theorem sel_sum : ∀ (l p : List Coin) (m : Nat), m ≤ l.length + p.length → (sel l p m).1 + (sel l p m).2 = m ∧ (sel l p m).1 ≤ l.length ∧ (sel l p m).2 ≤ p.length
  | l, p, 0, _ => by cases l <;> cases p <;> simp [sel]
  | [], p, m + 1, h => by simp [sel] at h ⊢; omega
  | x :: l, [], m + 1, h => by simp [sel] at h ⊢; omega
  | x :: l, y :: p, m + 1, h => by
    simp only [List.length_cons] at h
    by_cases hx : x.1 ≤ y.1
    · obtain ⟨h1, h2, h3⟩ := sel_sum l (y :: p) m (by simp only [List.length_cons]; omega)
      rw [sel, if_pos hx]
      simp only [List.length_cons] at h3 ⊢
      omega
    · obtain ⟨h1, h2, h3⟩ := sel_sum (x :: l) p m (by simp only [List.length_cons]; omega)
      rw [sel, if_neg hx]
      simp only [List.length_cons] at h2 ⊢
      omega
termination_by l p m => m
theorem sel_perm : ∀ (l p : List Coin) (m : Nat), ((mrg l p).take m).Perm (l.take (sel l p m).1 ++ p.take (sel l p m).2)
  | l, p, 0 => by cases l <;> cases p <;> simp [sel]
  | [], p, m + 1 => by
    rw [mrg_nil, sel]
    simp only [List.take_zero, List.nil_append]
    rw [← List.take_take, List.take_of_length_le (Nat.le_refl p.length)]
  | x :: l, [], m + 1 => by
    rw [mrg_nil_right, sel]
    simp only [List.take_nil, List.append_nil]
    rw [← List.take_take, List.take_of_length_le (show (x :: l).length ≤ l.length + 1 from Nat.le_refl _)]
  | x :: l, y :: p, m + 1 => by
    by_cases hx : x.1 ≤ y.1
    · rw [mrg_le hx, sel, if_pos hx]
      simp only [List.take_succ_cons, List.cons_append]
      exact (sel_perm l (y :: p) m).cons x
    · rw [mrg_gt hx, sel, if_neg hx]
      simp only [List.take_succ_cons]
      exact ((sel_perm (x :: l) p m).cons y).trans List.perm_middle.symm
termination_by l p m => m
/-- A coin that is lighter than one of the second row that was taken was taken too. -/
theorem sel_light : ∀ (l p : List Coin) (m : Nat) (i j : Nat) (x y : Coin), Sorted l → l[i]? = some x → p[j]? = some y → x.1 < y.1 → j < (sel l p m).2 → i < (sel l p m).1
  | l, p, 0, i, j, x, y, _, _, _, _, h => by cases l <;> cases p <;> simp [sel] at h
  | [], p, m + 1, i, j, x, y, _, hx, _, _, _ => by simp at hx
  | x0 :: l, [], m + 1, i, j, x, y, _, _, hy, _, _ => by simp at hy
  | x0 :: l, y0 :: p, m + 1, i, j, x, y, hs, hx, hy, hxy, h => by
    have hs' := List.pairwise_cons.1 hs
    by_cases h0 : x0.1 ≤ y0.1
    · rw [sel, if_pos h0] at h ⊢
      cases i with
      | zero => simp
      | succ i =>
        rw [List.getElem?_cons_succ] at hx
        have := sel_light l (y0 :: p) m i j x y hs'.2 hx hy hxy h
        simp only
        omega
    · rw [sel, if_neg h0] at h ⊢
      cases j with
      | zero =>
        simp only [List.getElem?_cons_zero, Option.some.injEq] at hy
        subst hy
        exfalso
        cases i with
        | zero =>
          simp only [List.getElem?_cons_zero, Option.some.injEq] at hx
          subst hx
          omega
        | succ i =>
          rw [List.getElem?_cons_succ] at hx
          have := hs'.1 x (List.mem_of_getElem? hx)
          omega
      | succ j =>
        rw [List.getElem?_cons_succ] at hy
        exact sel_light (x0 :: l) p m i j x y hs hx hy hxy (by simpa using h)
termination_by l p m => m
/-- What was taken of the second row is lighter than a coin that was not. -/
theorem sel_heavy : ∀ (l p : List Coin) (m : Nat) (i j : Nat) (x y : Coin), Sorted l → l[i]? = some x → p[j]? = some y → (sel l p m).1 ≤ i → j < (sel l p m).2 → y.1 < x.1
  | l, p, 0, i, j, x, y, _, _, _, _, h => by cases l <;> cases p <;> simp [sel] at h
  | [], p, m + 1, i, j, x, y, _, hx, _, _, _ => by simp at hx
  | x0 :: l, [], m + 1, i, j, x, y, _, _, hy, _, _ => by simp at hy
  | x0 :: l, y0 :: p, m + 1, i, j, x, y, hs, hx, hy, hi, h => by
    have hs' := List.pairwise_cons.1 hs
    by_cases h0 : x0.1 ≤ y0.1
    · rw [sel, if_pos h0] at h hi
      cases i with
      | zero => simp at hi
      | succ i =>
        rw [List.getElem?_cons_succ] at hx
        exact sel_heavy l (y0 :: p) m i j x y hs'.2 hx hy (by simpa using hi) h
    · rw [sel, if_neg h0] at h hi
      have hxx : x0.1 ≤ x.1 := by
        cases i with
        | zero =>
          simp only [List.getElem?_cons_zero, Option.some.injEq] at hx
          rw [hx]
          exact Nat.le_refl _
        | succ i =>
          rw [List.getElem?_cons_succ] at hx
          exact hs'.1 x (List.mem_of_getElem? hx)
      cases j with
      | zero =>
        simp only [List.getElem?_cons_zero, Option.some.injEq] at hy
        subst hy
        omega
      | succ j =>
        rw [List.getElem?_cons_succ] at hy
        exact sel_heavy (x0 :: l) p m i j x y hs hx hy hi (by simpa using h)
termination_by l p m => m
theorem mrg_sorted : ∀ (l p : List Coin), Sorted l → Sorted p → Sorted (mrg l p)
  | [], p, _, hp => hp
  | x :: l, [], hl, _ => by rw [mrg_nil_right]; exact hl
  | x :: l, y :: p, hl, hp => by
    have hl' := List.pairwise_cons.1 hl
    have hp' := List.pairwise_cons.1 hp
    have mem : ∀ (a b : List Coin) z, z ∈ mrg a b → z ∈ a ∨ z ∈ b := fun a b z hz => by
      have h1 := sel_perm a b (mrg a b).length
      rw [List.take_of_length_le (Nat.le_refl _)] at h1
      rcases List.mem_append.1 (h1.mem_iff.1 hz) with k | k
      · exact .inl (List.mem_of_mem_take k)
      · exact .inr (List.mem_of_mem_take k)
    by_cases h : x.1 ≤ y.1
    · rw [mrg_le h]
      refine List.pairwise_cons.2 ⟨fun z hz => ?_, mrg_sorted l (y :: p) hl'.2 hp⟩
      rcases mem _ _ z hz with k | k
      · exact hl'.1 z k
      · rcases List.mem_cons.1 k with k | k
        · rw [k]; exact h
        · exact Nat.le_trans h (hp'.1 z k)
    · rw [mrg_gt h]
      refine List.pairwise_cons.2 ⟨fun z hz => ?_, mrg_sorted (x :: l) p hl hp'.2⟩
      rcases mem _ _ z hz with k | k
      · rcases List.mem_cons.1 k with k | k
        · rw [k]; omega
        · have := hl'.1 z k; omega
      · exact hp'.1 z k
termination_by l p => l.length + p.length
end Go.Proofs.YtolkoidbkaidkaaGreat.huf
/-
  Package-merge, further: rows of packages, how often each symbol is taken, and the sum.
-/
namespace Go.Proofs.YtolkoidbkaidkaaGreat.huf
open Go

theorem packs_length : ∀ l : List Coin, (packs l).length = l.length / 2
  | [] => rfl
  | [x] => by simp [packs]
  | x :: y :: t => by
    rw [packs, List.length_cons, packs_length t]
    simp only [List.length_cons]
    omega
theorem packs_get : ∀ (l : List Coin) (j : Nat) (y : Coin), (packs l)[j]? = some y → ∃ u v, l[2 * j]? = some u ∧ l[2 * j + 1]? = some v ∧ y = (u.1 + v.1, u.2 ++ v.2)
  | [], j, y, h => by simp [packs] at h
  | [x], j, y, h => by simp [packs] at h
  | x :: z :: t, 0, y, h => by
    simp only [packs, List.getElem?_cons_zero, Option.some.injEq] at h
    exact ⟨x, z, rfl, rfl, h.symm⟩
  | x :: z :: t, j + 1, y, h => by
    rw [packs, List.getElem?_cons_succ] at h
    obtain ⟨u, v, h1, h2, h3⟩ := packs_get t j y h
    exact ⟨u, v, by rw [show 2 * (j + 1) = 2 * j + 1 + 1 from by omega]; exact h1, by rw [show 2 * (j + 1) + 1 = 2 * j + 1 + 1 + 1 from by omega]; exact h2, h3⟩
theorem sorted_get {l : List Coin} (h : Sorted l) {i j : Nat} {x y : Coin} (hi : l[i]? = some x) (hj : l[j]? = some y) (hij : i ≤ j) : x.1 ≤ y.1 := by
  obtain ⟨h1, rfl⟩ := List.getElem?_eq_some_iff.1 hi
  obtain ⟨h2, rfl⟩ := List.getElem?_eq_some_iff.1 hj
  by_cases e : i = j
  · subst e; exact Nat.le_refl _
  · exact List.pairwise_iff_getElem.1 h i j h1 h2 (by omega)
theorem packs_sorted (l : List Coin) (h : Sorted l) : Sorted (packs l) := by
  refine List.pairwise_iff_getElem.2 fun i j hi hj hij => ?_
  obtain ⟨u, v, h1, h2, h3⟩ := packs_get l i _ (List.getElem?_eq_getElem hi)
  obtain ⟨u', v', k1, k2, k3⟩ := packs_get l j _ (List.getElem?_eq_getElem hj)
  rw [h3, k3]
  have a1 := sorted_get h h1 k1 (by omega)
  have a2 := sorted_get h h2 k2 (by omega)
  simp only
  omega
theorem packs_ins : ∀ (l : List Coin) (p : Nat), p ≤ (packs l).length → ((packs l).take p).flatMap (·.2) = (l.take (2 * p)).flatMap (·.2)
  | l, 0, _ => by simp
  | [], p + 1, h => by simp [packs] at h
  | [x], p + 1, h => by simp [packs] at h
  | x :: y :: t, p + 1, h => by
    rw [packs, show 2 * (p + 1) = 2 * p + 1 + 1 from by omega]
    simp only [List.take_succ_cons, List.flatMap_cons, List.append_assoc]
    rw [packs_ins t p (by rw [packs, List.length_cons] at h; omega)]
def Pos (l : List Coin) : Prop := ∀ x ∈ l, 0 < x.1
theorem packs_pos (l : List Coin) (h : Pos l) : Pos (packs l) := by
  intro y hy
  obtain ⟨j, hj⟩ := List.getElem?_of_mem hy
  obtain ⟨u, v, h1, h2, rfl⟩ := packs_get l j y hj
  have := h u (List.mem_of_getElem? h1)
  simp only
  omega
theorem mrg_mem (a b : List Coin) (z : Coin) (hz : z ∈ mrg a b) : z ∈ a ∨ z ∈ b := by
  have h1 := sel_perm a b (mrg a b).length
  rw [List.take_of_length_le (Nat.le_refl _)] at h1
  rcases List.mem_append.1 (h1.mem_iff.1 hz) with k | k
  · exact .inl (List.mem_of_mem_take k)
  · exact .inr (List.mem_of_mem_take k)
/-- The rows of packages; the first one (1) holds the coins alone. -/
def row (l : List Coin) : Nat → List Coin
  | 0 => []
  | k + 1 => mrg l (packs (row l k))
theorem row_sorted (l : List Coin) (h : Sorted l) : ∀ k, Sorted (row l k)
  | 0 => List.Pairwise.nil
  | k + 1 => mrg_sorted l _ h (packs_sorted _ (row_sorted l h k))
theorem row_pos (l : List Coin) (h : Pos l) : ∀ k, Pos (row l k)
  | 0 => by intro x hx; cases hx
  | k + 1 => by
    intro x hx
    rcases mrg_mem _ _ x hx with hx | hx
    · exact h x hx
    · exact packs_pos _ (row_pos l h k) x hx
theorem row_length (l : List Coin) (k : Nat) : (row l (k + 1)).length = l.length + (row l k).length / 2 := by
  rw [row, mrg_length, packs_length]
theorem row_big (l : List Coin) (L : Nat) (hn : l.length ≤ 2 ^ L) : ∀ k, k ≤ L → 2 * l.length ≤ (row l (k + 1)).length + 2 ^ (L - k)
  | 0, _ => by
    rw [row_length, Nat.sub_zero]
    show 2 * l.length ≤ l.length + 0 / 2 + 2 ^ L
    omega
  | k + 1, h => by
    have ih := row_big l L hn k (by omega)
    rw [row_length]
    have e : 2 ^ (L - k) = 2 * 2 ^ (L - (k + 1)) := by rw [show L - k = L - (k + 1) + 1 from by omega, Nat.pow_succ, Nat.mul_comm]
    omega
/-- How many coins, and how many packages, are among the first m of row k + 1. -/
def sl (l : List Coin) (k m : Nat) : Nat × Nat := sel l (packs (row l k)) m
/-- How often the i-th coin lies in the first m of row k. -/
def lenf (l : List Coin) : Nat → Nat → Nat → Nat
  | 0, _, _ => 0
  | k + 1, m, i => (if i < (sl l k m).1 then 1 else 0) + lenf l k (2 * (sl l k m).2) i
theorem lenf_le (l : List Coin) : ∀ k m i, lenf l k m i ≤ k
  | 0, _, _ => Nat.le_refl _
  | k + 1, m, i => by
    have := lenf_le l k (2 * (sl l k m).2) i
    rw [lenf]
    split <;> omega
theorem take_mem_get {l : List Coin} {m : Nat} {x : Coin} (h : x ∈ l.take m) : ∃ t, t < m ∧ l[t]? = some x := by
  obtain ⟨t, ht⟩ := List.getElem?_of_mem h
  rw [List.getElem?_take] at ht
  split at ht
  · exact ⟨t, by assumption, ht⟩
  · cases ht
theorem get_mem_take {l : List Coin} {m t : Nat} {x : Coin} (h : l[t]? = some x) (ht : t < m) : x ∈ l.take m := by
  refine List.mem_of_getElem? (i := t) ?_
  rw [List.getElem?_take, if_pos ht, h]
theorem sl_mono (l : List Coin) (hs : Sorted l) (hp : Pos l) (k m i : Nat) (hm : m ≤ (row l (k + 2)).length) (h : i < (sl l k (2 * (sl l (k + 1) m).2)).1) : i < (sl l (k + 1) m).1 := by
  have hm' : m ≤ l.length + (packs (row l (k + 1))).length := by rw [row, mrg_length] at hm; exact hm
  obtain ⟨_, _, hp3⟩ := sel_sum l (packs (row l (k + 1))) m hm'
  change (sl l (k + 1) m).2 ≤ _ at hp3
  rw [packs_length] at hp3
  generalize hP : (sl l (k + 1) m).2 = P at *
  have hr : 2 * P ≤ l.length + (packs (row l k)).length := by
    have : (row l (k + 1)).length = l.length + (packs (row l k)).length := by rw [row, mrg_length]
    omega
  obtain ⟨_, ha, _⟩ := sel_sum l (packs (row l k)) (2 * P) hr
  change (sl l k (2 * P)).1 ≤ _ at ha
  have hil : i < l.length := by omega
  have hx : l[i]? = some l[i] := List.getElem?_eq_getElem hil
  have hmem : l[i] ∈ (row l (k + 1)).take (2 * P) := by
    have h1 := sel_perm l (packs (row l k)) (2 * P)
    rw [show mrg l (packs (row l k)) = row l (k + 1) from rfl] at h1
    exact h1.mem_iff.2 (List.mem_append.2 (.inl (get_mem_take hx h)))
  obtain ⟨t, ht, htx⟩ := take_mem_get hmem
  have hj : t / 2 < (packs (row l (k + 1))).length := by rw [packs_length]; omega
  obtain ⟨u, v, h1, h2, h3⟩ := packs_get _ _ _ (List.getElem?_eq_getElem hj)
  have hpos := row_pos l hp (k + 1)
  have hu := hpos u (List.mem_of_getElem? h1)
  have hv := hpos v (List.mem_of_getElem? h2)
  have hlt : l[i].1 < ((packs (row l (k + 1)))[t / 2]).1 := by
    rw [h3]
    simp only
    rcases (show t = 2 * (t / 2) ∨ t = 2 * (t / 2) + 1 from by omega) with e | e
    · rw [e, h1] at htx
      rw [← Option.some.inj htx]
      omega
    · rw [e, h2] at htx
      rw [← Option.some.inj htx]
      omega
  exact sel_light l (packs (row l (k + 1))) m i (t / 2) l[i] _ hs hx (List.getElem?_eq_getElem hj) hlt (by
    change t / 2 < (sl l (k + 1) m).2
    rw [hP]
    omega)
theorem lenf_zero (l : List Coin) (hs : Sorted l) (hp : Pos l) : ∀ k m i, m ≤ (row l (k + 1)).length → (sl l k m).1 ≤ i → lenf l (k + 1) m i = 0
  | 0, m, i, _, h => by rw [lenf, if_neg (by omega), lenf]
  | k + 1, m, i, hm, h => by
    have hm' : m ≤ l.length + (packs (row l (k + 1))).length := by rw [row, mrg_length] at hm; exact hm
    obtain ⟨_, _, hp3⟩ := sel_sum l (packs (row l (k + 1))) m hm'
    change (sl l (k + 1) m).2 ≤ _ at hp3
    rw [packs_length] at hp3
    rw [lenf, if_neg (by omega), Nat.zero_add]
    refine lenf_zero l hs hp k _ i (by omega) ?_
    rcases Nat.lt_or_ge i (sl l k (2 * (sl l (k + 1) m).2)).1 with hc | hc
    · have := sl_mono l hs hp k m i hm hc
      omega
    · exact hc
def sumTo : Nat → (Nat → Nat) → Nat
  | 0, _ => 0
  | n + 1, f => sumTo n f + f n
theorem sumTo_congr {f g : Nat → Nat} : ∀ n, (∀ i, i < n → f i = g i) → sumTo n f = sumTo n g
  | 0, _ => rfl
  | n + 1, h => by rw [sumTo, sumTo, sumTo_congr n fun i hi => h i (by omega), h n (by omega)]
theorem sumTo_split (f : Nat → Nat) (c a : Nat) : ∀ n, sumTo n (fun i => if i < a then f i else f i + c) = sumTo n f + (n - a) * c
  | 0 => by simp [sumTo]
  | n + 1 => by
    rw [sumTo, sumTo, sumTo_split f c a n]
    by_cases h : n < a
    · rw [if_pos h, show n + 1 - a = 0 from by omega, show n - a = 0 from by omega]
      omega
    · rw [if_neg h, show n + 1 - a = n - a + 1 from by omega, Nat.add_mul, Nat.one_mul]
      omega
theorem lenf_sum (l : List Coin) (hs : Sorted l) (hp : Pos l) : ∀ k m, m ≤ (row l k).length → 2 * sumTo l.length (fun i => 2 ^ (k - lenf l k m i)) + m * 2 ^ k = 2 * (l.length * 2 ^ k)
  | 0, m, hm => by
    have : m = 0 := by simpa [row] using hm
    subst this
    have e : ∀ n, sumTo n (fun i => 2 ^ (0 - lenf l 0 0 i)) = n := fun n => by
      induction n with
      | zero => rfl
      | succ n ih => rw [sumTo, ih]; simp
    rw [e]
    omega
  | k + 1, m, hm => by
    have hm' : m ≤ l.length + (packs (row l k)).length := by rw [row, mrg_length] at hm; exact hm
    obtain ⟨h1, h2, h3⟩ := sel_sum l (packs (row l k)) m hm'
    change (sl l k m).1 + (sl l k m).2 = m at h1
    change (sl l k m).1 ≤ _ at h2
    change (sl l k m).2 ≤ _ at h3
    rw [packs_length] at h3
    have ih := lenf_sum l hs hp k (2 * (sl l k m).2) (by omega)
    have hstep : sumTo l.length (fun i => 2 ^ (k + 1 - lenf l (k + 1) m i)) = sumTo l.length (fun i => if i < (sl l k m).1 then 2 ^ (k - lenf l k (2 * (sl l k m).2) i) else 2 ^ (k - lenf l k (2 * (sl l k m).2) i) + 2 ^ k) := by
      refine sumTo_congr _ fun i _ => ?_
      by_cases hi : i < (sl l k m).1
      · rw [if_pos hi, lenf, if_pos hi]
        congr 1
        omega
      · have hz := lenf_zero l hs hp k m i hm (by omega)
        have hz2 := hz
        rw [lenf, if_neg hi, Nat.zero_add] at hz2
        rw [if_neg hi, hz, hz2, Nat.sub_zero, Nat.sub_zero, Nat.pow_succ]
        omega
    rw [hstep, sumTo_split]
    generalize sumTo l.length (fun i => 2 ^ (k - lenf l k (2 * (sl l k m).2) i)) = S at *
    generalize (sl l k m).1 = a at *
    generalize (sl l k m).2 = p at *
    obtain ⟨q, hq⟩ : ∃ q, l.length = a + q := ⟨l.length - a, by omega⟩
    rw [hq] at ih ⊢
    rw [show a + q - a = q from by omega, ← h1, Nat.pow_succ]
    generalize 2 ^ k = P at *
    simp only [Nat.add_mul, Nat.mul_add] at ih ⊢
    have e1 : 2 * p * P = 2 * (p * P) := Nat.mul_assoc _ _ _
    have e2 : a * (P * 2) = 2 * (a * P) := by rw [← Nat.mul_assoc, Nat.mul_comm]
    have e3 : p * (P * 2) = 2 * (p * P) := by rw [← Nat.mul_assoc, Nat.mul_comm]
    have e4 : q * (P * 2) = 2 * (q * P) := by rw [← Nat.mul_assoc, Nat.mul_comm]
    omega
theorem no_light (l : List Coin) (hs : Sorted l) (hp : Pos l) (X : Coin) (hn : 2 ≤ l.length) (hX : l[l.length - 1]? = some X) : ∀ k y, (packs (row l k))[l.length - 2]? = some y → X.1 ≤ y.1
  | 0, y, h => by simp [row, packs] at h
  | k + 1, y, h => by
    rcases Nat.lt_or_ge y.1 X.1 with hc | hc
    · exfalso
      obtain ⟨u, v, h1, h2, rfl⟩ := packs_get _ _ _ h
      have hu := row_pos l hp (k + 1) u (List.mem_of_getElem? h1)
      simp only at hc
      have hvX : v.1 < X.1 := by omega
      have hlen : 2 * (l.length - 2) + 1 < (row l (k + 1)).length := (List.getElem?_eq_some_iff.1 h2).1
      have htaken : ∀ z ∈ (row l (k + 1)).take (2 * l.length - 2), z.1 ≤ v.1 := fun z hz => by
        obtain ⟨t, ht, htz⟩ := take_mem_get hz
        exact sorted_get (row_sorted l hs (k + 1)) htz h2 (by omega)
      have hperm := sel_perm l (packs (row l k)) (2 * l.length - 2)
      rw [show mrg l (packs (row l k)) = row l (k + 1) from rfl] at hperm
      have hrl : (row l (k + 1)).length = l.length + (packs (row l k)).length := by rw [row, mrg_length]
      obtain ⟨s1, s2, s3⟩ := sel_sum l (packs (row l k)) (2 * l.length - 2) (by omega)
      have ha : (sel l (packs (row l k)) (2 * l.length - 2)).1 ≤ l.length - 1 := by
        rcases Nat.lt_or_ge (l.length - 1) (sel l (packs (row l k)) (2 * l.length - 2)).1 with hc2 | hc2
        · have := htaken X (hperm.mem_iff.2 (List.mem_append.2 (.inl (get_mem_take hX hc2))))
          omega
        · exact hc2
      have hj : l.length - 2 < (packs (row l k)).length := by omega
      have hy' := List.getElem?_eq_getElem hj
      have h3 := no_light l hs hp X hn hX k _ hy'
      have h4 := htaken _ (hperm.mem_iff.2 (List.mem_append.2 (.inr (get_mem_take hy' (show l.length - 2 < _ by omega)))))
      omega
    · exact hc
theorem all_coins (l : List Coin) (hs : Sorted l) (hp : Pos l) (k : Nat) (hn : 2 ≤ l.length) (hm : 2 * l.length - 2 ≤ (row l (k + 1)).length) : (sl l k (2 * l.length - 2)).1 = l.length := by
  have hX : l[l.length - 1]? = some l[l.length - 1] := List.getElem?_eq_getElem (by omega)
  have hrl : (row l (k + 1)).length = l.length + (packs (row l k)).length := by rw [row, mrg_length]
  obtain ⟨s1, s2, s3⟩ := sel_sum l (packs (row l k)) (2 * l.length - 2) (by omega)
  unfold sl
  rcases Nat.lt_or_ge (sel l (packs (row l k)) (2 * l.length - 2)).1 l.length with hc | hc
  · exfalso
    have hj : l.length - 2 < (packs (row l k)).length := by omega
    have hy := List.getElem?_eq_getElem hj
    have h1 := sel_heavy l (packs (row l k)) (2 * l.length - 2) (l.length - 1) (l.length - 2) _ _ hs hX hy (by omega) (by omega)
    have h2 := no_light l hs hp _ hn hX k _ hy
    omega
  · omega
/-- The lengths are those of a complete code, none too long, none nought. -/
theorem pm_kraft (l : List Coin) (hs : Sorted l) (hp : Pos l) (L : Nat) (hL : 1 ≤ L) (hn : 2 ≤ l.length) (hnL : l.length ≤ 2 ^ L) :
    2 * l.length - 2 ≤ (row l L).length ∧ (∀ i, i < l.length → 1 ≤ lenf l L (2 * l.length - 2) i) ∧ sumTo l.length (fun i => 2 ^ (L - lenf l L (2 * l.length - 2) i)) = 2 ^ L := by
  obtain ⟨k, rfl⟩ : ∃ k, L = k + 1 := ⟨L - 1, by omega⟩
  have hb := row_big l (k + 1) hnL k (by omega)
  rw [show k + 1 - k = 1 from by omega, Nat.pow_one] at hb
  refine ⟨by omega, fun i hi => ?_, ?_⟩
  · have := all_coins l hs hp k hn (by omega)
    rw [lenf, if_pos (by omega)]
    omega
  · have h1 := lenf_sum l hs hp (k + 1) (2 * l.length - 2) (by omega)
    obtain ⟨q, hq⟩ : ∃ q, l.length = q + 1 := ⟨l.length - 1, by omega⟩
    generalize sumTo l.length (fun i => 2 ^ (k + 1 - lenf l (k + 1) (2 * l.length - 2) i)) = S at *
    rw [hq] at h1
    generalize 2 ^ (k + 1) = P at *
    rw [show 2 * (q + 1) - 2 = 2 * q from by omega, Nat.mul_assoc, Nat.add_mul, Nat.one_mul] at h1
    omega
end Go.Proofs.YtolkoidbkaidkaaGreat.huf
/-
  A stable sort has one answer only; two rows in order, put together, are the stable sort of the two.
-/
namespace Go.Proofs.YtolkoidbkaidkaaGreat.huf
open Go

/-- The same coins, and those of one worth in the same order. -/
def Stb {α : Type} (a b : List (Nat × α)) : Prop := ∀ k : Nat, a.filter (fun x => x.1 == k) = b.filter fun x => x.1 == k
theorem Stb.refl {α : Type} (a : List (Nat × α)) : Stb a a := fun _ => rfl
theorem Stb.symm {α : Type} {a b : List (Nat × α)} (h : Stb a b) : Stb b a := fun k => (h k).symm
theorem Stb.trans {α : Type} {a b c : List (Nat × α)} (h : Stb a b) (h' : Stb b c) : Stb a c := fun k => (h k).trans (h' k)
theorem Stb.append {α : Type} {a b c d : List (Nat × α)} (h : Stb a b) (h' : Stb c d) : Stb (a ++ c) (b ++ d) := fun k => by
  rw [List.filter_append, List.filter_append, h k, h' k]
/-- Two blocks change places: the first is all heavier than the second. -/
theorem Stb.swap {α : Type} {a b : List (Nat × α)} (h : ∀ x ∈ a, ∀ y ∈ b, y.1 < x.1) : Stb (a ++ b) (b ++ a) := fun k => by
  rw [List.filter_append, List.filter_append]
  by_cases ha : a.filter (fun x => x.1 == k) = []
  · rw [ha]; simp
  · obtain ⟨x, hx⟩ := List.exists_mem_of_ne_nil _ ha
    have hx' := List.mem_filter.1 hx
    have e : x.1 = k := by simpa using hx'.2
    have hb : b.filter (fun y => y.1 == k) = [] := by
      refine List.filter_eq_nil_iff.2 fun y hy => ?_
      have := h x hx'.1 y hy
      simp only [beq_iff_eq]
      omega
    rw [hb]; simp
theorem Stb.mem {α : Type} {a b : List (Nat × α)} (h : Stb a b) (x : Nat × α) : x ∈ a ↔ x ∈ b := by
  have h1 : x ∈ a ↔ x ∈ a.filter (fun y => y.1 == x.1) := by simp [List.mem_filter]
  have h2 : x ∈ b ↔ x ∈ b.filter (fun y => y.1 == x.1) := by simp [List.mem_filter]
  rw [h1, h2, h x.1]
/-- In order, whatever lies in the coins. -/
def Srt {α : Type} (l : List (Nat × α)) : Prop := l.Pairwise fun a b => a.1 ≤ b.1
/-- symMerge's step: two ordered halves, cut and turned about; then each side is put in order by itself. -/
theorem sym_step {α : Type} {A1 A2 B1 B2 L R : List (Nat × α)} (hA : Srt (A1 ++ A2)) (hB : Srt (B1 ++ B2))
    (h1 : ∀ x ∈ A2, ∀ y ∈ B1, y.1 < x.1) (h2 : ∀ x ∈ A1, ∀ y ∈ B2, x.1 ≤ y.1)
    (hL : Srt L) (hLs : Stb L (A1 ++ B1)) (hR : Srt R) (hRs : Stb R (A2 ++ B2)) :
    Srt (L ++ R) ∧ Stb (L ++ R) (A1 ++ A2 ++ (B1 ++ B2)) := by
  refine ⟨List.pairwise_append.2 ⟨hL, hR, fun x hx y hy => ?_⟩, ?_⟩
  · rcases List.mem_append.1 ((hLs.mem x).1 hx) with a | a <;> rcases List.mem_append.1 ((hRs.mem y).1 hy) with b | b
    · exact (List.pairwise_append.1 hA).2.2 x a y b
    · exact h2 x a y b
    · exact Nat.le_of_lt (h1 y b x a)
    · exact (List.pairwise_append.1 hB).2.2 x a y b
  · refine (hLs.append hRs).trans ?_
    have := Stb.append (Stb.append (.refl A1) (Stb.symm (Stb.swap h1))) (.refl B2)
    simpa [List.append_assoc] using this
/-- One coin is put behind all that are lighter. -/
theorem put_left {α : Type} {x : Nat × α} {B1 B2 : List (Nat × α)} (hB : Srt (B1 ++ B2)) (h1 : ∀ y ∈ B1, y.1 < x.1) (h2 : ∀ y ∈ B2, x.1 ≤ y.1) :
    Srt (B1 ++ x :: B2) ∧ Stb (B1 ++ x :: B2) (x :: (B1 ++ B2)) := by
  obtain ⟨hb1, hb2, hb3⟩ := List.pairwise_append.1 hB
  refine ⟨List.pairwise_append.2 ⟨hb1, List.pairwise_cons.2 ⟨h2, hb2⟩, fun a ha y hy => ?_⟩, ?_⟩
  · rcases List.mem_cons.1 hy with e | e
    · rw [e]; exact Nat.le_of_lt (h1 a ha)
    · exact hb3 a ha y e
  · have := Stb.append (Stb.symm (Stb.swap (a := [x]) (b := B1) fun a ha y hy => by rw [List.mem_singleton.1 ha]; exact h1 y hy)) (.refl B2)
    simpa [List.append_assoc] using this
/-- One coin is put ahead of all that are heavier. -/
theorem put_right {α : Type} {x : Nat × α} {A1 A2 : List (Nat × α)} (hA : Srt (A1 ++ A2)) (h1 : ∀ y ∈ A1, y.1 ≤ x.1) (h2 : ∀ y ∈ A2, x.1 < y.1) :
    Srt (A1 ++ x :: A2) ∧ Stb (A1 ++ x :: A2) (A1 ++ A2 ++ [x]) := by
  obtain ⟨ha1, ha2, ha3⟩ := List.pairwise_append.1 hA
  refine ⟨List.pairwise_append.2 ⟨ha1, List.pairwise_cons.2 ⟨fun y hy => Nat.le_of_lt (h2 y hy), ha2⟩, fun a ha y hy => ?_⟩, ?_⟩
  · rcases List.mem_cons.1 hy with e | e
    · rw [e]; exact h1 a ha
    · exact ha3 a ha y e
  · have := Stb.append (.refl A1) (Stb.symm (Stb.swap (a := A2) (b := [x]) fun a ha y hy => by rw [List.mem_singleton.1 hy]; exact h2 a ha))
    simpa [List.append_assoc] using this
theorem stb_unique : ∀ (a b : List Coin), Sorted a → Sorted b → Stb a b → a = b
  | [], [], _, _, _ => rfl
  | [], y :: b, _, _, h => absurd ((h.mem y).2 List.mem_cons_self) (by simp)
  | x :: a, [], _, _, h => absurd ((h.mem x).1 List.mem_cons_self) (by simp)
  | x :: a, y :: b, ha, hb, h => by
    have hx : y.1 ≤ x.1 := by
      rcases List.mem_cons.1 ((h.mem x).1 List.mem_cons_self) with e | e
      · rw [e]; exact Nat.le_refl _
      · exact (List.pairwise_cons.1 hb).1 x e
    have hy : x.1 ≤ y.1 := by
      rcases List.mem_cons.1 ((h.mem y).2 List.mem_cons_self) with e | e
      · rw [e]; exact Nat.le_refl _
      · exact (List.pairwise_cons.1 ha).1 y e
    have he : x.1 = y.1 := by omega
    have h1 := h x.1
    rw [List.filter_cons_of_pos (by simp), List.filter_cons_of_pos (by simp [he])] at h1
    have hxy : x = y := (List.cons.inj h1).1
    subst hxy
    rw [stb_unique a b (List.pairwise_cons.1 ha).2 (List.pairwise_cons.1 hb).2 fun k => ?_]
    have h2 := h k
    rw [List.filter_cons, List.filter_cons] at h2
    split at h2
    · exact (List.cons.inj h2).2
    · exact h2
theorem mrg_stb : ∀ (l p : List Coin), Sorted l → Stb (mrg l p) (l ++ p)
  | [], p, _ => by rw [mrg_nil, List.nil_append]; exact .refl _
  | x :: l, [], _ => by rw [mrg_nil_right, List.append_nil]; exact .refl _
  | x :: l, y :: p, hs => by
    by_cases h : x.1 ≤ y.1
    · rw [mrg_le h]
      exact Stb.append (.refl [x]) (mrg_stb l (y :: p) (List.pairwise_cons.1 hs).2)
    · rw [mrg_gt h]
      have h1 : Stb (y :: mrg (x :: l) p) ([y] ++ ((x :: l) ++ p)) := Stb.append (.refl [y]) (mrg_stb (x :: l) p hs)
      refine h1.trans ?_
      rw [← List.append_assoc, show (x :: l) ++ y :: p = ((x :: l) ++ [y]) ++ p from by simp]
      refine Stb.append (Stb.symm (Stb.swap fun a ha b hb => ?_)) (.refl p)
      rw [List.mem_singleton.1 hb]
      rcases List.mem_cons.1 ha with e | e
      · rw [e]; omega
      · have := (List.pairwise_cons.1 hs).1 a e
        omega
termination_by l p => l.length + p.length
/-- Any stable sort of the two, one behind the other, is `mrg`. -/
theorem stable_mrg {l p r : List Coin} (hl : Sorted l) (hp : Sorted p) (hr : Sorted r) (h : Stb r (l ++ p)) : r = mrg l p :=
  stb_unique _ _ hr (mrg_sorted l p hl hp) (h.trans (mrg_stb l p hl).symm)
end Go.Proofs.YtolkoidbkaidkaaGreat.huf
/-
  A region that draws its order, of operations that read beside operations that make or write memory (these one behind the other): walked once, in one order.
-/
namespace Go.Proofs.YtolkoidbkaidkaaGreat.lib
open Go

/-! ### Operations that hand back a value and enter no function -/
def okKind : Op → Bool
  | .move _ | .assign _ | .pick .. | .load .. | .nilCheck _ | .binOp .. | .unOp .. | .convert .. | .slice .. | .fieldAddr .. | .field .. | .indexAddr .. | .index .. | .extract .. | .makeInterface .. => true
  | .call { callee := .builtin .len, .. } | .call { callee := .builtin .cap, .. } | .call { callee := .builtin .min, .. } | .call { callee := .builtin .max, .. } => true
  | _ => false
theorem no_enter_v {P : Program} {w w' : World} {s : Sem Value} {f : FuncId} {args : Array Value} : (do pure (Next.value (← s)) : Sem Next).run P w ≠ .ok (.enter f args) w' := by
  intro h
  rw [Sem.run_bind] at h
  cases hr : s.run P w with
  | ok v u => rw [hr] at h; simp [Result.andThen] at h
  | halt x u => rw [hr] at h; simp [Result.andThen] at h
theorem okKind_enter {P : Program} {w w' : World} {ρ : Operand → Value} {o : Oper} {f : FuncId} {args : Array Value} (h : okKind o.op = true) : (execOp ρ o).run P w ≠ .ok (.enter f args) w' := by
  obtain ⟨dst, op, ty, pos, after, guard⟩ := o
  cases op <;> simp only [okKind, Bool.false_eq_true] at h <;> try (exact no_enter_v)
  case move => simp [execOp]
  case assign => simp [execOp]
  case pick c a b =>
    intro h
    simp only [execOp, Sem.run_bind] at h
    cases hr : (asBool (ρ c)).run P w with
    | ok v u => rw [hr] at h; simp [Result.andThen] at h
    | halt x u => rw [hr] at h; simp [Result.andThen] at h
  case nilCheck x =>
    intro h
    simp only [execOp] at h
    split at h
    · simp [runtimePanic, goPanic] at h
    · simp [runtimePanic, goPanic] at h
    · simp [runtimePanic, goPanic] at h
    · split at h
      · simp [runtimePanic, goPanic] at h
      · simp [unsupported, Result.andThen] at h
        split at h
        · split at h <;> simp at h
        · simp at h
      · simp at h
    · simp at h
  case call c =>
    obtain ⟨callee, args, ts⟩ := c
    cases callee with
    | value f => simp [okKind] at h
    | invoke r m => simp [okKind] at h
    | builtin b =>
      cases b <;> simp [okKind] at h <;> (simp only [execOp, resolve, pure_bind, invoke, builtin]; exact no_enter_v)
/-- A quiet operation of such a kind hands back its value and leaves the world. -/
theorem runs_of_quiet {P : Program} {o : Oper} {a : Act} {C : World → Prop} {w : World} {v : Value} (hk : okKind o.op = true) (h : o.quietAt P a C w v) :
    (execOp a.eval o).run P w = .ok (.value v) w ∨ ((execOp a.eval o).run P w = .ok .skip w ∧ v = undef) := by
  unfold Oper.quietAt at h
  generalize hr : (execOp a.eval o).run P w = r at h
  cases r with
  | ok n w' =>
    cases n <;> simp only [Oper.quietUpon] at h
    case value u => left; rw [h.1, h.2]
    case skip => right; rw [h.1]; exact ⟨rfl, h.2⟩
    case enter f args => exact absurd hr (okKind_enter hk)
  | halt x w' => simp only [Oper.quietUpon] at h

/-! ### Worlds that a region's operations may come to -/
open Classical in
/-- Any world in which, of w's blocks, those of S alone may have turned. -/
noncomputable def sup (S : List Nat) (w x : World) : World := if Fr S w x then x else w
theorem sup_fr (S : List Nat) (w x : World) : Fr S w (sup S w x) := by
  unfold sup
  split
  · assumption
  · exact Fr.refl _ _
theorem sup_self {S : List Nat} {w x : World} (h : Fr S w x) : sup S w x = x := by unfold sup; rw [if_pos h]
@[go_sem] def Sup (S : List Nat) (w : World) : World → Prop := fun u => ∃ x, u = sup S w x
theorem Sup.of {S : List Nat} {w u : World} (h : Fr S w u) : Sup S w u := ⟨u, (sup_self h).symm⟩
theorem Sup.fr {S : List Nat} {w u : World} (h : Sup S w u) : Fr S w u := by obtain ⟨x, rfl⟩ := h; exact sup_fr S w x
theorem Sup.sub {S : List Nat} {w w' : World} (h : Fr S w w') : ∀ u, Sup S w' u → Sup S w u := fun u hu => Sup.of (h.trans hu.fr)
@[go_sem] theorem cell?_sup {S : List Nat} {w x : World} {a : Addr} (h : (w.cell? a).isSome = true) (hn : a.block ∉ S) : (sup S w x).cell? a = w.cell? a := by
  obtain ⟨v, hv⟩ := Option.isSome_iff_exists.1 h
  rw [hv, (sup_fr S w x).cell hv hn]

/-! ### The law -/
section
variable {P : Program} {ops : Array Oper} {Q : Exit → Act → World → Prop} {md : Region.Mode}

/-- In this state, in every world of C, the operation leaves v and the world. -/
def QY (P : Program) (ops : Array Oper) (C : World → Prop) (o : Oper) (v : Value) (a : Act) : Prop :=
  (Region.wanted o (yielded ops a.tmps) = true ∧ ∀ w, C w → (execOp a.eval o).run P w = .ok (.value v) w ∨ ((execOp a.eval o).run P w = .ok .skip w ∧ v = undef)) ∨
  (Region.wanted o (yielded ops a.tmps) = false ∧ v = undef)
theorem QY.of_same {C : World → Prop} {o : Oper} {v : Value} {a a' : Act} (hy : QY P ops C o v a) (he : execOp a'.eval o = execOp a.eval o)
    (hw : Region.wanted o (yielded ops a'.tmps) = Region.wanted o (yielded ops a.tmps)) : QY P ops C o v a' := by
  unfold QY at *
  rw [he, hw]
  exact hy
theorem QY.op {C : World → Prop} {i : Nat} {o : Oper} {v : Value} {a : Act} (hi : ops[i]? = some o) (hy : QY P ops C o v a) {K : Act → World → Prop} {w : World} (hC : C w) (h : K (a.put o.dst v) w) : wpOp P ops Q i K a w := by
  unfold wpOp
  simp only [hi]
  rcases hy with ⟨hw, hv⟩ | ⟨hw, rfl⟩
  · rcases hv w hC with hr | ⟨hr, rfl⟩
    · simp only [hw, if_true, Oper.wp, hr, Oper.upon]; exact .inl h
    · simp only [hw, if_true, Oper.wp, hr, Oper.upon]; exact .inl h
  · simp only [hw, Bool.false_eq_true, if_false]; exact h
theorem put_of_QY {C : World → Prop} {j : Nat} {oi oj : Oper} {v : Value} (hj : ops[j]? = some oj) (hap : oi.apart ops oj = true)
    (hsi : ∀ cs b, oi.op ≠ .select cs b) (hsj : ∀ cs b, oj.op ≠ .select cs b)
    (hQ : ∀ c a d v w, Q (.panic c) (Act.put a d v) w → Q (.panic c) a w) {K : Act → World → Prop} {a : Act} {w : World}
    (hy : QY P ops C oi v a) (h : wpOp P ops Q j K (a.put oi.dst v) w) :
    wpOp P ops Q j (fun a' w' => QY P ops C oi v a' ∧ K (a'.put oi.dst v) w') a w := by
  obtain ⟨h1, h2, h3⟩ := Oper.apart_spec hap
  have keep : ∀ (a : Act), QY P ops C oi v a → ∀ u, QY P ops C oi v (a.put oj.dst u) := fun a hy u =>
    hy.of_same (execOp_put oi hsi a oj.dst u h3) (wanted_put oi a oj.dst u h3)
  have keepD : ∀ d, QY P ops C oi v { a with defers := d :: a.defers } := fun d => hy.of_same rfl rfl
  unfold wpOp at *
  simp only [hj] at *
  rw [wanted_put oj a oi.dst v h1] at h
  by_cases hw : Region.wanted oj (yielded ops a.tmps) = true
  · simp only [hw, if_true] at h ⊢
    rcases h with h | ⟨hasks, hlets⟩
    · left
      unfold Oper.wp at *
      rw [execOp_put oj hsj a oi.dst v h1] at h
      generalize (execOp a.eval oj).run P w = r at *
      cases r with
      | ok n w' =>
        cases n <;> simp only [Oper.upon] at h ⊢
        case value u => exact ⟨keep a hy u, by rw [← Act.put_comm a v u h2]; exact h⟩
        case skip => exact ⟨keep a hy _, by rw [← Act.put_comm a v undef h2]; exact h⟩
        case defer d =>
          refine ⟨keep _ (keepD d) _, ?_⟩
          rw [← Act.put_comm _ v undef h2, ← Act.put_defers]
          exact h
        case enter f args =>
          refine Calls.mono h fun e w'' he => ?_
          cases e with
          | returned u => exact ⟨keep a hy u, by rw [← Act.put_comm a v u h2]; exact he⟩
          | panicked c => exact hQ _ _ _ _ _ he
          | outgrown => exact he
        case row row args => exact Rows.mono h fun u w'' he => ⟨keep a hy u, by rw [← Act.put_comm a v u h2]; exact he⟩
      | halt x w' =>
        cases x <;> simp only [Oper.upon] at h ⊢
        case panic u => exact hQ _ _ _ _ _ h
    · right
      refine ⟨?_, hlets⟩
      unfold Oper.asks at *
      rw [execOp_put oj hsj a oi.dst v h1] at hasks
      exact hasks
  · simp only [hw] at h ⊢
    exact ⟨keep a hy _, by rw [← Act.put_comm a v undef h2]; exact h⟩

/-- Whatever order is picked from here on; C holds behind each operation of the first n. -/
def wpMx (P : Program) (md : Region.Mode) (ops : Array Oper) (Q : Exit → Act → World → Prop) (n : Nat) (C : World → Prop) : Nat → Array Bool → Act → World → Prop
  | 0, listed, a, w => Region.ready md ops listed = [] ∧ Q .normal a w
  | f + 1, listed, a, w => (Region.ready md ops listed = [] → Q .normal a w) ∧
    ∀ i ∈ Region.ready md ops listed, wpOp P ops Q i (fun a' w' => (i < n → C w') ∧ wpMx P md ops Q n C f (listed.setIfInBounds i true) a' w') a w
theorem wpMx_mono {n : Nat} {C C' : World → Prop} (hC : ∀ u, C' u → C u) : ∀ (f : Nat) (listed : Array Bool) (a : Act) (w : World), wpMx P md ops Q n C' f listed a w → wpMx P md ops Q n C f listed a w
  | 0, _, _, _, h => h
  | f + 1, _, _, _, h => ⟨h.1, fun i hi => wpOp_mono (fun a' w' h' => ⟨fun hn => hC _ (h'.1 hn), wpMx_mono hC f _ a' w' h'.2⟩) (h.2 i hi)⟩
theorem wpAny_of_mx {n : Nat} {C : World → Prop} : ∀ (f : Nat) (listed : Array Bool) (a : Act) (w : World), wpMx P md ops Q n C f listed a w → wpAny P md ops Q f listed a w
  | 0, _, _, _, h => h
  | f + 1, _, _, _, h => ⟨h.1, fun i hi => wpOp_mono (fun a' w' h' => wpAny_of_mx f _ a' w' h'.2) (h.2 i hi)⟩
/-- A quiet operation of the first n may be taken first. -/
theorem wpMx_first {n i : Nat} {oi : Oper} {v : Value} {C : World → Prop} (hi : ops[i]? = some oi) (hsel : ∀ (j : Nat) (o : Oper) cs b, ops[j]? = some o → o.op ≠ .select cs b)
    (hQ : ∀ c a d v w, Q (.panic c) (Act.put a d v) w → Q (.panic c) a w) (hin : i < n)
    (hT : ∀ listed, HeadInv md ops n listed → listed.getD i true = false → ∀ t, n ≤ t → t ∉ Region.ready md ops listed) :
    ∀ (f : Nat) (listed : Array Bool) (a : Act) (w : World), HeadInv md ops n listed →
      (∀ j oj, ops[j]? = some oj → j ≠ i → listed.getD j true = false → (∀ e ∈ oj.after, Region.binds md e = true → e.on ≠ i) → oi.apart ops oj = true) →
      i ∈ Region.ready md ops listed → QY P ops C oi v a → C w →
      wpMx P md ops Q n C f (listed.setIfInBounds i true) (a.put oi.dst v) w → wpMx P md ops Q n C (f + 1) listed a w := by
  intro f
  induction f with
  | zero =>
    intro listed a w inv _ hr hy hC H
    refine ⟨fun h => (by rw [h] at hr; cases hr), fun j hj => ?_⟩
    by_cases hji : j = i
    · subst hji; exact hy.op hi hC ⟨fun _ => hC, H⟩
    · have := ready_mono hj hji
      rw [H.1] at this
      cases this
  | succ f ih =>
    intro listed a w inv hfree hr hy hC H
    have hun := (mem_ready.1 hr).1
    refine ⟨fun h => (by rw [h] at hr; cases hr), fun j hj => ?_⟩
    by_cases hji : j = i
    · subst hji; exact hy.op hi hC ⟨fun _ => hC, H⟩
    · have hjn : j < n := by
        rcases Nat.lt_or_ge j n with h | h
        · exact h
        · exact absurd hj (hT listed inv hun j h)
      have h1 := H.2 j (ready_mono hj hji)
      obtain ⟨hjun, oj, hoj, hall⟩ := mem_ready.1 hj
      have hnot : ∀ e ∈ oj.after, Region.binds md e = true → e.on ≠ i := fun e he hb heq => by
        have h1 := hall e he hb
        rw [heq, getD_both hun] at h1
        cases h1
      have h2 := put_of_QY hoj (hfree j oj hoj hji hjun hnot) (fun cs b => hsel i oi cs b hi) (fun cs b => hsel j oj cs b hoj) hQ hy h1
      have hfree' : ∀ k ok, ops[k]? = some ok → k ≠ i → (listed.setIfInBounds j true).getD k true = false →
          (∀ e ∈ ok.after, Region.binds md e = true → e.on ≠ i) → oi.apart ops ok = true := fun k ok hk hki hkun hno => by
        refine hfree k ok hk hki ?_ hno
        by_cases hjk : j = k
        · subst hjk; exact hjun
        · rw [getD_set_ne true hjk] at hkun; exact hkun
      refine wpOp_mono (fun a' w' h3 => ⟨h3.2.1, ?_⟩) h2
      refine ih (listed.setIfInBounds j true) a' w' (inv.set hj hjn) hfree' (ready_mono hr (Ne.symm hji)) h3.1 (h3.2.1 hjn) ?_
      rw [Array.setIfInBounds_comm _ _ hji]
      exact h3.2.2
theorem wpMx_of_seq {n : Nat} {C : World → Prop} : ∀ (l : List Oper) (k : Nat) (listed : Array Bool) (a : Act) (w : World), n ≤ k → (∀ j, l[j]? = ops[k + j]?) →
    Region.seqB md ops l.length k listed = true → wpList P ops Q l a w → wpMx P md ops Q n C l.length listed a w
  | [], _, _, _, _, _, _, hB, h => ⟨by simpa [Region.seqB] using hB, h⟩
  | o :: l, k, listed, a, w, hk, hl, hB, h => by
    have h0 : ops[k]? = some o := by simpa using (hl 0).symm
    simp only [List.length_cons, Region.seqB, Bool.and_eq_true, decide_eq_true_eq] at hB
    refine ⟨fun h1 => (by rw [hB.1] at h1; cases h1), fun i hi => ?_⟩
    rw [hB.1] at hi
    have hik : i = k := by simpa using hi
    subst hik
    have hw : wpOp P ops Q i (wpList P ops Q l) a w := by unfold wpOp; simp only [h0]; exact h
    exact wpOp_mono (fun a' w' h' => ⟨fun hlt => by omega, wpMx_of_seq l (i + 1) _ a' w' (by omega) (fun j => by have := hl (j + 1); simpa [Nat.add_assoc, Nat.add_comm 1 j] using this) hB.2 h'⟩) hw

/-- The one walk: 'false': the operation is quiet in all worlds that may come; 'true': it may turn blocks of S. Behind them the tail. -/
def mixQ (P : Program) (ops : Array Oper) (S : List Nat) (Q : Exit → Act → World → Prop) (tail : List Oper) : List (Bool × Oper) → Act → World → Prop
  | [], a, w => wpList P ops Q tail a w
  | (false, o) :: rest, a, w => if Region.wanted o (yielded ops a.tmps) then o.quiet P a (Sup S w) (fun a' => mixQ P ops S Q tail rest a' w) else mixQ P ops S Q tail rest (a.put o.dst undef) w
  | (true, o) :: rest, a, w => if Region.wanted o (yielded ops a.tmps) then o.wp P a w (fun a' w' => Fr S w w' ∧ mixQ P ops S Q tail rest a' w') Q else mixQ P ops S Q tail rest (a.put o.dst undef) w
def mixB (md : Region.Mode) (ops : Array Oper) (n : Nat) : List (Bool × Nat) → Array Bool → Bool
  | [], listed => Region.seqB md ops (ops.size - n) n listed
  | (e, i) :: rest, listed => decide (i < n) && (match e with
      | true => decide (Region.ready md ops listed = [i])
      | false => (Region.ready md ops listed).contains i && Region.free md ops listed i && (match ops[i]? with | some o => okKind o.op | none => false)) && mixB md ops n rest (listed.setIfInBounds i true)
def mixAll (md : Region.Mode) (ops : Array Oper) (n : Nat) (order : List (Bool × Nat)) : Bool :=
  Region.noSelect ops && (decide (n = ops.size) || (decide (n < ops.size) && Region.sinkB md ops n && Region.chainB md ops n)) && decide (order.length + (ops.size - n) = ops.size) && mixB md ops n order (Array.replicate ops.size false)

theorem mx_walk {n : Nat} {S : List Nat} {l : List Oper} (hl : ops = l.toArray) (hsel : Region.noSelect ops = true) (hQ : ∀ c a d v w, Q (.panic c) (Act.put a d v) w → Q (.panic c) a w)
    (hT : ∀ i, i < n → ∀ listed, HeadInv md ops n listed → listed.getD i true = false → ∀ t, n ≤ t → t ∉ Region.ready md ops listed) :
    ∀ (order : List (Bool × Nat)) (listed : Array Bool) (a : Act) (w : World), HeadInv md ops n listed → mixB md ops n order listed = true →
      mixQ P ops S Q (l.drop n) (order.map fun x => (x.1, l.getD x.2 default)) a w → wpMx P md ops Q n (Sup S w) (order.length + (ops.size - n)) listed a w
  | [], listed, a, w, _, hB, h => by
    have hlen : (l.drop n).length = ops.size - n := by rw [hl]; simp
    have := wpMx_of_seq (P := P) (Q := Q) (md := md) (ops := ops) (n := n) (C := Sup S w) (l.drop n) n listed a w (Nat.le_refl _) (fun j => by rw [hl]; simp [List.getElem?_drop]) (by rw [hlen]; exact hB) h
    simpa [hlen] using this
  | (e, i) :: rest, listed, a, w, inv, hB, h => by
    simp only [mixB, Bool.and_eq_true, decide_eq_true_eq] at hB
    obtain ⟨⟨hin, he⟩, hrest⟩ := hB
    have hlen : ((e, i) :: rest).length + (ops.size - n) = rest.length + (ops.size - n) + 1 := by simp; omega
    rw [hlen]
    cases e with
    | false =>
      simp only [Bool.and_eq_true] at he
      obtain ⟨⟨hr, hf⟩, hk⟩ := he
      have hr' : i ∈ Region.ready md ops listed := by simpa using hr
      obtain ⟨_, oi, hoi, _⟩ := mem_ready.1 hr'
      rw [hoi] at hk
      have hd : l.getD i default = oi := by
        rw [hl] at hoi
        simp at hoi
        simp [List.getD, hoi]
      simp only [List.map_cons, hd, mixQ] at h
      have hC : Sup S w w := Sup.of (Fr.refl _ _)
      by_cases hw : Region.wanted oi (yielded ops a.tmps) = true
      · rw [if_pos hw] at h
        obtain ⟨v, h1, h2⟩ := h
        have hy : QY P ops (Sup S w) oi v a := .inl ⟨hw, fun u hu => runs_of_quiet hk (h1 u hu)⟩
        exact wpMx_first hoi (Region.noSelect_spec hsel) hQ hin (hT i hin) _ listed a w inv (Region.free_spec hoi hf) hr' hy hC (mx_walk hl hsel hQ hT rest _ _ w (inv.set hr' hin) hrest h2)
      · rw [if_neg hw] at h
        have hy : QY P ops (Sup S w) oi undef a := .inr ⟨by simpa using hw, rfl⟩
        exact wpMx_first hoi (Region.noSelect_spec hsel) hQ hin (hT i hin) _ listed a w inv (Region.free_spec hoi hf) hr' hy hC (mx_walk hl hsel hQ hT rest _ _ w (inv.set hr' hin) hrest h)
    | true =>
      simp only [decide_eq_true_eq] at he
      have hr' : i ∈ Region.ready md ops listed := by rw [he]; simp
      obtain ⟨_, oi, hoi, _⟩ := mem_ready.1 hr'
      have hd : l.getD i default = oi := by
        rw [hl] at hoi
        simp at hoi
        simp [List.getD, hoi]
      simp only [List.map_cons, hd, mixQ] at h
      refine ⟨fun h0 => (by rw [h0] at hr'; cases hr'), fun j hj => ?_⟩
      rw [he] at hj
      have hji : j = i := by simpa using hj
      subst hji
      unfold wpOp
      simp only [hoi]
      by_cases hw : Region.wanted oi (yielded ops a.tmps) = true
      · rw [if_pos hw] at h
        rw [if_pos hw]
        left
        exact Oper.wp_mono (fun a' w' h' => ⟨fun _ => Sup.of h'.1, wpMx_mono (Sup.sub h'.1) _ _ _ _ (mx_walk hl hsel hQ hT rest _ a' w' (inv.set hr' hin) hrest h'.2)⟩) h
      · rw [if_neg hw] at h
        rw [if_neg hw]
        exact ⟨fun _ => Sup.of (Fr.refl _ _), mx_walk hl hsel hQ hT rest _ _ w (inv.set hr' hin) hrest h⟩

theorem region_mix {id : Nat} {a : Act} {w : World} {l : List Oper} (n : Nat) (order : List (Bool × Nat)) (S : List Nat) (hm : P.follows .mixedOrders = true) (hB : mixAll .any l.toArray n order = true)
    (hQ : ∀ c a d v w, Q (.panic c) (Act.put a d v) w → Q (.panic c) a w)
    (h : mixQ P l.toArray S Q (l.drop n) (order.map fun x => (x.1, l.getD x.2 default)) a w.drew) : (Code.region id l.toArray true).wp P Q a w := by
  simp only [mixAll, Bool.and_eq_true, decide_eq_true_eq, Bool.or_eq_true] at hB
  obtain ⟨⟨⟨hsel, hn⟩, hlen⟩, hmix⟩ := hB
  have inv0 : HeadInv .any l.toArray n (Array.replicate l.toArray.size false) :=
    ⟨by simp, fun j oj _ hl => (by rw [getD_replicate_false] at hl; cases hl), fun t _ ht => getD_in (by simpa using ht) (getD_replicate_false _ _)⟩
  have hT : ∀ i, i < n → ∀ listed, HeadInv .any l.toArray n listed → listed.getD i true = false → ∀ t, n ≤ t → t ∉ Region.ready .any l.toArray listed := by
    intro i hi listed inv hun t ht hr
    rcases hn with hn | ⟨⟨hn, hs⟩, hc⟩
    · obtain ⟨_, o, ho, _⟩ := mem_ready.1 hr
      have := (Array.getElem?_eq_some_iff.1 ho).1
      omega
    · exact tail_waits hs hc hn inv _ i rfl hi hun t ht hr
  refine wp_region_any hm (wpAny_of_mx (n := n) (C := Sup S w.drew) _ _ _ _ ?_)
  have := mx_walk (P := P) (Q := Q) (md := .any) (n := n) (S := S) rfl hsel hQ hT order _ a w.drew inv0 hmix h
  rw [hlen] at this
  exact this

theorem mix_seg {S : List Nat} {tail : List Oper} {items : List (Bool × Oper)} {a : Act} {w : World} (k : Nat) (h0 : ((items.take k).all fun x => !x.1) = true)
    (h : wpQuiet P ops (Sup S w) (fun a' => mixQ P ops S Q tail (items.drop k) a' w) ((items.take k).map (·.2)) a) : mixQ P ops S Q tail items a w := by
  induction k generalizing items a with
  | zero => exact h
  | succ k ih =>
    cases items with
    | nil => exact h
    | cons x rest =>
      obtain ⟨b, o⟩ := x
      simp only [List.take_succ_cons, List.all_cons, Bool.and_eq_true, Bool.not_eq_true'] at h0
      obtain ⟨rfl, h0⟩ := h0
      simp only [List.take_succ_cons, List.map_cons, List.drop_succ_cons, wpQuiet] at h
      unfold mixQ
      by_cases hw : Region.wanted o (yielded ops a.tmps) = true
      · rw [if_pos hw] at h ⊢
        obtain ⟨v, h1, h2⟩ := h
        exact ⟨v, h1, ih h0 h2⟩
      · rw [if_neg hw] at h ⊢
        exact ih h0 h
theorem mix_eff {S : List Nat} {tail : List Oper} {rest : List (Bool × Oper)} {o : Oper} {a : Act} {w : World} (hw : Region.wanted o (yielded ops a.tmps) = true)
    (h : ∀ K : Act → World → Prop, Go.RowKit.Hid (∀ a' w', Fr S w w' → mixQ P ops S Q tail rest a' w' → K a' w') → o.wp P a w K Q) : mixQ P ops S Q tail ((true, o) :: rest) a w := by
  unfold mixQ
  rw [if_pos hw]
  exact h _ fun _ _ h1 h2 => ⟨h1, h2⟩
theorem mix_off {S : List Nat} {tail : List Oper} {rest : List (Bool × Oper)} {o : Oper} {a : Act} {w : World} (hw : Region.wanted o (yielded ops a.tmps) = false)
    (h : mixQ P ops S Q tail rest (a.put o.dst undef) w) : mixQ P ops S Q tail ((true, o) :: rest) a w := by
  unfold mixQ
  rw [if_neg (by rw [hw]; exact Bool.false_ne_true)]
  exact h
theorem mix_nil {S : List Nat} {tail : List Oper} {a : Act} {w : World} (h : wpList P ops Q tail a w) : mixQ P ops S Q tail [] a w := h
end
theorem run_conv_sup {P : Program} (S : List Nat) (w : World) {src dst e : TypeId} (hs : P.underlying src = some (.slice e)) (he : P.underlying e = some (.int .u8)) (hd : P.underlying dst = some .string)
    {ao : Option Addr} {n : Nat} {bs : List UInt8} (hn : bs.length = n) (hcs : Cs w ao (bs.map bv)) (hb : ∀ x ∈ blk ao, x ∉ S) :
    ∀ x cap, (convert src dst (.slice ao n cap)).run P (sup S w x) = .ok (.string (str bs)) (sup S w x) :=
  fun x cap => run_conv (sup S w x) hs he hd hn (hcs.fr (sup_fr S w x) hb) cap
end Go.Proofs.YtolkoidbkaidkaaGreat.lib
/-
  As lib.region_mix, without a tail, with early readers: a quiet operation that every effect waits for is checked in the world at hand only.
-/
namespace Go.Proofs.YtolkoidbkaidkaaGreat.lib
open Go
section
variable {P : Program} {ops : Array Oper} {Q : Exit → Act → World → Prop} {md : Region.Mode}
/-- Whatever order is picked; D holds between the worlds ahead of and behind each operation. -/
def wpMe (P : Program) (md : Region.Mode) (ops : Array Oper) (Q : Exit → Act → World → Prop) (D : Nat → World → World → Prop) : Nat → Array Bool → Act → World → Prop
  | 0, listed, a, w => Region.ready md ops listed = [] ∧ Q .normal a w
  | f + 1, listed, a, w => (Region.ready md ops listed = [] → Q .normal a w) ∧
    ∀ i ∈ Region.ready md ops listed, wpOp P ops Q i (fun a' w' => D i w w' ∧ wpMe P md ops Q D f (listed.setIfInBounds i true) a' w') a w
theorem wpAny_of_me {D : Nat → World → World → Prop} : ∀ (f : Nat) (listed : Array Bool) (a : Act) (w : World), wpMe P md ops Q D f listed a w → wpAny P md ops Q f listed a w
  | 0, _, _, _, h => h
  | f + 1, _, _, _, h => ⟨h.1, fun i hi => wpOp_mono (fun a' w' h' => wpAny_of_me f _ a' w' h'.2) (h.2 i hi)⟩
theorem wpMe_first {i : Nat} {oi : Oper} {v : Value} {C : World → Prop} {D : Nat → World → World → Prop} (hi : ops[i]? = some oi) (hsel : ∀ (j : Nat) (o : Oper) cs b, ops[j]? = some o → o.op ≠ .select cs b)
    (hQ : ∀ c a d v w, Q (.panic c) (Act.put a d v) w → Q (.panic c) a w) (hDi : ∀ w, D i w w)
    (hT : ∀ listed, listed.getD i true = false → ∀ t ∈ Region.ready md ops listed, t ≠ i → ∀ w w', C w → D t w w' → C w') :
    ∀ (f : Nat) (listed : Array Bool) (a : Act) (w : World),
      (∀ j oj, ops[j]? = some oj → j ≠ i → listed.getD j true = false → (∀ e ∈ oj.after, Region.binds md e = true → e.on ≠ i) → oi.apart ops oj = true) →
      i ∈ Region.ready md ops listed → QY P ops C oi v a → C w →
      wpMe P md ops Q D f (listed.setIfInBounds i true) (a.put oi.dst v) w → wpMe P md ops Q D (f + 1) listed a w := by
  intro f
  induction f with
  | zero =>
    intro listed a w _ hr hy hC H
    refine ⟨fun h => (by rw [h] at hr; cases hr), fun j hj => ?_⟩
    by_cases hji : j = i
    · subst hji; exact hy.op hi hC ⟨hDi w, H⟩
    · have := ready_mono hj hji
      rw [H.1] at this
      cases this
  | succ f ih =>
    intro listed a w hfree hr hy hC H
    have hun := (mem_ready.1 hr).1
    refine ⟨fun h => (by rw [h] at hr; cases hr), fun j hj => ?_⟩
    by_cases hji : j = i
    · subst hji; exact hy.op hi hC ⟨hDi w, H⟩
    · have h1 := H.2 j (ready_mono hj hji)
      obtain ⟨hjun, oj, hoj, hall⟩ := mem_ready.1 hj
      have hnot : ∀ e ∈ oj.after, Region.binds md e = true → e.on ≠ i := fun e he hb heq => by
        have h1 := hall e he hb
        rw [heq, getD_both hun] at h1
        cases h1
      have h2 := put_of_QY hoj (hfree j oj hoj hji hjun hnot) (fun cs b => hsel i oi cs b hi) (fun cs b => hsel j oj cs b hoj) hQ hy h1
      have hfree' : ∀ k ok, ops[k]? = some ok → k ≠ i → (listed.setIfInBounds j true).getD k true = false →
          (∀ e ∈ ok.after, Region.binds md e = true → e.on ≠ i) → oi.apart ops ok = true := fun k ok hk hki hkun hno => by
        refine hfree k ok hk hki ?_ hno
        by_cases hjk : j = k
        · subst hjk; exact hjun
        · rw [getD_set_ne true hjk] at hkun; exact hkun
      refine wpOp_mono (fun a' w' h3 => ⟨h3.2.1, ?_⟩) h2
      refine ih (listed.setIfInBounds j true) a' w' hfree' (ready_mono hr (Ne.symm hji)) h3.1 (hT listed hun j hj hji w w' hC h3.2.1) ?_
      rw [Array.setIfInBounds_comm _ _ hji]
      exact h3.2.2
/-- What each operation may do: the late ones turn blocks of S, the others nothing. -/
def DE (S : List Nat) (lates : List Nat) (j : Nat) (w w' : World) : Prop := if lates.contains j = true then Fr S w w' else w' = w
def mixE (P : Program) (ops : Array Oper) (S : List Nat) (Q : Exit → Act → World → Prop) : List (Nat × Oper) → Act → World → Prop
  | [], a, w => Q .normal a w
  | (0, o) :: rest, a, w => if Region.wanted o (yielded ops a.tmps) then o.quiet P a (Sup S w) (fun a' => mixE P ops S Q rest a' w) else mixE P ops S Q rest (a.put o.dst undef) w
  | (1, o) :: rest, a, w => if Region.wanted o (yielded ops a.tmps) then o.quiet P a (fun u => u = w) (fun a' => mixE P ops S Q rest a' w) else mixE P ops S Q rest (a.put o.dst undef) w
  | (_ + 2, o) :: rest, a, w => if Region.wanted o (yielded ops a.tmps) then o.wp P a w (fun a' w' => Fr S w w' ∧ mixE P ops S Q rest a' w') Q else mixE P ops S Q rest (a.put o.dst undef) w
def waitsFor (md : Region.Mode) (ops : Array Oper) (t i : Nat) : Bool := match ops[t]? with
  | some o => o.after.toList.any fun e => Region.binds md e && decide (e.on = i)
  | none => true
def quietB (md : Region.Mode) (ops : Array Oper) (lates : List Nat) (i : Nat) (listed : Array Bool) : Bool :=
  (Region.ready md ops listed).contains i && Region.free md ops listed i && (match ops[i]? with | some o => okKind o.op | none => false) && !lates.contains i
def mixEB (md : Region.Mode) (ops : Array Oper) (lates : List Nat) : List (Nat × Nat) → Array Bool → Bool
  | [], listed => decide (Region.ready md ops listed = [])
  | (0, i) :: rest, listed => quietB md ops lates i listed && mixEB md ops lates rest (listed.setIfInBounds i true)
  | (1, i) :: rest, listed => quietB md ops lates i listed && lates.all (fun t => waitsFor md ops t i) && mixEB md ops lates rest (listed.setIfInBounds i true)
  | (_ + 2, i) :: rest, listed => decide (Region.ready md ops listed = [i]) && lates.contains i && mixEB md ops lates rest (listed.setIfInBounds i true)
theorem late_waits {i t : Nat} {listed : Array Bool} (h : waitsFor md ops t i = true) (hun : listed.getD i true = false) (ht : t ∈ Region.ready md ops listed) : False := by
  obtain ⟨_, o, ho, hall⟩ := mem_ready.1 ht
  simp only [waitsFor, ho, List.any_eq_true, Bool.and_eq_true, decide_eq_true_eq] at h
  obtain ⟨e, he, hb, heq⟩ := h
  have h1 := hall e (by simpa using he) hb
  rw [heq, getD_both hun] at h1
  cases h1
theorem DE_sup {S lates : List Nat} {b : World} {t : Nat} {w w' : World} (hC : Sup S b w) (h : DE S lates t w w') : Sup S b w' := by
  unfold DE at h
  split at h
  · exact Sup.of (hC.fr.trans h)
  · rw [h]; exact hC
theorem me_walk {S lates : List Nat} {l : List Oper} (hl : ops = l.toArray) (hsel : Region.noSelect ops = true) (hQ : ∀ c a d v w, Q (.panic c) (Act.put a d v) w → Q (.panic c) a w) :
    ∀ (order : List (Nat × Nat)) (listed : Array Bool) (a : Act) (w : World), mixEB md ops lates order listed = true →
      mixE P ops S Q (order.map fun x => (x.1, l.getD x.2 default)) a w → wpMe P md ops Q (DE S lates) order.length listed a w
  | [], listed, a, w, hB, h => by
    simp only [mixEB, decide_eq_true_eq] at hB
    exact ⟨hB, h⟩
  | (0, i) :: rest, listed, a, w, hB, h => by
    simp only [mixEB, quietB, Bool.and_eq_true, Bool.not_eq_true'] at hB
    obtain ⟨⟨⟨⟨hr, hf⟩, hk⟩, hlt⟩, hrest⟩ := hB
    have hr' : i ∈ Region.ready md ops listed := by simpa using hr
    obtain ⟨_, oi, hoi, _⟩ := mem_ready.1 hr'
    rw [hoi] at hk
    have hd : l.getD i default = oi := by
      rw [hl] at hoi
      simp at hoi
      simp [List.getD, hoi]
    simp only [List.map_cons, hd, mixE] at h
    have hC : Sup S w w := Sup.of (Fr.refl _ _)
    have hDi : ∀ w, DE S lates i w w := fun w => by unfold DE; split; exact Fr.refl _ _; rfl
    have hT : ∀ listed : Array Bool, listed.getD i true = false → ∀ t ∈ Region.ready md ops listed, t ≠ i → ∀ w1 w', Sup S w w1 → DE S lates t w1 w' → Sup S w w' := fun _ _ t _ _ w1 w' h1 h2 => DE_sup h1 h2
    by_cases hw : Region.wanted oi (yielded ops a.tmps) = true
    · rw [if_pos hw] at h
      obtain ⟨v, h1, h2⟩ := h
      have hy : QY P ops (Sup S w) oi v a := .inl ⟨hw, fun u hu => runs_of_quiet hk (h1 u hu)⟩
      exact wpMe_first hoi (Region.noSelect_spec hsel) hQ hDi hT _ listed a w (Region.free_spec hoi hf) hr' hy hC (me_walk hl hsel hQ rest _ _ w hrest h2)
    · rw [if_neg hw] at h
      have hy : QY P ops (Sup S w) oi undef a := .inr ⟨by simpa using hw, rfl⟩
      exact wpMe_first hoi (Region.noSelect_spec hsel) hQ hDi hT _ listed a w (Region.free_spec hoi hf) hr' hy hC (me_walk hl hsel hQ rest _ _ w hrest h)
  | (1, i) :: rest, listed, a, w, hB, h => by
    simp only [mixEB, quietB, Bool.and_eq_true, Bool.not_eq_true'] at hB
    obtain ⟨⟨⟨⟨⟨hr, hf⟩, hk⟩, hlt⟩, hwait⟩, hrest⟩ := hB
    have hr' : i ∈ Region.ready md ops listed := by simpa using hr
    obtain ⟨_, oi, hoi, _⟩ := mem_ready.1 hr'
    rw [hoi] at hk
    have hd : l.getD i default = oi := by
      rw [hl] at hoi
      simp at hoi
      simp [List.getD, hoi]
    simp only [List.map_cons, hd, mixE] at h
    have hDi : ∀ w, DE S lates i w w := fun w => by unfold DE; split; exact Fr.refl _ _; rfl
    have hT : ∀ listed : Array Bool, listed.getD i true = false → ∀ t ∈ Region.ready md ops listed, t ≠ i → ∀ w1 w', w1 = w → DE S lates t w1 w' → w' = w := fun ls hun t ht _ w1 w' h1 h2 => by
      unfold DE at h2
      split at h2
      · rename_i hc
        exact (late_waits (List.all_eq_true.1 hwait t (by simpa using hc)) hun ht).elim
      · rw [h2, h1]
    by_cases hw : Region.wanted oi (yielded ops a.tmps) = true
    · rw [if_pos hw] at h
      obtain ⟨v, h1, h2⟩ := h
      have hy : QY P ops (fun u => u = w) oi v a := .inl ⟨hw, fun u hu => runs_of_quiet hk (h1 u hu)⟩
      exact wpMe_first hoi (Region.noSelect_spec hsel) hQ hDi hT _ listed a w (Region.free_spec hoi hf) hr' hy rfl (me_walk hl hsel hQ rest _ _ w hrest h2)
    · rw [if_neg hw] at h
      have hy : QY P ops (fun u => u = w) oi undef a := .inr ⟨by simpa using hw, rfl⟩
      exact wpMe_first hoi (Region.noSelect_spec hsel) hQ hDi hT _ listed a w (Region.free_spec hoi hf) hr' hy rfl (me_walk hl hsel hQ rest _ _ w hrest h)
  | (_ + 2, i) :: rest, listed, a, w, hB, h => by
    simp only [mixEB, Bool.and_eq_true, decide_eq_true_eq] at hB
    obtain ⟨⟨he, hlt⟩, hrest⟩ := hB
    have hr' : i ∈ Region.ready md ops listed := by rw [he]; simp
    obtain ⟨_, oi, hoi, _⟩ := mem_ready.1 hr'
    have hd : l.getD i default = oi := by
      rw [hl] at hoi
      simp at hoi
      simp [List.getD, hoi]
    simp only [List.map_cons, hd, mixE] at h
    refine ⟨fun h0 => (by rw [h0] at hr'; cases hr'), fun j hj => ?_⟩
    rw [he] at hj
    have hji : j = i := by simpa using hj
    subst hji
    unfold wpOp
    simp only [hoi]
    by_cases hw : Region.wanted oi (yielded ops a.tmps) = true
    · rw [if_pos hw] at h
      rw [if_pos hw]
      left
      exact Oper.wp_mono (fun a' w' h' => ⟨by unfold DE; rw [if_pos hlt]; exact h'.1, me_walk hl hsel hQ rest _ a' w' hrest h'.2⟩) h
    · rw [if_neg hw] at h
      rw [if_neg hw]
      exact ⟨by unfold DE; rw [if_pos hlt]; exact Fr.refl _ _, me_walk hl hsel hQ rest _ _ w hrest h⟩
theorem region_mixE {id : Nat} {a : Act} {w : World} {l : List Oper} (order : List (Nat × Nat)) (S lates : List Nat) (hm : P.follows .mixedOrders = true)
    (hB : (Region.noSelect l.toArray && decide (order.length = l.toArray.size) && mixEB .any l.toArray lates order (Array.replicate l.toArray.size false)) = true)
    (hQ : ∀ c a d v w, Q (.panic c) (Act.put a d v) w → Q (.panic c) a w)
    (h : mixE P l.toArray S Q (order.map fun x => (x.1, l.getD x.2 default)) a w.drew) : (Code.region id l.toArray true).wp P Q a w := by
  simp only [Bool.and_eq_true, decide_eq_true_eq] at hB
  obtain ⟨⟨hsel, hlen⟩, hmix⟩ := hB
  refine wp_region_any hm (wpAny_of_me (D := DE S lates) _ _ _ _ ?_)
  have := me_walk (P := P) (Q := Q) (md := .any) (S := S) (lates := lates) rfl hsel hQ order _ a w.drew hmix h
  rw [hlen] at this
  exact this
theorem mixE_early {S : List Nat} {items : List (Nat × Oper)} {a : Act} {w : World} (k : Nat) (h0 : ((items.take k).all fun x => decide (x.1 = 1)) = true)
    (h : wpQuiet P ops (fun u => u = w) (fun a' => mixE P ops S Q (items.drop k) a' w) ((items.take k).map (·.2)) a) : mixE P ops S Q items a w := by
  induction k generalizing items a with
  | zero => exact h
  | succ k ih =>
    cases items with
    | nil => exact h
    | cons x rest =>
      obtain ⟨e, o⟩ := x
      simp only [List.take_succ_cons, List.all_cons, Bool.and_eq_true, decide_eq_true_eq] at h0
      obtain ⟨rfl, h0⟩ := h0
      simp only [List.take_succ_cons, List.map_cons, List.drop_succ_cons, wpQuiet] at h
      unfold mixE
      by_cases hw : Region.wanted o (yielded ops a.tmps) = true
      · rw [if_pos hw] at h ⊢
        obtain ⟨v, h1, h2⟩ := h
        exact ⟨v, h1, ih h0 h2⟩
      · rw [if_neg hw] at h ⊢
        exact ih h0 h
theorem mixE_seg {S : List Nat} {items : List (Nat × Oper)} {a : Act} {w : World} (k : Nat) (h0 : ((items.take k).all fun x => decide (x.1 = 0)) = true)
    (h : wpQuiet P ops (Sup S w) (fun a' => mixE P ops S Q (items.drop k) a' w) ((items.take k).map (·.2)) a) : mixE P ops S Q items a w := by
  induction k generalizing items a with
  | zero => exact h
  | succ k ih =>
    cases items with
    | nil => exact h
    | cons x rest =>
      obtain ⟨e, o⟩ := x
      simp only [List.take_succ_cons, List.all_cons, Bool.and_eq_true, decide_eq_true_eq] at h0
      obtain ⟨rfl, h0⟩ := h0
      simp only [List.take_succ_cons, List.map_cons, List.drop_succ_cons, wpQuiet] at h
      unfold mixE
      by_cases hw : Region.wanted o (yielded ops a.tmps) = true
      · rw [if_pos hw] at h ⊢
        obtain ⟨v, h1, h2⟩ := h
        exact ⟨v, h1, ih h0 h2⟩
      · rw [if_neg hw] at h ⊢
        exact ih h0 h
theorem mixE_eff {S : List Nat} {rest : List (Nat × Oper)} {o : Oper} {a : Act} {w : World} (hw : Region.wanted o (yielded ops a.tmps) = true)
    (h : ∀ K : Act → World → Prop, Go.RowKit.Hid (∀ a' w', Fr S w w' → mixE P ops S Q rest a' w' → K a' w') → o.wp P a w K Q) : mixE P ops S Q ((2, o) :: rest) a w := by
  unfold mixE
  rw [if_pos hw]
  exact h _ fun _ _ h1 h2 => ⟨h1, h2⟩
theorem mixE_nil {S : List Nat} {a : Act} {w : World} (h : Q .normal a w) : mixE P ops S Q [] a w := h
end
end Go.Proofs.YtolkoidbkaidkaaGreat.lib
/-
  As lib.region_mix, with a base world that may lag behind: an effect may turn blocks of S and all that came behind the base.
-/
namespace Go.Proofs.YtolkoidbkaidkaaGreat.lib
open Go
theorem Fr.from_drew {S : List Nat} {w w' : World} (h : Fr S w w') : Fr S w.drew w' := ⟨h.os, h.tape, h.output, h.size, h.block⟩
section
variable {P : Program} {ops : Array Oper} {Q : Exit → Act → World → Prop} {md : Region.Mode}
def mixR (P : Program) (ops : Array Oper) (S : List Nat) (Q : Exit → Act → World → Prop) (tail : List Oper) : List (Bool × Oper) → World → Act → World → Prop
  | [], _, a, w => wpList P ops Q tail a w
  | (false, o) :: rest, b, a, w => if Region.wanted o (yielded ops a.tmps) then o.quiet P a (Sup S b) (fun a' => mixR P ops S Q tail rest b a' w) else mixR P ops S Q tail rest b (a.put o.dst undef) w
  | (true, o) :: rest, b, a, w => if Region.wanted o (yielded ops a.tmps) then o.wp P a w (fun a' w' => ∃ b', Fr S b b' ∧ Fr S b' w' ∧ mixR P ops S Q tail rest b' a' w') Q else mixR P ops S Q tail rest b (a.put o.dst undef) w
theorem mx_walkR {n : Nat} {S : List Nat} {l : List Oper} (hl : ops = l.toArray) (hsel : Region.noSelect ops = true) (hQ : ∀ c a d v w, Q (.panic c) (Act.put a d v) w → Q (.panic c) a w)
    (hT : ∀ i, i < n → ∀ listed, HeadInv md ops n listed → listed.getD i true = false → ∀ t, n ≤ t → t ∉ Region.ready md ops listed) :
    ∀ (order : List (Bool × Nat)) (listed : Array Bool) (b : World) (a : Act) (w : World), Fr S b w → HeadInv md ops n listed → mixB md ops n order listed = true →
      mixR P ops S Q (l.drop n) (order.map fun x => (x.1, l.getD x.2 default)) b a w → wpMx P md ops Q n (Sup S b) (order.length + (ops.size - n)) listed a w
  | [], listed, b, a, w, _, _, hB, h => by
    have hlen : (l.drop n).length = ops.size - n := by rw [hl]; simp
    have := wpMx_of_seq (P := P) (Q := Q) (md := md) (ops := ops) (n := n) (C := Sup S b) (l.drop n) n listed a w (Nat.le_refl _) (fun j => by rw [hl]; simp [List.getElem?_drop]) (by rw [hlen]; exact hB) h
    simpa [hlen] using this
  | (e, i) :: rest, listed, b, a, w, hfr, inv, hB, h => by
    simp only [mixB, Bool.and_eq_true, decide_eq_true_eq] at hB
    obtain ⟨⟨hin, he⟩, hrest⟩ := hB
    have hlen : ((e, i) :: rest).length + (ops.size - n) = rest.length + (ops.size - n) + 1 := by simp; omega
    rw [hlen]
    have hC : Sup S b w := Sup.of hfr
    cases e with
    | false =>
      simp only [Bool.and_eq_true] at he
      obtain ⟨⟨hr, hf⟩, hk⟩ := he
      have hr' : i ∈ Region.ready md ops listed := by simpa using hr
      obtain ⟨_, oi, hoi, _⟩ := mem_ready.1 hr'
      rw [hoi] at hk
      have hd : l.getD i default = oi := by
        rw [hl] at hoi
        simp at hoi
        simp [List.getD, hoi]
      simp only [List.map_cons, hd, mixR] at h
      by_cases hw : Region.wanted oi (yielded ops a.tmps) = true
      · rw [if_pos hw] at h
        obtain ⟨v, h1, h2⟩ := h
        have hy : QY P ops (Sup S b) oi v a := .inl ⟨hw, fun u hu => runs_of_quiet hk (h1 u hu)⟩
        exact wpMx_first hoi (Region.noSelect_spec hsel) hQ hin (hT i hin) _ listed a w inv (Region.free_spec hoi hf) hr' hy hC (mx_walkR hl hsel hQ hT rest _ b _ w hfr (inv.set hr' hin) hrest h2)
      · rw [if_neg hw] at h
        have hy : QY P ops (Sup S b) oi undef a := .inr ⟨by simpa using hw, rfl⟩
        exact wpMx_first hoi (Region.noSelect_spec hsel) hQ hin (hT i hin) _ listed a w inv (Region.free_spec hoi hf) hr' hy hC (mx_walkR hl hsel hQ hT rest _ b _ w hfr (inv.set hr' hin) hrest h)
    | true =>
      simp only [decide_eq_true_eq] at he
      have hr' : i ∈ Region.ready md ops listed := by rw [he]; simp
      obtain ⟨_, oi, hoi, _⟩ := mem_ready.1 hr'
      have hd : l.getD i default = oi := by
        rw [hl] at hoi
        simp at hoi
        simp [List.getD, hoi]
      simp only [List.map_cons, hd, mixR] at h
      refine ⟨fun h0 => (by rw [h0] at hr'; cases hr'), fun j hj => ?_⟩
      rw [he] at hj
      have hji : j = i := by simpa using hj
      subst hji
      unfold wpOp
      simp only [hoi]
      by_cases hw : Region.wanted oi (yielded ops a.tmps) = true
      · rw [if_pos hw] at h
        rw [if_pos hw]
        left
        exact Oper.wp_mono (fun a' w' h' => by
          obtain ⟨b', g1, g2, h'⟩ := h'
          exact ⟨fun _ => Sup.of (g1.trans g2), wpMx_mono (Sup.sub g1) _ _ _ _ (mx_walkR hl hsel hQ hT rest _ b' a' w' g2 (inv.set hr' hin) hrest h')⟩) h
      · rw [if_neg hw] at h
        rw [if_neg hw]
        exact ⟨fun _ => hC, mx_walkR hl hsel hQ hT rest _ b _ w hfr (inv.set hr' hin) hrest h⟩

theorem region_mixR {id : Nat} {a : Act} {w : World} {l : List Oper} (n : Nat) (order : List (Bool × Nat)) (S : List Nat) (hm : P.follows .mixedOrders = true) (hB : mixAll .any l.toArray n order = true)
    (hQ : ∀ c a d v w, Q (.panic c) (Act.put a d v) w → Q (.panic c) a w)
    (h : mixR P l.toArray S Q (l.drop n) (order.map fun x => (x.1, l.getD x.2 default)) w.drew a w.drew) : (Code.region id l.toArray true).wp P Q a w := by
  simp only [mixAll, Bool.and_eq_true, decide_eq_true_eq, Bool.or_eq_true] at hB
  obtain ⟨⟨⟨hsel, hn⟩, hlen⟩, hmix⟩ := hB
  have inv0 : HeadInv .any l.toArray n (Array.replicate l.toArray.size false) :=
    ⟨by simp, fun j oj _ hl => (by rw [getD_replicate_false] at hl; cases hl), fun t _ ht => getD_in (by simpa using ht) (getD_replicate_false _ _)⟩
  have hT : ∀ i, i < n → ∀ listed, HeadInv .any l.toArray n listed → listed.getD i true = false → ∀ t, n ≤ t → t ∉ Region.ready .any l.toArray listed := by
    intro i hi listed inv hun t ht hr
    rcases hn with hn | ⟨⟨hn, hs⟩, hc⟩
    · obtain ⟨_, o, ho, _⟩ := mem_ready.1 hr
      have := (Array.getElem?_eq_some_iff.1 ho).1
      omega
    · exact tail_waits hs hc hn inv _ i rfl hi hun t ht hr
  refine wp_region_any hm (wpAny_of_mx (n := n) (C := Sup S w.drew) _ _ _ _ ?_)
  have := mx_walkR (P := P) (Q := Q) (md := .any) (n := n) (S := S) rfl hsel hQ hT order _ w.drew a w.drew (Fr.refl _ _) inv0 hmix h
  rw [hlen] at this
  exact this
theorem mixR_seg {S : List Nat} {tail : List Oper} {items : List (Bool × Oper)} {b : World} {a : Act} {w : World} (k : Nat) (h0 : ((items.take k).all fun x => !x.1) = true)
    (h : wpQuiet P ops (Sup S b) (fun a' => mixR P ops S Q tail (items.drop k) b a' w) ((items.take k).map (·.2)) a) : mixR P ops S Q tail items b a w := by
  induction k generalizing items a with
  | zero => exact h
  | succ k ih =>
    cases items with
    | nil => exact h
    | cons x rest =>
      obtain ⟨e, o⟩ := x
      simp only [List.take_succ_cons, List.all_cons, Bool.and_eq_true, Bool.not_eq_true'] at h0
      obtain ⟨rfl, h0⟩ := h0
      simp only [List.take_succ_cons, List.map_cons, List.drop_succ_cons, wpQuiet] at h
      unfold mixR
      by_cases hw : Region.wanted o (yielded ops a.tmps) = true
      · rw [if_pos hw] at h ⊢
        obtain ⟨v, h1, h2⟩ := h
        exact ⟨v, h1, ih h0 h2⟩
      · rw [if_neg hw] at h ⊢
        exact ih h0 h
theorem mixR_eff {S : List Nat} {tail : List Oper} {rest : List (Bool × Oper)} {o : Oper} {b : World} {a : Act} {w : World} (hw : Region.wanted o (yielded ops a.tmps) = true)
    (h : ∀ K : Act → World → Prop, Go.RowKit.Hid (∀ a' w' b', Fr S b b' → Fr S b' w' → mixR P ops S Q tail rest b' a' w' → K a' w') → o.wp P a w K Q) : mixR P ops S Q tail ((true, o) :: rest) b a w := by
  unfold mixR
  rw [if_pos hw]
  exact h _ fun _ _ b' h1 h2 h3 => ⟨b', h1, h2, h3⟩
theorem mixR_nil {S : List Nat} {tail : List Oper} {b : World} {a : Act} {w : World} (h : wpList P ops Q tail a w) : mixR P ops S Q tail [] b a w := h
end
end Go.Proofs.YtolkoidbkaidkaaGreat.lib
/-
  (*bits.Reader): what a reader is in memory, and Take.
-/
namespace Go.Proofs.YtolkoidbkaidkaaGreat.bits
open Go Go.RowKit Go.Proofs.YtolkoidbkaidkaaGreat.lib Go.Proofs.YtolkoidbkaidkaaGreat.bm

/-- A reader (a struct of type T) of the bytes bs of which at_ bits were taken; F: the blocks that it lies in. -/
def RdT (T : TypeId) (w : World) (p : Nat) (F : List Nat) (bs : List UInt8) (at_ : Nat) : Prop :=
  ∃ ao cap, w.heap[p]? = some (.cells #[.slice ao bs.length cap, .int .i64 at_] T (0, 0)) ∧ Cs w ao (bs.map bv) ∧ F = p :: blk ao ∧
    p ∉ blk ao ∧ bs.length ≤ 140737488351232 ∧ at_ ≤ 8 * bs.length ∧ bs.length ≤ cap ∧ cap ≤ maxLen ∧ (ao = none → cap = 0)

abbrev Rd (w : World) (p : Nat) (F : List Nat) (bs : List UInt8) (at_ : Nat) : Prop := RdT 97 w p F bs at_

set_option maxHeartbeats 1000000 in
theorem take_good (p : Nat) (F : List Nat) (bs : List UInt8) (at_ : Nat) (n : Int) (w : World) (hR : Rd w p F bs at_) (hn0 : 0 ≤ n) (hn2 : n ≤ 32) (hn3 : at_ + n ≤ 8 * bs.length) :
    Calls Tryz.prog 40 #[.pointer (some ⟨p, 0, none⟩), .int .i64 n] w fun e w' =>
      e = .returned (.tuple #[.int .u32 (num bs / 2 ^ at_ % 2 ^ n.toNat : Nat), .bool true]) ∧ Rd w' p F bs (at_ + n.toNat) ∧ Fr [p] w w' := by
  obtain ⟨ao, cap, hr, hcs, rfl, hpb, hlen, hat, hcap, hmax⟩ := hR
  obtain ⟨n, rfl⟩ := Int.eq_ofNat_of_zero_le hn0
  have h1 : decide ((n : Int) < 0) = false := by simp
  have h2 : decide (32 < (n : Int)) = false := by simp; omega
  have h3 : decide (8 * (bs.length : Int) - at_ < (n : Int)) = false := by simp; omega
  have c0 := cell_of hr 0
  have c1 := cell_of hr 1
  simp only [List.getElem?_toArray, List.getElem?_cons_zero, List.getElem?_cons_succ] at c0 c1
  have Hr := Lib.hid hr
  clear hr
  go_enter Tryz.func40, Tryz.ntmps40
  go_wp2
  go_quiet (fail)
  clear c0 c1
  go_wp2
  go_loopw [6, 7] (fun v i wr => ∃ k : Nat, k ≤ n ∧ i = .int .i64 k ∧ v = .int .u32 (num bs / 2 ^ at_ % 2 ^ k : Nat) ∧
      wr.heap[p]? = some (.cells #[.slice ao bs.length cap, .int .i64 (at_ + k : Nat)] 97 (0, 0)) ∧ Fr [p] w wr)
    (fun _ i _ => n - (intOf i).toNat)
  case atStart => exact ⟨0, by omega, rfl, by simp [Nat.mod_one], by simpa using Hr.out, Fr.drewN _ _ _⟩
  case round =>
    obtain ⟨k, hk, rfl, rfl, hr', hb⟩ := hrel
    by_cases hkn : k < n
    · obtain ⟨g, o, rfl, hc⟩ := hcs.at (by simp; omega)
      have hq : (at_ + k) / 8 < bs.length := by omega
      have cd : wr.cell? ⟨g, o + (at_ + k) / 8, none⟩ = some (bv (bs.getD ((at_ + k) / 8) 0)) := by
        refine hb.cell (hc _ _ ?_) (by simpa [blk, eq_comm] using hpb)
        simp [List.getD, hq]
      unfold bv at cd
      have c0 := cell_of hr' 0
      have c1 := cell_of hr' 1
      have f1 := frozen_of hr' 1
      simp only [List.getElem?_toArray, List.getElem?_cons_zero, List.getElem?_cons_succ] at c0 c1
      have Hr' := Lib.hid hr'
      clear hr' hc
      have hby : (bs.getD ((at_ + k) / 8) 0).toNat < 256 := UInt8.toNat_lt _
      generalize hbn : (bs.getD ((at_ + k) / 8) 0).toNat = bn at cd hby
      have Hbn := Lib.hid hbn
      clear hbn
      have hv : num bs / 2 ^ at_ % 2 ^ k < 4294967296 := by
        refine Nat.lt_of_lt_of_le (Nat.mod_lt _ (Nat.two_pow_pos _)) ?_
        exact Nat.pow_le_pow_right (by omega) (show k ≤ 32 by omega)
      generalize hvn : num bs / 2 ^ at_ % 2 ^ k = vn at hv ⊢
      have Hvn := Lib.hid hvn
      clear hvn
      go_wp2
      all_goals
        go_quiet (fail)
        go_wp2
        go_roundw
        case rel =>
          first
          | exact ⟨k + (n - k), by omega, int_eq (by omega), int_eq (take_step bs at_ k (n - k) vn bn hq (by omega) (by omega) Hvn.out Hbn.out),
              (setCell_of (w := wr.drewN nq) Hr'.out _).trans (by simp; omega), (hb.drewsN nq).setCell (by simp) _⟩
          | exact ⟨k + (8 - (at_ + k) % 8), by omega, int_eq (by omega), int_eq (take_step bs at_ k (8 - (at_ + k) % 8) vn bn hq (by omega) (by omega) Hvn.out Hbn.out),
              (setCell_of (w := wr.drewN nq) Hr'.out _).trans (by simp; omega), (hb.drewsN nq).setCell (by simp) _⟩
        case measure => simp [intOf]; omega
    · obtain rfl : k = n := by omega
      have hcs' : Cs wr ao (bs.map bv) := hcs.fr hb (by intro x hx; simp; rintro rfl; exact hpb hx)
      have Hr' := Lib.hid hr'
      clear hr' hcs
      go_wp2
      go_ret2
      exact ⟨by simp, ⟨ao, cap, by simpa using Hr'.out, hcs', rfl, hpb, hlen, by simp; omega, hcap, hmax⟩, hb⟩

set_option maxHeartbeats 1000000 in
theorem take_bad (p : Nat) (F : List Nat) (bs : List UInt8) (at_ : Nat) (n : Int) (w : World) (hR : Rd w p F bs at_) (hn : n < 0 ∨ 32 < n ∨ 8 * bs.length < at_ + n) :
    Calls Tryz.prog 40 #[.pointer (some ⟨p, 0, none⟩), .int .i64 n] w fun e w' =>
      e = .returned (.tuple #[.int .u32 0, .bool false]) ∧ Rd w' p F bs at_ ∧ Fr [] w w' := by
  obtain ⟨ao, cap, hr, hcs, rfl, hpb, hlen, hat, hcap, hmax⟩ := hR
  have c0 := cell_of hr 0
  have c1 := cell_of hr 1
  simp only [List.getElem?_toArray, List.getElem?_cons_zero, List.getElem?_cons_succ] at c0 c1
  have Hr := Lib.hid hr
  clear hr
  have done : ∀ m, Rd (w.drewN m) p (p :: blk ao) bs at_ := fun m => ⟨ao, cap, Hr.out, hcs, rfl, hpb, hlen, hat, hcap, hmax⟩
  have Hd := Lib.hid done
  clear done
  by_cases a1 : n < 0
  · have h1 : decide (n < 0) = true := by simp; omega
    go_enter Tryz.func40, Tryz.ntmps40
    go_wp2
    go_quiet (fail)
    go_wp2
    go_ret2
    exact ⟨rfl, Hd.out _, Fr.drewN _ _ _⟩
  · have h1 : decide (n < 0) = false := by simp; omega
    by_cases a2 : 32 < n
    · have h2 : decide (32 < n) = true := by simp; omega
      go_enter Tryz.func40, Tryz.ntmps40
      go_wp2
      go_quiet (fail)
      go_wp2
      go_ret2
      exact ⟨rfl, Hd.out _, Fr.drewN _ _ _⟩
    · have h2 : decide (32 < n) = false := by simp; omega
      have h3 : decide (8 * (bs.length : Int) - at_ < n) = true := by simp; omega
      go_enter Tryz.func40, Tryz.ntmps40
      go_wp2
      go_quiet (fail)
      go_wp2
      go_ret2
      exact ⟨rfl, Hd.out _, Fr.drewN _ _ _⟩
end Go.Proofs.YtolkoidbkaidkaaGreat.bits
/-
  (*bits.Writer): what a writer is in memory, and Put.
-/
namespace Go.Proofs.YtolkoidbkaidkaaGreat.bits
open Go Go.RowKit Go.Proofs.YtolkoidbkaidkaaGreat.lib Go.Proofs.YtolkoidbkaidkaaGreat.bm

theorem sliceU8 : SliceTy Tryz.prog 22 5 (.int .u8 0) 1 1 := SliceTy.of Tryz.underlying22 (by kernel_rfl) rfl (by decide)

/-- A writer into which L bits were put, as a number M; v: its whole bytes. -/
def Wv (w : World) (p : Nat) (v : Value) (M L : Nat) : Prop :=
  w.heap[p]? = some (.cells #[v, .int .u64 (M / 2 ^ (8 * (L / 8)) : Nat), .int .i64 (L % 8 : Nat)] 77 (0, 0)) ∧
    w.ownsRow 0 5 1 v (L / 8) ((dig (L / 8) M).map bv) ∧ v.ownBlock ≠ some p ∧ M < 2 ^ L
/-- The same, with the blocks that it lies in. -/
def Wr (w : World) (p : Nat) (F : List Nat) (M L : Nat) : Prop := ∃ v, Wv w p v M L ∧ F = p :: v.ownBlock.toList

theorem bv_ofNat (W : Nat) : Value.int .u8 (IntKind.u8.wrap (W : Int)) = bv (UInt8.ofNat W) := by
  unfold bv
  rw [IntKind.wrap_u8', UInt8.toNat_ofNat']
  exact int_eq (by omega)
theorem dig_row (q N : Nat) : (dig (q + 1) N).map bv = (dig q N).map bv ++ [Value.int .u8 (IntKind.u8.wrap ((N / 2 ^ (8 * q) : Nat) : Int))] := by
  rw [dig_snoc, List.map_append, bv_ofNat]
  rfl
theorem sub_tail (K q : Nat) : K - 8 * q - 8 = K - 8 * (q + 1) := by omega
theorem div_tail (N q : Nat) : N / 2 ^ (8 * q) / 2 ^ 8 = N / 2 ^ (8 * (q + 1)) := by
  rw [Nat.div_div_eq_div_mul, ← Nat.pow_add, Nat.mul_add]

set_option maxHeartbeats 1000000 in
theorem put_ok (p : Nat) (F : List Nat) (M L : Nat) (x : Nat) (n : Int) (w : World) (hW : Wr w p F M L) (hx : x < 4294967296) (hL : L ≤ 562949953421312) :
    Calls Tryz.prog 117 #[.pointer (some ⟨p, 0, none⟩), .int .u32 x, .int .i64 n] w fun e w' =>
      e = .returned (.tuple #[]) ∧ Fr F w w' ∧ ∃ F', Wr w' p F' (M + 2 ^ L * (x % 2 ^ (min n.toNat 32))) (L + min n.toNat 32) ∧ ∀ y ∈ F', y ∈ F ∨ w.heap.size ≤ y := by
  obtain ⟨v, ⟨hr, hown, hpb, hM⟩, rfl⟩ := hW
  have c0 := cell_of hr 0
  have c1 := cell_of hr 1
  have c2 := cell_of hr 2
  simp only [List.getElem?_toArray, List.getElem?_cons_zero, List.getElem?_cons_succ] at c0 c1 c2
  have f1 := frozen_of hr 1
  have f2 := frozen_of hr 2
  have Hr := Lib.hid hr
  clear hr
  obtain ⟨W, hW⟩ : ∃ W : Nat, W = M / 2 ^ (8 * (L / 8)) := ⟨_, rfl⟩
  rw [← hW] at c1
  have HW := Lib.hid hW
  clear hW
  go_enter Tryz.func117, Tryz.ntmps117
  go_upto_region 0 with fail
  obtain ⟨m, hm, hm32⟩ : ∃ m : Nat, m = min n.toNat 32 ∧ m ≤ 32 := ⟨_, rfl, by omega⟩
  have Hm := Lib.hid hm
  clear hm
  go_cut [2] (fun n2 wc => n2 = .int .i64 m ∧ w = wc)
  case first =>
    go_wp2
    all_goals (go_meet; exact ⟨int_eq (by have := Hm.out; omega), rfl⟩)
  case rest =>
  obtain ⟨rfl, rfl⟩ := hcut
  go_upto_region 1 with fail
  have hl8 : L % 8 < 8 := by omega
  go_cut [] (fun wc => wc.heap[p]? = some (.cells #[v, .int .u64 ((M + 2 ^ L * (x % 2 ^ m)) / 2 ^ (8 * (L / 8)) : Nat), .int .i64 (L % 8 : Nat)] 77 (0, 0)) ∧ Fr [p] w wc)
  case first =>
    go_region
    all_goals go_wp2
    go_meet
    refine ⟨(setCell_of Hr.out _).trans ?_, ((Fr.refl _ w).setCell (by simp) _).drew⟩
    have e := put_word M L x m hM hx hm32
    rw [← HW.out] at e
    rw [e]
    rfl
  case rest =>
  obtain ⟨hr1, fr1⟩ := hcut
  clear c2 f2
  have c2 := cell_of hr1 2
  have f2 := frozen_of hr1 2
  simp only [List.getElem?_toArray, List.getElem?_cons_zero, List.getElem?_cons_succ] at c2
  go_upto_region 2 with fail
  go_cut [] (fun wz => wz.heap[p]? = some (.cells #[v, .int .u64 ((M + 2 ^ L * (x % 2 ^ m)) / 2 ^ (8 * (L / 8)) : Nat), .int .i64 (L % 8 + m : Nat)] 77 (0, 0)) ∧ Fr [p] w wz)
  case first =>
    have Hr1 := Lib.hid hr1
    clear hr1
    go_wp2
    go_meet
    exact ⟨(setCell_of Hr1.out _).trans rfl, fr1.setCell (by simp) _⟩
  case rest =>
  obtain ⟨hr2, fr2⟩ := hcut
  have hN := put_lt M L x m hM
  have hdig : dig (L / 8) (M + 2 ^ L * (x % 2 ^ m)) = dig (L / 8) M := by
    rw [show 2 ^ L = 2 ^ (8 * (L / 8)) * 2 ^ (L % 8) from by rw [← Nat.pow_add, Nat.div_add_mod], Nat.mul_assoc, dig_add]
  rw [← hdig] at hown
  clear hdig
  have Hm' := Lib.hid Hm
  clear hr1 c2 f2 Hm Hr c0 c1 f1
  obtain ⟨N, hNe⟩ : ∃ N, N = M + 2 ^ L * (x % 2 ^ m) := ⟨_, rfl⟩
  rw [← hNe] at hr2 hN hown
  have HN := Lib.hid hNe
  clear hNe
  have hK : L / 8 * 8 ≤ L + m := by omega
  have own2 := ownsRow_fr (hown) fr2 (by intro k hk; simp; rintro rfl; exact hpb hk)
  have HM := Lib.hid hM
  have HR2 := Lib.hid hr2
  clear hM hr2 hown
  go_wp2
  go_loopg [] 5 (fun k wr => ∃ (u : Value) (q : Nat), k + q = L / 8 + 5 ∧ L / 8 ≤ q ∧ 8 * q ≤ L + m ∧
    wr.heap[p]? = some (.cells #[u, .int .u64 (N / 2 ^ (8 * q) : Nat), .int .i64 (L + m - 8 * q : Nat)] 77 (0, 0)) ∧
    wr.ownsRow 0 5 1 u q ((dig q N).map bv) ∧ u.ownBlock ≠ some p ∧ Fr (p :: v.ownBlock.toList) w wr ∧ (∀ y, u.ownBlock = some y → v.ownBlock = some y ∨ w.heap.size ≤ y))
  case atStart =>
    exact ⟨v, L / 8, by omega, by omega, by omega, by rw [HR2.out, show L + m - 8 * (L / 8) = L % 8 + m from by omega], own2, hpb, fr2.mono (by simp), fun y hy => .inl hy⟩
  case round =>
    obtain ⟨u, q, hgk, hq1, hq2, hr, hown, hub, hfr, hown'⟩ := hrel
    have c0 := cell_of hr 0
    have c1 := cell_of hr 1
    have c2 := cell_of hr 2
    simp only [List.getElem?_toArray, List.getElem?_cons_zero, List.getElem?_cons_succ] at c0 c1 c2
    have f0 := frozen_of hr 0
    have f1 := frozen_of hr 1
    have f2 := frozen_of hr 2
    have Hr := Lib.hid hr
    clear hr
    by_cases hlt : 8 ≤ L + m - 8 * q
    · obtain ⟨W, hW⟩ : ∃ W : Nat, W = N / 2 ^ (8 * q) := ⟨_, rfl⟩
      rw [← hW] at c1
      have HW := Lib.hid hW
      clear hW
      have hps : p < wr.heap.size := lt_of_block Hr.out
      have ea : p ≠ wr.heap.size := Nat.ne_of_lt hps
      go_upto_region 5 with fail
      go_cut [] (fun wz => ∃ u', wz.heap[p]? = some (.cells #[u', .int .u64 (N / 2 ^ (8 * q) : Nat), .int .i64 (L + m - 8 * q : Nat)] 77 (0, 0)) ∧
         wz.ownsRow 0 5 1 u' (q + 1) ((dig (q + 1) N).map bv) ∧ u'.ownBlock ≠ some p ∧ Fr (p :: v.ownBlock.toList) w wz ∧ (∀ y, u'.ownBlock = some y → v.ownBlock = some y ∨ w.heap.size ≤ y))
      case first =>
        go_region_law (refine step_append sliceU8 rfl (.tmp 51) (.tmp 57) rfl u q ((dig q N).map bv) _ (by rfl) (by rfl) (by first | exact hown.alloc _ | exact hown.drew.alloc _) _ 1 1 _ (by rfl) (by decide) (by simp) (by exact cs_one _ _ _ _ (alloc_at _ _)) (by rfl) (by simp [Value.oneCell']) (by omega) (by unfold maxLen; omega) ?_; intro ao1 cap1 w1 A1; have hb1 := A1.fr.blk (alloc_old _ Hr.out) (by simpa using hub); have g0 := cell_of hb1 0; have g1 := frozen_of hb1 0; simp only [List.getElem?_toArray, List.getElem?_cons_zero] at g0)
        all_goals go_wp2
        all_goals go_meet
        all_goals
          have hsz := hfr.size
          have hat := A1.at_
          simp only [World.size_drew, World.size_alloc] at hat
          have hne : (Value.slice ao1 (q + 1) cap1).ownBlock ≠ some p := by
            intro h
            rcases hat p (by rw [← own_blk ao1 (q + 1) cap1, h]; simp) with h | h
            · exact hub (by simpa using h)
            · omega
          refine ⟨_, (setCell_of hb1 _).trans rfl, ?_, hne, ?_, ?_⟩
          · rw [dig_row, ← HW.out]
            exact ownsRow_setCell_other A1.own hne _
          · refine Fr.setCell (((hfr.alloc _).drew).step A1.fr ?_) (by simp) _
            intro k hk
            rcases hown' k (by simpa using hk) with h | h
            · left; simp [h]
            · right; exact h
          · intro y hy
            rcases hat y (by rw [← own_blk ao1 (q + 1) cap1, hy]; simp) with h | h
            · exact hown' y (by simpa using h)
            · right; omega
      case rest =>
      obtain ⟨u', hr', own', hub', fr', ob'⟩ := hcut
      clear c0 c1 c2 f0 f1 f2 hown hub hfr hown' ea hps
      have c1 := cell_of hr' 1
      have c2 := cell_of hr' 2
      simp only [List.getElem?_toArray, List.getElem?_cons_zero, List.getElem?_cons_succ] at c1 c2
      have f1 := frozen_of hr' 1
      have f2 := frozen_of hr' 2
      have Hr' := Lib.hid hr'
      clear hr'
      rw [← HW.out] at c1
      go_wp2
      go_roundg (gk - 1)
      case measure => omega
      case rel =>
        refine ⟨u', q + 1, by omega, by omega, by omega, (setCell_of (setCell_of Hr'.out _) _).trans ?_, ownsRow_setCell_other (ownsRow_setCell_other own' hub' _) hub' _, hub', Fr.setCell (fr'.setCell (by simp) _) (by simp) _, ob'⟩
        rw [← div_tail, ← HW.out, ← sub_tail]
        have e1 : ((W : Int) / 256) = ((W / 2 ^ 8 : Nat) : Int) := by omega
        have e2 : ((L + m - 8 * q : Nat) : Int) - 8 = ((L + m - 8 * q - 8 : Nat) : Int) := by omega
        rw [e1, e2]
        rfl
    · obtain rfl : q = (L + m) / 8 := by omega
      have Ho := Lib.hid hown
      clear hown
      go_wp2
      go_end0
      refine ⟨rfl, hfr, p :: u.ownBlock.toList, ?_, ?_⟩
      · rw [← Hm'.out.out, ← HN.out]
        refine ⟨u, ⟨?_, Ho.out, hub, hN⟩, rfl⟩
        rw [Hr.out, show L + m - 8 * ((L + m) / 8) = (L + m) % 8 from by omega]
      · intro y hy
        rcases List.mem_cons.1 hy with rfl | hy
        · simp
        · rcases hown' y (by simpa using hy) with h | h
          · left; simp [h]
          · right; exact h
end Go.Proofs.YtolkoidbkaidkaaGreat.bits
/-
  (*bits.Reader): Read, Used, Align, Bytes.
-/
namespace Go.Proofs.YtolkoidbkaidkaaGreat.bits
open Go Go.RowKit Go.Proofs.YtolkoidbkaidkaaGreat.lib Go.Proofs.YtolkoidbkaidkaaGreat.bm

theorem bv_one (bs : List UInt8) : ∀ u ∈ bs.map bv, u.oneCell' = true := by
  intro u hu
  obtain ⟨b, _, rfl⟩ := List.mem_map.1 hu
  rfl

set_option maxHeartbeats 400000 in
theorem used_any (p : Nat) (F : List Nat) (bs : List UInt8) (at_ : Nat) (w : World) (hR : Rd w p F bs at_) :
    Calls Tryz.prog 19 #[.pointer (some ⟨p, 0, none⟩)] w fun e w' => e = .returned (.int .i64 ((at_ + 7) / 8 : Nat)) ∧ w = w' := by
  obtain ⟨ao, cap, hr, hcs, rfl, hpb, hlen, hat, hcap, hmax⟩ := hR
  have c1 := cell_of hr 1
  simp only [List.getElem?_toArray, List.getElem?_cons_zero, List.getElem?_cons_succ] at c1
  clear hr
  go_enter Tryz.func19, Tryz.ntmps19
  go_wp2
  go_ret
  exact ⟨ret_eq (int_eq (by omega)), rfl⟩

theorem rd_at {T : TypeId} {w w' : World} {p : Nat} {F : List Nat} {bs : List UInt8} {a a' : Nat} (h : RdT T w p F bs a) (hf : Fr [p] w w')
    (hh : ∀ ao cap, w.heap[p]? = some (.cells #[.slice ao bs.length cap, .int .i64 a] T (0, 0)) → w'.heap[p]? = some (.cells #[.slice ao bs.length cap, .int .i64 a'] T (0, 0))) (ha : a' ≤ 8 * bs.length) : RdT T w' p F bs a' := by
  obtain ⟨ao, cap, hr, hcs, rfl, hpb, hlen, hat, hcap, hmax⟩ := h
  exact ⟨ao, cap, hh ao cap hr, hcs.fr hf (by intro x hx; simp; rintro rfl; exact hpb hx), rfl, hpb, hlen, ha, hcap, hmax⟩
theorem rd_fr {T : TypeId} {w w' : World} {p : Nat} {F S : List Nat} {bs : List UInt8} {a : Nat} (h : RdT T w p F bs a) (hf : Fr S w w') (hn : ∀ x ∈ F, x ∉ S) : RdT T w' p F bs a := by
  obtain ⟨ao, cap, hr, hcs, rfl, hpb, hlen, hat, hcap, hmax⟩ := h
  exact ⟨ao, cap, hf.blk hr (hn p (by simp)), hcs.fr hf (by intro x hx; exact hn x (by simp [hx])), rfl, hpb, hlen, hat, hcap, hmax⟩

set_option maxHeartbeats 400000 in
theorem align_any (p : Nat) (F : List Nat) (bs : List UInt8) (at_ : Nat) (w : World) (hR : Rd w p F bs at_) :
    Calls Tryz.prog 75 #[.pointer (some ⟨p, 0, none⟩)] w fun e w' => e = .returned (.tuple #[]) ∧ Rd w' p F bs ((at_ + 7) / 8 * 8) ∧ Fr [p] w w' := by
  have hR' := Lib.hid hR
  obtain ⟨ao, cap, hr, hcs, rfl, hpb, hlen, hat, hcap, hmax⟩ := hR
  have c1 := cell_of hr 1
  have f1 := frozen_of hr 1
  simp only [List.getElem?_toArray, List.getElem?_cons_zero, List.getElem?_cons_succ] at c1
  clear hr
  go_enter Tryz.func75, Tryz.ntmps75
  go_wp2
  go_end0
  refine ⟨rfl, rd_at hR'.out ((Fr.refl _ w).setCell (by simp) _) (fun ao cap h => (setCell_of h _).trans ?_) (by omega), (Fr.refl _ w).setCell (by simp) _⟩
  have e : ((at_ : Int) + 7) / 8 * 8 = ((at_ + 7) / 8 * 8 : Nat) := by omega
  rw [e]
  rfl

set_option maxHeartbeats 400000 in
theorem read_new (ao : Option Addr) (cap : Nat) (bs : List UInt8) (w : World) (hcs : Cs w ao (bs.map bv)) (hcap : bs.length ≤ cap) (hnone : ao = none → cap = 0) (hlen : bs.length ≤ 140737488351232) :
    Calls Tryz.prog 16 #[.slice ao bs.length cap] w fun e w' => ∃ p F, e = .returned (.pointer (some ⟨p, 0, none⟩)) ∧ Rd w' p F bs 0 ∧ Fr [] w w' ∧ ∀ x ∈ F, w.heap.size ≤ x ∧ x < w'.heap.size := by
  go_enter Tryz.func16, Tryz.ntmps16
  go_wp2_with (refine wpList_append sliceU8 rfl _ _ rfl (.slice none 0 0) 0 [] [] rfl rfl (World.ownsRow_nil _ _ _ _) _ _ _ (bs.map bv) rfl hcap hnone hcs (by simp) (bv_one bs) (by omega) (by unfold maxLen; omega) ?_; intro ao1 cap1 w1 A1; simp only [Nat.zero_add, List.nil_append] at A1)
  go_ret
  have hb : ∀ x ∈ blk ao1, x = w.heap.size ∧ x < w1.heap.size := fun x hx => ⟨by simpa using A1.at_ x hx, A1.lt x hx⟩
  have hcs1 : Cs (w1.alloc (.cells #[.slice ao1 bs.length cap1, .int .i64 0] 97)) ao1 (bs.map bv) := (cs_of_owns A1.own).belowAll (below_of_fr ((Fr.refl _ _).alloc _))
  refine ⟨w1.heap.size, _, rfl, ⟨ao1, cap1, alloc_at _ _, hcs1, rfl, fun h => ?_, hlen, by omega, A1.le, A1.max, A1.nil⟩, A1.fr.alloc _, fun x hx => ?_⟩
  · have := (hb _ h).2
    omega
  · rw [World.size_alloc]
    rcases List.mem_cons.1 hx with rfl | hx
    · exact ⟨A1.fr.size, by omega⟩
    · have := hb _ hx
      omega
theorem read_any (ao : Option Addr) (cap : Nat) (bs : List UInt8) (w : World) (hcs : Cs w ao (bs.map bv)) (hcap : bs.length ≤ cap) (hnone : ao = none → cap = 0) (hlen : bs.length ≤ 140737488351232) :
    Calls Tryz.prog 16 #[.slice ao bs.length cap] w fun e w' => ∃ p F, e = .returned (.pointer (some ⟨p, 0, none⟩)) ∧ Rd w' p F bs 0 ∧ Fr [] w w' ∧ ∀ x ∈ F, w.heap.size ≤ x :=
  (read_new ao cap bs w hcs hcap hnone hlen).mono fun _ _ ⟨p, F, h1, h2, h3, h4⟩ => ⟨p, F, h1, h2, h3, fun x hx => (h4 x hx).1⟩

def BytesGood (p : Nat) (F : List Nat) (bs : List UInt8) (at_ n : Nat) (w : World) (e : Ending) (w' : World) : Prop :=
  ∃ ao', e = .returned (.tuple #[.slice ao' n n, .bool true]) ∧ Fresh w' w.heap.size 5 ao' (((bs.drop ((at_ + 7) / 8)).take n).map bv) ∧ (ao' = none → n = 0) ∧
        (∀ x ∈ blk ao', w.heap.size ≤ x) ∧ Rd w' p F bs ((at_ + 7) / 8 * 8 + 8 * n) ∧ Fr [p] w w'
set_option maxHeartbeats 1000000 in
theorem bytes_good (p : Nat) (F : List Nat) (bs : List UInt8) (at_ : Nat) (n : Int) (w : World) (hR : Rd w p F bs at_) (hn0 : 0 ≤ n) (hn : n ≤ bs.length - ((at_ + 7) / 8 : Nat)) :
    Calls Tryz.prog 57 #[.pointer (some ⟨p, 0, none⟩), .int .i64 n] w (BytesGood p F bs at_ n.toNat w) := by
  obtain ⟨n, rfl⟩ := Int.eq_ofNat_of_zero_le hn0
  have h1 : decide ((n : Int) < 0) = false := by simp
  go_enter Tryz.func57, Tryz.ntmps57
  go_upto_region 1 with fail
  go_cut [] (fun w1 => Rd w1 p F bs ((at_ + 7) / 8 * 8) ∧ Fr [p] w w1)
  case first =>
    go_wp2_with (go_at_call 75; refine (align_any p F bs at_ _ hR).mono ?_; rintro e w' ⟨rfl, hR1, fr1⟩)
    go_meet
    exact ⟨hR1, fr1⟩
  case rest =>
  obtain ⟨hR1, fr1⟩ := hcut
  clear hR
  have HR1 := Lib.hid hR1
  obtain ⟨ao, cap, hr, hcs, rfl, hpb, hlen, hat, hcap, hmax⟩ := hR1
  have c0 := cell_of hr 0
  have c1 := cell_of hr 1
  have f1 := frozen_of hr 1
  simp only [List.getElem?_toArray, List.getElem?_cons_zero, List.getElem?_cons_succ] at c0 c1
  have Hr := Lib.hid hr
  clear hr
  have h2 : decide ((bs.length : Int) - (at_ + 7) / 8 < (n : Int)) = false := by simp; omega
  generalize hA : (at_ + 7) / 8 = A at *
  go_upto_region 2 with fail
  go_cut [25] (fun s25 w2 => s25 = .bool false ∧ Rd w2 p (p :: blk ao) bs (A * 8) ∧ Fr [p] w w2)
  case first =>
    go_quiet (fail)
    go_wp2
    go_meet
    exact ⟨by simpa using hn, ⟨ao, cap, Hr.out, hcs, rfl, hpb, hlen, hat, hcap, hmax⟩, fr1.drewsN _⟩
  case rest =>
  obtain ⟨rfl, hR2, fr2⟩ := hcut
  clear c0 c1 f1 Hr hcs fr1 HR1 hat
  obtain ⟨ao, cap, hr, hcs, hF, hpb, hlen, hat, hcap, hmax⟩ := hR2
  have c0 := cell_of hr 0
  have c1 := cell_of hr 1
  have f1 := frozen_of hr 1
  simp only [List.getElem?_toArray, List.getElem?_cons_zero, List.getElem?_cons_succ] at c0 c1
  have Hr := Lib.hid hr
  clear hr
  go_wp2
  refine region_tail 17 (by kernel_rfl) (by kernel_rfl) ?_
  simp only [List.take_succ_cons, List.take_zero, List.drop_succ_cons, List.drop_zero]
  repeat (go_big_quiet_step (fail))
  refine wpQuiet_nil ?_
  have hcut := hcs.cut cap A (A + n) (by omega) (by simp; omega) (by simpa using hcap)
  go_wp2_with (refine wpList_append sliceU8 rfl _ _ rfl (.slice none 0 0) 0 [] [] rfl rfl (World.ownsRow_nil _ _ _ _) (cutAt ao cap A) (A + n - A) (cap - A) _ rfl (by omega) (fun h => by have := hmax.2 (cutAt_none h); omega) hcut (by simp; omega) (by rw [← List.map_drop, ← List.map_take]; exact bv_one _) (by omega) (by unfold maxLen; omega) ?_; intro ao1 cap1 w1 A1; simp only [Nat.zero_add, List.nil_append] at A1; have hle1 : n ≤ cap1 := (by have := A1.le; omega); have hb1 := A1.fr.blk (w := wc.drew) Hr.out (by simp); have d1 := cell_of hb1 1; have g1 := frozen_of hb1 1; simp only [List.getElem?_toArray, List.getElem?_cons_zero, List.getElem?_cons_succ] at d1)
  all_goals
    go_ret2
    have e0 : A + n - A = n := by omega
    rw [e0, ← List.map_drop, ← List.map_take] at A1
    have hne : p ∉ blk ao1 := fun h => by
      have h1 := A1.at_ p h
      have h2 := lt_of_block Hr.out
      simp at h1
      omega
    have hsz := fr2.size
    have fr3 : Fr [] wc w1 := (Fr.drew1 [] wc).trans A1.fr
    have fr4 : Fr [p] w (w1.setCell ⟨p, 1, none⟩ (.int .i64 (A * 8 + 8 * n))) := (fr2.trans (fr3.mono (by simp))).setCell (by simp) _
    have hown := ownsRow_setCell_other (a := ⟨p, 1, none⟩) A1.own (fun h => hne (by rw [← own_blk ao1 n cap1, h]; simp)) (.int .i64 (A * 8 + 8 * n))
    unfold BytesGood
    rw [hA]
    have hblk : ∀ x ∈ blk ao1, w.heap.size ≤ x := fun x hx => by
      have := A1.at_ x hx
      simp at this
      omega
    refine ⟨ao1, rfl, fresh_of_cells hown hblk, fun h => ?_, hblk, ⟨ao, cap, (setCell_of hb1 _).trans ?_, (hcs.fr fr3 (by simp)).fr ((Fr.refl [p] w1).setCell (by simp) _) (by intro x hx; simp; rintro rfl; exact hpb hx), (by first | exact hF | rfl), hpb, hlen, by omega, hcap, hmax⟩, fr4⟩
    · have := A1.nil h
      omega
    · have e : ((A : Int) * 8 + 8 * (n : Int)) = ((A * 8 + 8 * n : Nat) : Int) := by omega
      rw [e]
      rfl

set_option maxHeartbeats 1000000 in
theorem bytes_bad (p : Nat) (F : List Nat) (bs : List UInt8) (at_ : Nat) (n : Int) (w : World) (hR : Rd w p F bs at_) (hn : n < 0 ∨ bs.length - ((at_ + 7) / 8 : Nat) < n) :
    Calls Tryz.prog 57 #[.pointer (some ⟨p, 0, none⟩), .int .i64 n] w fun e w' =>
      e = .returned (.tuple #[.slice none 0 0, .bool false]) ∧ Rd w' p F bs ((at_ + 7) / 8 * 8) ∧ Fr [p] w w' := by
  go_enter Tryz.func57, Tryz.ntmps57
  go_upto_region 1 with fail
  go_cut [] (fun w1 => Rd w1 p F bs ((at_ + 7) / 8 * 8) ∧ Fr [p] w w1)
  case first =>
    go_wp2_with (go_at_call 75; refine (align_any p F bs at_ _ hR).mono ?_; rintro e w' ⟨rfl, hR1, fr1⟩)
    go_meet
    exact ⟨hR1, fr1⟩
  case rest =>
  obtain ⟨hR1, fr1⟩ := hcut
  clear hR
  obtain ⟨ao, cap, hr, hcs, rfl, hpb, hlen, hat, hcap, hmax⟩ := hR1
  have c0 := cell_of hr 0
  have c1 := cell_of hr 1
  simp only [List.getElem?_toArray, List.getElem?_cons_zero, List.getElem?_cons_succ] at c0 c1
  have Hr := Lib.hid hr
  clear hr
  have done : ∀ m, Rd (wc.drewN m) p (p :: blk ao) bs ((at_ + 7) / 8 * 8) := fun m => ⟨ao, cap, Hr.out, hcs, rfl, hpb, hlen, hat, hcap, hmax⟩
  have Hd := Lib.hid done
  clear done
  by_cases a1 : n < 0
  · have h1 : decide (n < 0) = true := by simp; omega
    go_upto_region 2 with fail
    go_quiet (fail)
    go_wp2
    go_ret2
    exact ⟨rfl, Hd.out _, fr1.drewsN _⟩
  · have h1 : decide (n < 0) = false := by simp; omega
    have h2 : decide ((bs.length : Int) - (at_ + 7) / 8 < n) = true := by simp; omega
    go_upto_region 2 with fail
    go_quiet (fail)
    go_wp2
    go_ret2
    exact ⟨rfl, Hd.out _, fr1.drewsN _⟩
end Go.Proofs.YtolkoidbkaidkaaGreat.bits
/-
  huff.count, Complete; the bit reader by the list of its bits.
-/
namespace Go.Proofs.YtolkoidbkaidkaaGreat.huf
open Go Go.RowKit Go.Proofs.YtolkoidbkaidkaaGreat.lib Go.Proofs.YtolkoidbkaidkaaGreat.bm Go.Proofs.YtolkoidbkaidkaaGreat.bl

theorem take_b (p : Nat) (F : List Nat) (bs : List UInt8) (at_ n : Nat) (w : World) (h : bits.Rd w p F bs at_) (hn : n ≤ 32) (hl : at_ + n ≤ 8 * bs.length) :
    Calls Tryz.prog 40 #[.pointer (some ⟨p, 0, none⟩), .int .i64 n] w fun e w' => e = .returned (.tuple #[.int .u32 (bval (((bytesBits bs).drop at_).take n) : Nat), .bool true]) ∧ bits.Rd w' p F bs (at_ + n) ∧ Fr [p] w w' := by
  have h1 := bits.take_good p F bs at_ n w h (by omega) (by omega) (by omega)
  rw [Int.toNat_natCast, num_bits bs at_ n hl] at h1
  exact h1
/-- A slice of ints that are not negative. -/
structure Ri (w : World) (a : Option Addr) (cap : Nat) (xs : List Nat) : Prop where
  cs : Cs w a (xs.map fun x => .int .i64 (x : Nat))
  le : xs.length ≤ cap
  max : cap ≤ maxLen
  nil : a = none → cap = 0
theorem Ri.fr {w w' : World} {a : Option Addr} {cap : Nat} {xs : List Nat} (h : Ri w a cap xs) (f : Fr [] w w') : Ri w' a cap xs := ⟨h.cs.fr f (by simp), h.le, h.max, h.nil⟩
theorem Ri.at {w : World} {a : Option Addr} {cap : Nat} {xs : List Nat} (h : Ri w a cap xs) {i : Nat} (hi : i < xs.length) : ∃ g o, a = some ⟨g, o, none⟩ ∧ w.cell? ⟨g, o + i, none⟩ = some (.int .i64 (xs[i] : Nat)) := by
  obtain ⟨g, o, rfl, hc⟩ := h.cs.at (by simp; omega)
  exact ⟨g, o, rfl, hc i _ (by simp [hi])⟩
theorem weight_append : ∀ a b : List Nat, weight (a ++ b) = weight a + weight b
  | [], b => by simp [weight]
  | x :: a, b => by rw [List.cons_append, weight, weight, weight_append a b]; omega
theorem weight_le : ∀ l : List Nat, weight l ≤ 16384 * l.length
  | [] => Nat.zero_le _
  | x :: l => by
    have := weight_le l
    have h : (if x = 0 then 0 else 2 ^ (15 - x)) ≤ 16384 := by
      split
      · omega
      · exact Nat.le_trans (Nat.pow_le_pow_right (by decide) (show 15 - x ≤ 14 by omega)) (by decide)
    rw [weight, List.length_cons]
    omega
set_option maxRecDepth 100000 in
set_option maxHeartbeats 1000000 in
theorem count_any (a : Option Addr) (cap : Nat) (ls : List Nat) (w : World) (h : Ri w a cap ls) (hle : ∀ l ∈ ls, l ≤ 15) (hlen : ls.length ≤ 100000) :
    Calls Tryz.prog 86 #[.slice a ls.length cap] w fun e w' => e = .returned (.tuple #[.int .i64 (weight ls : Nat), .bool true]) ∧ w = w' := by
  obtain ⟨L, hL⟩ : ∃ L, L = ls.length := ⟨_, rfl⟩
  rw [← hL] at hlen ⊢
  have H := Lib.hid (And.intro h (And.intro hle hL))
  clear h hle hL
  go_enter Tryz.func86, Tryz.ntmps86
  go_upto_block 0 with fail
  go_wp2
  go_loopg [4, 6, 9] L (fun k s4 s6 s9 wr => ∃ i : Nat, s9 = .int .i64 (i : Nat) ∧ s4 = .int .i64 (weight (ls.take i) : Nat) ∧ i + k = L ∧ w = wr)
  case atStart => exact ⟨0, rfl, rfl, by omega, rfl⟩
  case round =>
    obtain ⟨i, rfl, rfl, hik, rfl⟩ := hrel
    by_cases hi : i < L
    · obtain ⟨k, rfl⟩ : ∃ k, gk = k + 1 := ⟨gk - 1, by omega⟩
      have hil : i < ls.length := by rw [← H.out.2.2]; exact hi
      obtain ⟨g, o, rfl, hc⟩ := H.out.1.at hil
      have h15 := H.out.2.1 _ (List.getElem_mem hil)
      have hw := weight_append (ls.take i) [ls[i]]
      rw [← List.take_succ_eq_append_getElem hil] at hw
      have hwl := weight_le (ls.take i)
      rw [List.length_take] at hwl
      generalize ls[i] = x at *
      generalize hW : weight (ls.take i) = W at *
      generalize hW2 : weight (ls.take (i + 1)) = W2 at *
      have hWb : W ≤ 1638400000 := by omega
      by_cases h0 : x = 0
      · subst h0
        have e : W2 = W := by rw [hw]; simp [weight]
        have HE := Lib.hid (And.intro e hW2)
        clear e hw hwl hW hW2
        go_wp2
        go_roundg k
        case measure => omega
        case rel => exact ⟨i + 1, by go_num, by rw [HE.out.2, HE.out.1], by omega, rfl⟩
      · have hx : 1 ≤ x := by omega
        obtain ⟨y, hy⟩ : ∃ y, y = 15 - x := ⟨_, rfl⟩
        have e1 : (15 : Int) - (x : Int) = (y : Int) := by omega
        have hp : 2 ^ y ≤ 16384 := Nat.le_trans (Nat.pow_le_pow_right (by decide) (show y ≤ 14 by omega)) (by decide)
        have e : W2 = W + 2 ^ y := by rw [hw, hy]; simp [weight, h0]
        obtain ⟨z, hz⟩ : ∃ z, z = 2 ^ y := ⟨_, rfl⟩
        rw [← hz] at hp e
        have e2 : (2 : Int) ^ y = (z : Int) := by rw [hz]; exact cast_pow y
        have HE := Lib.hid (And.intro e hW2)
        have hy14 : y ≤ 14 := by omega
        clear e hw hwl hW hW2 hz hy
        go_wp2
        go_roundg k
        case measure => omega
        case rel => exact ⟨i + 1, by go_num, by rw [HE.out.2, HE.out.1]; first | go_num | rfl, by omega, rfl⟩
    · obtain rfl : i = L := by omega
      have hW : weight (ls.take i) = weight ls := by rw [List.take_of_length_le (by rw [← H.out.2.2]; exact Nat.le_refl _)]
      have HW := Lib.hid hW
      clear hW
      go_wp2
      go_ret2
      exact ⟨by rw [← HW.out]; rfl, rfl⟩
end Go.Proofs.YtolkoidbkaidkaaGreat.huf
