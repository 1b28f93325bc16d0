/-
  deflate.Matches.
-/
import Derived.Test.YtolkoidbkaidkaaMatE
import Derived.Test.YtolkoidbkaidkaaAppend
import Derived.OwnWalk
import Derived.Laws.OwnMore
namespace Go.Proofs.Ytolkoidbkaidkaa.mat
open Go Go.RowKit Go.Proofs.Ytolkoidbkaidkaa.lib Go.Proofs.Ytolkoidbkaidkaa.bm

def mcells (l : List Mt) : List Value := l.flatMap fun x => [.int .i64 (x.1 : Nat), .int .i64 (x.2.1 : Nat), .int .i64 (x.2.2 : Nat)]
theorem mcells_length (l : List Mt) : (mcells l).length = l.length * 3 := by
  unfold mcells
  induction l with
  | nil => rfl
  | cons x l ih => simp only [List.flatMap_cons, List.length_append, List.length_cons, List.length_nil, ih]; omega
theorem mcells_append (l m : List Mt) : mcells (l ++ m) = mcells l ++ mcells m := by unfold mcells; rw [List.flatMap_append]
theorem mcells_at : ∀ (l : List Mt) (i : Nat) (h : i < l.length), (mcells l)[i * 3]? = some (.int .i64 (l[i].1 : Nat)) ∧ (mcells l)[i * 3 + 1]? = some (.int .i64 (l[i].2.1 : Nat)) ∧ (mcells l)[i * 3 + 2]? = some (.int .i64 (l[i].2.2 : Nat))
  | x :: l, 0, _ => ⟨rfl, rfl, rfl⟩
  | x :: l, i + 1, h => by
    have hc : mcells (x :: l) = [.int .i64 (x.1 : Nat), .int .i64 (x.2.1 : Nat), .int .i64 (x.2.2 : Nat)] ++ mcells l := rfl
    have e : ∀ j, (mcells (x :: l))[(i + 1) * 3 + j]? = (mcells l)[i * 3 + j]? := fun j => by
      rw [hc, List.getElem?_append_right (by simp; omega)]
      congr 1
      simp
      omega
    have h0 := mcells_at l i (by simpa using h)
    have e0 := e 0
    simp only [Nat.add_zero] at e0
    rw [e0, e 1, e 2]
    exact h0
/-- The blocks lie below B0. -/
structure Low (w : World) (b : List UInt8) (a : Option Addr) (qb qp qh bp bm B0 : Nat) : Prop where
  q : qb < B0 ∧ qp < B0 ∧ qh < B0 ∧ bp < B0 ∧ bm < B0
  new : w.heap.size ≤ bp ∧ w.heap.size ≤ bm
  a : b ≠ [] → ∀ x ∈ blk a, x < B0
theorem En.up {S : List Nat} {w0 w w' : World} {b : List UInt8} {a : Option Addr} {cap qb qp qh bp bm i B0 : Nat} (h : En w b a cap qb qp qh bp bm i) (l : Low w0 b a qb qp qh bp bm B0) (f : Fr S w w') (hS : ∀ x ∈ S, B0 ≤ x) : En w' b a cap qb qp qh bp bm i := by
  obtain ⟨D, P, cnt, h1, r⟩ := h
  obtain ⟨l1, l2, l3, l4, l5⟩ := l.q
  have no : ∀ x, x < B0 → x ∉ S := fun x hx hm => by have := hS x hm; omega
  exact ⟨D, P, cnt, ⟨f.blk h1.vb (no _ l1), f.blk h1.vp (no _ l2), f.blk h1.vh (no _ l3), rd_frE h1.rd f (fun hb x hx => no x (l.a hb x hx)), ownsMap_block h1.map (f.block _ h1.map.lt (no _ l5)), f.blk h1.row (no _ l4), h1.size, h1.np, h1.nm, h1.na⟩, r⟩
/-- Where Matches stands. -/
structure Ms (w wr : World) (b : List UInt8) (a : Option Addr) (cap qb qp qh bp bm B0 i : Nat) (l : List Mt) (ao : Option Addr) (c : Nat) : Prop where
  own : wr.ownsRow 0 27 3 (.slice ao l.length c) l.length (mcells l)
  en : En wr b a cap qb qp qh bp bm i
  fr : Fr [] w wr
  new : ∀ x ∈ blk ao, B0 ≤ x
  low : Low w b a qb qp qh bp bm B0
  big : B0 ≤ wr.heap.size
theorem Ms.fr0 {w wr w2 : World} {b : List UInt8} {a ao : Option Addr} {cap qb qp qh bp bm B0 i c : Nat} {l : List Mt} (h : Ms w wr b a cap qb qp qh bp bm B0 i l ao c) (f : Fr [] wr w2) : Ms w w2 b a cap qb qp qh bp bm B0 i l ao c :=
  ⟨ownsRow_fr h.own f (by simp), h.en.fr f, h.fr.trans f, h.new, h.low, Nat.le_trans h.big f.size⟩
theorem Ms.enter {w wr w2 : World} {b : List UInt8} {a ao : Option Addr} {cap qb qp qh bp bm B0 i j c : Nat} {l : List Mt} (h : Ms w wr b a cap qb qp qh bp bm B0 i l ao c) (f : Fr [bp, bm] wr w2) (e : En w2 b a cap qb qp qh bp bm j) : Ms w w2 b a cap qb qp qh bp bm B0 j l ao c := by
  obtain ⟨l1, l2, l3, l4, l5⟩ := h.low.q
  refine ⟨ownsRow_fr h.own f fun k hk hm => ?_, e, h.fr.step f fun y hy => ?_, h.new, h.low, Nat.le_trans h.big f.size⟩
  · have := h.new k (by rw [← own_blk ao l.length c, hk]; simp)
    simp only [List.mem_cons, List.not_mem_nil, or_false] at hm
    omega
  · have := h.low.new
    simp only [List.mem_cons, List.not_mem_nil, or_false] at hy
    right
    omega
theorem mloop_step {b : List UInt8} {r k i : Nat} (h3 : i + 3 ≤ b.length) : mloop b r (k + 1) i = (if 3 ≤ (best b r i).1 then [(i, (best b r i).1, i - (best b r i).2)] else []) ++ mloop b r k (i + step b r i) := by
  rw [mloop, if_pos h3]
  split <;> rfl
def MatchesNew (w : World) (l : List Mt) (e : Ending) (w' : World) : Prop := ∃ ao, e = .returned (.slice ao l.length l.length) ∧ Cs w' ao (mcells l) ∧ (ao = none → l.length = 0) ∧ Fr [] w w'
theorem matchTy : SliceTy Try.prog 24 27 (.agg #[.int .i64 0, .int .i64 0, .int .i64 0]) 3 24 := SliceTy.of Try.underlying24 (by kernel_rfl) rfl (by decide)
theorem intsTy : SliceTy Try.prog 36 3 (.int .i64 0) 1 8 := SliceTy.of Try.underlying36 (by kernel_rfl) rfl (by decide)
theorem ms_start {b : List UInt8} {a : Option Addr} {cap : Nat} {w w3 : World} (h : Rd w a cap b)
    (own3 : w3.ownsRow 0 3 1 (.slice (some ⟨w.heap.size + 1 + 1 + 1, 0, none⟩) b.length b.length) b.length (madeCells (Value.int .i64 0).cells (b.length * 1)).toList)
    (grow3 : (((w.alloc (.cells #[.slice a b.length cap] 22)).alloc (.map #[] 0)).alloc (.cells #[.map (some (w.heap.size + 1))] 35)).grownBy w3 none) :
    Ms w (w3.alloc (.cells #[.slice (some ⟨w.heap.size + 1 + 1 + 1, 0, none⟩) b.length b.length] 36)) b a cap w.heap.size w3.heap.size (w.heap.size + 1 + 1) (w.heap.size + 1 + 1 + 1) (w.heap.size + 1) (w3.heap.size + 1) 0 [] none 0 := by
  obtain ⟨W0, hW0⟩ : ∃ W0, W0 = ((w.alloc (.cells #[.slice a b.length cap] 22)).alloc (.map #[] 0)).alloc (.cells #[.map (some (w.heap.size + 1))] 35) := ⟨_, rfl⟩
  rw [← hW0] at grow3
  have hz0 : W0.heap.size = w.heap.size + 1 + 1 + 1 := by rw [hW0]; simp only [World.size_alloc]
  have f3 : Fr [] W0 w3 := (Fr.refl [] W0).grown grow3 (fun k hk => by cases hk)
  have f0 : Fr [] w W0 := by rw [hW0]; exact (((Fr.refl [] w).alloc _).alloc _).alloc _
  have b0 : W0.heap[w.heap.size]? = some (.cells #[.slice a b.length cap] 22 (0, 0)) := by
    rw [hW0]
    exact alloc_old _ (alloc_old _ (alloc_at w _))
  have b1 : W0.heap[w.heap.size + 1]? = some (.map #[] 0) := by
    rw [hW0]
    have := alloc_at (w.alloc (.cells #[.slice a b.length cap] 22)) (.map #[] 0)
    rw [World.size_alloc] at this
    exact alloc_old _ this
  have b2 : W0.heap[w.heap.size + 1 + 1]? = some (.cells #[.map (some (w.heap.size + 1))] 35 (0, 0)) := by
    rw [hW0]
    have := alloc_at ((w.alloc (.cells #[.slice a b.length cap] 22)).alloc (.map #[] 0)) (.cells #[.map (some (w.heap.size + 1))] 35)
    rw [World.size_alloc, World.size_alloc] at this
    exact this
  have hmap : W0.ownsMap Try.prog 37 (plainElem (H := Unit) Try.prog 3) (w.heap.size + 1) 0 (.map []) := by
    have := World.ownsMap_made (w.alloc (.cells #[.slice a b.length cap] 22)) Try.prog 37 (plainElem (H := Unit) Try.prog 3)
    rw [World.size_alloc] at this
    rw [hW0]
    exact this.alloc _
  obtain ⟨o1, o2⟩ := own3
  rcases o2 with ⟨o2, _⟩ | ⟨g, c', cur, o2, _, hg, _, _, hsz, _⟩
  · cases o2
  · simp only [Value.slice.injEq, Option.some.injEq, Addr.mk.injEq, and_true, true_and] at o2
    obtain ⟨rfl, rfl⟩ := o2
    have hlt := lt_of_block hg
    have f4 : Fr [] w3 (w3.alloc (.cells #[.slice (some ⟨w.heap.size + 1 + 1 + 1, 0, none⟩) b.length b.length] 36)) := (Fr.refl [] w3).alloc _
    have fall := (f0.trans f3).trans f4
    have f34 := f3.trans f4
    refine ⟨World.ownsRow_nil _ _ _ _, ⟨.map [], cur, 0, ⟨f34.blk b0 (by simp), alloc_at w3 _, f34.blk b2 (by simp), h.fr fall, ownsMap_block hmap (f34.block _ hmap.lt (by simp)), f4.blk hg (by simp), by omega, ⟨by omega, by omega, by omega, by omega⟩, ⟨by omega, by omega, by omega⟩, fun hb x hx => ?_⟩, Nat.le_refl _, mapOk_start b, fun j hj => by omega⟩, fall, by simp [blk], ⟨⟨by omega, by omega, by omega, by omega, by omega⟩, ⟨by omega, by omega⟩, fun hb x hx => ?_⟩, by rw [World.size_alloc]; exact Nat.le_refl _⟩
    · have := rd_lt h hb x hx
      omega
    · have := rd_lt h hb x hx
      omega
theorem Ms.push {w wr w2 : World} {b : List UInt8} {a ao a2 : Option Addr} {cap qb qp qh bp bm B0 i c c2 : Nat} {l : List Mt} (h : Ms w wr b a cap qb qp qh bp bm B0 i l ao c) (x : Mt) (o : Obj) (n : Nat) (hn : l.length = n)
    (A : Appended (wr.alloc o) w2 27 3 (blk ao) a2 (n + 1) c2 (mcells l ++ mcells [x])) : Ms w w2 b a cap qb qp qh bp bm B0 i (l ++ [x]) a2 c2 := by
  have f1 : Fr [] wr (wr.alloc o) := (Fr.refl [] wr).alloc o
  have hz : (wr.alloc o).heap.size = wr.heap.size + 1 := World.size_alloc _ _
  have hbig := h.big
  have hlow := h.low.new
  have hlq := h.low.q
  have hs := A.fr.size
  refine ⟨by rw [List.length_append, List.length_singleton, mcells_append, hn]; exact A.own, (h.en.up h.low f1 (by simp)).up h.low A.fr h.new, (h.fr.trans f1).step A.fr fun y hy => .inr (by have := h.new y hy; omega), fun y hy => ?_, h.low, by omega⟩
  rcases A.at_ y hy with k | k
  · exact h.new y k
  · omega
set_option maxRecDepth 100000 in
set_option maxHeartbeats 4000000 in
theorem matches_any (b : List UInt8) (a : Option Addr) (cap : Nat) (reach : Int) (w : World) (h : Rd w a cap b) (hlen : b.length ≤ 100000) :
    Calls Try.prog 7 #[.slice a b.length cap, .int .i64 reach] w (MatchesNew w (matches_ b reach)) := by
  have hmm := @run_makeMap Try.prog
  obtain ⟨L, hL⟩ : ∃ L, L = b.length := ⟨_, rfl⟩
  have hle := h.le
  obtain ⟨r, hr⟩ : ∃ r : Int, r = if 32768 < reach then 32768 else reach := ⟨_, rfl⟩
  have hr1 : r ≤ 32768 := by rw [hr]; split <;> omega
  rw [← hL] at hle hlen ⊢
  have H := Lib.hid (And.intro h (And.intro hL hr))
  obtain ⟨hu, ⟨ti, hi', hz', hs', hb'⟩, hcz, hp⟩ := intsTy
  clear h hL hr
  go_enter Try.func7, Try.ntmps7
  go_upto_block 0 with (first | (refine wpList_min2 r rfl _ _ _ rfl reach 32768 rfl rfl H.out.2.2 ?_) | (refine wpList_make_full _ rfl _ _ 36 rfl 0 3 ti (.int .i64 0) 1 hu hi' hz' hs' .i64 .i64 (L : Nat) (L : Nat) L rfl rfl rfl rfl (by rw [hb']; omega) (by unfold maxLen; omega) (by omega) ?_; intro w3 own3 grow3; have H3 := Lib.hid (And.intro own3 grow3); clear own3 grow3))
  obtain ⟨qb, qp, qh, bp, bm, B0, w4, e1, e2, e3, e4, e5, e6, hms⟩ : ∃ qb qp qh bp bm B0 w4, w4 = w3.alloc (.cells #[.slice (some ⟨w.heap.size + 1 + 1 + 1, 0, none⟩) L L] 36) ∧ qp = w3.heap.size ∧ bp = w.heap.size + 1 + 1 + 1 ∧ qh = w.heap.size + 1 + 1 ∧ bm = w.heap.size + 1 ∧ qb = w.heap.size ∧ Ms w w4 b a cap qb qp qh bp bm B0 0 [] none 0 := by
    have := ms_start H.out.1 (by have h := H3.out.1; simp only [World.size_alloc] at h; rw [← H.out.2.1]; exact h) (by rw [← H.out.2.1]; exact H3.out.2)
    rw [← H.out.2.1] at this
    exact ⟨_, _, _, _, _, _, _, rfl, rfl, rfl, rfl, rfl, rfl, this⟩
  rw [← e1, ← e3, ← e4, ← e5, ← e6, ← e2]
  obtain ⟨M, hM⟩ : ∃ M, M = matches_ b reach := ⟨_, rfl⟩
  obtain ⟨R, hR⟩ : ∃ R, R = (min reach 32768).toNat := ⟨_, rfl⟩
  have hstart : (0 < r → ([] : List Mt) ++ mloop b R L 0 = M) ∧ (r ≤ 0 → ([] : List Mt) = M) := by
    have hrr := H.out.2.2
    rw [hM, hR, H.out.2.1]
    unfold matches_
    constructor
    · intro h0
      rw [if_pos (by rw [hrr] at h0; split at h0 <;> omega)]
      rfl
    · intro h0
      rw [if_neg (by rw [hrr] at h0; split at h0 <;> omega)]
  have hRr : 0 < r → (R : Int) = r := by
    have hrr := H.out.2.2
    intro h0
    rw [hR, hrr]
    rw [hrr] at h0
    split at h0 <;> split <;> omega
  have HS := Lib.hid (And.intro hstart (And.intro hms hM))
  have HR := Lib.hid hRr
  clear e1 e2 e3 e4 e5 e6 hms hstart hRr hM hR H3 hu hi' hz' hs' hb' hcz hp
  go_wp2
  go_loopg [5, 9] L (fun k s5 s9 wr => ∃ (i c : Nat) (ao : Option Addr) (l : List Mt), s5 = .slice ao l.length c ∧ s9 = .int .i64 (i : Nat) ∧ Ms w wr b a cap qb qp qh bp bm B0 i l ao c ∧ L ≤ i + k ∧ i ≤ L ∧ l.length ≤ i ∧ (0 < r → l ++ mloop b R k i = M) ∧ (r ≤ 0 → l = M))
  case atStart => exact ⟨0, 0, none, [], rfl, rfl, HS.out.2.1, by omega, Nat.zero_le _, Nat.le_refl _, HS.out.1⟩
  case round =>
    obtain ⟨i, c, ao, l, rfl, rfl, hms, hik, hiL, hli, hpos, hneg⟩ := hrel
    obtain ⟨D, P, cnt, E, _⟩ := hms.en
    have cb := cell_of E.vb 0
    simp only [List.getElem?_toArray, List.getElem?_cons_zero] at cb
    rw [← H.out.2.1] at cb
    obtain ⟨_, _, hsh, o1, o2, o3⟩ := owns_form hms.own
    simp only [Value.slice.injEq] at hsh
    obtain ⟨rfl, _, rfl⟩ := hsh
    have hsl := fun w => run_slice_cut3 matchTy l.length ao c o1 w
    have HMS := Lib.hid hms
    have HO := Lib.hid (And.intro hpos hneg)
    clear hms hpos hneg E
    have hmi : IntKind.i64.wrap ((i : Int) + 3) = (i : Int) + 3 := IntWalk.i64_in _ (by omega)
    by_cases h3 : i + 3 ≤ L
    · by_cases h0 : 0 < r
      · have d1 : decide ((i : Int) + 3 ≤ L) = true := by simp; omega
        obtain ⟨k, rfl⟩ : ∃ k, gk = k + 1 := ⟨gk - 1, by omega⟩
        have hRr := HR.out h0
        obtain ⟨wo, rfl⟩ : ∃ wo : World, wo = wr := ⟨_, rfl⟩
        obtain ⟨⟨x1, x2⟩, hx⟩ : ∃ x, x = best b R i := ⟨_, rfl⟩
        have hbl : b.length = L := H.out.2.1.symm
        obtain ⟨D, P, cnt, E, hcnt, hmap, hrow⟩ := HMS.out.en
        have ch := cell_of E.vh 0
        simp only [List.getElem?_toArray, List.getElem?_cons_zero] at ch
        obtain ⟨q0, hq0⟩ : ∃ q0, q0 = last b i (three b i) := ⟨_, rfl⟩
        have hth : ∀ x, Calls Try.prog 12 #[.slice (Option.map (fun x => x.add i) a) (L - i) (cap - i)] (wo.drewN x) fun e w' => e = .returned (.int .u32 (three b i : Nat)) ∧ ∃ n, w' = (wo.drewN x).drewN n := fun x => by
          have := three_any (cutAtN a cap i 1) (cap - i) (b.drop i) (wo.drewN x) ((E.rd.drop i (by omega)).fr (Fr.drewN [] wo x)) (by rw [List.length_drop]; omega)
          rw [List.length_drop, three_drop, cutAtN_map (by omega), hbl] at this
          exact this
        have hlk : ∀ x, (Instr.lookup 35 (.map (some bm)) (.int .u32 (three b i : Nat)) true).run Try.prog (wo.drewN x) = .ok (.tuple #[.int .i64 (pq q0).1, .bool (pq q0).2]) (wo.drewN x) := fun x => by
          have := map_look (ownsMap_block E.map ((Fr.drewN [] wo x).block _ E.map.lt (by simp))) hmap (three_lt b i)
          rw [← hq0] at this
          exact this
        have hk3 := three_lt b i
        generalize three b i = kk at hth hlk hk3
        have HX := Lib.hid (And.intro hx (And.intro hbl hq0))
        have HE := Lib.hid (And.intro E hrow)
        have HTH := Lib.hid hth
        clear hx hbl hq0 hth E hrow hmap hcnt
        go_upto_region 9 with fail
        go_quiet ((go_at_call 12; exact Calls.quiet_of (HTH.out _)))
        go_upto_block 2 with fail
        clear hlk hk3 ch
        go_cut [10, 11, 12, 14, 15] from 42 to 73 (fun s10 s11 s12 s14 s15 wz => s10 = .int .i64 (x1 : Nat) ∧ s11 = .int .i64 (x2 : Nat) ∧ Fr [] wo wz)
        case first =>
          cases q0 with
          | none =>
            have hx0 : x1 = 0 ∧ x2 = 0 := by
              have h1 := HX.out.1
              unfold best at h1
              rw [← HX.out.2.2] at h1
              simp only [chase, Prod.mk.injEq] at h1
              exact h1
            obtain ⟨rfl, rfl⟩ := hx0
            simp only [pq]
            go_wp2
            refine wp_loop_rounds 1 ?_
            rw [rounds_succ]
            go_wp2
            go_meet
            exact ⟨rfl, rfl, Fr.drewN [] wo _⟩
          | some p0 =>
            simp only [pq]
            go_wp2
            go_loopg [10, 11, 12, 14, 15] 48 (fun k s10 s11 s12 s14 s15 wz => ∃ (n bb aa : Nat) (q : Option Nat), s10 = .int .i64 (bb : Nat) ∧ s11 = .int .i64 (aa : Nat) ∧ s12 = .int .i64 (pd q) ∧ s14 = .int .i64 (n : Nat) ∧ n + k = 48 ∧ (∀ p, q = some p → p < i ∧ p + 3 ≤ L) ∧ chase b R i k q bb aa = (x1, x2) ∧ bb ≤ 258 ∧ Fr [] wo wz)
            case atStart => exact ⟨0, 0, 0, some p0, rfl, rfl, rfl, rfl, rfl, fun p hp => by have := last_lt b _ _ _ (HX.out.2.2.symm.trans hp); rw [HX.out.2.1] at this; exact ⟨this.1, this.2.1⟩, by have h1 := HX.out.1; unfold best at h1; rw [← HX.out.2.2] at h1; exact h1.symm, by omega, Fr.drewN [] wo _⟩
            case round =>
              obtain ⟨n, bb, aa, q, rfl, rfl, rfl, rfl, hn, hq, hch, hbb, hf⟩ := hrel
              by_cases hn48 : n < 48
              · obtain ⟨k2, rfl⟩ : ∃ k2, gk = k2 + 1 := ⟨gk - 1, by omega⟩
                have d0 : decide ((n : Int) < 48) = true := by simp; omega
                cases q with
                | none =>
                  simp only [chase, Prod.mk.injEq] at hch
                  obtain ⟨rfl, rfl⟩ := hch
                  simp only [pd]
                  have HF := Lib.hid hf
                  clear hf hq
                  go_wp2
                  go_meet
                  exact ⟨rfl, rfl, HF.out⟩
                | some p =>
                  obtain ⟨hp1, hp2⟩ := hq p rfl
                  simp only [pd]
                  by_cases hrange : i - p ≤ R
                  · have d2 : decide ((i : Int) - p ≤ r) = true := by simp; omega
                    have hal := fun w' h => alike_any a cap p i b w' h (by omega) (by rw [HX.out.2.1]; omega)
                    rw [HX.out.2.1] at hal
                    have hsp := (alike_spec b p i (by rw [HX.out.2.1]; omega)).1
                    have hpp := HE.out.2 p hp1 (by rw [HX.out.2.1]; exact hp2)
                    rw [pv_pd] at hpp
                    have hqn : ∀ p', last b p (three b p) = some p' → p' < i ∧ p' + 3 ≤ L := fun p' hp' => by have := last_lt b _ _ _ hp'; rw [HX.out.2.1] at this; omega
                    rw [chase, if_pos hrange] at hch
                    generalize last b p (three b p) = q' at hpp hqn hch
                    generalize alike b p i = al at hal hsp hch
                    have E2 := HE.out.1.fr hf
                    have cb2 := cell_of E2.vb 0
                    have cp2 := cell_of E2.vp 0
                    have cr2 := cell_of E2.row p
                    simp only [List.getElem?_toArray, List.getElem?_cons_zero] at cb2 cp2
                    rw [hpp] at cr2
                    rw [HX.out.2.1] at cb2 cp2
                    have HF := Lib.hid (And.intro hf (And.intro (hal _ E2.rd) (And.intro hqn (And.intro E2 (cr2.trans rfl)))))
                    have c9 : wr.cell? ⟨bp, p, none⟩ = some (.int .i64 (pd q')) := cr2
                    clear hf hal hqn cr2 E2 hpp hq
                    by_cases hbest : bb < al
                    · have d3 : decide (bb < al) = true := by simpa using hbest
                      rw [if_pos hbest] at hch
                      have HCH := Lib.hid hch
                      clear hch
                      go_upto_region 14 with (go_at_call 13; refine HF.out.2.1.mono ?_; rintro e wy ⟨rfl, fy⟩; have cp3 := fy.cell cp2 (by simp); have c10 := fy.cell c9 (by simp); have HY := Lib.hid fy; clear fy cp2 c9 cb2)
                      go_wp2
                      go_roundg k2
                      case measure => omega
                      case rel => exact ⟨n + 1, al, p, q', rfl, rfl, rfl, by go_num, by omega, HF.out.2.2.1, HCH.out, by omega, HF.out.1.trans HY.out⟩
                    · have d3 : decide (bb < al) = false := by simpa using hbest
                      rw [if_neg hbest] at hch
                      have HCH := Lib.hid hch
                      clear hch
                      go_upto_region 14 with (go_at_call 13; refine HF.out.2.1.mono ?_; rintro e wy ⟨rfl, fy⟩; have cp3 := fy.cell cp2 (by simp); have c10 := fy.cell c9 (by simp); have HY := Lib.hid fy; clear fy cp2 c9 cb2)
                      go_wp2
                      go_roundg k2
                      case measure => omega
                      case rel => exact ⟨n + 1, bb, aa, q', rfl, rfl, rfl, by go_num, by omega, HF.out.2.2.1, HCH.out, by omega, HF.out.1.trans HY.out⟩
                  · have d2 : decide ((i : Int) - p ≤ r) = false := by simp; omega
                    rw [chase, if_neg hrange] at hch
                    simp only [Prod.mk.injEq] at hch
                    obtain ⟨rfl, rfl⟩ := hch
                    have HF := Lib.hid hf
                    clear hf hq
                    go_wp2
                    go_meet
                    exact ⟨rfl, rfl, HF.out⟩
              · obtain rfl : n = 48 := by omega
                obtain rfl : gk = 0 := by omega
                simp only [chase, Prod.mk.injEq] at hch
                obtain ⟨rfl, rfl⟩ := hch
                have HF := Lib.hid hf
                clear hf hq
                go_wp2
                go_meet
                exact ⟨rfl, rfl, HF.out⟩
        case rest =>
        obtain ⟨rfl, rfl, hf⟩ := hcut
        obtain ⟨w5, rfl⟩ : ∃ w5 : World, w5 = wc := ⟨_, rfl⟩
        obtain ⟨s, hs⟩ : ∃ s, s = step b R i := ⟨_, rfl⟩
        obtain ⟨nw, hnw⟩ : ∃ nw : List Mt, nw = if 3 ≤ x1 then [(i, x1, i - x2)] else [] := ⟨_, rfl⟩
        have hsx : s = if 3 ≤ x1 then x1 else 1 := by rw [hs]; unfold step; rw [← HX.out.1]
        have hML : l ++ (nw ++ mloop b R k (i + s)) = M := by
          have := HO.out.1 h0
          rw [mloop_step (by rw [HX.out.2.1]; exact h3), ← hs, ← HX.out.1, ← hnw] at this
          exact this
        have hb3 : 3 ≤ x1 → x2 < i ∧ i + x1 ≤ L ∧ x1 ≤ 258 := fun h => by
          obtain ⟨k1, k2, k3⟩ := best_spec b R i (by rw [← HX.out.1]; exact Nat.lt_of_lt_of_le (by decide) h)
          rw [← HX.out.1] at k1 k2 k3
          obtain ⟨m1, m2, _⟩ := alike_spec b x2 i (by rw [HX.out.2.1]; exact hiL)
          rw [← k1] at m1 m2
          rw [HX.out.2.1] at m2
          exact ⟨k2, m2, m1⟩
        have h5 := HMS.out.fr0 hf
        have HML := Lib.hid (And.intro hML (And.intro hsx (And.intro h5 hnw)))
        have hsL : 1 ≤ s ∧ i + s ≤ L := by
          rw [hsx]
          split
          · rename_i h; have := hb3 h; omega
          · omega
        have hnl : nw.length ≤ 1 := by rw [hnw]; split <;> simp
        clear hML hs hsx h5 hf hnw
        go_upto_if 74 with fail
        go_cut [5, 16] from 73 to 85 (fun s5 s16 wz => ∃ (a2 : Option Addr) (c2 n2 : Nat), s5 = .slice a2 n2 c2 ∧ s16 = .int .i64 (s : Nat) ∧ n2 = (l ++ nw).length ∧ Ms w wz b a cap qb qp qh bp bm B0 i (l ++ nw) a2 c2)
        case first =>
          have hsx := HML.out.2.1
          by_cases hb : 3 ≤ x1
          · obtain ⟨hb1, hb2, hb4⟩ := hb3 hb
            rw [if_pos hb] at hsx
            subst hsx
            have hnw := HML.out.2.2.2
            rw [if_pos hb] at hnw
            have d3 : decide ((3 : Int) ≤ (s : Int)) = true := by simp; omega
            obtain ⟨dd, hdd⟩ : ∃ dd, dd = i - x2 := ⟨_, rfl⟩
            rw [← hdd] at hnw
            have hd : (i : Int) - (x2 : Int) = (dd : Int) := by omega
            have HN := Lib.hid hnw
            obtain ⟨N, hN⟩ : ∃ N, N = l.length := ⟨_, rfl⟩
            rw [← hN] at hli ⊢
            have HNN := Lib.hid hN
            clear hnw hb3 hN hdd hsl o1
            go_wp2_with (refine wpList_append matchTy rfl _ _ rfl (.slice ao N c) N (mcells l) (blk ao) rfl (own_blk _ _ _) (by rw [HNN.out]; exact HML.out.2.2.1.own.alloc _) (some ⟨w5.heap.size, 0, none⟩) 1 1 [.int .i64 (i : Nat), .int .i64 (s : Nat), .int .i64 (dd : Nat)] rfl (by omega) (by simp) (cs_new w5 _ _ _) rfl (by simp [Value.oneCell']) (by omega) (by unfold maxLen; omega) ?_; intro a2 c2 w6 A2; have HA := Lib.hid A2; clear A2)
            go_meet
            refine ⟨a2, c2, _, rfl, rfl, by rw [List.length_append, HN.out, HNN.out]; rfl, ?_⟩
            rw [HN.out]
            exact HML.out.2.2.1.push _ _ N HNN.out.symm HA.out
          · rw [if_neg hb] at hsx
            subst hsx
            have hnw := HML.out.2.2.2
            rw [if_neg hb] at hnw
            have HN := Lib.hid hnw
            have d3 : decide ((3 : Int) ≤ (x1 : Int)) = false := by simp; omega
            clear hnw hb3
            go_wp2
            go_meet
            exact ⟨ao, c, _, rfl, rfl, by rw [HN.out, List.append_nil], by rw [HN.out, List.append_nil]; exact HML.out.2.2.1⟩
        case rest =>
        obtain ⟨a2, c2, n2, rfl, rfl, hn2, h6⟩ := hcut
        obtain ⟨w6, rfl⟩ : ∃ w6 : World, w6 = wc := ⟨_, rfl⟩
        have H6 := Lib.hid (And.intro h6 hn2)
        clear h6 hn2 hb3 hsl cb
        go_upto_block 4 with fail
        go_wp2
        go_loopg [9, 86] s (fun k s9 s86 wr => ∃ j : Nat, s9 = .int .i64 ((i + j : Nat) : Int) ∧ s86 = .int .i64 (j : Nat) ∧ j + k = s ∧ Ms w wr b a cap qb qp qh bp bm B0 (i + j) (l ++ nw) a2 c2)
        case atStart => exact ⟨0, rfl, rfl, by omega, H6.out.1⟩
        case round =>
          obtain ⟨j, rfl, rfl, hjs, h7⟩ := hrel
          by_cases hj : j < s
          · obtain ⟨k2, rfl⟩ : ∃ k2, gk = k2 + 1 := ⟨gk - 1, by omega⟩
            have hen := enter_any b a cap qb qp qh bp bm (i + j) wr h7.en (by rw [HX.out.2.1]; omega) (by rw [HX.out.2.1]; exact hlen)
            have H7 := Lib.hid (And.intro h7 hen)
            clear h7 hen
            go_wp2_with (go_at_call 11; refine H7.out.2.mono ?_; rintro e w8 ⟨rfl, f8, en8⟩; have H8 := Lib.hid (And.intro f8 en8); clear f8 en8)
            go_roundg k2
            case measure => omega
            case rel => exact ⟨j + 1, by go_num, by go_num, by omega, H7.out.1.enter H8.out.1 H8.out.2⟩
          · obtain rfl : j = s := by omega
            have H7 := Lib.hid h7
            clear h7
            go_wp2
            go_roundg k
            case measure => omega
            case rel => exact ⟨i + j, c2, a2, l ++ nw, by rw [H6.out.2], rfl, H7.out, by omega, hsL.2, by rw [List.length_append]; omega, fun _ => by rw [List.append_assoc]; exact HML.out.1, fun h => by omega⟩
      · have d1 : decide ((i : Int) + 3 ≤ L) = true := by simp; omega
        have d2 : decide ((0 : Int) < r) = false := by simp; omega
        go_wp2
        go_ret
        exact ⟨ao, by rw [← HS.out.2.2, ← HO.out.2 (by omega)]; rfl, by rw [← HS.out.2.2, ← HO.out.2 (by omega)]; exact cs_owns HMS.out.own, fun hn => by rw [← HS.out.2.2, ← HO.out.2 (by omega)]; have := o3 hn; omega, HMS.out.fr⟩
    · have d1 : decide ((i : Int) + 3 ≤ L) = false := by simp; omega
      have hlM : l = M := by
        by_cases h0 : 0 < r
        · have := HO.out.1 h0
          cases gk with
          | zero => rw [← this, mloop, List.append_nil]
          | succ k => rw [← this, mloop, if_neg (by rw [← H.out.2.1]; exact h3), List.append_nil]
        · exact HO.out.2 (by omega)
      have HLM := Lib.hid hlM
      clear hlM
      go_wp2
      go_ret
      exact ⟨ao, by rw [← HS.out.2.2, ← HLM.out]; rfl, by rw [← HS.out.2.2, ← HLM.out]; exact cs_owns HMS.out.own, fun hn => by rw [← HS.out.2.2, ← HLM.out]; have := o3 hn; omega, HMS.out.fr⟩
end Go.Proofs.Ytolkoidbkaidkaa.mat
