/-
  Texts of this proof, one behind the other: Packs, SortG, HuffCnt, LensLaw, Lens, Counts, Writer, Wb, Stored, RowsArg, Written.
-/
import Derived.Test.YtolkoidbkaidkaaGreatG3
import Derived.Deep.DeepCutAuto
import Derived.Deep.LoopGhost
import Derived.Deep.CutBlock
import Derived.WalkMore
import Derived.Lib.SmallJoins
set_option linter.unusedVariables false
set_option linter.unusedSimpArgs false
/-
  huff.packages.
-/
namespace Go.Proofs.YtolkoidbkaidkaaGreat.huf
open Go Go.RowKit Go.Proofs.YtolkoidbkaidkaaGreat.lib Go.Proofs.YtolkoidbkaidkaaGreat.bm Go.Proofs.YtolkoidbkaidkaaGreat.bl

/-- A row of coins, cell by cell. -/
def cellsOf (ms : List Mc) : List Value := ms.flatMap fun m => [.int .i64 (m.worth : Nat), .slice m.ao m.len m.cap]
theorem cellsOf_length (ms : List Mc) : (cellsOf ms).length = ms.length * 2 := by
  induction ms with
  | nil => rfl
  | cons m ms ih => simp only [cellsOf, List.flatMap_cons, List.length_append, List.length_cons, List.length_nil] at ih ⊢; omega
theorem cellsOf_append (a b : List Mc) : cellsOf (a ++ b) = cellsOf a ++ cellsOf b := by simp [cellsOf]
theorem cellsOf_at : ∀ (ms : List Mc) (i : Nat) (m : Mc), ms[i]? = some m → (cellsOf ms)[i * 2]? = some (.int .i64 (m.worth : Nat)) ∧ (cellsOf ms)[i * 2 + 1]? = some (.slice m.ao m.len m.cap)
  | [], i, m, h => by simp at h
  | x :: ms, 0, m, h => by
    simp only [List.getElem?_cons_zero, Option.some.injEq] at h
    subst h
    exact ⟨rfl, rfl⟩
  | x :: ms, i + 1, m, h => by
    have := cellsOf_at ms i m (by simpa using h)
    rw [show (i + 1) * 2 = i * 2 + 2 from by omega]
    exact this
theorem cellsOf_one (ms : List Mc) : ∀ u ∈ cellsOf ms, u.oneCell' = true := by
  intro u hu
  simp only [cellsOf, List.mem_flatMap, List.mem_cons, List.not_mem_nil, or_false] at hu
  obtain ⟨m, _, rfl | rfl⟩ := hu <;> rfl
def ints (l : List Nat) : List Value := l.map fun x => .int .i64 (x : Nat)
theorem ints_one (l : List Nat) : ∀ u ∈ ints l, u.oneCell' = true := by
  intro u hu
  simp only [ints, List.mem_map] at hu
  obtain ⟨x, _, rfl⟩ := hu
  rfl
/-- A coin in memory is this coin. -/
structure In (w : World) (m : Mc) (c : Coin) : Prop where
  worth : m.worth = c.1
  len : m.len = c.2.length
  pos : 0 < m.len
  own : w.ownsRow 0 3 1 (.slice m.ao m.len m.cap) m.len (ints c.2)
theorem In.shape {w : World} {m : Mc} {c : Coin} (h : In w m c) : ∃ b A, m.ao = some ⟨b, 0, none⟩ ∧ w.heap[b]? = some (.cells A 3 (0, 0)) ∧ m.len ≤ m.cap ∧ m.cap ≤ maxLen := by
  rcases h.own.2 with ⟨h1, h2⟩ | ⟨g, cap, cur, h1, _, h2, h3, h4, _, _⟩
  · have := h.pos; omega
  · simp only [Value.slice.injEq, true_and] at h1
    obtain ⟨e1, e2⟩ := h1
    exact ⟨g, cur, e1, h2, by omega, by omega⟩
theorem In.fr {S : List Nat} {w w' : World} {m : Mc} {c : Coin} (h : In w m c) (f : Fr S w w') (hS : ∀ x ∈ S, ∀ A fz, w.heap[x]? ≠ some (.cells A 3 fz)) : In w' m c := by
  refine ⟨h.worth, h.len, h.pos, ownsRow_fr h.own f fun k hk => ?_⟩
  obtain ⟨b, A, e, hb, _, _⟩ := h.shape
  rw [e] at hk
  simp only [Value.ownBlock, Option.some.injEq] at hk
  subst hk
  exact fun hx => hS _ hx A _ hb
theorem In.fr0 {w w' : World} {m : Mc} {c : Coin} (h : In w m c) (f : Fr [] w w') : In w' m c := h.fr f (by simp)
def Ins (w : World) (ms : List Mc) (l : List Coin) : Prop := ms.length = l.length ∧ ∀ (i : Nat) (m : Mc) (c : Coin), ms[i]? = some m → l[i]? = some c → In w m c
theorem Ins.fr0 {w w' : World} {ms : List Mc} {l : List Coin} (h : Ins w ms l) (f : Fr [] w w') : Ins w' ms l := ⟨h.1, fun i m c h1 h2 => (h.2 i m c h1 h2).fr0 f⟩
theorem own_typed {w : World} {e : TypeId} {size : Nat} {ao : Option Addr} {n cap : Nat} {xs : List Value} (h : w.ownsRow 0 e size (.slice ao n cap) n xs) : ∀ x ∈ blk ao, ∃ A, w.heap[x]? = some (.cells A e (0, 0)) := by
  intro x hx
  have hx' := blk_own (n := n) (cap := cap) hx
  rcases h.2 with ⟨h1, _⟩ | ⟨g, c, cur, h1, _, h2, _⟩
  · rw [h1] at hx'; cases hx'
  · rw [h1] at hx'
    simp only [Value.ownBlock, Option.some.injEq] at hx'
    subst hx'
    exact ⟨cur, h2⟩
/-- A row of coins may turn: what lies in the coins does not. -/
theorem Ins.typed {S : List Nat} {w w' : World} {ms : List Mc} {l : List Coin} (h : Ins w ms l) (f : Fr S w w') (hS : ∀ x ∈ S, ∃ A, w.heap[x]? = some (.cells A 91 (0, 0))) : Ins w' ms l :=
  ⟨h.1, fun i m c h1 h2 => (h.2 i m c h1 h2).fr f fun x hx A fz hA => by
    obtain ⟨B, hB⟩ := hS x hx
    rw [hB] at hA
    simp at hA⟩
theorem Ins.append {w : World} {ms ms' : List Mc} {l l' : List Coin} (h : Ins w ms l) (h' : Ins w ms' l') : Ins w (ms ++ ms') (l ++ l') := by
  refine ⟨by simp [h.1, h'.1], fun i m c h1 h2 => ?_⟩
  rcases Nat.lt_or_ge i ms.length with k | k
  · rw [List.getElem?_append_left k] at h1
    rw [List.getElem?_append_left (by rw [← h.1]; exact k)] at h2
    exact h.2 i m c h1 h2
  · rw [List.getElem?_append_right k] at h1
    rw [List.getElem?_append_right (by rw [← h.1]; exact k)] at h2
    rw [← h.1] at h2
    exact h'.2 _ m c h1 h2
theorem Ins.one {w : World} {m : Mc} {c : Coin} (h : In w m c) : Ins w [m] [c] := by
  refine ⟨rfl, fun i m' c' h1 h2 => ?_⟩
  match i with
  | 0 => simp only [List.getElem?_cons_zero, Option.some.injEq] at h1 h2; subst h1; subst h2; exact h
  | i + 1 => simp at h1
theorem packs_take : ∀ (l : List Coin) (j : Nat) (x y : Coin), l[2 * j]? = some x → l[2 * j + 1]? = some y → packs (l.take (2 * (j + 1))) = packs (l.take (2 * j)) ++ [(x.1 + y.1, x.2 ++ y.2)]
  | l, 0, x, y, h1, h2 => by
    match l with
    | [] => simp at h1
    | [a] => simp at h2
    | a :: b :: t =>
      simp only [Nat.mul_zero, List.getElem?_cons_zero, Option.some.injEq, Nat.zero_add, List.getElem?_cons_succ] at h1 h2
      subst h1; subst h2
      rfl
  | l, j + 1, x, y, h1, h2 => by
    match l with
    | [] => simp at h1
    | [a] => simp [show 2 * (j + 1) = 2 * j + 1 + 1 from by omega] at h1
    | a :: b :: t =>
      rw [show 2 * (j + 1) = 2 * j + 1 + 1 from by omega] at h1
      rw [show 2 * (j + 1) + 1 = 2 * j + 1 + 1 + 1 from by omega] at h2
      simp only [List.getElem?_cons_succ] at h1 h2
      have := packs_take t j x y h1 h2
      rw [show 2 * (j + 1 + 1) = 2 * (j + 1) + 1 + 1 from by omega, show 2 * (j + 1) = 2 * j + 1 + 1 from by omega]
      simp only [List.take_succ_cons]
      simp only [packs, List.cons_append]
      rw [show 2 * j + 1 + 1 = 2 * (j + 1) from by omega, this]
theorem packs_odd (l : List Coin) (j : Nat) (h : l.length ≤ 2 * j + 1) : packs (l.take (2 * j)) = packs l := by
  induction j generalizing l with
  | zero =>
    match l with
    | [] => rfl
    | [a] => rfl
    | a :: b :: t => simp at h
  | succ j ih =>
    match l with
    | [] => rfl
    | [a] => simp [show 2 * (j + 1) = 2 * j + 1 + 1 from by omega]
    | a :: b :: t =>
      rw [show 2 * (j + 1) = 2 * j + 1 + 1 from by omega]
      simp only [List.take_succ_cons, packs]
      rw [ih t (by simp only [List.length_cons] at h; omega)]
theorem cat_of {w : World} {m1 m2 : Mc} {x y : Coin} (h1 : In w m1 x) (h2 : In w m2 y) (b1 : m1.len ≤ 400000) (b2 : m2.len ≤ 400000) (q : Nat) (hq : w.heap[q]? = some (.cells #[.slice m1.ao m1.len m1.cap, .slice m2.ao m2.len m2.cap] 35 (0, 0))) :
    Calls Tryz.prog 56 #[.slice (some ⟨q, 0, none⟩) 2 2] w fun e w' => ∃ ao cap, e = .returned (.slice ao (m1.len + m2.len) cap) ∧ Fr [] w w' ∧ (∀ x ∈ blk ao, w.heap.size ≤ x) ∧ ∀ W, W = x.1 + y.1 → In w' ⟨W, ao, m1.len + m2.len, cap⟩ (x.1 + y.1, x.2 ++ y.2) := by
  obtain ⟨g1, A1, e1, _, l1, _⟩ := h1.shape
  obtain ⟨g2, A2, e2, _, l2, _⟩ := h2.shape
  have i1 : (ints x.2).length = m1.len * 1 := by simp [ints, h1.len]
  have i2 : (ints y.2).length = m2.len * 1 := by simp [ints, h2.len]
  refine (concat_int q m1.ao m2.ao m1.len m2.len m1.cap m2.cap (ints x.2) (ints y.2) w hq (cs_of_owns h1.own) (cs_of_owns h2.own) i1 i2 l1 l2 (fun h => by rw [e1] at h; cases h) (fun h => by rw [e2] at h; cases h) (ints_one _) (ints_one _) b1 b2).mono ?_
  rintro e w' ⟨ao, cap, rfl, hm⟩
  refine ⟨ao, cap, rfl, hm.fr, hm.new, fun W hW => ⟨hW, by simp [h1.len, h2.len], by have := h1.pos; simp only; omega, ?_⟩⟩
  have := hm.own
  rwa [show ints x.2 ++ ints y.2 = ints (x.2 ++ y.2) from by simp [ints]] at this
set_option maxRecDepth 100000 in
set_option maxHeartbeats 4000000 in
theorem packages_any (g n cap : Nat) (ms : List Mc) (l : List Coin) (w : World) (hrow : w.ownsRow 0 91 2 (.slice (some ⟨g, 0, none⟩) n cap) n (cellsOf ms)) (hin : Ins w ms l) (hn : ms.length = n) (hb : n ≤ 100000)
    (hl : ∀ c ∈ l, c.1 ≤ 2 ^ 50 ∧ c.2.length ≤ 100000) :
    Calls Tryz.prog 39 #[.slice (some ⟨g, 0, none⟩) n cap] w fun e w' => ∃ ao k cp ms', e = .returned (.slice ao k cp) ∧ k = (packs l).length ∧ Made w w' 91 2 ao k cp (cellsOf ms') ∧ Ins w' ms' (packs l) ∧ ∀ m ∈ ms', ∀ x ∈ blk m.ao, w.heap.size ≤ x := by
  have H := Lib.hid (And.intro hrow (And.intro hin (And.intro hn hl)))
  clear hrow hin hn hl
  obtain ⟨hu, ⟨ti, hi', hz', hs', hb'⟩, hcz, hp⟩ := sty_coin
  go_enter Tryz.func39, Tryz.ntmps39
  go_wp2
  go_loopg [3, 4] n (fun k s3 s4 wr => ∃ (j : Nat) (ao : Option Addr) (cp i : Nat) (ms' : List Mc), s3 = .slice ao j cp ∧ s4 = .int .i64 (i : Nat) ∧ i = 2 * j ∧ i + k = n + (if i ≤ n then 0 else 1) ∧ i ≤ n + 1 ∧ Made w wr 91 2 ao j cp (cellsOf ms') ∧ Ins wr ms' (packs (l.take (2 * j))) ∧ ∀ m ∈ ms', ∀ x ∈ blk m.ao, w.heap.size ≤ x)
  case atStart => exact ⟨0, none, 0, 0, [], rfl, rfl, rfl, by simp, by omega, .none w _ _, ⟨rfl, fun i m c h => by simp at h⟩, fun m hm => by simp at hm⟩
  case round =>
    obtain ⟨j, ao, cp, i, ms', rfl, rfl, hij, hk, hin1, hm, hIn0⟩ := hrel
    obtain ⟨y, hy⟩ : ∃ y, y = i + 1 := ⟨_, rfl⟩
    have e0 : (i : Int) + 1 = (y : Int) := by omega
    by_cases hlt : y < n
    · have HB := Lib.hid hIn0.2
      have hIn := hIn0.1
      clear hIn0
      obtain ⟨hrow, hin, hnn, hl⟩ := H.out
      have hrow1 := ownsRow_fr hrow hm.fr (by simp)
      obtain ⟨m1, hm1⟩ : ∃ m1, ms[i]? = some m1 := ⟨_, List.getElem?_eq_getElem (by omega)⟩
      obtain ⟨m2, hm2⟩ : ∃ m2, ms[y]? = some m2 := ⟨_, List.getElem?_eq_getElem (by omega)⟩
      obtain ⟨c1, hc1⟩ : ∃ c1, l[i]? = some c1 := ⟨_, List.getElem?_eq_getElem (by rw [← hin.1]; omega)⟩
      obtain ⟨c2, hc2⟩ : ∃ c2, l[y]? = some c2 := ⟨_, List.getElem?_eq_getElem (by rw [← hin.1]; omega)⟩
      have I1 := (hin.2 i m1 c1 hm1 hc1).fr0 hm.fr
      have I2 := (hin.2 y m2 c2 hm2 hc2).fr0 hm.fr
      have B1 := hl c1 (List.mem_of_getElem? hc1)
      have B2 := hl c2 (List.mem_of_getElem? hc2)
      have cc : ∀ (z : Nat) (m : Mc), ms[z]? = some m → z < n → ∀ W, (sup [] wr.drew W).cell? ⟨g, z * 2, none⟩ = some (.int .i64 (m.worth : Nat)) ∧ (sup [] wr.drew W).cell? ⟨g, z * 2 + 1, none⟩ = some (.slice m.ao m.len m.cap) := fun z m hz hzn W => by
        have h2 := ownsRow_fr (ownsRow_fr hrow1 (Fr.drew1 [] wr) (by simp)) (sup_fr [] wr.drew W) (by simp)
        have := cellsOf_at ms z m hz
        rw [← this.1, ← this.2]
        exact ⟨World.ownsRow.cellAt h2 _ (by omega), World.ownsRow.cellAt h2 _ (by omega)⟩
      have d1 := fun W => (cc i m1 hm1 (by omega) W).1
      have d2 := fun W => (cc i m1 hm1 (by omega) W).2
      have d3 := fun W => (cc y m2 hm2 hlt W).1
      have d4 := fun W => (cc y m2 hm2 hlt W).2
      have v1 : m1.worth ≤ 2 ^ 50 := by rw [I1.worth]; exact B1.1
      have v2 : m2.worth ≤ 2 ^ 50 := by rw [I2.worth]; exact B2.1
      have v3 : m1.len ≤ 100000 := by rw [I1.len]; exact B1.2
      have v4 : m2.len ≤ 100000 := by rw [I2.len]; exact B2.2
      have hjj : j ≤ 100000 := by omega
      have g1 : decide ((n : Int) ≤ (i : Int)) = false := by simp; omega
      have g2 : decide ((n : Int) ≤ (y : Int)) = false := by simp; omega
      obtain ⟨W, hW⟩ : ∃ W, W = m1.worth + m2.worth := ⟨_, rfl⟩
      have e9 : (m1.worth : Int) + (m2.worth : Int) = (W : Int) := by omega
      have HW := Lib.hid hW
      clear hW
      have HI := Lib.hid (And.intro I1 (And.intro I2 (And.intro hm (And.intro hIn (And.intro hk (And.intro hij (And.intro hc1 (And.intro hc2 hy))))))))
      clear hrow hin hl hrow1 hm1 hm2 hc1 hc2 I1 I2 B1 B2 cc hm hIn hk hij hy
      go_upto_region 5 with fail
      refine region_mix 28 [(false, 0), (false, 1), (false, 2), (false, 3), (false, 4), (false, 5), (false, 6), (false, 7), (false, 8), (false, 9), (false, 10), (false, 11), (false, 12), (false, 13), (false, 14), (false, 15), (false, 16), (false, 17), (false, 18), (false, 19), (false, 20), (false, 21), (false, 22), (false, 23), (true, 24), (true, 25), (true, 26), (true, 27)] [] (by kernel_rfl) (by kernel_rfl) (fun _ _ d _ _ h => by cases d <;> exact h) ?_
      simp only [List.map_cons, List.map_nil, List.getD_cons_zero, List.getD_cons_succ, List.drop_succ_cons, List.drop_zero, List.drop_nil]
      refine mix_seg 24 rfl ?_
      simp only [List.take_succ_cons, List.take_zero, List.drop_succ_cons, List.drop_zero, List.map_cons, List.map_nil]
      repeat (go_big_quiet_step (fail))
      refine wpQuiet_nil ?_
      clear d1 d2 d3 d4
      refine mix_eff rfl ?_
      intro K hK
      go_wp2
      refine hK.out _ _ (Fr.from_drew ((Fr.refl [] wr).alloc _).drew) ?_
      clear hK K
      obtain ⟨w2, hw2⟩ : ∃ w2, w2 = (wr.alloc (.cells #[.slice m1.ao m1.len m1.cap, .slice m2.ao m2.len m2.cap] 35 (0, 0))).drew := ⟨_, rfl⟩
      have hq2 : w2.heap[wr.heap.size]? = some (.cells #[.slice m1.ao m1.len m1.cap, .slice m2.ao m2.len m2.cap] 35 (0, 0)) := by rw [hw2]; exact alloc_at wr _
      have f2 : Fr [] wr w2 := by rw [hw2]; exact ((Fr.refl [] wr).alloc _).drew
      rw [← hw2]
      have hcat := cat_of (HI.out.1.fr0 f2) (HI.out.2.1.fr0 f2) (by omega) (by omega) _ hq2
      have HC := Lib.hid (And.intro hcat f2)
      clear hcat f2 hq2 hw2
      refine mix_eff rfl ?_
      intro K hK
      go_wp2_with (go_at_call 56; refine HC.out.1.mono ?_; rintro e w3 ⟨ao3, cp3, rfl, f3, nb3, in3⟩)
      refine hK.out _ _ f3 ?_
      clear hK K
      have H3 := Lib.hid (And.intro f3 (And.intro nb3 in3))
      clear f3 in3 nb3
      refine mix_eff rfl ?_
      intro K hK
      go_wp2
      refine hK.out _ _ (Fr.refl [] w3) ?_
      clear hK K
      refine mix_eff rfl ?_
      intro K hK
      go_wp2
      refine hK.out _ _ ((Fr.refl [] w3).alloc _) ?_
      clear hK K
      obtain ⟨w4, hw4⟩ : ∃ w4, w4 = w3.alloc (.cells #[.int .i64 (W : Nat), .slice ao3 (m1.len + m2.len) cp3] 91 (0, 0)) := ⟨_, rfl⟩
      have f4 : Fr [] w3 w4 := by rw [hw4]; exact (Fr.refl [] w3).alloc _
      have c4 : Cs w4 (some ⟨w3.heap.size, 0, none⟩) [.int .i64 (W : Nat), .slice ao3 (m1.len + m2.len) cp3] := by
        refine .inr ⟨_, 0, rfl, fun k v hv => ?_⟩
        rw [hw4, cell_of (alloc_at w3 _), Nat.zero_add]
        simpa using hv
      rw [← hw4]
      have hm4 := HI.out.2.2.1.fr2 ((HC.out.2.trans H3.out.1).trans f4)
      have HD := Lib.hid (And.intro hm4 (And.intro c4 f4))
      clear hm4 c4 f4 hw4
      refine mix_nil ?_
      go_wp2_with (refine wpList_append sty_coin rfl _ _ rfl (.slice ao j cp) j (cellsOf ms') (blk ao) rfl (own_blk ao j cp) HD.out.1.own (some ⟨w3.heap.size, 0, none⟩) 1 1 [.int .i64 (W : Nat), .slice ao3 (m1.len + m2.len) cp3] rfl (Nat.le_refl _) (fun h => by cases h) HD.out.2.1 rfl (by intro u hu; simp only [List.mem_cons, List.not_mem_nil, or_false] at hu; rcases hu with rfl | rfl <;> rfl) (by omega) (by unfold maxLen; omega) ?_; intro ao5 cp5 w5 hap; have HA := Lib.hid hap; clear hap)
      go_roundg (gk - 2)
      case measure =>
        obtain ⟨_, _, _, _, hk, hij, _, _, hy⟩ := HI.out
        simp only [show i ≤ n from by omega, if_true] at hk
        omega
      case rel =>
        obtain ⟨I1, I2, hm, hIn, hk, hij, hc1, hc2, hy⟩ := HI.out
        simp only [show i ≤ n from by omega, if_true] at hk
        obtain ⟨hm4, c4, f4⟩ := HD.out
        obtain ⟨f3, nb3, in3⟩ := H3.out
        have hap := HA.out
        refine ⟨j + 1, ao5, cp5, i + 2, ms' ++ [⟨W, ao3, m1.len + m2.len, cp3⟩], rfl, by go_num, by omega, ?_, by omega, ?_, ?_, ?_⟩
        · split <;> omega
        · rw [cellsOf_append]; exact hm4.app hap
        · have k1 : Ins w4 ms' (packs (l.take (2 * j))) := hIn.fr0 ((HC.out.2.trans f3).trans f4)
          have k2 : In w4 ⟨W, ao3, m1.len + m2.len, cp3⟩ (c1.1 + c2.1, c1.2 ++ c2.2) := (in3 W (by rw [HW.out, I1.worth, I2.worth])).fr0 f4
          have k3 := Ins.append k1 (Ins.one k2)
          rw [packs_take l j c1 c2 (by rw [← hij]; exact hc1) (by rw [← hij, ← hy]; exact hc2)]
          exact k3.typed hap.fr (own_typed hm4.own)
        · intro m hm' x hx
          rcases List.mem_append.1 hm' with q | q
          · exact HB.out m q x hx
          · rw [List.mem_singleton.1 q] at hx
            exact Nat.le_trans (hm.fr.trans HC.out.2).size (nb3 x hx)
    · have HI := Lib.hid (And.intro hm (And.intro hIn0.1 (And.intro hij (And.intro hy hIn0.2))))
      clear hm hIn0
      go_wp2
      go_ret
      obtain ⟨hm, hIn, hij, hy, hnb⟩ := HI.out
      have hl : packs (l.take (2 * j)) = packs l := packs_odd l j (by rw [← H.out.2.1.1, H.out.2.2.1]; omega)
      rw [hl] at hIn
      refine ⟨ao, j, cp, ms', rfl, ?_, hm, hIn, hnb⟩
      have h1 := hm.own.1
      rw [cellsOf_length, hIn.1] at h1
      omega
end Go.Proofs.YtolkoidbkaidkaaGreat.huf
/-
  The sort of a row of coins, told by what lies in them.
-/
namespace Go.Proofs.YtolkoidbkaidkaaGreat.huf
open Go Go.RowKit Go.Proofs.YtolkoidbkaidkaaGreat.lib Go.Proofs.YtolkoidbkaidkaaGreat.bm Go.Proofs.YtolkoidbkaidkaaGreat.bl

theorem ints_inj : ∀ {a b : List Nat}, ints a = ints b → a = b
  | [], [], _ => rfl
  | [], y :: b, h => by simp [ints] at h
  | x :: a, [], h => by simp [ints] at h
  | x :: a, y :: b, h => by
    simp only [ints, List.map_cons, List.cons.injEq, Value.int.injEq, true_and] at h
    obtain ⟨h1, h2⟩ := h
    rw [show x = y from by omega, ints_inj (a := a) (b := b) h2]
theorem In.uniq {w : World} {m : Mc} {c c' : Coin} (h : In w m c) (h' : In w m c') : c = c' := by
  rcases h.own.2 with ⟨h1, h2⟩ | ⟨g, cap, cur, h1, _, h2, _, _, _, h3⟩
  · have := h.pos; omega
  · rcases h'.own.2 with ⟨h1', h2'⟩ | ⟨g', cap', cur', h1', _, h2', _, _, _, h3'⟩
    · have := h'.pos; omega
    · rw [h1] at h1'
      simp only [Value.slice.injEq, Option.some.injEq, Addr.mk.injEq, and_true, true_and] at h1'
      obtain ⟨rfl, _⟩ := h1'
      rw [h2] at h2'
      simp only [Option.some.injEq, Obj.cells.injEq, and_true, true_and] at h2'
      obtain rfl := h2'
      have e := ints_inj (h3.symm.trans h3')
      exact Prod.ext (h.worth.symm.trans h'.worth) e
open Classical in
/-- What lies in a coin. -/
noncomputable def con (w : World) (m : Mc) : Coin := if h : ∃ c, In w m c then h.choose else (m.worth, [])
theorem con_of {w : World} {m : Mc} {c : Coin} (h : In w m c) : con w m = c := by
  unfold con
  have hx : ∃ c, In w m c := ⟨c, h⟩
  rw [dif_pos hx]
  exact hx.choose_spec.uniq h
theorem con_worth (w : World) (m : Mc) : (con w m).1 = m.worth := by
  unfold con
  split
  · rename_i h; exact h.choose_spec.worth.symm
  · rfl
theorem Ins.con {w : World} {ms : List Mc} {l : List Coin} (h : Ins w ms l) : l = ms.map (con w) := by
  refine List.ext_getElem? fun i => ?_
  rw [List.getElem?_map]
  rcases Nat.lt_or_ge i l.length with k | k
  · have h1 := List.getElem?_eq_getElem (l := ms) (show i < ms.length by rw [h.1]; exact k)
    have h2 := List.getElem?_eq_getElem k
    rw [h1, h2, Option.map_some, con_of (h.2 i _ _ h1 h2)]
  · rw [List.getElem?_eq_none k, List.getElem?_eq_none (by rw [h.1]; exact k)]; rfl
theorem Stb.map {α β : Type} {a b : List (Nat × α)} (h : Stb a b) (g : Nat × α → Nat × β) (ha : ∀ x ∈ a, (g x).1 = x.1) (hb : ∀ x ∈ b, (g x).1 = x.1) : Stb (a.map g) (b.map g) := fun k => by
  rw [List.filter_map, List.filter_map]
  have e1 : a.filter ((fun x : Nat × β => x.1 == k) ∘ g) = a.filter fun x => x.1 == k := List.filter_congr fun x hx => by simp [ha x hx]
  have e2 : b.filter ((fun x : Nat × β => x.1 == k) ∘ g) = b.filter fun x => x.1 == k := List.filter_congr fun x hx => by simp [hb x hx]
  rw [e1, e2, h k]
def m0 : Mc := ⟨0, none, 0, 0⟩
/-- A row as a function. -/
def fn (ms : List Mc) : Nat → Mc := fun i => ms[i]?.getD m0
theorem dw_of {w : World} {g n cap : Nat} {ms : List Mc} (h : w.ownsRow 0 91 2 (.slice (some ⟨g, 0, none⟩) n cap) n (cellsOf ms)) : ∃ A0, A0.size = cap * 2 ∧ Dw w g 91 A0 n (fn ms) := by
  have hl := h.1
  rw [cellsOf_length] at hl
  rcases h.2 with ⟨h1, _⟩ | ⟨g', cap', cur, h1, _, h2, h3, h4, h5, h6⟩
  · cases h1
  · simp only [Value.slice.injEq, Option.some.injEq, Addr.mk.injEq, and_true, true_and] at h1
    obtain ⟨rfl, rfl⟩ := h1
    refine ⟨cur, h5, cur, h2, rfl, by omega, fun _ _ => rfl, fun i hi => ?_⟩
    obtain ⟨m, hm⟩ : ∃ m, ms[i]? = some m := ⟨_, List.getElem?_eq_getElem (by omega)⟩
    have hf : fn ms i = m := by simp [fn, hm]
    rw [hf]
    have hc := cellsOf_at ms i m hm
    rw [← h6, List.getElem?_take, List.getElem?_take, if_pos (by omega), if_pos (by omega), Array.getElem?_toList, Array.getElem?_toList] at hc
    exact hc
theorem own_of {w : World} {g n cap : Nat} {A0 : Array Value} {f : Nat → Mc} (h : Dw w g 91 A0 n f) (h0 : A0.size = cap * 2) (hc : n ≤ cap) (hm : cap ≤ maxLen) : w.ownsRow 0 91 2 (.slice (some ⟨g, 0, none⟩) n cap) n (cellsOf ((List.range n).map f)) := by
  obtain ⟨A, h1, h2, h3, _, h4⟩ := h
  refine ⟨by rw [cellsOf_length]; simp, .inr ⟨g, cap, A, rfl, Nat.zero_le _, h1, hc, hm, by rw [h2, h0], ?_⟩⟩
  refine List.ext_getElem? fun j => ?_
  rw [List.getElem?_take]
  by_cases hj : j < n * 2
  · rw [if_pos hj, Array.getElem?_toList]
    have hi : j / 2 < n := by omega
    have hr : ((List.range n).map f)[j / 2]? = some (f (j / 2)) := by simp [hi]
    have e1 := cellsOf_at _ _ _ hr
    have e2 := h4 (j / 2) hi
    rcases Nat.mod_two_eq_zero_or_one j with k | k
    · rw [show j = j / 2 * 2 from by omega, e1.1]; exact e2.1
    · rw [show j = j / 2 * 2 + 1 from by omega, e1.2]; exact e2.2
  · rw [if_neg hj, List.getElem?_eq_none (by rw [cellsOf_length]; simp; omega)]
theorem sg_range (f : Nat → Mc) (n : Nat) : sg f 0 n = ((List.range n).map f).map tg := by simp [sg, Function.comp_def]
theorem fn_range {ms : List Mc} {n : Nat} (h : ms.length = n) : (List.range n).map (fn ms) = ms := by
  subst h
  refine List.ext_getElem? fun i => ?_
  rw [List.getElem?_map]
  by_cases hi : i < ms.length
  · rw [List.getElem?_range hi]
    simp [fn, hi]
  · rw [List.getElem?_eq_none (by simp; omega), List.getElem?_eq_none (by omega)]; rfl
set_option maxRecDepth 100000 in
theorem sort_coins (g n cap : Nat) (ms : List Mc) (l : List Coin) (w : World) (hrow : w.ownsRow 0 91 2 (.slice (some ⟨g, 0, none⟩) n cap) n (cellsOf ms)) (hin : Ins w ms l) (hn : n ≤ 100000)
    (hl : ∀ c ∈ l, c.1 ≤ 2 ^ 50) :
    Calls Tryz.prog 37 #[.slice (some ⟨g, 0, none⟩) n cap, cmpV] w fun e w' => e = .returned (.tuple #[]) ∧
      ∃ ms' l', w'.ownsRow 0 91 2 (.slice (some ⟨g, 0, none⟩) n cap) n (cellsOf ms') ∧ Ins w' ms' l' ∧ Sorted l' ∧ Stb l' l ∧ Fr [g] w w' ∧ ∀ m ∈ ms', m ∈ ms := by
  have hlen : ms.length = n := by have := hrow.1; rw [cellsOf_length] at this; omega
  obtain ⟨A0, hA0, hD⟩ := dw_of hrow
  obtain ⟨_, _, e1, e2, _⟩ := owns_shape hrow
  simp only [Value.slice.injEq, true_and] at e1
  have hwb : Wb (fn ms) := fun i => by
    unfold fn
    rcases Nat.lt_or_ge i ms.length with k | k
    · have h1 := List.getElem?_eq_getElem k
      have h2 := List.getElem?_eq_getElem (l := l) (show i < l.length by rw [← hin.1]; exact k)
      rw [h1]
      show ms[i].worth ≤ _
      rw [(hin.2 i _ _ h1 h2).worth]
      exact hl _ (List.getElem_mem _)
    · rw [List.getElem?_eq_none k]; exact Nat.zero_le _
  refine (sort_any g 91 A0 n cap (fn ms) w hD hn hwb).mono ?_
  rintro e w' ⟨rfl, f', hD', hs, hf⟩
  have h1 : n ≤ cap ∧ cap ≤ maxLen := by
    rcases hrow.2 with ⟨h1, _⟩ | ⟨g', cap', cur, h1, _, h2, h3, h4, h5, h6⟩
    · cases h1
    · simp only [Value.slice.injEq, Option.some.injEq, Addr.mk.injEq, and_true, true_and] at h1
      omega
  have hst := hs.stb
  have hsr := hs.srt
  rw [Nat.sub_zero, sg_range, sg_range, fn_range hlen] at hst
  rw [Nat.sub_zero, sg_range] at hsr
  obtain ⟨ms', hms⟩ : ∃ ms', ms' = (List.range n).map f' := ⟨_, rfl⟩
  rw [← hms] at hst hsr
  have hlen' : ms'.length = n := by rw [hms]; simp
  -- each coin of the new row is one of the old row
  have hmem : ∀ m ∈ ms', m ∈ ms := fun m hm => by
    have h2 : tg m ∈ ms'.map tg := List.mem_map_of_mem hm
    obtain ⟨m', h3, h4⟩ := List.mem_map.1 ((hst.mem _).1 h2)
    have := congrArg Prod.snd h4
    simp only [tg] at this
    rw [← this]; exact h3
  have hcon := hin.con
  have hin1 : Ins w ms' (ms'.map (con w)) := by
    refine ⟨by simp, fun i m c h1 h2 => ?_⟩
    rw [List.getElem?_map, h1] at h2
    simp only [Option.map_some, Option.some.injEq] at h2
    obtain ⟨j, hj⟩ := List.mem_iff_getElem?.1 (hmem m (List.mem_of_getElem? h1))
    have hj' : j < l.length := by rw [← hin.1]; exact (List.getElem?_eq_some_iff.1 hj).1
    have := hin.2 j m _ hj (List.getElem?_eq_getElem hj')
    rw [← h2, con_of this]; exact this
  refine ⟨rfl, ms', ms'.map (con w), by rw [hms]; exact own_of hD' hA0 h1.1 h1.2, hin1.typed hf ?_, ?_, ?_, hf, hmem⟩
  · exact own_typed hrow
  · unfold Srt at hsr
    unfold Sorted
    rw [List.pairwise_map] at hsr ⊢
    refine hsr.imp fun {a b} h => ?_
    rw [con_worth, con_worth]
    exact h
  · have hk : ∀ (k : List Mc) (x : Nat × Mc), x ∈ k.map tg → (con w x.2).1 = x.1 := fun k x hx => by
      obtain ⟨m, _, rfl⟩ := List.mem_map.1 hx
      exact con_worth w m
    have := hst.map (fun x => con w x.2) (β := List Nat) (hk _) (hk _)
    rw [List.map_map, List.map_map] at this
    rw [hcon]
    exact this
end Go.Proofs.YtolkoidbkaidkaaGreat.huf
/-
  Package-merge: how often a symbol lies in the first coins of a row.
-/
namespace Go.Proofs.YtolkoidbkaidkaaGreat.huf
open Go

/-- What lies in these coins, one behind the other. -/
def ins (l : List Coin) : List Nat := l.flatMap (·.2)
theorem ins_append (a b : List Coin) : ins (a ++ b) = ins a ++ ins b := by simp [ins]
theorem ins_perm {a b : List Coin} (h : a.Perm b) : (ins a).Perm (ins b) := h.flatMap_right _
/-- Coins of one symbol each. -/
def ones (l : List Coin) (syms : List Nat) : Prop := l.map (·.2) = syms.map fun s => [s]
theorem ins_ones {l : List Coin} {syms : List Nat} (h : ones l syms) (a : Nat) : ins (l.take a) = syms.take a := by
  unfold ins
  rw [List.flatMap_def, List.map_take, h, ← List.map_take, ← List.flatMap_def]
  simp
theorem count_take_nodup : ∀ (syms : List Nat), syms.Nodup → ∀ (a i : Nat) (s : Nat), syms[i]? = some s → (syms.take a).count s = if i < a then 1 else 0
  | [], _, a, i, s, h => by cases h
  | x :: t, _, 0, i, s, h => by simp
  | x :: t, hn, a + 1, 0, s, h => by
    simp only [List.getElem?_cons_zero, Option.some.injEq] at h
    subst h
    rw [List.take_succ_cons, List.count_cons_self, List.count_eq_zero_of_not_mem fun hm => (List.nodup_cons.1 hn).1 (List.mem_of_mem_take hm)]
    simp
  | x :: t, hn, a + 1, i + 1, s, h => by
    rw [List.getElem?_cons_succ] at h
    have hne : x ≠ s := fun e => (List.nodup_cons.1 hn).1 (e ▸ List.mem_of_getElem? h)
    rw [List.take_succ_cons, List.count_cons_of_ne hne, count_take_nodup t (List.nodup_cons.1 hn).2 a i s h]
    simp only [Nat.add_lt_add_iff_right]
theorem row_count (l : List Coin) (syms : List Nat) (h1 : ones l syms) (hn : syms.Nodup) (i s : Nat) (hi : syms[i]? = some s) : ∀ k m, m ≤ (row l k).length → (ins ((row l k).take m)).count s = lenf l k m i
  | 0, m, hm => by
    have : m = 0 := by simpa [row] using hm
    subst this
    rfl
  | k + 1, m, hm => by
    have hm' : m ≤ l.length + (packs (row l k)).length := by rw [row, mrg_length] at hm; exact hm
    obtain ⟨_, _, h3⟩ := sel_sum l (packs (row l k)) m hm'
    have hp := ins_perm (sel_perm l (packs (row l k)) m)
    rw [show mrg l (packs (row l k)) = row l (k + 1) from rfl] at hp
    rw [hp.count_eq, ins_append, List.count_append, ins_ones h1, count_take_nodup syms hn _ i s hi]
    change (sl l k m).2 ≤ _ at h3
    have hpk : ins ((packs (row l k)).take (sl l k m).2) = ins ((row l k).take (2 * (sl l k m).2)) := packs_ins _ _ h3
    rw [packs_length] at h3
    rw [lenf, ← row_count l syms h1 hn i s hi k (2 * (sl l k m).2) (by omega), ← hpk]
    rfl
theorem row_count_none (l : List Coin) (syms : List Nat) (h1 : ones l syms) (s : Nat) (hs : s ∉ syms) : ∀ k m, m ≤ (row l k).length → (ins ((row l k).take m)).count s = 0
  | 0, m, hm => by
    have : m = 0 := by simpa [row] using hm
    subst this
    rfl
  | k + 1, m, hm => by
    have hm' : m ≤ l.length + (packs (row l k)).length := by rw [row, mrg_length] at hm; exact hm
    obtain ⟨_, _, h3⟩ := sel_sum l (packs (row l k)) m hm'
    have hp := ins_perm (sel_perm l (packs (row l k)) m)
    rw [show mrg l (packs (row l k)) = row l (k + 1) from rfl] at hp
    rw [hp.count_eq, ins_append, List.count_append, ins_ones h1, List.count_eq_zero_of_not_mem fun hm => hs (List.mem_of_mem_take hm)]
    change (sl l k m).2 ≤ _ at h3
    have hpk : ins ((packs (row l k)).take (sl l k m).2) = ins ((row l k).take (2 * (sl l k m).2)) := packs_ins _ _ h3
    rw [packs_length] at h3
    change 0 + (ins ((packs (row l k)).take (sl l k m).2)).count s = 0
    rw [hpk, row_count_none l syms h1 s hs k _ (by omega)]
end Go.Proofs.YtolkoidbkaidkaaGreat.huf
/-
  huff.Lengths in plain Lean: what the rows of coins give.
-/
namespace Go.Proofs.YtolkoidbkaidkaaGreat.huf
open Go

def symsTo (cs : List Nat) (i : Nat) : List Nat := (List.range i).filter fun s => decide (0 < lenAt cs s)
def coinsTo (cs : List Nat) (i : Nat) : List Coin := (symsTo cs i).map fun s => (lenAt cs s, [s])
theorem symsTo_succ (cs : List Nat) (i : Nat) : symsTo cs (i + 1) = if 0 < lenAt cs i then symsTo cs i ++ [i] else symsTo cs i := by
  unfold symsTo
  rw [List.range_succ, List.filter_append]
  by_cases h : 0 < lenAt cs i <;> simp [h]
theorem coinsTo_succ (cs : List Nat) (i : Nat) : coinsTo cs (i + 1) = if 0 < lenAt cs i then coinsTo cs i ++ [(lenAt cs i, [i])] else coinsTo cs i := by
  unfold coinsTo
  rw [symsTo_succ]
  split <;> simp
theorem symsTo_nodup (cs : List Nat) (i : Nat) : (symsTo cs i).Nodup := List.Pairwise.filter _ List.nodup_range
theorem mem_symsTo {cs : List Nat} {i s : Nat} : s ∈ symsTo cs i ↔ s < i ∧ 0 < lenAt cs s := by simp [symsTo]
theorem Stb.perm {α : Type} [DecidableEq α] {a b : List (Nat × α)} (h : Stb a b) : a.Perm b := by
  rw [List.perm_iff_count]
  intro x
  have h1 := h x.1
  have h2 : ∀ l : List (Nat × α), l.count x = (l.filter fun y => y.1 == x.1).count x := fun l => by
    rw [List.count_filter (by simp)]
  rw [h2 a, h2 b, h1]
/-- Lengths as they should be: of nothing for what does not come; and full, if two come at least. -/
structure LensOk (L : Nat) (cs ls : List Nat) : Prop where
  len : ls.length = cs.length
  le : ∀ l ∈ ls, l ≤ L
  pos : ∀ i, 0 < lenAt cs i → 0 < lenAt ls i
  zero : ∀ i, lenAt cs i = 0 → lenAt ls i = 0
  full : 2 ≤ (symsTo cs cs.length).length → weight ls = 32768
  few : (symsTo cs cs.length).length < 2 → ∀ l ∈ ls, l ≤ 1
def wt (x : Nat) : Nat := if x = 0 then 0 else 2 ^ (15 - x)
theorem weight_map {α : Type} (g : α → Nat) : ∀ l : List α, weight (l.map g) = (l.map fun s => wt (g s)).sum
  | [] => rfl
  | x :: l => by rw [List.map_cons, weight, weight_map g l, List.map_cons, List.sum_cons]; rfl
theorem sum_filter {α : Type} (p : α → Bool) (g : α → Nat) : ∀ l : List α, (∀ x ∈ l, p x = false → g x = 0) → (l.map g).sum = ((l.filter p).map g).sum
  | [], _ => rfl
  | x :: l, h => by
    have ih := sum_filter p g l fun y hy => h y (List.mem_cons_of_mem _ hy)
    rw [List.filter_cons]
    cases hp : p x with
    | true => simp [ih]
    | false => simp [ih, h x List.mem_cons_self hp]
theorem sumTo_shift (g : Nat → Nat) : ∀ n, sumTo (n + 1) g = g 0 + sumTo n fun i => g (i + 1)
  | 0 => by simp [sumTo]
  | n + 1 => by rw [sumTo, sumTo_shift g n, sumTo]; omega
theorem sum_range_get (g : Nat → Nat) : ∀ syms : List Nat, (syms.map g).sum = sumTo syms.length (fun i => g (syms[i]?.getD 0))
  | [] => rfl
  | x :: l => by
    rw [List.map_cons, List.sum_cons, sum_range_get g l, List.length_cons, sumTo_shift]
    simp
theorem sumTo_mul (c : Nat) (g : Nat → Nat) : ∀ n, sumTo n (fun i => g i * c) = sumTo n g * c
  | 0 => by simp [sumTo]
  | n + 1 => by rw [sumTo, sumTo, sumTo_mul c g n, Nat.add_mul]
/-- What Lengths makes of two coins or more. -/
theorem lens_ok {L : Nat} {cs : List Nat} {sl : List Coin} (hL1 : 1 ≤ L) (hL15 : L ≤ 15) (hs : Sorted sl) (hst : Stb sl (coinsTo cs cs.length)) (h2 : 2 ≤ (symsTo cs cs.length).length) (hle : (symsTo cs cs.length).length ≤ 2 ^ L) :
    2 * sl.length - 2 ≤ (row sl L).length ∧ sl.length = (symsTo cs cs.length).length ∧
    LensOk L cs ((List.range cs.length).map fun s => (ins ((row sl L).take (2 * sl.length - 2))).count s) := by
  have hp := hst.perm
  have hlen : sl.length = (symsTo cs cs.length).length := by rw [hp.length_eq]; simp [coinsTo]
  have hpos : Pos sl := fun x hx => by
    have := hp.mem_iff.1 hx
    simp only [coinsTo, List.mem_map] at this
    obtain ⟨s, hs', rfl⟩ := this
    exact (mem_symsTo.1 hs').2
  obtain ⟨syms, hsy⟩ : ∃ syms, syms = sl.map fun c => c.2.headD 0 := ⟨_, rfl⟩
  have h1 : ones sl syms := by
    unfold ones
    rw [hsy, List.map_map]
    refine List.map_congr_left fun c hc => ?_
    have := hp.mem_iff.1 hc
    simp only [coinsTo, List.mem_map] at this
    obtain ⟨s, _, rfl⟩ := this
    rfl
  have hpm : syms.Perm (symsTo cs cs.length) := by
    rw [hsy]
    have := hp.map fun c => c.2.headD 0
    refine this.trans (List.Perm.of_eq ?_)
    simp [coinsTo, Function.comp_def]
  have hnd : syms.Nodup := hpm.nodup_iff.2 (symsTo_nodup _ _)
  have hsl : syms.length = sl.length := by rw [hsy]; simp
  obtain ⟨k1, k2, k3⟩ := pm_kraft sl hs hpos L hL1 (by omega) (by omega)
  obtain ⟨m, hm⟩ : ∃ m, m = 2 * sl.length - 2 := ⟨_, rfl⟩
  rw [← hm] at k1 k2 k3 ⊢
  obtain ⟨cf, hcf⟩ : ∃ cf : Nat → Nat, cf = fun s => (ins ((row sl L).take m)).count s := ⟨_, rfl⟩
  have c1 : ∀ i s, syms[i]? = some s → cf s = lenf sl L m i := fun i s hi => by rw [hcf]; exact row_count sl syms h1 hnd i s hi L m k1
  have c0 : ∀ s, s ∉ syms → cf s = 0 := fun s hs' => by rw [hcf]; exact row_count_none sl syms h1 s hs' L m k1
  have hlenAt : ∀ s, s < cs.length → lenAt ((List.range cs.length).map cf) s = cf s := fun s hs' => by simp [lenAt, hs']
  have hlenOut : ∀ s, cs.length ≤ s → lenAt ((List.range cs.length).map cf) s = 0 := fun s hs' => by simp [lenAt, hs']
  have hin : ∀ s, s ∈ syms ↔ s < cs.length ∧ 0 < lenAt cs s := fun s => hpm.mem_iff.trans mem_symsTo
  refine ⟨k1, hlen, ?_⟩
  rw [← hcf]
  refine ⟨by simp, fun l hl => ?_, fun i hi => ?_, fun i hi => ?_, fun _ => ?_, fun h => absurd h (by omega)⟩
  · obtain ⟨s, _, rfl⟩ := List.mem_map.1 hl
    by_cases hx : s ∈ syms
    · obtain ⟨i, hi⟩ := List.mem_iff_getElem?.1 hx
      rw [c1 i s hi]; exact lenf_le _ _ _ _
    · rw [c0 s hx]; exact Nat.zero_le _
  · have hi' := lenAt_lt hi
    rw [hlenAt i hi']
    obtain ⟨j, hj⟩ := List.mem_iff_getElem?.1 ((hin i).2 ⟨hi', hi⟩)
    rw [c1 j i hj]
    exact k2 j (by rw [← hsl]; exact (List.getElem?_eq_some_iff.1 hj).1)
  · by_cases hi' : i < cs.length
    · rw [hlenAt i hi', c0 i fun h => by have := ((hin i).1 h).2; omega]
    · exact hlenOut i (by omega)
  · rw [weight_map, sum_filter (fun s => decide (0 < lenAt cs s)) _ _ fun s hs' hp' => by
      rw [c0 s fun h => by have := ((hin s).1 h).2; simp at hp'; omega]; rfl]
    have e1 : ((symsTo cs cs.length).map fun s => wt (cf s)).sum = (syms.map fun s => wt (cf s)).sum := (hpm.symm.map _).sum_nat
    rw [show (List.range cs.length).filter (fun s => decide (0 < lenAt cs s)) = symsTo cs cs.length from rfl, e1, sum_range_get, hsl]
    have e2 : sumTo sl.length (fun i => wt (cf (syms[i]?.getD 0))) = sumTo sl.length (fun i => 2 ^ (L - lenf sl L m i) * 2 ^ (15 - L)) := by
      refine sumTo_congr _ fun i hi => ?_
      have hs' := List.getElem?_eq_getElem (l := syms) (show i < syms.length by rw [hsl]; exact hi)
      rw [hs', Option.getD_some, c1 i _ hs']
      have h3 := k2 i hi
      have h4 := lenf_le sl L m i
      unfold wt
      rw [if_neg (by omega), ← Nat.pow_add]
      congr 1; omega
    rw [e2, sumTo_mul, k3, ← Nat.pow_add, show L + (15 - L) = 15 from by omega]
/-- One coin, or none. -/
theorem lens_few {L : Nat} {cs : List Nat} (hL1 : 1 ≤ L) (h2 : (symsTo cs cs.length).length < 2) : LensOk L cs ((List.range cs.length).map fun s => if 0 < lenAt cs s then 1 else 0) := by
  have hlenAt : ∀ s, s < cs.length → lenAt ((List.range cs.length).map fun s => if 0 < lenAt cs s then 1 else 0) s = if 0 < lenAt cs s then 1 else 0 := fun s hs' => by simp [lenAt, hs']
  refine ⟨by simp, fun l hl => ?_, fun i hi => ?_, fun i hi => ?_, fun h => absurd h (by omega), fun _ l hl => ?_⟩
  · obtain ⟨s, _, rfl⟩ := List.mem_map.1 hl
    split <;> omega
  · rw [hlenAt i (lenAt_lt hi), if_pos hi]; exact Nat.one_pos
  · by_cases hi' : i < cs.length
    · rw [hlenAt i hi', if_neg (by omega)]
    · simp [lenAt, show cs.length ≤ i by omega]
  · obtain ⟨s, _, rfl⟩ := List.mem_map.1 hl
    split <;> omega
end Go.Proofs.YtolkoidbkaidkaaGreat.huf
/-
  huff.Lengths.
-/
namespace Go.Proofs.YtolkoidbkaidkaaGreat.huf
open Go Go.RowKit Go.Proofs.YtolkoidbkaidkaaGreat.lib Go.Proofs.YtolkoidbkaidkaaGreat.bm Go.Proofs.YtolkoidbkaidkaaGreat.bl

theorem row_bound (l : List Coin) (B C : Nat) (h : ∀ c ∈ l, c.1 ≤ B ∧ c.2.length ≤ C) : ∀ k, ∀ c ∈ row l k, c.1 ≤ B * 2 ^ k ∧ c.2.length ≤ C * 2 ^ k
  | 0, c, hc => by simp [row] at hc
  | k + 1, c, hc => by
    have ih := row_bound l B C h k
    have h2 : 2 ^ (k + 1) = 2 * 2 ^ k := by rw [Nat.pow_succ]; omega
    rcases mrg_mem _ _ _ hc with a | a
    · have := h c a
      have h1 := Nat.two_pow_pos (k + 1)
      exact ⟨Nat.le_trans this.1 (Nat.le_mul_of_pos_right _ h1), Nat.le_trans this.2 (Nat.le_mul_of_pos_right _ h1)⟩
    · obtain ⟨j, hj⟩ := List.mem_iff_getElem?.1 a
      obtain ⟨u, v, hu, hv, rfl⟩ := packs_get _ _ _ hj
      have a1 := ih u (List.mem_of_getElem? hu)
      have a2 := ih v (List.mem_of_getElem? hv)
      rw [h2, List.length_append]
      refine ⟨?_, ?_⟩
      · rw [show B * (2 * 2 ^ k) = B * 2 ^ k + B * 2 ^ k from by rw [Nat.mul_left_comm]; omega]; exact Nat.add_le_add a1.1 a2.1
      · rw [show C * (2 * 2 ^ k) = C * 2 ^ k + C * 2 ^ k from by rw [Nat.mul_left_comm]; omega]; exact Nat.add_le_add a1.2 a2.2
theorem row_syms (l : List Coin) (P : Nat → Prop) (h : ∀ c ∈ l, ∀ x ∈ c.2, P x) : ∀ k, ∀ c ∈ row l k, ∀ x ∈ c.2, P x
  | 0, c, hc => by simp [row] at hc
  | k + 1, c, hc => by
    rcases mrg_mem _ _ _ hc with a | a
    · exact h c a
    · obtain ⟨j, hj⟩ := List.mem_iff_getElem?.1 a
      obtain ⟨u, v, hu, hv, rfl⟩ := packs_get _ _ _ hj
      intro x hx
      rcases List.mem_append.1 hx with b | b
      · exact row_syms l P h k u (List.mem_of_getElem? hu) x b
      · exact row_syms l P h k v (List.mem_of_getElem? hv) x b
/-- The row of lengths in memory. -/
def Ow (w : World) (Q N : Nat) (F : Nat → Nat) : Prop := ∃ A, w.heap[Q]? = some (.cells A 3 (0, 0)) ∧ A.size = N ∧ ∀ s, s < N → A[s]? = some (.int .i64 (F s : Nat))
theorem Ow.cell {w : World} {Q N : Nat} {F : Nat → Nat} (h : Ow w Q N F) {s : Nat} (hs : s < N) : w.cell? ⟨Q, s, none⟩ = some (.int .i64 (F s : Nat)) := by
  obtain ⟨A, hA, _, hF⟩ := h
  rw [cell_of hA, hF s hs]
theorem Ow.frozen {w : World} {Q N : Nat} {F : Nat → Nat} (h : Ow w Q N F) (s : Nat) : w.frozen? ⟨Q, s, none⟩ = false := by
  obtain ⟨A, hA, _, hF⟩ := h
  exact frozen_of hA s
theorem Ow.set {w : World} {Q N : Nat} {F : Nat → Nat} (h : Ow w Q N F) {s : Nat} (hs : s < N) (v : Nat) : Ow (w.setCell ⟨Q, s, none⟩ (.int .i64 (v : Nat))) Q N (fun t => if t = s then v else F t) := by
  obtain ⟨A, hA, hn, hF⟩ := h
  refine ⟨_, setCell_of hA _, by simp [hn], fun t ht => ?_⟩
  by_cases e : t = s
  · subst e
    rw [Array.getElem?_setIfInBounds_self_of_lt (by omega)]
    simp only [if_true]
  · rw [Array.getElem?_setIfInBounds_ne (by omega)]
    simp only [if_neg e]
    exact hF t ht
theorem Ow.fr {w w' : World} {S : List Nat} {Q N : Nat} {F : Nat → Nat} (h : Ow w Q N F) (f : Fr S w w') (hS : Q ∉ S) : Ow w' Q N F := by
  obtain ⟨A, hA, hn⟩ := h
  exact ⟨A, f.blk hA hS, hn⟩
theorem Ow.congr {w : World} {Q N : Nat} {F G : Nat → Nat} (h : Ow w Q N F) (e : ∀ s, s < N → F s = G s) : Ow w Q N G := by
  obtain ⟨A, hA, hn, hF⟩ := h
  exact ⟨A, hA, hn, fun s hs => by rw [hF s hs, e s hs]⟩
theorem Ow.cs {w : World} {Q N : Nat} {F : Nat → Nat} (h : Ow w Q N F) : Cs w (some ⟨Q, 0, none⟩) (ints ((List.range N).map F)) := by
  refine .inr ⟨Q, 0, rfl, fun j v hv => ?_⟩
  have hj : j < N := by have := (List.getElem?_eq_some_iff.1 hv).1; simpa [ints] using this
  rw [Nat.zero_add, h.cell hj, ← hv]
  simp [ints, hj]
theorem ow_made {w : World} {N Q : Nat} (h : w.ownsRow 0 3 1 (.slice (some ⟨Q, 0, none⟩) N N) N (madeCells (Value.int .i64 0).cells (N * 1)).toList) : Ow w Q N (fun _ => 0) := by
  obtain ⟨o1, o2⟩ := h
  rcases o2 with ⟨o2, _⟩ | ⟨g, c', cur, o2, _, hg, _, _, hsz, ht⟩
  · cases o2
  · simp only [Value.slice.injEq, Option.some.injEq, Addr.mk.injEq, and_true, true_and] at o2
    obtain ⟨rfl, rfl⟩ := o2
    refine ⟨cur, hg, by omega, fun j hj => ?_⟩
    have h1 : cur.toList[j]? = (madeCells (Value.int .i64 0).cells (N * 1)).toList[j]? := by
      rw [← ht, List.getElem?_take, if_pos (by omega)]
    rw [← Array.getElem?_toList, h1, show (Value.int .i64 0).cells = #[.int .i64 0] from rfl, toList_madeCells_one, List.getElem?_replicate, if_pos (by omega)]
    rfl
/-- What lies in a row's coins lies elsewhere. -/
def Off (Q : Nat) (ms : List Mc) : Prop := ∀ m ∈ ms, ∀ x ∈ blk m.ao, x ≠ Q
theorem Ins.off {Q : Nat} {w w' : World} {ms : List Mc} {l : List Coin} (h : Ins w ms l) (f : Fr [Q] w w') (ho : Off Q ms) : Ins w' ms l :=
  ⟨h.1, fun i m c h1 h2 => by
    have k := h.2 i m c h1 h2
    refine ⟨k.worth, k.len, k.pos, ownsRow_fr k.own f fun x hx => ?_⟩
    have : x ∈ blk m.ao := by
      cases hm : m.ao with
      | none => rw [hm] at hx; cases hx
      | some a => rw [hm] at hx; simp only [Value.ownBlock, Option.some.injEq] at hx; subst hx; simp [blk]
    have := ho m (List.mem_of_getElem? h1) x this
    simpa using this⟩
theorem Ins.low {w : World} {ms : List Mc} {l : List Coin} (h : Ins w ms l) : ∀ m ∈ ms, ∀ x ∈ blk m.ao, x < w.heap.size := fun m hm x hx => by
  obtain ⟨i, hi⟩ := List.mem_iff_getElem?.1 hm
  have hil : i < l.length := by rw [← h.1]; exact (List.getElem?_eq_some_iff.1 hi).1
  exact owns_lt (h.2 i m _ hi (List.getElem?_eq_getElem hil)).own (blk_own hx)
theorem own_some {w : World} {e : TypeId} {size : Nat} {ao : Option Addr} {n cap : Nat} {xs : List Value} (h : w.ownsRow 0 e size (.slice ao n cap) n xs) (hn : 0 < n) : ∃ g, ao = some ⟨g, 0, none⟩ ∧ n ≤ cap ∧ cap ≤ maxLen := by
  rcases h.2 with ⟨_, h2⟩ | ⟨g, c, cur, h1, _, _, h3, h4, _⟩
  · omega
  · simp only [Value.slice.injEq, true_and] at h1
    exact ⟨g, h1.1, by omega, by omega⟩
theorem ins_len (l : List Coin) (C : Nat) (h : ∀ c ∈ l, c.2.length ≤ C) : (ins l).length ≤ l.length * C := by
  induction l with
  | nil => simp [ins]
  | cons c l ih =>
    have h1 := ih fun x hx => h x (List.mem_cons_of_mem _ hx)
    have h2 := h c List.mem_cons_self
    simp only [ins, List.flatMap_cons, List.length_append, List.length_cons, Nat.add_mul] at h1 ⊢
    omega
theorem row_one (l : List Coin) : row l 1 = l := by
  show mrg l (packs []) = l
  exact mrg_nil_right l
theorem row_len_le (l : List Coin) : ∀ k, (row l k).length ≤ 2 * l.length
  | 0 => by simp [row]
  | k + 1 => by rw [row_length]; have := row_len_le l k; omega
theorem cs_row {w : World} {e : TypeId} {size : Nat} {ao : Option Addr} {n cap : Nat} {xs : List Value} (h : w.ownsRow 0 e size (.slice ao n cap) n xs) : Cs w ao xs := by
  rcases h.2 with ⟨h1, h2⟩ | ⟨g, cap', cur, h1, hb, hg, hn, hm, hs, ht⟩
  · left
    have := h.1
    rw [h2] at this
    exact List.eq_nil_of_length_eq_zero (by simpa using this)
  · simp only [Value.slice.injEq, true_and] at h1
    obtain ⟨rfl, rfl⟩ := h1
    refine .inr ⟨g, 0, rfl, fun j v hv => ?_⟩
    rw [cell_of hg, Nat.zero_add]
    rw [← ht, List.getElem?_take] at hv
    split at hv
    · simpa using hv
    · cases hv
/-- What lies in the rows that follow. -/
structure RowAt (w : World) (Q g n cp : Nat) (ms : List Mc) (l : List Coin) : Prop where
  own : w.ownsRow 0 91 2 (.slice (some ⟨g, 0, none⟩) n cp) n (cellsOf ms)
  ins : Ins w ms l
  off : Off Q ms
  ne : g ≠ Q
theorem RowAt.fr {w w' : World} {Q g n cp : Nat} {ms : List Mc} {l : List Coin} (h : RowAt w Q g n cp ms l) (f : Fr [] w w') : RowAt w' Q g n cp ms l :=
  ⟨ownsRow_fr h.own f (by simp), h.ins.fr0 f, h.off, h.ne⟩
theorem RowAt.frQ {w w' : World} {Q g n cp : Nat} {ms : List Mc} {l : List Coin} (h : RowAt w Q g n cp ms l) (f : Fr [Q] w w') : RowAt w' Q g n cp ms l :=
  ⟨ownsRow_fr h.own f (by intro k hk; simp only [Value.ownBlock, Option.some.injEq] at hk; subst hk; simpa using h.ne), h.ins.off f h.off, h.off, h.ne⟩
theorem RowAt.len {w : World} {Q g n cp : Nat} {ms : List Mc} {l : List Coin} (h : RowAt w Q g n cp ms l) : ms.length = n ∧ l.length = n := by
  have := h.own.1
  rw [cellsOf_length] at this
  have := h.ins.1
  omega
/-- What Lengths leaves. -/
def LensGood (L : Nat) (cs : List Nat) (N : Nat) (w : World) (e : Ending) (w' : World) : Prop :=
  ∃ g ls, e = .returned (.tuple #[.slice (some ⟨g, 0, none⟩) N N, .int .i64 0]) ∧ LensOk L cs ls ∧ Cs w' (some ⟨g, 0, none⟩) (ints ls) ∧ w.heap.size ≤ g ∧ g < w'.heap.size ∧ Fr [] w w'
theorem Ow.good {L N : Nat} {cs : List Nat} {w w' : World} {Q : Nat} {F : Nat → Nat} (h : Ow w' Q N F) (hN : N = cs.length) (hl : LensOk L cs ((List.range cs.length).map F)) (hQ : w.heap.size ≤ Q) (hf : Fr [] w w') :
    LensGood L cs N w (.returned (.tuple #[.slice (some ⟨Q, 0, none⟩) N N, .int .i64 0])) w' := by
  refine ⟨Q, _, rfl, hl, by rw [← hN]; exact h.cs, hQ, ?_, hf⟩
  obtain ⟨A, hA, _⟩ := h
  exact lt_of_block hA
set_option maxRecDepth 100000 in
set_option maxHeartbeats 8000000 in
theorem lengths_any (a : Option Addr) (cap : Nat) (cs : List Nat) (L : Nat) (w : World) (h : Ri w a cap cs) (hL1 : 1 ≤ L) (hL15 : L ≤ 15) (hlen : cs.length ≤ 400) (hle : ∀ c ∈ cs, c ≤ 2 ^ 30)
    (hn : (symsTo cs cs.length).length ≤ 2 ^ L) :
    Calls Tryz.prog 15 #[.slice a cs.length cap, .int .i64 (L : Nat)] w (LensGood L cs cs.length w) := by
  obtain ⟨N, hN⟩ : ∃ N, N = cs.length := ⟨_, rfl⟩
  rw [← hN] at hlen hn ⊢
  have H := Lib.hid (And.intro h (And.intro hle (And.intro hN hn)))
  clear h hle hN hn
  obtain ⟨hu, ⟨ti, hi', hz', hs', hb'⟩, hcz, hp⟩ := sty_int
  go_enter Tryz.func15, Tryz.ntmps15
  go_upto_block 0 with fail
  go_wp2
  go_loopg [6, 7, 8, 31] N (fun k s6 s7 s8 s31 wr => ∃ (i : Nat) (ao : Option Addr) (n cp : Nat) (ms : List Mc), s31 = .int .i64 (i : Nat) ∧ s6 = .slice ao n cp ∧ i + k = N ∧ n = (symsTo cs i).length ∧ Made w wr 91 2 ao n cp (cellsOf ms) ∧ Ins wr ms (coinsTo cs i))
  case atStart => exact ⟨0, none, 0, 0, [], rfl, rfl, by omega, rfl, .none w _ _, ⟨rfl, fun i m c h => by simp at h⟩⟩
  case round =>
    obtain ⟨i, ao, n, cp, ms, rfl, rfl, hik, hnn, hm, hIn⟩ := hrel
    by_cases hi : i < N
    · obtain ⟨k, rfl⟩ : ∃ k, gk = k + 1 := ⟨gk - 1, by omega⟩
      have hil : i < cs.length := by rw [← H.out.2.2.1]; exact hi
      obtain ⟨g, o, rfl, hc⟩ := (H.out.1.fr hm.fr).at hil
      have hcl := H.out.2.1 _ (List.getElem_mem hil)
      have hla : lenAt cs i = cs[i] := by unfold lenAt; rw [List.getElem?_eq_getElem hil]; rfl
      obtain ⟨c, hcc⟩ : ∃ c, c = cs[i] := ⟨_, rfl⟩
      rw [← hcc] at hc hcl hla
      have hc0 := coinsTo_succ cs i
      have hs0 := symsTo_succ cs i
      rw [hla] at hc0 hs0
      have hnb : n ≤ 400 := by
        have h2 : (symsTo cs i).length ≤ i := by have := List.length_filter_le (fun s => decide (0 < lenAt cs s)) (List.range i); rw [List.length_range] at this; exact this
        omega
      by_cases hc1 : c = 0
      · subst hc1
        rw [if_neg (by omega)] at hc0 hs0
        have HI := Lib.hid (And.intro hc0 (And.intro hs0 (And.intro hm (And.intro hIn (And.intro hnn hik)))))
        clear hc0 hs0 hm hIn hnn hik hla hcc
        go_wp2
        go_roundg k
        case measure => omega
        case rel =>
          obtain ⟨hc0, hs0, hm, hIn, hnn, hik⟩ := HI.out
          exact ⟨i + 1, ao, n, cp, ms, by go_num, rfl, by omega, by rw [hs0]; exact hnn, hm, by rw [hc0]; exact hIn⟩
      · rw [if_pos (by omega)] at hc0 hs0
        have HI := Lib.hid (And.intro hc0 (And.intro hs0 (And.intro hm (And.intro hIn (And.intro hnn hik)))))
        clear hc0 hs0 hm hIn hnn hik hla hcc
        obtain ⟨W1, hW1⟩ : ∃ W1, W1 = wr.alloc (.cells #[.int .i64 (i : Nat)] 3 (0, 0)) := ⟨_, rfl⟩
        obtain ⟨W2, hW2⟩ : ∃ W2, W2 = W1.alloc (.cells #[.int .i64 (c : Nat), .slice (some ⟨wr.heap.size, 0, none⟩) 1 1] 91 (0, 0)) := ⟨_, rfl⟩
        have hz1 : W1.heap.size = wr.heap.size + 1 := by rw [hW1, World.size_alloc]
        have fW : Fr [] wr W1 := by rw [hW1]; exact (Fr.refl [] wr).alloc _
        have fW2 : Fr [] W1 W2 := by rw [hW2]; exact (Fr.refl [] W1).alloc _
        have hin2 : In W2 ⟨c, some ⟨wr.heap.size, 0, none⟩, 1, 1⟩ (c, [i]) := by
          refine ⟨rfl, rfl, Nat.one_pos, rfl, .inr ⟨wr.heap.size, 1, #[.int .i64 (i : Nat)], rfl, Nat.zero_le _, fW2.blk (by rw [hW1]; exact alloc_at wr _) (by simp), Nat.le_refl _, by unfold maxLen; omega, rfl, rfl⟩⟩
        have hcs2 : Cs W2 (some ⟨wr.heap.size + 1, 0, none⟩) [.int .i64 (c : Nat), .slice (some ⟨wr.heap.size, 0, none⟩) 1 1] := by
          refine .inr ⟨_, 0, rfl, fun j v hv => ?_⟩
          rw [hW2, ← hz1, cell_of (alloc_at W1 _), Nat.zero_add]
          simpa using hv
        have hmW := HI.out.2.2.1.fr2 (fW.trans fW2)
        have HJ := Lib.hid (And.intro hin2 (And.intro hcs2 (And.intro hmW (fW.trans fW2))))
        rw [hW1] at hW2
        have hW2' := hW2.symm
        clear hin2 hcs2 hmW fW fW2 hz1 hW1 hW2
        have HWW := Lib.hid hW2'
        clear hW2'
        go_upto_region 10 with fail
        go_wp2_with (refine wpList_append sty_coin rfl _ _ rfl (.slice ao n cp) n (cellsOf ms) (blk ao) rfl (own_blk ao n cp) (by rw [HWW.out]; exact HJ.out.2.2.1.own) (some ⟨wr.heap.size + 1, 0, none⟩) 1 1 [.int .i64 (c : Nat), .slice (some ⟨wr.heap.size, 0, none⟩) 1 1] (by first | rfl | simp) (Nat.le_refl _) (fun h => by cases h) (by rw [HWW.out]; exact HJ.out.2.1) rfl (by intro u hu; simp only [List.mem_cons, List.not_mem_nil, or_false] at hu; rcases hu with rfl | rfl <;> rfl) (by omega) (by unfold maxLen; omega) ?_; intro ao5 cp5 w5 hap; rw [HWW.out] at hap; have HA := Lib.hid hap; clear hap)
        go_roundg k
        case measure => omega
        case rel =>
          obtain ⟨hc0, hs0, hm, hIn, hnn, hik⟩ := HI.out
          obtain ⟨in2, _, hmW, fW⟩ := HJ.out
          refine ⟨i + 1, ao5, n + 1, cp5, ms ++ [⟨c, some ⟨wr.heap.size, 0, none⟩, 1, 1⟩], by go_num, rfl, by omega, by rw [hs0, List.length_append, hnn]; rfl, ?_, ?_⟩
          · rw [cellsOf_append]; exact hmW.app HA.out
          · rw [hc0]
            exact (Ins.append (hIn.fr0 fW) (Ins.one in2)).typed HA.out.fr (own_typed hmW.own)
    · obtain rfl : i = N := by omega
      have hn2 : n ≤ 2 ^ L := by rw [hnn]; exact H.out.2.2.2
      have hn400 : n ≤ 400 := by
        have h2 : (symsTo cs i).length ≤ i := by have := List.length_filter_le (fun s => decide (0 < lenAt cs s)) (List.range i); rw [List.length_range] at this; exact this
        omega
      obtain ⟨z, hz⟩ : ∃ z, z = 2 ^ L := ⟨_, rfl⟩
      have e2 : (2 : Int) ^ L = (z : Int) := by rw [hz]; exact cast_pow L
      have hzb : z ≤ 32768 := by rw [hz]; exact Nat.le_trans (Nat.pow_le_pow_right (by decide) hL15) (by decide)
      have hzn : n ≤ z := by omega
      have HI := Lib.hid (And.intro hnn (And.intro hm (And.intro hIn (And.intro hn2 hz))))
      clear hnn hm hIn hn2 hz hik hi
      obtain ⟨Q, hQ⟩ : ∃ Q, Q = wr.heap.size := ⟨_, rfl⟩
      have HQ := Lib.hid hQ
      clear hQ
      go_upto_region 15 with (refine wpList_make_full _ rfl _ _ 35 rfl 0 3 ti (.int .i64 0) 1 hu hi' hz' hs' .i64 .i64 (i : Nat) (i : Nat) i rfl rfl rfl rfl (by rw [hb']; omega) (by unfold maxLen; omega) (by omega) ?_; intro w3 own3 grow3; have H3 := Lib.hid (And.intro own3 grow3); clear own3 grow3)
      rw [← HQ.out] at H3 ⊢
      have HS : Hid (Ow w3 Q i (fun _ => 0) ∧ Fr [] wr w3 ∧ Ins w3 ms (coinsTo cs i) ∧ w3.ownsRow 0 91 2 (.slice ao n cp) n (cellsOf ms) ∧ Off Q ms ∧ (∀ x ∈ blk ao, x < Q)) := Lib.hid (by
        have f3 : Fr [] wr w3 := (Fr.refl [] wr).grown H3.out.2 (fun k hk => by cases hk)
        refine ⟨ow_made H3.out.1, f3, HI.out.2.2.1.fr0 f3, ownsRow_fr HI.out.2.1.own f3 (by simp), fun m hm x hx => ?_, fun x hx => by rw [HQ.out]; exact HI.out.2.1.lt x hx⟩
        have := HI.out.2.2.1.low m hm x hx
        rw [HQ.out]; omega)
      clear H3 hu hi' hz' hs' hb' hcz hp e2 hzn
      by_cases hn1 : n < 2
      · go_wp2
        go_loopg [11, 65] n (fun k s11 s65 wr => ∃ t : Nat, s65 = .int .i64 (t : Nat) ∧ t + k = n ∧ Ow wr Q i (fun s => ((symsTo cs i).take t).count s) ∧ Fr [Q] w3 wr)
        case atStart => exact ⟨0, rfl, by omega, HS.out.1.congr fun s _ => by simp, .refl _ _⟩
        case round =>
          obtain ⟨t, rfl, htk, how, hf⟩ := hrel
          by_cases ht : t < n
          · obtain rfl : t = 0 := by omega
            obtain rfl : n = 1 := by omega
            obtain ⟨k2, rfl⟩ : ∃ k2, gk = k2 + 1 := ⟨gk - 1, by omega⟩
            obtain ⟨h1, h2, h3, h4, h5, h6⟩ := HS.out
            obtain ⟨g, rfl, _, _⟩ := own_some h4 (by omega)
            have hgQ : g ≠ Q := by have := h6 g (by simp [blk]); omega
            obtain ⟨m, hm⟩ : ∃ m, ms[0]? = some m := ⟨_, List.getElem?_eq_getElem (by rw [h3.1]; have := HI.out.1; simp [coinsTo]; omega)⟩
            obtain ⟨c, hc⟩ : ∃ c, (coinsTo cs i)[0]? = some c := ⟨_, List.getElem?_eq_getElem (by have := HI.out.1; simp [coinsTo]; omega)⟩
            obtain ⟨s0, hs0⟩ : ∃ s0, (symsTo cs i)[0]? = some s0 := ⟨_, List.getElem?_eq_getElem (by have := HI.out.1; omega)⟩
            have hcs : c = (lenAt cs s0, [s0]) := by
              unfold coinsTo at hc
              rw [List.getElem?_map, hs0] at hc
              simpa using hc.symm
            have hIn := (h3.off hf h5).2 0 m c hm hc
            have h4' := ownsRow_fr h4 hf (by simpa [Value.ownBlock] using hgQ)
            have hd := cellsOf_at ms 0 m hm
            have d0 : wr.cell? ⟨g, 0, none⟩ = some (.int .i64 (m.worth : Nat)) := by rw [← hd.1]; exact World.ownsRow.cellAt h4' 0 (by omega)
            have d1 : wr.cell? ⟨g, 1, none⟩ = some (.slice m.ao m.len m.cap) := by rw [← hd.2]; exact World.ownsRow.cellAt h4' 1 (by omega)
            obtain ⟨b, A, eb, hb, hbl, hbc⟩ := hIn.shape
            have hml : m.len = 1 := by rw [hIn.len, hcs]; rfl
            have hown := hIn.own
            obtain ⟨mw, mao, ml, mc⟩ := m
            simp only at eb hml hown hbl hbc d0 d1
            subst eb
            subst hml
            have d2 : wr.cell? ⟨b, 0, none⟩ = some (.int .i64 (s0 : Nat)) := by
              have := World.ownsRow.cellAt hown 0 (by omega)
              rw [this, hcs]; rfl
            have hsi := (mem_symsTo.1 (List.mem_of_getElem? hs0)).1
            have fA : Fr [] wr (wr.alloc (.cells #[.int .i64 (mw : Nat), .slice (some ⟨b, 0, none⟩) 1 mc] 91 (0, 0))) := (Fr.refl [] wr).alloc _
            have d2' := fA.cell d2 (by simp)
            have d3 := (how.fr fA (by simp)).cell hsi
            have z3 := (how.fr fA (by simp)).frozen s0
            have hset := (how.fr fA (by simp)).set hsi 1
            have fS : Fr [Q] w3 ((wr.alloc (.cells #[.int .i64 (mw : Nat), .slice (some ⟨b, 0, none⟩) 1 mc] 91 (0, 0))).setCell ⟨Q, s0, none⟩ (.int .i64 (1 : Nat))) := ((hf.alloc _).setCell (by simp) _)
            have HJ := Lib.hid (And.intro hset (And.intro fS (And.intro hs0 htk)))
            clear how hf hs0 hIn h4' hd hb hown hcs hm hc h1 h2 h3 h4 h5 h6 htk fA hset fS d2
            go_wp2
            go_roundg k2
            case measure => omega
            case rel =>
              obtain ⟨hset, fS, hs0, htk⟩ := HJ.out
              refine ⟨1, by go_num, by omega, hset.congr fun s hs => ?_, fS⟩
              have : (symsTo cs i).take 1 = [s0] := by
                match hx : symsTo cs i with
                | [] => rw [hx] at hs0; simp at hs0
                | y :: ys => rw [hx] at hs0; simp at hs0; simp [hs0]
              rw [this, List.take_zero]
              by_cases e : s = s0
              · subst e; simp
              · simp [e, Ne.symm e]
          · obtain rfl : t = n := by omega
            have HJ := Lib.hid (And.intro how hf)
            clear how hf htk
            go_wp2
            go_ret2
            have hN := H.out.2.2.1
            have hnn := HI.out.1
            refine (HJ.out.1.congr (G := fun s => if 0 < lenAt cs s then 1 else 0) fun s hs => ?_).good hN (lens_few hL1 (by rw [← hN, ← hnn]; exact hn1)) (by rw [HQ.out]; exact HI.out.2.1.fr.size) ((HI.out.2.1.fr.trans HS.out.2.1).step HJ.out.2 fun x hx => .inr (by simp at hx; rw [hx, HQ.out]; exact HI.out.2.1.fr.size))
            by_cases h0 : 0 < lenAt cs s
            · rw [if_pos h0]
              obtain ⟨j, hj⟩ := List.mem_iff_getElem?.1 (mem_symsTo.2 ⟨hs, h0⟩)
              have := count_take_nodup _ (symsTo_nodup cs i) t j s hj
              rw [this, if_pos (by rw [hnn]; exact (List.getElem?_eq_some_iff.1 hj).1)]
            · rw [if_neg h0]
              exact List.count_eq_zero_of_not_mem fun h => h0 (mem_symsTo.1 (List.mem_of_mem_take h)).2
      · have hB : ∀ c ∈ coinsTo cs i, c.1 ≤ 2 ^ 30 ∧ c.2.length ≤ 1 := fun c hc => by
          simp only [coinsTo, List.mem_map] at hc
          obtain ⟨s, hs, rfl⟩ := hc
          refine ⟨?_, Nat.le_refl _⟩
          have hs' := lenAt_lt (mem_symsTo.1 hs).2
          exact H.out.2.1 _ (lenAt_mem hs')
        obtain ⟨h1, h2, h3, h4, h5, h6⟩ := HS.out
        obtain ⟨g, rfl, _, _⟩ := own_some h4 (by omega)
        have hgQ : g ≠ Q := by have := h6 g (by simp [blk]); omega
        have hsort := sort_coins g n cp ms (coinsTo cs i) w3 h4 h3 (by omega) (fun c hc => by have := (hB c hc).1; omega)
        unfold cmpV at hsort
        have HR := Lib.hid (And.intro hsort (And.intro hB hgQ))
        clear hsort hB hgQ h1 h2 h3 h4 h5 h6
        obtain ⟨L1, hL1'⟩ : ∃ L1, L1 = L - 1 := ⟨_, rfl⟩
        have e3 : (L : Int) - 1 = (L1 : Int) := by omega
        have HL1 := Lib.hid hL1'
        clear hL1'
        go_upto_block 4 with (go_at_call 37; refine HR.out.1.mono ?_; rintro e w4 ⟨rfl, ms1, sl, o4, in4, so4, st4, f4, mem4⟩; have H4 := Lib.hid (And.intro o4 (And.intro in4 (And.intro so4 (And.intro st4 (And.intro f4 mem4))))); clear o4 in4 so4 st4 f4 mem4)
        have HA : Hid (RowAt w4 Q g n cp ms1 sl ∧ Ow w4 Q i (fun _ => 0) ∧ (∀ c ∈ sl, c.1 ≤ 2 ^ 30 ∧ c.2.length ≤ 1) ∧ Fr [] w w4) := Lib.hid (by
          obtain ⟨o4, in4, so4, st4, f4, mem4⟩ := H4.out
          obtain ⟨h1, h2, h3, h4, h5, h6⟩ := HS.out
          have hgl := h6 g (by simp [blk])
          refine ⟨⟨o4, in4, fun m hm => h5 m (mem4 m hm), HR.out.2.2⟩, h1.fr f4 (by simpa using (Ne.symm HR.out.2.2)), fun c hc => HR.out.2.1 c ((st4.mem c).1 hc), (HI.out.2.1.fr.trans h2).step f4 fun x hx => .inr ?_⟩
          simp only [List.mem_singleton] at hx
          rw [hx]
          exact HI.out.2.1.new g (by simp [blk]))
        go_wp2
        go_loopg [13, 83] L1 (fun k s13 s83 wr => ∃ (t g2 n2 cp2 : Nat) (ms2 : List Mc), s13 = .slice (some ⟨g2, 0, none⟩) n2 cp2 ∧ s83 = .int .i64 (t : Nat) ∧ t + k = L1 ∧ RowAt wr Q g2 n2 cp2 ms2 (row sl (t + 1)) ∧ Fr [] w4 wr)
        case atStart => exact ⟨0, g, n, cp, ms1, rfl, rfl, by omega, by rw [row_one]; exact HA.out.1, .refl _ _⟩
        case round =>
          obtain ⟨t, g2, n2, cp2, ms2, rfl, rfl, htk, hra, hf⟩ := hrel
          by_cases ht : t < L1
          · obtain ⟨k, rfl⟩ : ∃ k, gk = k + 1 := ⟨gk - 1, by omega⟩
            have hla := HA.out.1.fr hf
            have hn2 : n2 ≤ 800 := by have := row_len_le sl (t + 1); rw [hra.len.2, hla.len.2] at this; omega
            have htL : t + 1 ≤ 15 := by have := HL1.out; omega
            have hp15 : 2 ^ (t + 1) ≤ 2 ^ 15 := Nat.pow_le_pow_right (by decide) htL
            have hrb : ∀ c ∈ row sl (t + 1), c.1 ≤ 2 ^ 50 ∧ c.2.length ≤ 100000 := fun c hc => by
              have := row_bound sl (2 ^ 30) 1 HA.out.2.2.1 (t + 1) c hc
              omega
            have hpk := packages_any g2 n2 cp2 ms2 (row sl (t + 1)) wr hra.own hra.ins hra.len.1 (by omega) hrb
            have hrb2 : ∀ c ∈ sl ++ packs (row sl (t + 1)), c.1 ≤ 2 ^ 50 := fun c hc => by
              rcases List.mem_append.1 hc with q | q
              · have := HA.out.2.2.1 c q; omega
              · obtain ⟨j, hj⟩ := List.mem_iff_getElem?.1 q
                obtain ⟨u, v, hu, hv, rfl⟩ := packs_get _ _ _ hj
                have b1 := row_bound sl (2 ^ 30) 1 HA.out.2.2.1 (t + 1) u (List.mem_of_getElem? hu)
                have b2 := row_bound sl (2 ^ 30) 1 HA.out.2.2.1 (t + 1) v (List.mem_of_getElem? hv)
                show u.1 + v.1 ≤ _
                omega
            have hpl : (packs (row sl (t + 1))).length ≤ 800 := by rw [packs_length, hra.len.2]; omega
            have HJ := Lib.hid (And.intro hpk (And.intro hrb2 (And.intro hla (And.intro hra (And.intro hf (And.intro htk hpl))))))
            clear hpk hrb hrb2 hla hra hf htk hp15 hpl
            go_upto_region 28 with (first
              | (go_at_call 39; refine HJ.out.1.mono ?_; rintro e w5 ⟨ao3, k3, cp3, ms3, rfl, hk3, md5, in5, nb5⟩; have hk3b : k3 ≤ 800 := (by rw [hk3]; exact HJ.out.2.2.2.2.2.2); have h6 := concat_coin w5.heap.size (some ⟨g, 0, none⟩) ao3 n k3 cp cp3 (cellsOf ms1) (cellsOf ms3) (w5.alloc (.cells #[.slice (some ⟨g, 0, none⟩) n cp, .slice ao3 k3 cp3] 89 (0, 0))) (alloc_at w5 _) (cs_row (ownsRow_fr HJ.out.2.2.1.own (md5.fr.alloc _) (by simp))) (cs_row (ownsRow_fr md5.own ((Fr.refl [] w5).alloc _) (by simp))) HJ.out.2.2.1.own.1 md5.own.1 (own_some HJ.out.2.2.1.own (by omega)).choose_spec.2.1 md5.le (fun h => by cases h) md5.nil (cellsOf_one _) (cellsOf_one _) (by omega) (by omega); have H5 := Lib.hid (And.intro hk3 (And.intro md5 (And.intro in5 (And.intro nb5 h6)))); clear hk3 md5 in5 nb5 h6)
              | (go_at_call 38; refine H5.out.2.2.2.2.mono ?_; rintro e w7 ⟨ao7, cp7, rfl, md7⟩; have H7 := Lib.hid md7; clear md7))
            obtain ⟨g7, e7, hg7a, hg7b⟩ := own_some H7.out.own (by omega)
            subst e7
            obtain ⟨w6, hw6⟩ : ∃ w6, w6 = w5.alloc (.cells #[.slice (some ⟨g, 0, none⟩) n cp, .slice ao3 k3 cp3] 89 (0, 0)) := ⟨_, rfl⟩
            have f56 : Fr [] w5 w6 := by rw [hw6]; exact (Fr.refl [] w5).alloc _
            have md7 := H7.out
            rw [← hw6] at md7
            have fall : Fr [] wr w7 := (H5.out.2.1.fr.trans f56).trans md7.fr
            have hQs : Q < wr.heap.size := by
              obtain ⟨A, hA, _⟩ := HA.out.2.1
              exact Nat.lt_of_lt_of_le (lt_of_block hA) HJ.out.2.2.2.2.1.size
            have hg7 : wr.heap.size ≤ g7 := Nat.le_trans (H5.out.2.1.fr.trans f56).size (md7.new g7 (by simp [blk]))
            have hk3b : k3 ≤ 800 := by rw [H5.out.1]; exact HJ.out.2.2.2.2.2.2
            have hs7 := sort_coins g7 (n + k3) cp7 (ms1 ++ ms3) (sl ++ packs (row sl (t + 1))) w7 (by rw [cellsOf_append]; exact md7.own) (Ins.append (HJ.out.2.2.1.ins.fr0 fall) (H5.out.2.2.1.fr0 (f56.trans md7.fr))) (by omega) HJ.out.2.1
            unfold cmpV at hs7
            have H8 := Lib.hid (And.intro hs7 (And.intro fall (And.intro hQs hg7)))
            clear hs7 fall hQs hg7 md7 f56 hw6
            go_wp2_with (go_at_call 37; refine H8.out.1.mono ?_; rintro e w8 ⟨rfl, ms8, l8, o8, in8, so8, st8, f8, mem8⟩; have H9 := Lib.hid (And.intro o8 (And.intro in8 (And.intro so8 (And.intro st8 (And.intro f8 mem8))))); clear o8 in8 so8 st8 f8 mem8)
            go_roundg k
            case measure => omega
            case rel =>
              obtain ⟨_, fall, hQs, hg7⟩ := H8.out
              obtain ⟨o8, in8, so8, st8, f8, mem8⟩ := H9.out
              obtain ⟨_, _, hla, hra, hf, htk, _⟩ := HJ.out
              have el : l8 = row sl (t + 1 + 1) := stable_mrg H4.out.2.2.1 (packs_sorted _ (row_sorted sl H4.out.2.2.1 _)) so8 st8
              rw [el] at in8
              refine ⟨t + 1, g7, n + k3, cp7, ms8, rfl, by go_num, by omega, ⟨o8, in8, fun m hm x hx => ?_, by omega⟩, (hf.trans fall).step f8 fun x hx => .inr ?_⟩
              · rcases List.mem_append.1 (mem8 m hm) with q | q
                · exact hla.off m q x hx
                · have := H5.out.2.2.2.1 m q x hx; omega
              · simp only [List.mem_singleton] at hx
                rw [hx]; exact Nat.le_trans hf.size hg7
          · obtain rfl : t = L1 := by omega
            have ok := lens_ok (cs := cs) hL1 hL15 H4.out.2.2.1 (by rw [← H.out.2.2.1]; exact H4.out.2.2.2.1) (by rw [← H.out.2.2.1, ← HI.out.1]; omega) (by rw [← H.out.2.2.1]; exact H.out.2.2.2)
            obtain ⟨R, hR⟩ : ∃ R, R = row sl L := ⟨_, rfl⟩
            rw [show t + 1 = L from by have := HL1.out; omega, ← hR] at hra
            rw [← hR, HA.out.1.len.2] at ok
            obtain ⟨m, hm⟩ : ∃ m, m = 2 * n - 2 := ⟨_, rfl⟩
            rw [← hm] at ok
            have hnb2 : n2 ≤ 800 := by have := row_len_le sl L; rw [← hR, hra.len.2, HA.out.1.len.2] at this; omega
            have hmn : m ≤ n2 := by have := ok.1; rw [hra.len.2] at this; exact this
            have e4 : 2 * (n : Int) - 2 = (m : Int) := by omega
            have hrb : ∀ c ∈ R, c.2.length ≤ 32768 := fun c hc => by
              rw [hR] at hc
              have := (row_bound sl (2 ^ 30) 1 HA.out.2.2.1 L c hc).2
              have h15 : 2 ^ L ≤ 2 ^ 15 := Nat.pow_le_pow_right (by decide) hL15
              omega
            have hcap : n2 ≤ cp2 ∧ cp2 ≤ maxLen := (own_some hra.own (by omega)).choose_spec.2
            have hcapb : n2 ≤ cp2 := hcap.1
            have hmc : m ≤ cp2 := by omega
            have hcp2 : cp2 ≤ 9223372036854775807 := hcap.2
            have hsy : ∀ c ∈ R, ∀ x ∈ c.2, x < i := fun c hc => by
              rw [hR] at hc
              refine row_syms sl (· < i) (fun c hc x hx => ?_) L c hc
              have h2 := (H4.out.2.2.2.1.mem c).1 hc
              simp only [coinsTo, List.mem_map] at h2
              obtain ⟨s, hs, rfl⟩ := h2
              simp only [List.mem_singleton] at hx
              rw [hx]; exact (mem_symsTo.1 hs).1
            have HK := Lib.hid (And.intro ok.2.2 (And.intro hra (And.intro (HA.out.2.1.fr hf (by simp)) (And.intro (HA.out.2.2.2.trans hf) (And.intro hrb (And.intro hsy htk))))))
            clear ok hra hf htk hrb hR hm hcap hsy
            obtain ⟨wo, rfl⟩ : ∃ wo : World, wo = wr := ⟨_, rfl⟩
            go_wp2
            go_loopg [15, 17, 101, 108] m (fun k s15 s17 s101 s108 wr => ∃ t : Nat, s101 = .int .i64 (t : Nat) ∧ t + k = m ∧ Ow wr Q i (fun s => (ins (R.take t)).count s) ∧ Fr [Q] wo wr)
            case atStart => exact ⟨0, rfl, by omega, HK.out.2.2.1.congr fun s _ => by simp [ins], .refl _ _⟩
            case round =>
              obtain ⟨t, rfl, htk, how, hf⟩ := hrel
              by_cases ht : t < m
              · obtain ⟨k, rfl⟩ : ∃ k, gk = k + 1 := ⟨gk - 1, by omega⟩
                have hra := HK.out.2.1.frQ hf
                obtain ⟨mc, hmc⟩ : ∃ mc, ms2[t]? = some mc := ⟨_, List.getElem?_eq_getElem (by rw [hra.len.1]; omega)⟩
                obtain ⟨c, hc⟩ : ∃ c, R[t]? = some c := ⟨_, List.getElem?_eq_getElem (by rw [hra.len.2]; omega)⟩
                have hIn := hra.ins.2 t mc c hmc hc
                have hd := cellsOf_at ms2 t mc hmc
                have d0 : wr.cell? ⟨g2, t * 2, none⟩ = some (.int .i64 (mc.worth : Nat)) := by rw [← hd.1]; exact World.ownsRow.cellAt hra.own _ (by omega)
                have d1 : wr.cell? ⟨g2, t * 2 + 1, none⟩ = some (.slice mc.ao mc.len mc.cap) := by rw [← hd.2]; exact World.ownsRow.cellAt hra.own _ (by omega)
                obtain ⟨b, A, eb, hb, hbl, hbc⟩ := hIn.shape
                have hoff : b ≠ Q := hra.off mc (List.mem_of_getElem? hmc) b (by rw [eb]; simp [blk])
                have hml := hIn.len
                have hcl : c.2.length ≤ 32768 := HK.out.2.2.2.2.1 c (List.mem_of_getElem? hc)
                have hcs := HK.out.2.2.2.2.2.1 c (List.mem_of_getElem? hc)
                have hown := hIn.own
                have htake : ins (R.take (t + 1)) = ins (R.take t) ++ c.2 := by rw [List.take_add_one, hc, ins_append]; simp [ins]
                have hil : (ins (R.take t)).length ≤ 800 * 32768 := by
                  have h1 := ins_len (R.take t) 32768 (fun c hc => HK.out.2.2.2.2.1 c (List.mem_of_mem_take hc))
                  have h2 : (R.take t).length ≤ 800 := by rw [List.length_take]; omega
                  exact Nat.le_trans h1 (Nat.mul_le_mul_right _ h2)
                obtain ⟨mw, mao, ml, mcp⟩ := mc
                simp only at eb hml hown hbl hbc d0 d1
                subst eb
                obtain ⟨W1, hW1⟩ : ∃ W1, W1 = wr.alloc (.cells #[.int .i64 (mw : Nat), .slice (some ⟨b, 0, none⟩) ml mcp] 91 (0, 0)) := ⟨_, rfl⟩
                have fA : Fr [] wr W1 := by rw [hW1]; exact (Fr.refl [] wr).alloc _
                have hfA : Fr [Q] wo W1 := by rw [hW1]; exact hf.alloc _
                have HJ := Lib.hid (And.intro (how.fr fA (by simp)) (And.intro (ownsRow_fr hown fA (by simp)) (And.intro hcs (And.intro htake (And.intro hil (And.intro hml (And.intro htk hfA)))))))
                have hmlb : ml ≤ 32768 := by omega
                clear how hf hIn hd hb hown hmc hc hcs htake hil htk hra fA hfA hml
                have HW1 := Lib.hid hW1.symm
                clear hW1
                go_upto_block 8 with fail
                rw [HW1.out]
                go_wp2
                go_loopg [17, 108] ml (fun k s17 s108 wr => ∃ u : Nat, s108 = .int .i64 (u : Nat) ∧ u + k = ml ∧ Ow wr Q i (fun s => (ins (R.take t) ++ c.2.take u).count s) ∧ Fr [Q] W1 wr)
                case atStart => exact ⟨0, rfl, by omega, HJ.out.1.congr fun s _ => by simp, .refl _ _⟩
                case round =>
                  obtain ⟨u, rfl, huk, how, hf⟩ := hrel
                  by_cases hu : u < ml
                  · obtain ⟨k2, rfl⟩ : ∃ k2, gk = k2 + 1 := ⟨gk - 1, by omega⟩
                    have hown := ownsRow_fr HJ.out.2.1 hf (by intro k hk; simp only [Value.ownBlock, Option.some.injEq] at hk; subst hk; simpa using hoff)
                    obtain ⟨s, hs⟩ : ∃ s, c.2[u]? = some s := ⟨_, List.getElem?_eq_getElem (by have := HJ.out.2.2.2.2.2.1; omega)⟩
                    have d2 : wr.cell? ⟨b, u, none⟩ = some (.int .i64 (s : Nat)) := by
                      have := World.ownsRow.cellAt hown u (by omega)
                      rw [this]; simp [ints, hs]
                    have hsi := HJ.out.2.2.1 s (List.mem_of_getElem? hs)
                    have d3 := how.cell hsi
                    have z3 := how.frozen s
                    obtain ⟨F, hF⟩ : ∃ F, F = (ins (R.take t) ++ c.2.take u).count s := ⟨_, rfl⟩
                    have hFb : F ≤ 30000000 := by
                      rw [hF]
                      have h1 := List.count_le_length (a := s) (l := ins (R.take t) ++ c.2.take u)
                      rw [List.length_append, List.length_take] at h1
                      have := HJ.out.2.2.2.2.1
                      omega
                    rw [← hF] at d3
                    have hset := how.set hsi (F + 1)
                    have fS := hf.setCell (p := ⟨Q, s, none⟩) (by simp) (.int .i64 ((F + 1 : Nat) : Nat))
                    have HL := Lib.hid (And.intro hset (And.intro fS (And.intro hF (And.intro hs huk))))
                    clear how hf hown hs hset fS hF huk
                    go_wp2
                    go_roundg k2
                    case measure => omega
                    case rel =>
                      obtain ⟨hset, fS, hF, hs, huk⟩ := HL.out
                      refine ⟨u + 1, by go_num, by omega, ?_, ?_⟩
                      · refine Ow.congr ?_ (F := fun t' => if t' = s then F + 1 else (ins (R.take t) ++ c.2.take u).count t') fun s' _ => ?_
                        · first | exact hset | simpa using hset
                        · rw [List.take_add_one, hs, Option.toList_some, ← List.append_assoc, List.count_append]
                          by_cases e : s' = s
                          · subst e; rw [if_pos rfl, hF]; simp [Nat.add_assoc]
                          · rw [if_neg e]; simp [Ne.symm e]
                      · first | exact fS | simpa using fS
                  · obtain rfl : u = ml := by omega
                    have HL := Lib.hid (And.intro how hf)
                    clear how hf huk
                    go_wp2
                    go_roundg k
                    case measure => omega
                    case rel =>
                      obtain ⟨_, _, _, htake, _, hml, htk, hfA⟩ := HJ.out
                      refine ⟨t + 1, by go_num, by omega, HL.out.1.congr fun s _ => ?_, hfA.trans HL.out.2⟩
                      rw [List.take_of_length_le (l := c.2) (by omega), htake]
              · obtain rfl : t = m := by omega
                have HJ := Lib.hid (And.intro how hf)
                clear how hf htk
                go_wp2
                go_ret2
                obtain ⟨ok, hra, _, fw, _⟩ := HK.out
                exact HJ.out.1.good H.out.2.2.1 ok (by rw [HQ.out]; exact HI.out.2.1.fr.size) (fw.step HJ.out.2 fun x hx => .inr (by simp at hx; rw [hx, HQ.out]; exact HI.out.2.1.fr.size))
end Go.Proofs.YtolkoidbkaidkaaGreat.huf
/-
  deflate.coded.counts.
-/
namespace Go.Proofs.YtolkoidbkaidkaaGreat.defl
open Go Go.RowKit Go.Proofs.YtolkoidbkaidkaaGreat.lib Go.Proofs.YtolkoidbkaidkaaGreat.bm Go.Proofs.YtolkoidbkaidkaaGreat.mat Go.Proofs.YtolkoidbkaidkaaGreat.huf

theorem lcode_wid {n : Nat} (h11 : 11 ≤ n) (h : n < 258) : ∃ w, 1 ≤ w ∧ w ≤ 5 ∧ 4 * 2 ^ w ≤ n - 3 ∧ n - 3 < 8 * 2 ^ w := by
  obtain h | h : n < 19 ∨ 19 ≤ n := by omega
  · exact ⟨1, by omega, by omega, by omega, by omega⟩
  obtain h | h : n < 35 ∨ 35 ≤ n := by omega
  · exact ⟨2, by omega, by omega, by omega, by omega⟩
  obtain h | h : n < 67 ∨ 67 ≤ n := by omega
  · exact ⟨3, by omega, by omega, by omega, by omega⟩
  obtain h | h : n < 131 ∨ 131 ≤ n := by omega
  · exact ⟨4, by omega, by omega, by omega, by omega⟩
  exact ⟨5, by omega, by omega, by omega, by omega⟩
theorem dcode_wid {n : Nat} (h5 : 5 ≤ n) (h : n ≤ 32768) : ∃ w, 1 ≤ w ∧ w ≤ 13 ∧ 2 * 2 ^ w ≤ n - 1 ∧ n - 1 < 4 * 2 ^ w := by
  have h0 : n - 1 ≠ 0 := by omega
  have h1 : 2 ≤ Nat.log2 (n - 1) := (Nat.le_log2 h0).2 (by omega)
  have h2 : Nat.log2 (n - 1) < 15 := (Nat.log2_lt h0).2 (by omega)
  have h3 := (Nat.le_log2 h0 (k := Nat.log2 (n - 1))).1 (Nat.le_refl _)
  have h4 := (Nat.log2_lt h0 (k := Nat.log2 (n - 1) + 1)).1 (by omega)
  obtain ⟨v, hv⟩ : ∃ v, Nat.log2 (n - 1) = v + 1 := ⟨Nat.log2 (n - 1) - 1, by omega⟩
  rw [hv] at h1 h2 h3 h4
  rw [Nat.pow_succ] at h3 h4
  rw [Nat.pow_succ] at h4
  exact ⟨v, by omega, by omega, by omega, by omega⟩
theorem lcode_lt {n : Nat} (h3 : 3 ≤ n) (h258 : n ≤ 258) : 257 ≤ (lcode n).1 ∧ (lcode n).1 < 286 ∧ (lcode n).2.2 ≤ 5 ∧ (lcode n).2.1 < 2 ^ (lcode n).2.2 := by
  by_cases h11 : n < 11
  · unfold lcode; rw [if_pos h11]; simp only; omega
  · by_cases h8 : n = 258
    · subst h8; decide
    · obtain ⟨w, h1, h2, h4, h5⟩ := lcode_wid (by omega) (show n < 258 by omega)
      rw [lcode_of (w := w) (by omega) h8 h4 h5]
      have hp := Nat.two_pow_pos w
      have : (n - 3) / 2 ^ w < 8 := (Nat.div_lt_iff_lt_mul hp).2 h5
      have : 4 ≤ (n - 3) / 2 ^ w := (Nat.le_div_iff_mul_le hp).2 h4
      refine ⟨by simp only; omega, by simp only; omega, h2, Nat.mod_lt _ hp⟩
theorem dcode_lt {n : Nat} (h1 : 1 ≤ n) (h : n ≤ 32768) : (dcode n).1 < 30 ∧ (dcode n).2.2 ≤ 13 ∧ (dcode n).2.1 < 2 ^ (dcode n).2.2 := by
  by_cases h5 : n < 5
  · unfold dcode; rw [if_pos h5]; simp only; omega
  · obtain ⟨w, k1, k2, k4, k5⟩ := dcode_wid (by omega) h
    rw [dcode_of (w := w) (by omega) k4 k5]
    have hp := Nat.two_pow_pos w
    have : (n - 1) / 2 ^ w < 4 := (Nat.div_lt_iff_lt_mul hp).2 k5
    exact ⟨by simp only; omega, k2, Nat.mod_lt _ hp⟩
def tsym : Tok → Nat
  | .lit c => c.toNat
  | .mat n _ => (lcode n).1
def dsym : Tok → Option Nat
  | .lit _ => none
  | .mat _ d => some (dcode d).1
def lcnt (t : List Tok) (s : Nat) : Nat := (t.map tsym).count s
def dcnt (t : List Tok) (s : Nat) : Nat := (t.filterMap dsym).count s
theorem lcnt_le (t : List Tok) (s : Nat) : lcnt t s ≤ t.length := by
  have := List.count_le_length (a := s) (l := t.map tsym)
  rw [List.length_map] at this
  exact this
theorem dcnt_le (t : List Tok) (s : Nat) : dcnt t s ≤ t.length := by
  have := List.count_le_length (a := s) (l := t.filterMap dsym)
  exact Nat.le_trans this (List.length_filterMap_le _ _)
theorem lcnt_add (t : List Tok) (x : Tok) (s : Nat) : lcnt (t ++ [x]) s = if s = tsym x then lcnt t s + 1 else lcnt t s := by
  unfold lcnt
  rw [List.map_append, List.count_append]
  by_cases h : s = tsym x
  · subst h; simp
  · rw [if_neg h]; simp [Ne.symm h]
theorem dcnt_lit (t : List Tok) (c : UInt8) (s : Nat) : dcnt (t ++ [.lit c]) s = dcnt t s := by
  unfold dcnt
  rw [List.filterMap_append, show List.filterMap dsym [Tok.lit c] = [] from rfl, List.append_nil]
theorem dcnt_mat (t : List Tok) (n d s : Nat) : dcnt (t ++ [.mat n d]) s = if s = (dcode d).1 then dcnt t s + 1 else dcnt t s := by
  unfold dcnt
  rw [List.filterMap_append, List.count_append]
  by_cases h : s = (dcode d).1
  · subst h; simp [dsym]
  · rw [if_neg h]; simp [dsym, Ne.symm h]
/-- The two rows of counts, behind their boxes. -/
structure Cn (p1 p2 Q1 Q2 : Nat) (t : List Tok) (w : World) : Prop where
  c1 : w.cell? ⟨p1, 0, none⟩ = some (.slice (some ⟨Q1, 0, none⟩) 286 286)
  c2 : w.cell? ⟨p2, 0, none⟩ = some (.slice (some ⟨Q2, 0, none⟩) 30 30)
  o1 : Ow w Q1 286 (lcnt t)
  o2 : Ow w Q2 30 (dcnt t)
  n1 : p1 ≠ Q1 ∧ p1 ≠ Q2 ∧ p2 ≠ Q1 ∧ p2 ≠ Q2 ∧ Q1 ≠ Q2
set_option maxRecDepth 100000 in
set_option maxHeartbeats 1000000 in
theorem count_lit (p1 p2 Q1 Q2 : Nat) (t : List Tok) (c : UInt8) (w : World) (h : Cn p1 p2 Q1 Q2 t w) (ht : t.length ≤ 1000000) :
    Calls Tryz.prog 33 #[.int .u8 c.toNat, .pointer none, .pointer (some ⟨p1, 0, none⟩), .pointer (some ⟨p2, 0, none⟩)] w fun e w' => e = .returned (.tuple #[]) ∧ Cn p1 p2 Q1 Q2 (t ++ [.lit c]) w' ∧ Fr [Q1, Q2] w w' := by
  obtain ⟨s, hs⟩ : ∃ s, s = c.toNat := ⟨_, rfl⟩
  have hs2 : s < 256 := by rw [hs]; exact UInt8.toNat_lt _
  rw [← hs]
  have d1 := h.c1
  have d3 := h.o1.cell (show s < 286 by omega)
  have z3 := h.o1.frozen s
  have hb := lcnt_le t s
  obtain ⟨F, hF⟩ : ∃ F, F = lcnt t s := ⟨_, rfl⟩
  rw [← hF] at d3 hb
  have hset := h.o1.set (show s < 286 by omega) (F + 1)
  have H := Lib.hid (And.intro h (And.intro hs (And.intro hF hset)))
  clear h hs hF hset
  go_enter Tryz.func33, Tryz.ntmps33
  go_wp2
  refine bodyPost_ret (results_none rfl _ _ _) rfl ?_
  obtain ⟨h, hs, hF, hset⟩ := H.out
  refine ⟨rfl, ⟨?_, ?_, hset.congr fun x _ => ?_, ?_, h.n1⟩, (Fr.refl _ w).setCell (by simp) _⟩
  · exact ((Fr.refl [Q1] w).setCell (by simp) _).cell h.c1 (by simpa using h.n1.1)
  · exact ((Fr.refl [Q1] w).setCell (by simp) _).cell h.c2 (by simpa using h.n1.2.2.1)
  · rw [lcnt_add, hF]
    show (if x = s then _ else _) = if x = c.toNat then _ else _
    rw [hs]
    by_cases e : x = c.toNat
    · rw [if_pos e, if_pos e, e]
    · rw [if_neg e, if_neg e]
  · refine (h.o2.fr ((Fr.refl [Q1] w).setCell (by simp) _) (by simpa using (Ne.symm h.n1.2.2.2.2))).congr fun x _ => (dcnt_lit t c x).symm
set_option maxRecDepth 100000 in
set_option maxHeartbeats 2000000 in
theorem count_mat (p1 p2 Q1 Q2 g o : Nat) (t : List Tok) (n d : Nat) (w : World) (h : Cn p1 p2 Q1 Q2 t w) (ht : t.length ≤ 1000000) (h3 : 3 ≤ n) (h258 : n ≤ 258) (h1 : 1 ≤ d) (hd : d ≤ 32768)
    (hg : g ≠ Q1 ∧ g ≠ Q2) (e1 : w.cell? ⟨g, o + 1, none⟩ = some (.int .i64 (n : Nat))) (e2 : w.cell? ⟨g, o + 2, none⟩ = some (.int .i64 (d : Nat))) :
    Calls Tryz.prog 33 #[.int .u8 0, .pointer (some ⟨g, o, none⟩), .pointer (some ⟨p1, 0, none⟩), .pointer (some ⟨p2, 0, none⟩)] w fun e w' => e = .returned (.tuple #[]) ∧ Cn p1 p2 Q1 Q2 (t ++ [.mat n d]) w' ∧ Fr [Q1, Q2] w w' := by
  have hl := length_any n w h3 h258
  have hlt := lcode_lt h3 h258
  have hdt := dcode_lt h1 hd
  unfold Triple at hl
  obtain ⟨s, hs⟩ : ∃ s, s = (lcode n).1 := ⟨_, rfl⟩
  obtain ⟨s2, hs2⟩ : ∃ s2, s2 = (dcode d).1 := ⟨_, rfl⟩
  rw [← hs] at hl hlt
  rw [← hs2] at hdt
  have hsl : s < 286 := hlt.2.1
  have hsl2 : s2 < 30 := hdt.1
  obtain ⟨F, hF⟩ : ∃ F, F = lcnt t s := ⟨_, rfl⟩
  obtain ⟨G, hG⟩ : ∃ G, G = dcnt t s2 := ⟨_, rfl⟩
  have hFb : F ≤ 1000000 := by rw [hF]; exact Nat.le_trans (lcnt_le _ _) ht
  have hGb : G ≤ 1000000 := by rw [hG]; exact Nat.le_trans (dcnt_le _ _) ht
  have H := Lib.hid (And.intro h (And.intro hs (And.intro hs2 (And.intro hF (And.intro hG (And.intro hl (And.intro hg (And.intro h1 (And.intro hd e2)))))))))
  clear h hs hs2 hF hG hl hlt hdt ht h3 h258 h1 hd e2 hg
  go_enter Tryz.func33, Tryz.ntmps33
  go_upto_region 3 with (go_at_call 34; refine H.out.2.2.2.2.2.1.mono ?_; rintro e w1 ⟨rfl, f1⟩; have H1 := Lib.hid f1; clear f1)
  clear e1
  have h1 := H.out.1
  have d1 := H1.out.cell h1.c1 (by simp)
  have o1 := h1.o1.fr H1.out (by simp)
  have d3 := o1.cell hsl
  rw [← H.out.2.2.2.1] at d3
  have z3 := o1.frozen s
  have hset := o1.set hsl (F + 1)
  obtain ⟨w2, hw2⟩ : ∃ w2, w2 = w1.setCell ⟨Q1, s, none⟩ (.int .i64 ((F + 1 : Nat) : Nat)) := ⟨_, rfl⟩
  rw [← hw2] at hset
  have f2 : Fr [Q1] w w2 := by rw [hw2]; exact (H1.out.mono (by simp)).setCell (by simp) _
  have H2 := Lib.hid (And.intro hset (And.intro f2 hw2.symm))
  clear h1 o1 hset hw2 f2
  go_upto_region 4 with fail
  clear d1 d3 z3
  have hw : w1.setCell ⟨Q1, s, none⟩ (.int .i64 ((F : Int) + 1)) = w2 := by rw [← H2.out.2.2]; rfl
  rw [hw]
  clear hw
  have e2 := H2.out.2.1.cell H.out.2.2.2.2.2.2.2.2.2 (by simpa using H.out.2.2.2.2.2.2.1.1)
  have hdi := distance_any d w2 H.out.2.2.2.2.2.2.2.1 H.out.2.2.2.2.2.2.2.2.1
  unfold Triple at hdi
  rw [← H.out.2.2.1] at hdi
  have HD := Lib.hid hdi
  clear hdi
  go_upto_region 5 with (go_at_call 35; refine HD.out.mono ?_; rintro e w3 ⟨rfl, f3⟩; have H3 := Lib.hid f3; clear f3)
  clear e2
  have h1 := H.out.1
  have f23 := H2.out.2.1.trans (H3.out.mono (by simp))
  have d2 := f23.cell h1.c2 (by simpa using h1.n1.2.2.1)
  have o2 := h1.o2.fr f23 (by simpa using (Ne.symm h1.n1.2.2.2.2))
  have d4 := o2.cell hsl2
  rw [← H.out.2.2.2.2.1] at d4
  have z4 := o2.frozen s2
  have hset := o2.set hsl2 (G + 1)
  have H4 := Lib.hid (And.intro hset f23)
  clear h1 f23 o2 hset
  go_wp2
  (try simp only [Exit.inBlock, Exit.then])
  refine bodyPost_end (results_none rfl _ _ _) rfl ?_
  obtain ⟨h, hs, hs2, hF, hG, _⟩ := H.out
  obtain ⟨set2, f23⟩ := H4.out
  have set1 := H2.out.1
  refine ⟨rfl, ⟨?_, ?_, ?_, ?_, h.n1⟩, (f23.mono (by simp)).setCell (by simp) _⟩
  · exact ((f23.mono (T := [Q1, Q2]) (by simp)).setCell (by simp) _).cell h.c1 (by simpa using ⟨h.n1.1, h.n1.2.1⟩)
  · exact ((f23.mono (T := [Q1, Q2]) (by simp)).setCell (by simp) _).cell h.c2 (by simpa using ⟨h.n1.2.2.1, h.n1.2.2.2.1⟩)
  · refine ((set1.fr H3.out (by simp)).fr ((Fr.refl [Q2] w3).setCell (by simp) _) (by simpa using h.n1.2.2.2.2)).congr fun x _ => ?_
    rw [lcnt_add, hF]
    show (if x = s then _ else _) = if x = (lcode n).1 then _ else _
    rw [← hs]
    by_cases e : x = s
    · rw [if_pos e, if_pos e, e]
    · rw [if_neg e, if_neg e]
  · refine set2.congr fun x _ => ?_
    rw [dcnt_mat, hG]
    show (if x = s2 then _ else _) = if x = (dcode d).1 then _ else _
    rw [← hs2]
    by_cases e : x = s2
    · rw [if_pos e, if_pos e, e]
    · rw [if_neg e, if_neg e]
theorem results_cells2 {fn : Func} {p u : Tmp} {t1 t2 : TypeId} (h : fn.results = #[.cell p t1, .cell u t2]) (tmps : Array Value) (P : Program) (w : World) (g1 g2 : Nat) (v1 v2 : Value)
    (e1 : tmps.getD p undef = .pointer (some ⟨g1, 0, none⟩)) (e2 : tmps.getD u undef = .pointer (some ⟨g2, 0, none⟩)) (l1 : (loadVar t1 ⟨g1, 0, none⟩).run P w = .ok v1 w) (l2 : (loadVar t2 ⟨g2, 0, none⟩).run P w = .ok v2 w) :
    (results fn tmps).run P w = .ok (.tuple #[v1, v2]) w := by
  have e1' : tmps[p]?.getD undef = .pointer (some ⟨g1, 0, none⟩) := by simpa using e1
  have e2' : tmps[u]?.getD undef = .pointer (some ⟨g2, 0, none⟩) := by simpa using e2
  simp only [results, h]
  simp [Sem.run_bind, e1', e2', asAddr, l1, l2, Result.andThen]
theorem run_loadVar_slice {w : World} {g : Nat} {v : Value} (h : w.cell? ⟨g, 0, none⟩ = some v) : (loadVar 35 ⟨g, 0, none⟩).run Tryz.prog w = .ok v w := by
  have h1 := Tryz.isAgg35
  simp [loadVar, h1, h]
theorem make_ints (n : Nat) (h : n ≤ 1000000) : ∃ Z : Array Value, Z.size = n ∧ (∀ s, s < n → Z[s]? = some (.int .i64 0)) ∧ ∀ w : World, (Instr.makeSlice 35 (.int .i64 (n : Nat)) (.int .i64 (n : Nat))).run Tryz.prog w = .ok (.slice (some ⟨w.heap.size, 0, none⟩) n n) (w.alloc (.cells Z 3)) := by
  obtain ⟨i, hi, hz, hs, hb⟩ := info_parts info_int
  refine ⟨madeCells (Value.int .i64 0).cells n, size_madeCells _ _, fun s hs' => ?_, fun w => ?_⟩
  · rw [← Array.getElem?_toList, show (Value.int .i64 0).cells = #[.int .i64 0] from rfl, toList_madeCells_one, List.getElem?_replicate, if_pos hs']
  · have := run_make (P := Tryz.prog) w 35 3 i (.int .i64 0) Tryz.underlying35 hi hz .i64 .i64 (n : Nat) (n : Nat) (by omega) (Int.le_refl _) (by rw [hb]; omega) (by omega)
    rw [hs, Int.toNat_natCast, Nat.mul_one] at this
    exact this
theorem two_made {w1 : World} {p1 p2 : Nat} {x1 x2 v1 v2 : Value} {T1 T2 : TypeId} {Za Zb : Array Value} {T : TypeId} (b1 : w1.heap[p1]? = some (.cells #[x1] T1 (0, 0))) (b2 : w1.heap[p2]? = some (.cells #[x2] T2 (0, 0))) (hp : p1 ≠ p2) :
    ∃ W, W = ((((w1.setCell ⟨p1, 0, none⟩ v1).setCell ⟨p2, 0, none⟩ v2).alloc (.cells Za T)).alloc (.cells Zb T)).drew ∧ W.heap[p1]? = some (.cells #[v1] T1 (0, 0)) ∧ W.heap[p2]? = some (.cells #[v2] T2 (0, 0)) ∧
      W.heap[w1.heap.size]? = some (.cells Za T (0, 0)) ∧ W.heap[w1.heap.size + 1]? = some (.cells Zb T (0, 0)) ∧ Fr [p1, p2] w1 W := by
  refine ⟨_, rfl, ?_, ?_, ?_, ?_, ?_⟩
  · have k1 := setCell_of (o := 0) b1 v1
    have k2 := alloc_old (.cells Zb T) (alloc_old (.cells Za T) ((setCell_other (o := 0) hp v2).trans k1))
    exact k2
  · have k1 := setCell_of (o := 0) ((setCell_other (o := 0) (Ne.symm hp) v1).trans b2) v2
    have k2 := alloc_old (.cells Zb T) (alloc_old (.cells Za T) k1)
    exact k2
  · have k1 := alloc_at ((w1.setCell ⟨p1, 0, none⟩ v1).setCell ⟨p2, 0, none⟩ v2) (.cells Za T)
    rw [World.size_setCell, World.size_setCell] at k1
    exact alloc_old (.cells Zb T) k1
  · have k1 := alloc_at (((w1.setCell ⟨p1, 0, none⟩ v1).setCell ⟨p2, 0, none⟩ v2).alloc (.cells Za T)) (.cells Zb T)
    rw [World.size_alloc, World.size_setCell, World.size_setCell] at k1
    exact k1
  · exact (((((Fr.refl [p1, p2] w1).setCell (by simp) _).setCell (by simp) _).alloc _).alloc _).drew
/-- The counts, with the block's end, and one more where there is nothing else. -/
def litc (b : List UInt8) (t : List Tok) (s : Nat) : Nat := lcnt t s + (if s = 256 then 1 else 0) + (if b.length = 0 ∧ s = 0 then 1 else 0)
def CountsGood (b : List UInt8) (t : List Tok) (w : World) (e : Ending) (w' : World) : Prop :=
  ∃ Q1 Q2, e = .returned (.tuple #[.slice (some ⟨Q1, 0, none⟩) 286 286, .slice (some ⟨Q2, 0, none⟩) 30 30]) ∧ Ow w' Q1 286 (litc b t) ∧ Ow w' Q2 30 (dcnt t) ∧ Fr [] w w' ∧ w.heap.size ≤ Q1 ∧ w.heap.size ≤ Q2
set_option maxRecDepth 100000 in
set_option maxHeartbeats 4000000 in
theorem counts_any (b : List UInt8) (a al : Option Addr) (cap cl r : Nat) (l : List Mt) (litV distV : Value) (told : Bool) (w : World) (hlit1 : litV.oneCell' = true) (hdist1 : distV.oneCell' = true)
    (hb : Rd w a cap b) (hl : Cs w al (mcells l)) (hlc : l.length ≤ cl) (hln : al = none → cl = 0) (hcm : cl ≤ maxLen) (hch : Chain b r 0 l) (hr : r ≤ 32768) (hblen : b.length ≤ 1000000) (hlo : ∀ x ∈ blk a, x < w.heap.size) (hll : ∀ x ∈ blk al, x < w.heap.size) :
    Calls Tryz.prog 14 #[boxT a al b.length cap l.length cl litV distV told] w (CountsGood b (toks b 0 l) w) := by
  obtain ⟨Z1, hz1, hZ1, mk1⟩ := make_ints 286 (by decide)
  obtain ⟨Z2, hz2, hZ2, mk2⟩ := make_ints 30 (by decide)
  have mka : ∀ w : World, (Instr.makeSlice 35 (.int .i64 286) (.int .i64 286)).run Tryz.prog w = .ok (.slice (some ⟨w.heap.size, 0, none⟩) 286 286) (w.alloc (.cells Z1 3)) := mk1
  have mkb : ∀ w : World, (Instr.makeSlice 35 (.int .i64 30) (.int .i64 30)).run Tryz.prog w = .ok (.slice (some ⟨w.heap.size, 0, none⟩) 30 30) (w.alloc (.cells Z2 3)) := mk2
  clear mk1 mk2
  obtain ⟨B, hB⟩ : ∃ B, B = w.heap.size := ⟨_, rfl⟩
  obtain ⟨w1, hw1⟩ : ∃ w1, w1 = ((w.alloc (.cells #[.slice a b.length cap, .slice al l.length cl, litV, distV, .bool told] 37 (0, 0))).alloc (.cells #[.slice none 0 0] 35 (0, 0))).alloc (.cells #[.slice none 0 0] 35 (0, 0)) := ⟨_, rfl⟩
  have f1 : Fr [] w w1 := by rw [hw1]; exact (((Fr.refl [] w).alloc _).alloc _).alloc _
  have hs1 : w1.heap.size = B + 3 := by rw [hw1, World.size_alloc, World.size_alloc, World.size_alloc, ← hB]
  have hbox : w1.heap[B]? = some (.cells #[.slice a b.length cap, .slice al l.length cl, litV, distV, .bool told] 37 (0, 0)) := by
    rw [hw1, hB]; exact alloc_old _ (alloc_old _ (alloc_at w _))
  have hp1 : w1.heap[B + 1]? = some (.cells #[.slice none 0 0] 35 (0, 0)) := by
    rw [hw1, hB]
    refine alloc_old _ ?_
    have := alloc_at (w.alloc (.cells #[.slice a b.length cap, .slice al l.length cl, litV, distV, .bool told] 37 (0, 0))) (.cells #[.slice none 0 0] 35 (0, 0))
    rwa [World.size_alloc] at this
  have hp2 : w1.heap[B + 2]? = some (.cells #[.slice none 0 0] 35 (0, 0)) := by
    rw [hw1, hB]
    have := alloc_at ((w.alloc (.cells #[.slice a b.length cap, .slice al l.length cl, litV, distV, .bool told] 37 (0, 0))).alloc (.cells #[.slice none 0 0] 35 (0, 0))) (.cells #[.slice none 0 0] 35 (0, 0))
    rwa [World.size_alloc, World.size_alloc] at this
  have H := Lib.hid (And.intro hb (And.intro hl (And.intro hlc (And.intro hln (And.intro hcm (And.intro hch (And.intro hr (And.intro hblen (And.intro hlo hll)))))))))
  have HW := Lib.hid (And.intro hw1.symm (And.intro f1 (And.intro hs1 (And.intro hbox (And.intro hp1 (And.intro hp2 hB))))))
  have HZ := Lib.hid (And.intro hz1 (And.intro hZ1 (And.intro hz2 hZ2)))
  clear hb hl hlc hln hcm hch hr hblen hlo hll hw1 f1 hs1 hbox hp1 hp2 hz1 hZ1 hz2 hZ2 hB
  unfold boxT
  go_enter Tryz.func14, Tryz.ntmps14
  go_upto_region 1 with fail
  rw [HW.out.1, ← HW.out.2.2.2.2.2.2, show B + 1 + 1 = B + 2 from rfl]
  obtain ⟨p1, hp1⟩ : ∃ p1, p1 = B + 1 := ⟨_, rfl⟩
  obtain ⟨p2, hp2⟩ : ∃ p2, p2 = B + 2 := ⟨_, rfl⟩
  obtain ⟨S1, hS1⟩ : ∃ S1, S1 = w1.heap.size := ⟨_, rfl⟩
  rw [← hp1, ← hp2]
  have b1 : w1.heap[p1]? = some (.cells #[.slice none 0 0] 35 (0, 0)) := by rw [hp1]; exact HW.out.2.2.2.2.1
  have b2 : w1.heap[p2]? = some (.cells #[.slice none 0 0] 35 (0, 0)) := by rw [hp2]; exact HW.out.2.2.2.2.2.1
  have hs1 := HW.out.2.2.1
  have hpp : p1 ≠ p2 := by omega
  have HP := Lib.hid (And.intro hp1 (And.intro hp2 (And.intro hS1 (And.intro hs1 (And.intro b1 b2)))))
  go_cut [4, 5] from 4 to 6 (fun s4 s5 wz => ∃ Q1 Q2, s4 = .slice (some ⟨Q1, 0, none⟩) 286 286 ∧ s5 = .slice (some ⟨Q2, 0, none⟩) 30 30 ∧ wz.heap[p1]? = some (.cells #[.slice (some ⟨Q1, 0, none⟩) 286 286] 35 (0, 0)) ∧ wz.heap[p2]? = some (.cells #[.slice (some ⟨Q2, 0, none⟩) 30 30] 35 (0, 0)) ∧
    Ow wz Q1 286 (fun _ => 0) ∧ Ow wz Q2 30 (fun _ => 0) ∧ Q1 ≠ Q2 ∧ w1.heap.size ≤ Q1 ∧ w1.heap.size ≤ Q2 ∧ Fr [p1, p2] w1 wz)
  case first =>
    have c1 := cell_of b1 0
    have c2 := cell_of b2 0
    have z1 := frozen_of b1 0
    have z2 := frozen_of b2 0
    simp only [List.getElem?_toArray, List.getElem?_cons_zero] at c1 c2
    have hl1 := lt_of_block b1
    have hl2 := lt_of_block b2
    have hn1 : ¬ p1 = w1.heap.size := by omega
    have hn2 : ¬ p2 = w1.heap.size := by omega
    have hn3 : ¬ p1 = w1.heap.size + 1 := by omega
    have hn4 : ¬ p2 = w1.heap.size + 1 := by omega
    clear b1 b2 hp1 hp2 hS1 hs1
    go_region
    all_goals go_wp2
    all_goals go_meet
    · obtain ⟨W, hW, k1, k2, k3, k4, k5⟩ := two_made (v1 := .slice (some ⟨w1.heap.size, 0, none⟩) 286 286) (v2 := .slice (some ⟨w1.heap.size + 1, 0, none⟩) 30 30) (Za := Z1) (Zb := Z2) (T := 3) HP.out.2.2.2.2.1 HP.out.2.2.2.2.2 hpp
      rw [← hW]
      exact ⟨_, _, rfl, rfl, k1, k2, ⟨Z1, k3, HZ.out.1, HZ.out.2.1⟩, ⟨Z2, k4, HZ.out.2.2.1, HZ.out.2.2.2⟩, by omega, by omega, by omega, k5⟩
    · obtain ⟨W, hW, k1, k2, k3, k4, k5⟩ := two_made (v1 := .slice (some ⟨w1.heap.size + 1, 0, none⟩) 286 286) (v2 := .slice (some ⟨w1.heap.size, 0, none⟩) 30 30) (Za := Z2) (Zb := Z1) (T := 3) HP.out.2.2.2.2.1 HP.out.2.2.2.2.2 hpp
      rw [← hW]
      exact ⟨_, _, rfl, rfl, k1, k2, ⟨Z1, k4, HZ.out.1, HZ.out.2.1⟩, ⟨Z2, k3, HZ.out.2.2.1, HZ.out.2.2.2⟩, by omega, by omega, by omega, k5⟩
  case rest =>
  obtain ⟨Q1, Q2, rfl, rfl, k1b, k2b, o1, o2, k6, k7, k8, k9⟩ := hcut
  have k1 := cell_of k1b 0
  have k2 := cell_of k2b 0
  simp only [List.getElem?_toArray, List.getElem?_cons_zero] at k1 k2
  have hbx := k9.blk HW.out.2.2.2.1 (by have := HP.out.1; have := HP.out.2.1; simp; omega)
  have f0 := HW.out.2.1
  obtain ⟨wo, hwo⟩ : ∃ wo : World, wo = wc := ⟨_, rfl⟩
  rw [← hwo] at k1 k2 k1b k2b o1 o2 k9 hbx ⊢
  have f9 : Fr [] w wo := f0.step k9 fun x hx => .inr (by have := HW.out.2.2.2.2.2.2; have := HP.out.1; have := HP.out.2.1; simp at hx; omega)
  obtain ⟨hb, hl, hlc, hln, hcm, hch, hr, hblen, hlo, hll⟩ := H.out
  have hsz := HW.out.2.2.1
  have hBz := HW.out.2.2.2.2.2.2
  have hpz1 := HP.out.1
  have hpz2 := HP.out.2.1
  have hQz : Q1 < wo.heap.size ∧ Q2 < wo.heap.size := by
    obtain ⟨A, hA, _⟩ := o1
    obtain ⟨A2, hA2, _⟩ := o2
    exact ⟨lt_of_block hA, lt_of_block hA2⟩
  have hea := each_any 33 #[.pointer (some ⟨p1, 0, none⟩), .pointer (some ⟨p2, 0, none⟩)] (fun _ _ => by kernel_rfl)
    (fun t F w' => F = [Q1, Q2] ∧ Cn p1 p2 Q1 Q2 t w') [Q1, Q2] b a al cap cl r l litV distV told wo hlit1 hdist1
    (hb.fr f9) (hl.fr f9 (by simp)) hlc hln hcm hch hr hblen
    (fun x hx => by
      have e : x = Q1 ∨ x = Q2 := by simpa using hx
      refine ⟨by omega, fun h => ?_, fun h => ?_⟩
      · have := hlo x h; omega
      · have := hll x h; omega)
    (fun w' f => ⟨rfl, f.cell k1 (by simp), f.cell k2 (by simp), (o1.fr f (by simp)).congr fun s _ => by simp [lcnt], (o2.fr f (by simp)).congr fun s _ => by simp [dcnt], by omega, by omega, by omega, by omega, k6⟩)
    (fun t F c w' ht ⟨hF, hc⟩ => by
      refine (count_lit p1 p2 Q1 Q2 t c w' hc (by omega)).mono ?_
      rintro e w2 ⟨rfl, h2, f2⟩
      exact ⟨rfl, by rw [hF]; exact f2, [Q1, Q2], ⟨rfl, h2⟩, fun y hy => .inl (by rw [hF]; exact hy)⟩)
    (fun t F n d g o w' ht ⟨hF, hc⟩ h3 h258 h1 hd hg e1 e2 => by
      refine (count_mat p1 p2 Q1 Q2 g o t n d w' hc (by omega) h3 h258 h1 hd (by rw [hF] at hg; simpa using hg) e1 e2).mono ?_
      rintro e w2 ⟨rfl, h2, f2⟩
      exact ⟨rfl, by rw [hF]; exact f2, [Q1, Q2], ⟨rfl, h2⟩, fun y hy => .inl (by rw [hF]; exact hy)⟩)
  unfold boxT at hea
  have e0 := cell_of hbx 0
  have e1 := cell_of hbx 1
  have e2 := cell_of hbx 2
  have e3 := cell_of hbx 3
  have e4 := cell_of hbx 4
  simp only [List.getElem?_toArray, List.getElem?_cons_zero, List.getElem?_cons_succ] at e0 e1 e2 e3 e4
  obtain ⟨BL, hBL⟩ : ∃ BL, BL = b.length := ⟨_, rfl⟩
  obtain ⟨LL, hLL⟩ : ∃ LL, LL = l.length := ⟨_, rfl⟩
  have HE := Lib.hid (And.intro hea (And.intro f9 (And.intro hbx (And.intro hBL hLL))))
  have hpQ : p1 ≠ Q1 ∧ p1 ≠ Q2 := by omega
  have hBQ : B ≠ Q1 ∧ B ≠ Q2 := by omega
  have HN := Lib.hid (And.intro hpQ (And.intro hBQ (And.intro (show w.heap.size ≤ Q1 by omega) (show w.heap.size ≤ Q2 by omega))))
  rw [← hBL] at e0 ⊢
  rw [← hLL] at e1 ⊢
  have HE1 : Hid _ := Lib.hid hea
  rw [← hBL, ← hLL] at HE1
  have hblen1 : BL ≤ 1000000 := by omega
  have HKB := Lib.hid (And.intro k1b k2b)
  have HT := Lib.hid (show (toks b 0 l).length ≤ 1000000 from Nat.le_trans (toks_len b 0 l) (by omega))
  clear k1b k2b hea hBL hLL hb hl hlc hln hcm hch hr hblen hlo hll k1 k2 o1 o2 k6 k7 k8 k9 f9 hbx f0 hpQ hBQ hQz hsz hBz hpz1 hpz2 hp1 hp2 hS1 hs1 b1 b2 hpp mka mkb hwo
  go_upto_region 3 with (go_at_call 32; refine HE1.out.mono ?_; rintro e w3 ⟨rfl, f3, F, ⟨hF, hc⟩, hFn⟩; have H3 := Lib.hid (And.intro f3 hc); clear f3 hF hc hFn)
  clear e0 e1 e2 e3 e4
  have hc := H3.out.2
  have d1 := hc.c1
  have d3 := hc.o1.cell (show 256 < 286 by decide)
  have z3 := hc.o1.frozen 256
  obtain ⟨F, hF⟩ : ∃ F, F = lcnt (toks b 0 l) 256 := ⟨_, rfl⟩
  have hFb : F ≤ 1000000 := by rw [hF]; exact Nat.le_trans (lcnt_le _ _) HT.out
  rw [← hF] at d3
  have hset := hc.o1.set (show 256 < 286 by decide) (F + 1)
  have H4 := Lib.hid (And.intro hset hF)
  clear hset hF hc
  go_upto_region 4 with fail
  clear d1 d3 z3
  obtain ⟨w4, hw4⟩ : ∃ w4, w4 = w3.setCell ⟨Q1, 256, none⟩ (.int .i64 ((F : Int) + 1)) := ⟨_, rfl⟩
  rw [← hw4]
  have f34 : Fr [Q1] w3 w4 := by rw [hw4]; exact (Fr.refl [Q1] w3).setCell (by simp) _
  have fo4 : Fr [Q1, Q2] wo w4 := H3.out.1.trans (f34.mono (by simp))
  have c4 : Cn p1 p2 Q1 Q2 (toks b 0 l) w3 := H3.out.2
  have hset := H4.out.1
  rw [show (Value.int .i64 ((F + 1 : Nat) : Int)) = .int .i64 ((F : Int) + 1) from rfl, ← hw4] at hset
  have o4 : Ow w4 Q1 286 (fun s => lcnt (toks b 0 l) s + (if s = 256 then 1 else 0)) := hset.congr fun s _ => by
    by_cases e : s = 256
    · subst e; simp [H4.out.2]
    · simp [e]
  have e0 := cell_of (fo4.blk HE.out.2.2.1 (by simpa using HN.out.2.1)) 0
  simp only [List.getElem?_toArray, List.getElem?_cons_zero] at e0
  rw [← HE.out.2.2.2.1] at e0
  have H5 := Lib.hid (And.intro fo4 (And.intro o4 (And.intro (c4.o2.fr f34 (by simpa using (Ne.symm c4.n1.2.2.2.2))) (And.intro (f34.cell c4.c1 (by simpa using c4.n1.1)) (f34.cell c4.c2 (by simpa using c4.n1.2.2.1))))))
  clear f34 fo4 c4 hset o4 hw4
  go_upto_if 17 with fail
  go_cut [] from 17 to 23 (fun wz => Ow wz Q1 286 (litc b (toks b 0 l)) ∧ Fr [Q1] w4 wz)
  case first =>
    by_cases h0 : BL = 0
    · have q0 : ((BL : Int) == 0) = true := by simp [h0]
      have d1 := H5.out.2.2.2.1
      have d3 := H5.out.2.1.cell (show 0 < 286 by decide)
      have z3 := H5.out.2.1.frozen 0
      obtain ⟨G, hG⟩ : ∃ G, G = lcnt (toks b 0 l) 0 + (if 0 = 256 then 1 else 0) := ⟨_, rfl⟩
      have hGb : G ≤ 1000000 := by rw [hG]; have := lcnt_le (toks b 0 l) 0; have := HT.out; simp; omega
      rw [← hG] at d3
      have hset := H5.out.2.1.set (show 0 < 286 by decide) (G + 1)
      have H6 := Lib.hid (And.intro hset hG)
      clear hset hG
      go_wp2
      go_meet
      refine ⟨?_, (Fr.refl [Q1] w4).setCell (by simp) _⟩
      have hset := H6.out.1
      rw [show (Value.int .i64 ((G + 1 : Nat) : Int)) = .int .i64 ((G : Int) + 1) from rfl] at hset
      refine hset.congr fun s _ => ?_
      unfold litc
      rw [← HE.out.2.2.2.1]
      by_cases e : s = 0
      · subst e; simp [H6.out.2, h0]
      · simp [e]
    · have q0 : ((BL : Int) == 0) = false := by simp only [beq_eq_false_iff_ne]; omega
      go_wp2
      go_meet
      refine ⟨H5.out.2.1.congr fun s _ => ?_, .refl _ _⟩
      unfold litc
      rw [← HE.out.2.2.2.1]
      simp [h0]
  case rest =>
  obtain ⟨o5, f5⟩ := hcut
  obtain ⟨w5, hw5⟩ : ∃ w5 : World, w5 = wc := ⟨_, rfl⟩
  rw [← hw5] at o5 f5 ⊢
  have hn := H3.out.2.n1
  have c1 := f5.cell H5.out.2.2.2.1 (by simpa using hn.1)
  have c2 := f5.cell H5.out.2.2.2.2 (by simpa using hn.2.2.1)
  have fo5 : Fr [Q1, Q2] wo w5 := H5.out.1.trans (f5.mono (by simp))
  have y1 := fo5.blk HKB.out.1 (by simpa using ⟨hn.1, hn.2.1⟩)
  have y2 := fo5.blk HKB.out.2 (by simpa using ⟨hn.2.2.1, hn.2.2.2.1⟩)
  have z1 := frozen_of y1 0
  have z2 := frozen_of y2 0
  have hpp2 : p1 ≠ p2 := by have := HP.out.1; have := HP.out.2.1; omega
  have HF := Lib.hid (And.intro o5 (And.intro f5 (And.intro y1 (And.intro y2 fo5))))
  clear o5 f5 hn hw5 y1 y2 fo5
  go_upto_region 6 with fail
  go_region
  all_goals go_wp2
  obtain ⟨o5, f5, y1, y2, fo5⟩ := HF.out
  have hn := H3.out.2.n1
  obtain ⟨W, hW⟩ : ∃ W, W = ((w5.setCell ⟨p1, 0, none⟩ (.slice (some ⟨Q1, 0, none⟩) 286 286)).setCell ⟨p2, 0, none⟩ (.slice (some ⟨Q2, 0, none⟩) 30 30)).drew := ⟨_, rfl⟩
  have fW : Fr [p1, p2] w5 W := by rw [hW]; exact (((Fr.refl [p1, p2] w5).setCell (by simp) _).setCell (by simp) _).drew
  have k1 : W.cell? ⟨p1, 0, none⟩ = some (.slice (some ⟨Q1, 0, none⟩) 286 286) := by
    rw [hW]
    exact (cell_of (w := World.drew _) ((setCell_other (o := 0) hpp2 _).trans (setCell_of (o := 0) y1 _)) 0).trans (by simp)
  have k2 : W.cell? ⟨p2, 0, none⟩ = some (.slice (some ⟨Q2, 0, none⟩) 30 30) := by
    rw [hW]
    exact (cell_of (w := World.drew _) (setCell_of (o := 0) ((setCell_other (o := 0) (Ne.symm hpp2) _).trans y2) _) 0).trans (by simp)
  rw [← hW]
  refine bodyPost_ret (results_cells2 (g1 := p1) (g2 := p2) (v1 := .slice (some ⟨Q1, 0, none⟩) 286 286) (v2 := .slice (some ⟨Q2, 0, none⟩) 30 30) rfl _ _ _ rfl rfl ?_ ?_) rfl ?_
  · exact run_loadVar_slice k1
  · exact run_loadVar_slice k2
  · refine ⟨Q1, Q2, rfl, o5.fr fW (by simpa using ⟨Ne.symm hn.1, Ne.symm hn.2.2.1⟩), ?_, ?_, HN.out.2.2.1, HN.out.2.2.2⟩
    · exact (H5.out.2.2.1.fr f5 (by simpa using Ne.symm hn.2.2.2.2)).fr fW (by simpa using ⟨Ne.symm hn.2.1, Ne.symm hn.2.2.2.1⟩)
    · refine ((HE.out.2.1.step fo5 fun x hx => .inr ?_).step fW fun x hx => .inr ?_)
      · have e : x = Q1 ∨ x = Q2 := by simpa using hx
        rcases e with rfl | rfl
        · exact HN.out.2.2.1
        · exact HN.out.2.2.2
      · have e : x = p1 ∨ x = p2 := by simpa using hx
        have := HP.out.1; have := HP.out.2.1; have := HW.out.2.2.2.2.2.2
        omega
end Go.Proofs.YtolkoidbkaidkaaGreat.defl
/-
  (*bits.Writer): Code, Align, Raw, Bytes.
-/
namespace Go.Proofs.YtolkoidbkaidkaaGreat.bits
open Go Go.RowKit Go.Proofs.YtolkoidbkaidkaaGreat.lib Go.Proofs.YtolkoidbkaidkaaGreat.bm

/-- What a call that writes into a writer leaves. -/
def WrPost (p : Nat) (F : List Nat) (w : World) (M L : Nat) (e : Ending) (w' : World) : Prop :=
  e = .returned (.tuple #[]) ∧ Fr F w w' ∧ ∃ F', Wr w' p F' M L ∧ ∀ y ∈ F', y ∈ F ∨ w.heap.size ≤ y
theorem put_any (p : Nat) (F : List Nat) (M L : Nat) (x : Nat) (n : Int) (w : World) (hW : Wr w p F M L) (hx : x < 4294967296) (hL : L ≤ 562949953421312) :
    Calls Tryz.prog 117 #[.pointer (some ⟨p, 0, none⟩), .int .u32 x, .int .i64 n] w (WrPost p F w (M + 2 ^ L * (x % 2 ^ (min n.toNat 32))) (L + min n.toNat 32)) :=
  (put_ok p F M L x n w hW hx hL).mono fun _ _ h => h
theorem put_int (p : Nat) (F : List Nat) (M L : Nat) (x n : Int) (w : World) (hW : Wr w p F M L) (hx0 : 0 ≤ x) (hx : x < 4294967296) (hL : L ≤ 562949953421312) :
    Calls Tryz.prog 117 #[.pointer (some ⟨p, 0, none⟩), .int .u32 x, .int .i64 n] w (WrPost p F w (M + 2 ^ L * (x.toNat % 2 ^ (min n.toNat 32))) (L + min n.toNat 32)) := by
  obtain ⟨x, rfl⟩ := Int.eq_ofNat_of_zero_le hx0
  exact put_any p F M L x n w hW (by omega) hL
theorem wr_fr {w w' : World} {p : Nat} {F S : List Nat} {M L : Nat} (h : Wr w p F M L) (hf : Fr S w w') (hn : ∀ x ∈ F, x ∉ S) : Wr w' p F M L := by
  obtain ⟨v, ⟨hr, hown, hpb, hM⟩, rfl⟩ := h
  exact ⟨v, ⟨hf.blk hr (hn p (by simp)), ownsRow_fr hown hf (fun k hk => hn k (by simp [hk])), hpb, hM⟩, rfl⟩
theorem wr_lt {w : World} {p : Nat} {F : List Nat} {M L : Nat} (h : Wr w p F M L) : ∀ x ∈ F, x < w.heap.size := by
  obtain ⟨v, ⟨hr, hown, hpb, hM⟩, rfl⟩ := h
  intro x hx
  rcases List.mem_cons.1 hx with rfl | hx
  · exact lt_of_block hr
  · exact owns_lt hown (by simpa using hx)
theorem wr_M {w : World} {p : Nat} {F : List Nat} {M L : Nat} (h : Wr w p F M L) : M < 2 ^ L := by
  obtain ⟨v, ⟨hr, hown, hpb, hM⟩, rfl⟩ := h
  exact hM

set_option maxHeartbeats 1000000 in
theorem code_any (p : Nat) (F : List Nat) (M L : Nat) (x : Nat) (n : Int) (w : World) (hW : Wr w p F M L) (hx : x < 4294967296) (hL : L ≤ 562949953421200) :
    Calls Tryz.prog 116 #[.pointer (some ⟨p, 0, none⟩), .int .u32 x, .int .i64 n] w (WrPost p F w (M + 2 ^ L * revTo x (min n.toNat 32) (min n.toNat 32)) (L + min n.toNat 32)) := by
  obtain ⟨m, hm, hm32⟩ : ∃ m : Nat, m = min n.toNat 32 ∧ m ≤ 32 := ⟨_, rfl, by omega⟩
  have Hm := Lib.hid hm
  rw [← hm]
  clear hm
  go_enter Tryz.func116, Tryz.ntmps116
  go_upto_region 0 with fail
  go_cut [6] (fun s6 wc => s6 = .int .i64 ((m : Int) - 1) ∧ w = wc)
  case first =>
    go_wp2
    all_goals (go_meet; exact ⟨int_eq (by have := Hm.out; omega), rfl⟩)
  case rest =>
  obtain ⟨rfl, rfl⟩ := hcut
  have HW := Lib.hid hW
  clear hW
  go_wp2
  go_loopg [6] m (fun k s6 wr => ∃ j F', j + k = m ∧ s6 = .int .i64 ((k : Int) - 1) ∧ Wr wr p F' (M + 2 ^ L * revTo x m j) (L + j) ∧ Fr F w wr ∧ ∀ y ∈ F', y ∈ F ∨ w.heap.size ≤ y)
  case atStart => exact ⟨0, F, by omega, rfl, by simpa [revTo] using HW.out, Fr.refl _ _, fun y hy => .inl hy⟩
  case round =>
    obtain ⟨j, F', hjk, rfl, hw1, hfr, hF⟩ := hrel
    by_cases hk : gk = 0
    · subst hk
      obtain rfl : j = m := by omega
      go_wp2
      go_end0
      exact ⟨rfl, hfr, F', hw1, hF⟩
    · obtain ⟨k, rfl⟩ : ∃ k, gk = k + 1 := ⟨gk - 1, by omega⟩
      have hk0 : (0 : Int) ≤ (((k + 1 : Nat) : Int) - 1) := by omega
      have hd : x / 2 ^ k < 4294967296 := Nat.lt_of_le_of_lt (Nat.div_le_self _ _) hx
      have hd1 : ((x : Int) / 2 ^ k) = ((x / 2 ^ k : Nat) : Int) := by rw [cast_pow, ← Int.natCast_ediv]
      have hd2 : (0 : Int) ≤ (x : Int) / 2 ^ k := by rw [hd1]; exact Int.natCast_nonneg _
      have hd3 : (x : Int) / 2 ^ k < 4294967296 := by rw [hd1]; omega
      have Hd1 := Lib.hid hd1
      clear hd1
      have hL2 : L + j ≤ 562949953421312 := by omega
      go_wp2_with (go_at_call 117; refine (put_int p F' _ (L + j) _ _ _ hw1 hd2 hd3 hL2).mono ?_; rintro e w' ⟨rfl, fr1, F1, hw2, hF1⟩)
      go_roundg k
      case measure => omega
      case rel =>
        have e1 : j = m - 1 - k := by omega
        have hm1 : m - 1 - j = k := by omega
        refine ⟨j + 1, F1, by omega, int_eq (by omega), ?_, hfr.step fr1 hF, fun y hy => ?_⟩
        · have e3 : ((x : Int) / 2 ^ k).toNat = x / 2 ^ k := by rw [Hd1.out, Int.toNat_natCast]
          have hw3 : Wr w' p F1 (M + 2 ^ L * revTo x m j + 2 ^ (L + j) * (x / 2 ^ k % 2)) (L + j + 1) := by simpa [e3] using hw2
          have e2 := code_more M L x m j
          rw [hm1] at e2
          rw [← e2]
          exact hw3
        · rcases hF1 y hy with h | h
          · exact hF y h
          · right; have := hfr.size; omega

set_option maxHeartbeats 400000 in
theorem walign_any (p : Nat) (F : List Nat) (M L : Nat) (w : World) (hW : Wr w p F M L) (hL : L ≤ 562949953421200) :
    Calls Tryz.prog 122 #[.pointer (some ⟨p, 0, none⟩)] w (WrPost p F w M ((L + 7) / 8 * 8)) := by
  have HW := Lib.hid hW
  obtain ⟨v, ⟨hr, hown, hpb, hM⟩, rfl⟩ := hW
  have c2 := cell_of hr 2
  simp only [List.getElem?_toArray, List.getElem?_cons_zero, List.getElem?_cons_succ] at c2
  clear hr hown
  by_cases h0 : L % 8 = 0
  · have h1 : decide ((0 : Int) < ((L % 8 : Nat) : Int)) = false := by simp; omega
    go_enter Tryz.func122, Tryz.ntmps122
    go_wp2
    go_end0
    refine ⟨rfl, Fr.refl _ _, _, ?_, fun y hy => .inl hy⟩
    rw [show (L + 7) / 8 * 8 = L from by omega]
    exact HW.out
  · have h1 : decide ((0 : Int) < ((L % 8 : Nat) : Int)) = true := by simp; omega
    have hL2 : L ≤ 562949953421312 := by omega
    go_enter Tryz.func122, Tryz.ntmps122
    go_wp2_with (go_at_call 117; refine (put_int p _ M L _ _ _ HW.out (by omega) (by omega) hL2).mono ?_; rintro e w' ⟨rfl, fr1, F1, hw2, hF1⟩)
    go_end0
    refine ⟨rfl, fr1, F1, ?_, hF1⟩
    have e1 : (8 - (L : Int) % 8).toNat = 8 - L % 8 := by omega
    have e2 : L + min (8 - L % 8) 32 = (L + 7) / 8 * 8 := by omega
    rw [← e2]
    simpa [e1] using hw2

set_option maxHeartbeats 1000000 in
theorem raw_any (p : Nat) (F : List Nat) (M L : Nat) (ao : Option Addr) (cap : Nat) (bs : List UInt8) (w : World) (hW : Wr w p F M L) (hcs : Cs w ao (bs.map bv)) (hcap : bs.length ≤ cap) (hnone : ao = none → cap = 0)
    (hap : bs ≠ [] → ∀ x ∈ blk ao, x ∉ F) (hL : L + 8 * bs.length ≤ 562949953421200) :
    Calls Tryz.prog 121 #[.pointer (some ⟨p, 0, none⟩), .slice ao bs.length cap] w (WrPost p F w (M + 2 ^ ((L + 7) / 8 * 8) * num bs) ((L + 7) / 8 * 8 + 8 * bs.length)) := by
  have hL1 : L ≤ 562949953421200 := by omega
  have hal := walign_any p F M L w hW hL1
  obtain ⟨q, hq, hqL⟩ : ∃ q, (L + 7) / 8 = q ∧ 8 * q ≤ L + 7 := ⟨_, rfl, by omega⟩
  rw [hq] at hal ⊢
  have Hal := Lib.hid hal
  clear hal hq
  go_enter Tryz.func121, Tryz.ntmps121
  go_upto_region 0 with fail
  go_cut [] (fun wc => Fr F w wc ∧ ∃ F', Wr wc p F' M (q * 8) ∧ ∀ y ∈ F', y ∈ F ∨ w.heap.size ≤ y)
  case first =>
    go_wp2_with (go_at_call 122; refine Hal.out.mono ?_; rintro e w' ⟨rfl, fr1, hw1⟩)
    go_meet
    exact ⟨fr1, hw1⟩
  case rest =>
  obtain ⟨fr1, F', hW1, hF'⟩ := hcut
  obtain ⟨v, ⟨hr, hown, hpb, hM⟩, rfl⟩ := hW1
  rw [show q * 8 / 8 = q from by omega] at hown hr
  rw [show q * 8 % 8 = 0 from by omega] at hr
  have hM8 : M < 2 ^ (8 * q) := by rwa [Nat.mul_comm]
  have hcs1 : Cs wc ao (bs.map bv) := by
    by_cases hbs : bs = []
    · exact .inl (by rw [hbs]; rfl)
    · exact hcs.fr fr1 (hap hbs)
  have c0 := cell_of hr 0
  have f0 := frozen_of hr 0
  simp only [List.getElem?_toArray, List.getElem?_cons_zero] at c0
  have Hr := Lib.hid hr
  clear hr
  go_wp2_with (refine wpList_append sliceU8 rfl _ _ rfl v q _ v.ownBlock.toList rfl rfl hown ao bs.length cap (bs.map bv) rfl hcap hnone hcs1 (by simp) (bv_one bs) (by omega) (by unfold maxLen; omega) ?_; intro ao1 cap1 w1 A1; have hb1 := A1.fr.blk Hr.out (by simpa using hpb); have d1 := cell_of hb1 0; have g1 := frozen_of hb1 0; simp only [List.getElem?_toArray, List.getElem?_cons_zero] at d1)
  go_end0
  have hne : (Value.slice ao1 (q + bs.length) cap1).ownBlock ≠ some p := by
    intro h
    have h2 := lt_of_block Hr.out
    rcases A1.at_ p (by rw [← own_blk ao1 (q + bs.length) cap1, h]; simp) with h1 | h1
    · exact hpb (by simpa using h1)
    · omega
  have fr2 : Fr F w w1 := fr1.step A1.fr (fun k hk => hF' k (by simp [Option.mem_toList.1 hk]))
  refine ⟨rfl, ?_, _, ⟨.slice ao1 (q + bs.length) cap1, ⟨?_, ?_, hne, ?_⟩, rfl⟩, ?_⟩
  · exact fr2.setCell (by have := hF' p (by simp); simpa using this) _
  · refine (setCell_of hb1 _).trans ?_
    have hd := raw_lt q M bs hM8
    rw [show q * 8 + 8 * bs.length = 8 * (q + bs.length) from by omega, Nat.mul_div_cancel_left _ (by omega : 0 < 8), Nat.mul_mod_right, show q * 8 = 8 * q from by omega,
      Nat.div_eq_of_lt hM8, Nat.div_eq_of_lt (by rw [Nat.mul_add]; exact hd)]
    rfl
  · rw [show q * 8 + 8 * bs.length = 8 * (q + bs.length) from by omega, Nat.mul_div_cancel_left _ (by omega : 0 < 8), show q * 8 = 8 * q from by omega, raw_dig q M bs hM8, List.map_append]
    exact ownsRow_setCell_other A1.own hne _
  · rw [show q * 8 = 8 * q from by omega]
    exact raw_lt q M bs hM8
  · intro y hy
    rcases List.mem_cons.1 hy with rfl | hy
    · exact hF' _ (by simp)
    · rw [own_blk] at hy
      rcases A1.at_ y hy with h | h
      · exact hF' y (by simp [Option.mem_toList.1 h])
      · right
        have := fr1.size
        omega

def BytesPost (M L : Nat) (w : World) (e : Ending) (w' : World) : Prop :=
  ∃ ao, e = .returned (.slice ao ((L + 7) / 8) ((L + 7) / 8)) ∧ Fresh w' w.heap.size 5 ao ((dig ((L + 7) / 8) M).map bv) ∧ (ao = none → (L + 7) / 8 = 0) ∧ (∀ x ∈ blk ao, w.heap.size ≤ x) ∧ Fr [] w w'
set_option maxHeartbeats 1000000 in
theorem wbytes_any (p : Nat) (F : List Nat) (M L : Nat) (w : World) (hW : Wr w p F M L) (hL : L ≤ 562949953421200) :
    Calls Tryz.prog 31 #[.pointer (some ⟨p, 0, none⟩)] w (BytesPost M L w) := by
  obtain ⟨v, ⟨hr, hown, hpb, hM⟩, rfl⟩ := hW
  obtain ⟨ao, cap, rfl, hc1, hc2, hc3⟩ := owns_form hown
  have hcs := cs_of_owns hown
  obtain ⟨q, hq⟩ : ∃ q, L / 8 = q := ⟨_, rfl⟩
  rw [hq] at hr hown hcs hpb hc1
  have hlen : ((dig q M).map bv).length = q * 1 := by simp [dig_length]
  have c0 := cell_of hr 0
  have c1 := cell_of hr 1
  have c2 := cell_of hr 2
  simp only [List.getElem?_toArray, List.getElem?_cons_zero, List.getElem?_cons_succ] at c0 c1 c2
  have Hr := Lib.hid hr
  clear hr
  have Hq := Lib.hid hq
  have hq8 : 8 * q ≤ L := by omega
  clear hq
  go_enter Tryz.func31, Tryz.ntmps31
  go_upto_region 1 with fail
  go_cut [3] (fun s3 wc => ∃ ao1 cap1, s3 = .slice ao1 q cap1 ∧ Appended w wc 5 1 [] ao1 q cap1 ((dig q M).map bv))
  case first =>
    go_wp2_with (refine wpList_append sliceU8 rfl _ _ rfl (.slice none 0 0) 0 [] [] rfl rfl (World.ownsRow_nil _ _ _ _) ao q cap _ rfl hc1 hc3 hcs hlen (bv_one _) (by omega) (by unfold maxLen; omega) ?_; intro ao1 cap1 w1 A1; simp only [Nat.zero_add, List.nil_append] at A1)
    go_meet
    exact ⟨ao1, cap1, rfl, A1⟩
  case rest =>
  obtain ⟨ao1, cap1, rfl, A1⟩ := hcut
  have hb1 := A1.fr.blk Hr.out (by simp)
  have d1 := cell_of hb1 1
  have d2 := cell_of hb1 2
  simp only [List.getElem?_toArray, List.getElem?_cons_zero, List.getElem?_cons_succ] at d1 d2
  have Hb1 := Lib.hid hb1
  clear hb1
  by_cases h0 : L % 8 = 0
  · have h1 : decide ((0 : Int) < ((L % 8 : Nat) : Int)) = false := by simp; omega
    have hle := A1.le
    go_wp2
    all_goals go_ret
    all_goals
      have e : (L + 7) / 8 = q := by have := Hq.out; omega
      have hb : ∀ x ∈ blk ao1, w.heap.size ≤ x := fun x hx => by have := A1.at_ x hx; simp at this; omega
      unfold BytesPost
      rw [e]
      exact ⟨ao1, by first | rfl | simp, fresh_of_cells A1.own hb, fun h => by have := A1.nil h; omega, hb, A1.fr⟩
  · have h1 : decide ((0 : Int) < ((L % 8 : Nat) : Int)) = true := by simp; omega
    have hbv : Value.int .u8 (IntKind.u8.wrap ((M / 2 ^ (8 * q) : Nat) : Int)) = bv (UInt8.ofNat (M / 2 ^ (8 * q))) := bv_ofNat _
    obtain ⟨W, hW⟩ : ∃ W : Nat, W = M / 2 ^ (8 * q) := ⟨_, rfl⟩
    rw [← hW] at d1 hbv
    rw [IntKind.wrap_u8'] at hbv
    have HW := Lib.hid hW
    have Hbv := Lib.hid hbv
    clear hW hbv
    have hb : ∀ x ∈ blk ao1, w.heap.size ≤ x := fun x hx => by have := A1.at_ x hx; simp at this; omega
    have Hb := Lib.hid hb
    clear hb c1
    go_upto_region 3 with fail
    go_cut [3] (fun s3 wz => ∃ ao2 cap2, s3 = .slice ao2 (q + 1) cap2 ∧ wz.ownsRow 0 5 1 (.slice ao2 (q + 1) cap2) (q + 1) ((dig (q + 1) M).map bv) ∧ (∀ x ∈ blk ao2, w.heap.size ≤ x) ∧ Fr [] w wz ∧ q + 1 ≤ cap2)
    case first =>
      go_wp2_with (refine wpList_append sliceU8 rfl _ _ rfl (.slice ao1 q cap1) q _ (blk ao1) rfl (own_blk _ _ _) (A1.own.alloc _) _ 1 1 _ rfl (by decide) (by simp) (by exact cs_one _ _ _ _ (alloc_at _ _)) (by rfl) (by simp [Value.oneCell']) (by omega) (by unfold maxLen; omega) ?_; intro ao2 cap2 w2 A2)
      go_meet
      have hsz := A1.fr.size
      refine ⟨ao2, cap2, rfl, ?_, fun x hx => ?_, ((A1.fr.alloc _).step A2.fr fun x hx => ?_), A2.le⟩
      · have h := A2.own
        rw [Hbv.out, HW.out] at h
        rw [dig_snoc, List.map_append]
        exact h
      · rcases A2.at_ x hx with h | h
        · exact Hb.out x h
        · simp at h; omega
      · right; exact Hb.out x hx
    case rest =>
    obtain ⟨ao2, cap2, rfl, own2, hb2, fr2, hle⟩ := hcut
    have Hb2 := Lib.hid hb2
    clear hb2
    go_wp2
    all_goals go_ret
    all_goals
      have e : (L + 7) / 8 = q + 1 := by have := Hq.out; omega
      unfold BytesPost
      rw [e]
      refine ⟨ao2, by first | rfl | simp, fresh_of_cells own2 Hb2.out, fun h => ?_, Hb2.out, fr2⟩
      rcases own2.2 with ⟨h3, _⟩ | ⟨g, cap, cur, h3, _⟩
      · simp at h3
      · subst h; simp at h3
end Go.Proofs.YtolkoidbkaidkaaGreat.bits
/-
  A writer of bits, by the list of its bits.
-/
namespace Go.Proofs.YtolkoidbkaidkaaGreat.wb
open Go Go.RowKit Go.Proofs.YtolkoidbkaidkaaGreat.lib Go.Proofs.YtolkoidbkaidkaaGreat.bm Go.Proofs.YtolkoidbkaidkaaGreat.bl

def Wb (w : World) (p : Nat) (F : List Nat) (l : List Bool) : Prop := bits.Wr w p F (bval l) l.length
def WbPost (p : Nat) (F : List Nat) (w : World) (l : List Bool) (e : Ending) (w' : World) : Prop :=
  e = .returned (.tuple #[]) ∧ Fr F w w' ∧ ∃ F', Wb w' p F' l ∧ ∀ y ∈ F', y ∈ F ∨ w.heap.size ≤ y
theorem wb_fr {w w' : World} {p : Nat} {F S : List Nat} {l : List Bool} (h : Wb w p F l) (f : Fr S w w') (hn : ∀ x ∈ F, x ∉ S) : Wb w' p F l := bits.wr_fr h f hn
theorem wb_lt {w : World} {p : Nat} {F : List Nat} {l : List Bool} (h : Wb w p F l) : ∀ x ∈ F, x < w.heap.size := bits.wr_lt h
theorem put_b (p : Nat) (F : List Nat) (l : List Bool) (x : Nat) (n : Int) (w : World) (h : Wb w p F l) (hx : x < 4294967296) (hL : l.length ≤ 562949953421312) :
    Calls Tryz.prog 117 #[.pointer (some ⟨p, 0, none⟩), .int .u32 x, .int .i64 n] w (WbPost p F w (l ++ lsb (min n.toNat 32) x)) := by
  have := bits.put_any p F (bval l) l.length x n w h hx hL
  refine this.mono fun e w' ⟨h1, h2, F', h3, h4⟩ => ⟨h1, h2, F', ?_, h4⟩
  unfold Wb
  rw [bval_append, bval_lsb, List.length_append, lsb_length]
  exact h3
theorem code_b (p : Nat) (F : List Nat) (l : List Bool) (x : Nat) (n : Int) (w : World) (h : Wb w p F l) (hx : x < 4294967296) (hL : l.length ≤ 562949953421200) :
    Calls Tryz.prog 116 #[.pointer (some ⟨p, 0, none⟩), .int .u32 x, .int .i64 n] w (WbPost p F w (l ++ msb (min n.toNat 32) x)) := by
  have := bits.code_any p F (bval l) l.length x n w h hx hL
  refine this.mono fun e w' ⟨h1, h2, F', h3, h4⟩ => ⟨h1, h2, F', ?_, h4⟩
  unfold Wb
  rw [bval_append, bval_msb, List.length_append, msb_length]
  exact h3
theorem raw_b (p : Nat) (F : List Nat) (l : List Bool) (ao : Option Addr) (cap : Nat) (bs : List UInt8) (w : World) (h : Wb w p F l) (hr : lib.Rd w ao cap bs) (hap : bs ≠ [] → ∀ x ∈ blk ao, x ∉ F)
    (hL : l.length + 8 * bs.length ≤ 562949953421200) :
    Calls Tryz.prog 121 #[.pointer (some ⟨p, 0, none⟩), .slice ao bs.length cap] w (WbPost p F w (padTo8 l ++ bytesBits bs)) := by
  have := bits.raw_any p F (bval l) l.length ao cap bs w h hr.cs hr.le hr.nil hap hL
  refine this.mono fun e w' ⟨h1, h2, F', h3, h4⟩ => ⟨h1, h2, F', ?_, h4⟩
  unfold Wb
  rw [bval_append, bval_pad, bval_bytes, List.length_append, padTo8_length, bytesBits_length]
  exact h3
theorem bytes_b (p : Nat) (F : List Nat) (l : List Bool) (w : World) (h : Wb w p F l) (h0 : 0 < l.length) (hL : l.length ≤ 562949953421200) :
    Calls Tryz.prog 31 #[.pointer (some ⟨p, 0, none⟩)] w (NewBytes w (bytesOf l)) := by
  have := bits.wbytes_any p F (bval l) l.length w h hL
  refine this.mono fun e w' ⟨ao, h1, h2, h3, h4, h5⟩ => ⟨ao, by rw [bytesOf_length]; exact h1, ⟨h2.cs, Nat.le_refl _, by rw [bytesOf_length]; unfold maxLen; omega, fun hn => by rw [bytesOf_length]; exact h3 hn⟩, fun x hx => ⟨h4 x hx, ?_⟩, h5⟩
  rcases h2 with h2 | ⟨g, cur, rfl, _, hg, _⟩
  · have := congrArg List.length h2
    rw [List.length_map, dig_length, List.length_nil] at this
    omega
  · simp [blk] at hx
    rw [hx]
    exact lt_of_block hg
end Go.Proofs.YtolkoidbkaidkaaGreat.wb
/-
  deflate: head, stored.write.
-/
namespace Go.Proofs.YtolkoidbkaidkaaGreat.defl
open Go Go.RowKit Go.Proofs.YtolkoidbkaidkaaGreat.lib Go.Proofs.YtolkoidbkaidkaaGreat.bm Go.Proofs.YtolkoidbkaidkaaGreat.bl Go.Proofs.YtolkoidbkaidkaaGreat.wb

theorem lsb_one (b : Bool) : lsb 1 (if b then 1 else 0) = [b] := by cases b <;> rfl
set_option maxRecDepth 100000 in
set_option maxHeartbeats 1000000 in
theorem head_any (p : Nat) (F : List Nat) (l : List Bool) (last : Bool) (kind : Nat) (w : World) (h : Wb w p F l) (hk : kind < 4294967296) (hL : l.length ≤ 562949953421000) :
    Calls Tryz.prog 113 #[.pointer (some ⟨p, 0, none⟩), .bool last, .int .u32 kind] w (WbPost p F w (l ++ last :: lsb 2 kind)) := by
  have h1 := put_b p F l (if last then 1 else 0) 1 w h (by split <;> decide) (by omega)
  have h2 := fun w F h => put_b p F (l ++ [last]) kind 2 w h hk (by rw [List.length_append, List.length_singleton]; omega)
  have e1 : lsb (min (1 : Int).toNat 32) (if last then 1 else 0) = [last] := lsb_one last
  have e2 : lsb (min (2 : Int).toNat 32) kind = lsb 2 kind := rfl
  rw [e1] at h1
  simp only [e2, List.append_assoc, List.singleton_append] at h2
  unfold WbPost at h1 h2
  have H := Lib.hid h2
  clear h2 e1 e2 h
  cases last with
  | true =>
    have H1 := Lib.hid h1
    clear h1
    go_enter Tryz.func113, Tryz.ntmps113
    go_upto_region 4 with (go_at_call 117; refine H1.out.mono ?_; rintro e w1 ⟨rfl, f1, F1, W1, n1⟩)
    have H2 := Lib.hid (And.intro f1 (And.intro n1 (H.out w1 F1 W1)))
    clear f1 n1 W1
    go_wp2_with (go_at_call 117; refine H2.out.2.2.mono ?_; rintro e w2 ⟨rfl, f2, F2, W2, n2⟩)
    go_end0
    unfold WbPost
    exact ⟨rfl, H2.out.1.step f2 (fun y hy => by rcases H2.out.2.1 y hy with k | k; exact .inl k; exact .inr k), F2, W2, fun y hy => by rcases n2 y hy with k | k; exact H2.out.2.1 y k; exact .inr (Nat.le_trans H2.out.1.size k)⟩
  | false =>
    have H1 := Lib.hid h1
    clear h1
    go_enter Tryz.func113, Tryz.ntmps113
    go_upto_region 4 with (go_at_call 117; refine H1.out.mono ?_; rintro e w1 ⟨rfl, f1, F1, W1, n1⟩)
    have H2 := Lib.hid (And.intro f1 (And.intro n1 (H.out w1 F1 W1)))
    clear f1 n1 W1
    go_wp2_with (go_at_call 117; refine H2.out.2.2.mono ?_; rintro e w2 ⟨rfl, f2, F2, W2, n2⟩)
    go_end0
    unfold WbPost
    exact ⟨rfl, H2.out.1.step f2 (fun y hy => by rcases H2.out.2.1 y hy with k | k; exact .inl k; exact .inr k), F2, W2, fun y hy => by rcases n2 y hy with k | k; exact H2.out.2.1 y k; exact .inr (Nat.le_trans H2.out.1.size k)⟩
/-- A stored block's length, and what is left of it in the other bits. -/
def shead (n : Nat) : List UInt8 := [UInt8.ofNat n, UInt8.ofNat (n / 256), UInt8.ofNat (255 - n % 256), UInt8.ofNat (255 - n / 256 % 256)]
theorem xor255 (x : Nat) (h : x < 256) : bits .xor .u8 IntKind.u8.max ((x : Nat) : Int) = ((255 - x : Nat) : Int) := by
  have h1 : ∀ x : Fin 256, bits .xor .u8 IntKind.u8.max (x.1 : Int) = ((255 - x.1 : Nat) : Int) := by decide +kernel
  exact h1 ⟨x, h⟩
theorem shead_map (n c1 c2 : Nat) (h : n ≤ 65535) (h1 : c1 = 255 - n % 256) (h2 : c2 = 255 - n / 256 % 256) : (shead n).map bv = [.int .u8 ((n : Int) % 256), .int .u8 ((n : Int) / 256), .int .u8 (c1 : Nat), .int .u8 (c2 : Nat)] := by
  simp only [shead, List.map_cons, List.map_nil, bv, UInt8.toNat_ofNat']
  refine List.cons_eq_cons.2 ⟨int_eq (by omega), List.cons_eq_cons.2 ⟨int_eq (by omega), List.cons_eq_cons.2 ⟨int_eq (by omega), List.cons_eq_cons.2 ⟨int_eq (by omega), rfl⟩⟩⟩⟩
def storedBits (l : List Bool) (last : Bool) (b : List UInt8) : List Bool := padTo8 (l ++ last :: lsb 2 0) ++ bytesBits (shead b.length) ++ bytesBits b
theorem storedBits_length (l : List Bool) (last : Bool) (b : List UInt8) : (storedBits l last b).length = (l.length + 10) / 8 * 8 + 32 + 8 * b.length := by
  unfold storedBits
  rw [List.length_append, List.length_append, padTo8_length, bytesBits_length, bytesBits_length, List.length_append, List.length_cons, lsb_length]
  show (l.length + (2 + 1) + 7) / 8 * 8 + 8 * 4 + 8 * b.length = _
  omega
set_option maxRecDepth 100000 in
set_option maxHeartbeats 1000000 in
theorem stored_write (p : Nat) (F : List Nat) (l : List Bool) (last : Bool) (a : Option Addr) (cap : Nat) (b : List UInt8) (w : World) (h : Wb w p F l) (hr : lib.Rd w a cap b) (hap : b ≠ [] → ∀ x ∈ blk a, x ∉ F)
    (hL : l.length ≤ 549755813888) (hb : b.length ≤ 65535) :
    Calls Tryz.prog 120 #[.agg #[.slice a b.length cap], .pointer (some ⟨p, 0, none⟩), .bool last] w (WbPost p F w (storedBits l last b)) := by
  obtain ⟨n, hn⟩ : ∃ n, n = b.length := ⟨_, rfl⟩
  have hle := hr.le
  rw [← hn] at hle hb ⊢
  have f0 : Fr [] w (w.alloc (.cells #[.slice a n cap] 69)) := (Fr.refl [] w).alloc _
  have hz0 : (w.alloc (.cells #[.slice a n cap] 69)).heap.size = w.heap.size + 1 := World.size_alloc _ _
  have hbx := alloc_at w (.cells #[.slice a n cap] 69)
  have hh := head_any p F l last 0 _ (wb_fr h f0 (by simp)) (by decide) (by omega)
  unfold WbPost at hh
  have hlt := wb_lt h
  have H := Lib.hid (And.intro hh (And.intro f0 (And.intro hbx (And.intro (And.intro hr hap) (And.intro hn (And.intro hlt hz0))))))
  clear hh f0 hbx hr hap hn hlt hz0 h
  go_enter Tryz.func120, Tryz.ntmps120
  go_upto_region 2 with (go_at_call 113; refine H.out.1.mono ?_; rintro e w1 ⟨rfl, f1, F1, W1, n1⟩)
  obtain ⟨B, hB⟩ : ∃ B, B = w.heap.size := ⟨_, rfl⟩
  have hBF : B ∉ F := fun hm => by have := H.out.2.2.2.2.2.1 B hm; omega
  have hb1 := f1.blk H.out.2.2.1 (by rw [← hB]; exact hBF)
  rw [← hB] at hb1 ⊢
  have cb1 := cell_of hb1 0
  simp only [List.getElem?_toArray, List.getElem?_cons_zero] at cb1
  have H1 := Lib.hid (And.intro f1 (And.intro n1 (And.intro W1 (And.intro hb1 hB))))
  clear f1 n1 W1 hb1 hB
  obtain ⟨c1, hc1⟩ : ∃ c, c = 255 - n % 256 := ⟨_, rfl⟩
  obtain ⟨c2, hc2⟩ : ∃ c, c = 255 - n / 256 % 256 := ⟨_, rfl⟩
  have x1 : bits .xor .u8 IntKind.u8.max ((n : Int) % 256) = (c1 : Int) := by
    have := xor255 (n % 256) (by omega)
    rw [hc1, ← this]
    rfl
  have x2 : bits .xor .u8 IntKind.u8.max ((n : Int) / 256) = (c2 : Int) := by
    have := xor255 (n / 256) (by omega)
    rw [hc2, show n / 256 % 256 = n / 256 from by omega, ← this]
    rfl
  have hm := shead_map n c1 c2 hb hc1 hc2
  have hr4 : lib.Rd (w1.alloc (.cells #[.int .u8 ((n : Int) % 256), .int .u8 ((n : Int) / 256), .int .u8 (c1 : Nat), .int .u8 (c2 : Nat)] 5)) (some ⟨w1.heap.size, 0, none⟩) 4 (shead n) :=
    ⟨by rw [hm]; exact cs_new w1 _ _ _, Nat.le_refl _, by decide, fun h => by cases h⟩
  have f2 : Fr [] w1 (w1.alloc (.cells #[.int .u8 ((n : Int) % 256), .int .u8 ((n : Int) / 256), .int .u8 (c1 : Nat), .int .u8 (c2 : Nat)] 5)) := (Fr.refl [] w1).alloc _
  have hlen : (l ++ last :: lsb 2 0).length = l.length + 3 := by rw [List.length_append, List.length_cons, lsb_length]
  have hraw := raw_b p F1 (l ++ last :: lsb 2 0) _ 4 (shead n) _ (wb_fr H1.out.2.2.1 f2 (by simp)) hr4 (fun _ x hx hm => by have := wb_lt H1.out.2.2.1 x hm; simp [blk] at hx; omega) (by rw [hlen]; show _ + 8 * 4 ≤ _; omega)
  unfold WbPost at hraw
  have H2 := Lib.hid (And.intro hraw (And.intro f2 hlen))
  clear hc1 hc2 hm hr4 f2 hraw hlen
  go_upto_region 4 with (go_at_call 121; refine H2.out.1.mono ?_; rintro e w3 ⟨rfl, f3, F3, W3, n3⟩)
  have fAll : Fr F w w3 := ((H.out.2.1.mono (by simp)).step H1.out.1 (fun y hy => .inl hy)).step (H2.out.2.1.mono (T := F1) (by simp) |>.trans f3) (fun y hy => by
    rcases H1.out.2.1 y hy with k | k
    · exact .inl k
    · right
      have := H.out.2.2.2.2.2.2
      omega)
  have hBF : B ∉ F1 := fun hm => by
    have k1 := H1.out.2.2.2.2
    rcases H1.out.2.1 B hm with k | k
    · have := H.out.2.2.2.2.2.1 B k; omega
    · have := H.out.2.2.2.2.2.2; omega
  have hb3 := f3.blk (H2.out.2.1.blk H1.out.2.2.2.1 (by simp)) hBF
  have cb3 := cell_of hb3 0
  simp only [List.getElem?_toArray, List.getElem?_cons_zero] at cb3
  have hnF : ∀ y ∈ F3, y ∈ F ∨ w.heap.size ≤ y := fun y hy => by
    have k0 := H.out.2.2.2.2.2.2
    have k3 := H1.out.1.size
    have k4 := H2.out.2.1.size
    rcases n3 y hy with k | k
    · rcases H1.out.2.1 y k with k2 | k2
      · exact .inl k2
      · right; omega
    · right; omega
  have hrd3 : lib.Rd w3 a cap b := rd_frE H.out.2.2.2.1.1 fAll H.out.2.2.2.1.2
  have hraw := raw_b p F3 _ a cap b w3 W3 hrd3 (fun hne x hx hm => by
    rcases hnF x hm with k | k
    · exact H.out.2.2.2.1.2 hne x hx k
    · have := rd_lt H.out.2.2.2.1.1 hne x hx; omega) (by
      rw [List.length_append, padTo8_length, bytesBits_length, H2.out.2.2, ← H.out.2.2.2.2.1]
      show (l.length + 3 + 7) / 8 * 8 + 8 * 4 + 8 * n ≤ _
      omega)
  have hp8 : padTo8 (padTo8 (l ++ last :: lsb 2 0) ++ bytesBits (shead n)) ++ bytesBits b = storedBits l last b := by
    rw [padTo8_of _ (by rw [List.length_append, padTo8_length, bytesBits_length]; omega), storedBits, ← H.out.2.2.2.2.1]
  rw [hp8, ← H.out.2.2.2.2.1] at hraw
  unfold WbPost at hraw
  have H3 := Lib.hid (And.intro hraw (And.intro fAll hnF))
  clear hraw fAll hnF hrd3 hp8 f3 n3 W3 hb3 cb1
  go_wp2_with (go_at_call 121; refine H3.out.1.mono ?_; rintro e w4 ⟨rfl, f4, F4, W4, n4⟩)
  go_end0
  unfold WbPost
  refine ⟨rfl, H3.out.2.1.step f4 H3.out.2.2, F4, W4, fun y hy => ?_⟩
  rcases n4 y hy with k | k
  · exact H3.out.2.2 y k
  · exact .inr (Nat.le_trans H3.out.2.1.size k)
end Go.Proofs.YtolkoidbkaidkaaGreat.defl
/-
  A slice of slices of bytes among a law's arguments, as a walk is told of it.
-/
namespace Go.Proofs.YtolkoidbkaidkaaGreat.lib
open Go Go.RowKit Go.ChangeShapes Go.WideShapes

/-- One row: where it lies, its capacity, its bytes. -/
structure Rv where
  ao : Option Addr
  cap : Nat
  bs : List UInt8
def Rv.val (r : Rv) : Value := .slice r.ao r.bs.length r.cap
/-- What a walk is told of rows that came in. -/
structure RowsOf (w : World) (a : Option Addr) (cap : Nat) (l : List Rv) : Prop where
  cs : Cs w a (l.map Rv.val)
  le : l.length ≤ cap
  max : cap ≤ maxLen
  nil : a = none → cap = 0
  row : ∀ r ∈ l, Rd w r.ao r.cap r.bs
theorem RowsOf.fr {w w' : World} {a : Option Addr} {cap : Nat} {l : List Rv} (h : RowsOf w a cap l) (f : Fr [] w w') : RowsOf w' a cap l := ⟨h.cs.fr f (by simp), h.le, h.max, h.nil, fun r hr => (h.row r hr).fr f⟩
theorem RowsOf.at {w : World} {a : Option Addr} {cap : Nat} {l : List Rv} (h : RowsOf w a cap l) {i : Nat} (hi : i < l.length) : ∃ g o, a = some ⟨g, o, none⟩ ∧ w.cell? ⟨g, o + i, none⟩ = some (.slice l[i].ao l[i].bs.length l[i].cap) ∧ Rd w l[i].ao l[i].cap l[i].bs := by
  obtain ⟨g, o, rfl, hc⟩ := h.cs.at (by simp; omega)
  exact ⟨g, o, rfl, hc i _ (by simp [hi, Rv.val]), h.row _ (List.getElem_mem hi)⟩
theorem exists_list {α : Type} {P : Nat → α → Prop} : ∀ (n : Nat), (∀ i, i < n → ∃ x, P i x) → ∃ l : List α, l.length = n ∧ ∀ (i : Nat) (h : i < l.length), P i l[i]
  | 0, _ => ⟨[], rfl, fun i h => by cases h⟩
  | n + 1, h => by
    obtain ⟨l, h1, h2⟩ := exists_list n fun i hi => h i (by omega)
    obtain ⟨x, hx⟩ := h n (by omega)
    refine ⟨l ++ [x], by simp [h1], fun i hi => ?_⟩
    by_cases hl : i < l.length
    · rw [List.getElem_append_left hl]; exact h2 i hl
    · simp at hi
      obtain rfl : i = l.length := by omega
      simp
      rw [h1]
      exact hx
theorem rows_arg {P : Program} {H : Type} {enc : TypeId × Value → H} {w : World} {t e u : TypeId} {a : Option Addr} {len cap : Nat} {d : DataW H} {p : List MemPlace} (ht : P.underlying t = some (.slice e)) (he : P.underlying e = some (.slice u)) (hu : P.underlying u = some (.int .u8))
    (hc : P.cellsOf e = 1) (hc1 : P.cellsOf u = 1) (hb1 : P.bytesOf u = 1)
    (h : DataW.Trod enc P w 0 (fun _ => true) true t (.slice a len cap) d p) (hL : Light P t d) : ∃ l : List Rv, l.length = len ∧ RowsOf w a cap l ∧ len * P.bytesOf e ≤ 140737488351232 := by
  obtain ⟨h1, h2, h4, h6, h5, h3⟩ := slice_arg ht hc (by decide) h hL
  rcases h3 with rfl | ⟨g, o, rfl, h3⟩
  · exact ⟨[], rfl, ⟨.inl rfl, Nat.zero_le _, h2, h4, by simp⟩, h6⟩
  · obtain ⟨l, hl, hls⟩ := exists_list (P := fun i (x : Rv) => w.cell? ⟨g, o + i, none⟩ = some x.val ∧ Rd w x.ao x.cap x.bs) len fun i hi => by
      obtain ⟨cs, y, n, hl, hc, ht, hLy, hBy⟩ := h3 i hi
      obtain ⟨ad, dl, dc, bs, rfl, hB, _⟩ := bytes_cell he hu hc1 hb1 ht hLy
      obtain rfl := hB.length
      have := hc 0 _ rfl
      rw [Nat.mul_one, Nat.add_zero] at this
      exact ⟨⟨ad, dc, bs⟩, this, .of_arg hB⟩
    refine ⟨l, hl, ⟨.inr ⟨g, o, rfl, fun j v hv => ?_⟩, by omega, h2, h4, fun x hx => ?_⟩, h6⟩
    · obtain ⟨hj, rfl⟩ := List.getElem?_eq_some_iff.1 hv
      rw [List.length_map] at hj
      rw [List.getElem_map]
      exact (hls j hj).1
    · obtain ⟨i, hi, rfl⟩ := List.getElem_of_mem hx
      exact (hls i hi).2
end Go.Proofs.YtolkoidbkaidkaaGreat.lib
/-
  deflate: written, over stored blocks.
-/
namespace Go.Proofs.YtolkoidbkaidkaaGreat.defl
open Go Go.RowKit Go.Proofs.YtolkoidbkaidkaaGreat.lib Go.Proofs.YtolkoidbkaidkaaGreat.bm Go.Proofs.YtolkoidbkaidkaaGreat.bl Go.Proofs.YtolkoidbkaidkaaGreat.wb

def sval (r : Rv) : Value := .iface 69 (.agg #[.slice r.ao r.bs.length r.cap])
/-- What stored blocks become, one behind the other. -/
def storedAll (l : List Bool) : List (List UInt8) → List Bool
  | [] => l
  | b :: t => storedAll (storedBits l (t.isEmpty) b) t
theorem storedAll_le : ∀ (t : List (List UInt8)) (l : List Bool), l.length ≤ (storedAll l t).length
  | [], _ => Nat.le_refl _
  | b :: t, l => by
    have := storedAll_le t (storedBits l t.isEmpty b)
    rw [storedBits_length] at this
    rw [storedAll]
    omega
theorem storedAll_pos (t : List (List UInt8)) (l : List Bool) (h : 0 < t.length) : 0 < (storedAll l t).length := by
  cases t with
  | nil => simp at h
  | cons b t =>
    have := storedAll_le t (storedBits l t.isEmpty b)
    rw [storedBits_length] at this
    rw [storedAll]
    omega
theorem wb_new (w : World) : Wb (w.alloc (.cells #[.slice none 0 0, .int .u64 0, .int .i64 0] 77)) w.heap.size [w.heap.size] [] :=
  ⟨.slice none 0 0, ⟨alloc_at w _, World.ownsRow_nil _ _ _ _, by simp [Value.ownBlock], by decide⟩, rfl⟩
set_option maxRecDepth 100000 in
set_option maxHeartbeats 2000000 in
theorem written_stored (a : Option Addr) (cap : Nat) (rows : List Rv) (w : World) (hcs : Cs w a (rows.map sval)) (hle : rows.length ≤ cap) (hcap : cap ≤ maxLen)
    (hrow : ∀ r ∈ rows, lib.Rd w r.ao r.cap r.bs ∧ r.bs.length ≤ 65535) (h0 : 0 < rows.length) (hn : rows.length ≤ 100000) :
    Calls Tryz.prog 13 #[.slice a rows.length cap] w (NewBytes w (bytesOf (storedAll [] (rows.map Rv.bs)))) := by
  obtain ⟨n, hnn⟩ : ∃ n, n = rows.length := ⟨_, rfl⟩
  rw [← hnn] at hle h0 hn ⊢
  unfold maxLen at hcap
  obtain ⟨g0, o0, rfl, hc⟩ := hcs.at (by rw [List.length_map]; omega)
  have H := Lib.hid (And.intro hc (And.intro hrow hnn))
  clear hc hrow hnn hcs
  go_enter Tryz.func13, Tryz.ntmps13
  go_upto_block 0 with fail
  obtain ⟨p, hp⟩ : ∃ p, p = w.heap.size := ⟨_, rfl⟩
  have w0 := wb_new w
  have f0 : Fr [] w (w.alloc (.cells #[.slice none 0 0, .int .u64 0, .int .i64 0] 77)) := (Fr.refl [] w).alloc _
  rw [← hp] at w0 ⊢
  have H0 := Lib.hid (And.intro w0 (And.intro f0 hp))
  clear w0 f0 hp
  go_wp2
  go_loopg [4, 5, 6, 7, 10] n (fun k s4 s5 s6 s7 s10 wr => ∃ (i : Nat) (F : List Nat) (l : List Bool), s10 = .int .i64 (i : Nat) ∧ i + k = n ∧ Wb wr p F l ∧ Fr [] w wr ∧ (∀ x ∈ F, w.heap.size ≤ x) ∧ l.length ≤ i * 524360 ∧ storedAll l ((rows.drop i).map Rv.bs) = storedAll [] (rows.map Rv.bs))
  case atStart => exact ⟨0, [p], [], rfl, by omega, H0.out.1, H0.out.2.1, fun x hx => by simp at hx; rw [hx, H0.out.2.2]; exact Nat.le_refl _, Nat.le_refl _, rfl⟩
  case round =>
    obtain ⟨i, F, l, rfl, hik, hW, hf, hF, hl, hall⟩ := hrel
    by_cases hi : i < n
    · obtain ⟨k, rfl⟩ : ∃ k, gk = k + 1 := ⟨gk - 1, by omega⟩
      have hir : i < rows.length := by rw [← H.out.2.2]; exact hi
      have hci := hf.cell (H.out.1 i (sval rows[i]) (by rw [List.getElem?_map, List.getElem?_eq_getElem hir]; rfl)) (by simp)
      obtain ⟨hrd, hlen⟩ := H.out.2.1 rows[i] (List.getElem_mem hir)
      unfold sval at hci
      have hdr : (rows.drop i).map Rv.bs = rows[i].bs :: (rows.drop (i + 1)).map Rv.bs := by rw [List.drop_eq_getElem_cons hir, List.map_cons]
      rw [hdr, storedAll] at hall
      obtain ⟨b, hb⟩ : ∃ b, b = rows[i].bs := ⟨_, rfl⟩
      obtain ⟨ba, hba⟩ : ∃ b, b = rows[i].ao := ⟨_, rfl⟩
      obtain ⟨bc, hbc⟩ : ∃ b, b = rows[i].cap := ⟨_, rfl⟩
      obtain ⟨bn, hbn⟩ : ∃ n, n = b.length := ⟨_, rfl⟩
      rw [← hb] at hci hrd hlen hall
      rw [← hba, ← hbc, ← hbn] at hci
      rw [← hba, ← hbc] at hrd
      rw [← hbn] at hlen
      have HR := Lib.hid (And.intro hrd (And.intro hbn hall))
      have HW := Lib.hid (And.intro hW (And.intro hf (And.intro hF hl)))
      clear hrd hbn hall hW hf hF hl hdr hb hba hbc
      have d1 : decide ((65535 : Int) < bn) = false := by simp; omega
      have hta : ∀ w : World, (Instr.typeAssert (.iface 69 (.agg #[.slice ba bn bc])) 79 69 true).run Tryz.prog w = .ok (.tuple #[.agg #[.slice ba bn bc], .bool true]) w := fun _ => by kernel_rfl
      have hme : ∀ (f : Nat) (w : World), (method (f + 1) 69 (.agg #[.slice ba bn bc]) "stemma/deflate.write").run Tryz.prog w = .ok (120, .agg #[.slice ba bn bc]) w := fun _ _ => by kernel_rfl
      have hlast : ((i : Int) == (n : Int) - 1) = ((rows.drop (i + 1)).map Rv.bs).isEmpty := by
        rw [Bool.eq_iff_iff, List.isEmpty_iff]
        simp only [beq_iff_eq, List.map_eq_nil_iff, List.drop_eq_nil_iff, ← H.out.2.2]
        omega
      obtain ⟨lst, hlst⟩ : ∃ b, b = ((rows.drop (i + 1)).map Rv.bs).isEmpty := ⟨_, rfl⟩
      rw [← hlst] at hlast
      have f1 : Fr [] wr (wr.alloc (.cells #[.slice ba bn bc] 69)) := (Fr.refl [] wr).alloc _
      have hz1 : (wr.alloc (.cells #[.slice ba bn bc] 69)).heap.size = wr.heap.size + 1 := World.size_alloc _ _
      have hsw := stored_write p F l lst ba bc b _ (wb_fr HW.out.1 f1 (by simp)) ((HR.out.1.fr HW.out.2.1).fr f1) (fun hne x hx hm => by have := rd_lt HR.out.1 hne x hx; have := HW.out.2.2.1 x hm; omega) (by have := HW.out.2.2.2; omega) (by rw [← HR.out.2.1]; exact hlen)
      rw [← HR.out.2.1] at hsw
      unfold WbPost at hsw
      have HS := Lib.hid (And.intro hsw (And.intro f1 (And.intro hz1 hlst)))
      clear hsw f1 hz1 hlst
      go_wp2_with (go_at_call 120; refine HS.out.1.mono ?_; rintro e w2 ⟨rfl, f2, F2, W2, n2⟩; have H2 := Lib.hid (And.intro f2 (And.intro W2 n2)); clear f2 W2 n2)
      go_roundg k
      case measure => omega
      case rel =>
        have k1 := HW.out.2.1.size
        have k2 := HS.out.2.2.1
        refine ⟨i + 1, F2, storedBits l lst b, by go_num, by omega, H2.out.2.1, (HW.out.2.1.trans HS.out.2.1).step H2.out.1 (fun y hy => .inr (HW.out.2.2.1 y hy)), fun y hy => ?_, ?_, ?_⟩
        · rcases H2.out.2.2 y hy with h | h
          · exact HW.out.2.2.1 y h
          · omega
        · rw [storedBits_length, ← HR.out.2.1]
          have := HW.out.2.2.2
          omega
        · rw [HS.out.2.2.2]
          exact HR.out.2.2
    · obtain rfl : i = n := by omega
      have hdn : rows.drop i = [] := List.drop_eq_nil_of_le (by rw [← H.out.2.2]; exact Nat.le_refl _)
      rw [hdn] at hall
      have hby := bytes_b p F l wr hW (by
        have : 0 < l.length := by
          rw [← show storedAll l (List.map Rv.bs []) = l from rfl, hall]
          exact storedAll_pos _ _ (by rw [List.length_map, ← H.out.2.2]; exact h0)
        exact this) (by omega)
      have e : bytesOf l = bytesOf (storedAll [] (rows.map Rv.bs)) := by rw [← hall]; rfl
      rw [e] at hby
      unfold NewBytes at hby
      have HB := Lib.hid (And.intro hby hf)
      clear hby hW hf hF hl hall hdn e
      go_wp2_with (go_at_call 31; refine HB.out.1.mono ?_; rintro e w2 ⟨a2, rfl, r2, n2, f2⟩)
      go_ret
      unfold NewBytes
      exact ⟨a2, rfl, r2, fun x hx => ⟨Nat.le_trans HB.out.2.size (n2 x hx).1, (n2 x hx).2⟩, HB.out.2.trans f2⟩
end Go.Proofs.YtolkoidbkaidkaaGreat.defl
