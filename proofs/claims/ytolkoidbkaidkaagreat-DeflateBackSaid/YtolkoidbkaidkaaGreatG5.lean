/-
  Texts of this proof, one behind the other: Plain, AppFull, AppMid, SumA, SumB, Zlib, TokBits, CutRuns.
-/
import Derived.Test.YtolkoidbkaidkaaGreatG4
import Derived.Deep.DeepCutAuto
import Derived.Deep.LoopGhost
import Derived.Deep.CutBlock
import Derived.WalkMore
set_option linter.unusedVariables false
set_option linter.unusedSimpArgs false
/-
  deflate.plain.
-/
namespace Go.Proofs.YtolkoidbkaidkaaGreat.defl
open Go Go.RowKit Go.Proofs.YtolkoidbkaidkaaGreat.lib Go.Proofs.YtolkoidbkaidkaaGreat.bm Go.Proofs.YtolkoidbkaidkaaGreat.bl Go.Proofs.YtolkoidbkaidkaaGreat.wb

/-- Pieces of 65,535 bytes; the last one is shorter, or just so long. -/
def chunks : Nat → List UInt8 → List (List UInt8)
  | 0, b => [b]
  | f + 1, b => if 65535 < b.length then b.take 65535 :: chunks f (b.drop 65535) else [b]
theorem chunks_small {f : Nat} {b : List UInt8} (h : b.length ≤ 65535) : chunks f b = [b] := by
  cases f with
  | zero => rfl
  | succ f => rw [chunks, if_neg (by omega)]
def plainBits (b : List UInt8) : List Bool := storedAll [] (chunks b.length b)
def plainBytes (b : List UInt8) : List UInt8 := bytesOf (plainBits b)
theorem blockTy : SliceTy Tryz.prog 41 79 .nilIface 1 16 := SliceTy.of Tryz.underlying41 (by kernel_rfl) rfl (by decide)
theorem sval_one (rows : List Rv) : ∀ u ∈ rows.map sval, u.oneCell' = true := by
  intro u hu
  obtain ⟨r, _, rfl⟩ := List.mem_map.1 hu
  rfl
/-- Where plain stands. -/
structure Pl (w wr : World) (rows : List Rv) (ao : Option Addr) (c : Nat) : Prop where
  own : wr.ownsRow 0 79 1 (.slice ao rows.length c) rows.length (rows.map sval)
  fr : Fr [] w wr
  new : ∀ x ∈ blk ao, w.heap.size ≤ x
  row : ∀ r ∈ rows, lib.Rd w r.ao r.cap r.bs ∧ r.bs.length ≤ 65535
theorem Pl.push {w wr w2 : World} {rows : List Rv} {ao a2 : Option Addr} {c c2 n : Nat} (h : Pl w wr rows ao c) (r : Rv) (o : Obj) (hn : rows.length = n) (hr : lib.Rd w r.ao r.cap r.bs ∧ r.bs.length ≤ 65535)
    (A : Appended (wr.alloc o) w2 79 1 (blk ao) a2 (n + 1) c2 (rows.map sval ++ [sval r])) : Pl w w2 (rows ++ [r]) a2 c2 := by
  have f1 : Fr [] wr (wr.alloc o) := (Fr.refl [] wr).alloc o
  refine ⟨by rw [List.length_append, List.length_singleton, List.map_append, hn]; exact A.own, (h.fr.trans f1).step A.fr fun y hy => .inr (h.new y hy), fun y hy => ?_, fun x hx => ?_⟩
  · rcases A.at_ y hy with k | k
    · exact h.new y k
    · have := h.fr.size
      rw [World.size_alloc] at k
      omega
  · rcases List.mem_append.1 hx with k | k
    · exact h.row x k
    · rw [List.mem_singleton.1 k]; exact hr
theorem sum_step {m n rl t n2 r2 : Nat} (h : n * m + rl = t) (hb : m ≤ rl) (h1 : n2 = n + 1) (h2 : r2 = rl - m) : n2 * m + r2 = t := by
  subst h1 h2
  rw [Nat.succ_mul]
  omega
set_option maxRecDepth 100000 in
set_option maxHeartbeats 2000000 in
theorem plain_any (a : Option Addr) (cap : Nat) (b : List UInt8) (w : World) (h : lib.Rd w a cap b) (hlen : b.length ≤ 1000000) :
    Calls Tryz.prog 10 #[.slice a b.length cap] w (NewBytes w (plainBytes b)) := by
  have H := Lib.hid h
  clear h
  go_enter Tryz.func10, Tryz.ntmps10
  go_upto_block 0 with fail
  go_wp2
  go_loopg [0, 3] b.length (fun k s0 s3 wr => ∃ (a0 ao : Option Addr) (c0 c rl n : Nat) (rem : List UInt8) (rows : List Rv), s0 = .slice a0 rl c0 ∧ s3 = .slice ao n c ∧ rl = rem.length ∧ n = rows.length ∧ lib.Rd w a0 c0 rem ∧ Pl w wr rows ao c ∧ rem.length ≤ k ∧ rows.map Rv.bs ++ chunks k rem = chunks b.length b ∧ rows.length * 65535 + rem.length = b.length)
  case atStart => exact ⟨a, none, cap, 0, b.length, 0, b, [], rfl, rfl, rfl, rfl, H.out, ⟨World.ownsRow_nil _ _ _ _, Fr.refl _ _, by simp [blk], by simp⟩, Nat.le_refl _, rfl, by simp⟩
  case round =>
    obtain ⟨a0, ao, c0, c, rl, n, rem, rows, rfl, rfl, hrl, hn, hrd, hp, hk, hch, hsum⟩ := hrel
    have hle := hrd.le
    rw [← hrl] at hle hk hsum
    rw [← hn] at hsum
    have HP := Lib.hid (And.intro hrd (And.intro hp (And.intro hrl (And.intro hn hch))))
    obtain ⟨_, _, hsh, o1, o2, o3⟩ := owns_form hp.own
    simp only [Value.slice.injEq] at hsh
    obtain ⟨rfl, _, rfl⟩ := hsh
    rw [← hn] at o1
    clear hrd hp hrl hn hch
    by_cases hbig : 65535 < rl
    · have d1 : decide ((65535 : Int) < rl) = true := by simp; omega
      obtain ⟨k, rfl⟩ : ∃ k, gk = k + 1 := ⟨gk - 1, by omega⟩
      obtain ⟨m, hm⟩ : ∃ m : Nat, m = 65535 := ⟨_, rfl⟩
      have hsl := fun w => run_slice_to bits.sliceU8 65535 a0 rl c0 65535 rfl (by omega) w
      have hsl2 := fun w => run_slice_from bits.sliceU8 65535 a0 rl c0 65535 rfl (by omega) hle w
      obtain ⟨rs, hrs⟩ : ∃ rs : Rv, rs = ⟨a0, c0, rem.take 65535⟩ := ⟨_, rfl⟩
      have hrsv : sval rs = .iface 69 (.agg #[.slice a0 65535 c0]) := by
        rw [hrs, sval]
        simp only [List.length_take]
        rw [← HP.out.2.2.1, Nat.min_eq_left (by omega)]
      have hrr : lib.Rd w rs.ao rs.cap rs.bs ∧ rs.bs.length ≤ 65535 := by rw [hrs]; exact ⟨HP.out.1.take 65535, by simp only [List.length_take]; omega⟩
      have HR := Lib.hid (And.intro hrsv (And.intro hrr hrs))
      clear hrsv hrr hrs hm
      go_wp2_with (refine wpList_append blockTy rfl _ _ rfl (.slice ao n c) n (rows.map sval) (blk ao) rfl (own_blk _ _ _) (by rw [HP.out.2.2.2.1]; exact HP.out.2.1.own.alloc _) (some ⟨wr.heap.size, 0, none⟩) 1 1 [sval rs] rfl (by omega) (by simp) (by rw [HR.out.1]; exact cs_new wr _ _ _) rfl (by simp [sval, Value.oneCell']) (by omega) (by unfold maxLen; omega) ?_; intro a2 c2 w6 A2; have HA := Lib.hid A2; clear A2)
      go_roundg k
      case measure => omega
      case rel =>
        refine ⟨_, a2, _, c2, rl - 65535, n + 1, rem.drop 65535, rows ++ [rs], rfl, rfl, by rw [List.length_drop, HP.out.2.2.1], by rw [List.length_append, HP.out.2.2.2.1]; rfl, HP.out.1.drop 65535 (by rw [← HP.out.2.2.1]; omega), HP.out.2.1.push rs _ HP.out.2.2.2.1.symm HR.out.2.1 HA.out, by rw [List.length_drop, ← HP.out.2.2.1]; omega, ?_, sum_step hsum (by omega) (by rw [List.length_append, ← HP.out.2.2.2.1, List.length_singleton]) (by rw [List.length_drop, ← HP.out.2.2.1])⟩
        have h1 := HP.out.2.2.2.2
        rw [chunks, if_pos (by rw [← HP.out.2.2.1]; exact hbig)] at h1
        rw [List.map_append, List.append_assoc, ← h1, HR.out.2.2]
        rfl
    · have d1 : decide ((65535 : Int) < rl) = false := by simp; omega
      obtain ⟨rs, hrs⟩ : ∃ rs : Rv, rs = ⟨a0, c0, rem⟩ := ⟨_, rfl⟩
      have hrsv : sval rs = .iface 69 (.agg #[.slice a0 rl c0]) := by
        rw [hrs, sval, HP.out.2.2.1]
      have hrr : lib.Rd w rs.ao rs.cap rs.bs ∧ rs.bs.length ≤ 65535 := by rw [hrs]; exact ⟨HP.out.1, by rw [← HP.out.2.2.1]; omega⟩
      have hch : (rows ++ [rs]).map Rv.bs = chunks b.length b := by
        have h1 := HP.out.2.2.2.2
        rw [chunks_small (by rw [← HP.out.2.2.1]; omega)] at h1
        rw [List.map_append, ← h1, hrs]
        rfl
      have HR := Lib.hid (And.intro hrsv (And.intro hrr hch))
      clear hrsv hrr hrs hch
      go_wp2_with ((refine wpList_append blockTy rfl _ _ rfl (.slice ao n c) n (rows.map sval) (blk ao) rfl (own_blk _ _ _) (by rw [HP.out.2.2.2.1]; exact HP.out.2.1.own.alloc _) (some ⟨wr.heap.size, 0, none⟩) 1 1 [sval rs] rfl (by omega) (by simp) (by rw [HR.out.1]; exact cs_new wr _ _ _) rfl (by simp [sval, Value.oneCell']) (by omega) (by unfold maxLen; omega) ?_; intro a2 c2 w6 A2; have HP2 := Lib.hid (HP.out.2.1.push rs _ HP.out.2.2.2.1.symm HR.out.2.1 A2); have o21 := A2.le; have o22 := A2.max; clear A2))
      have hwr : Calls Tryz.prog 13 #[.slice a2 (n + 1) c2] w6 (NewBytes w6 (plainBytes b)) := by
        have h := written_stored a2 c2 (rows ++ [rs]) w6 (cs_owns HP2.out.own) (by rw [List.length_append, ← HP.out.2.2.2.1]; exact o21) o22 (fun r hr => ⟨((HP2.out.row r hr).1).fr HP2.out.fr, (HP2.out.row r hr).2⟩) (by rw [List.length_append, List.length_singleton]; omega) (by rw [List.length_append, ← HP.out.2.2.2.1, List.length_singleton]; omega)
        rw [HR.out.2.2, List.length_append, ← HP.out.2.2.2.1] at h
        exact h
      unfold NewBytes at hwr
      refine hwr.mono ?_
      rintro e w7 ⟨a7, rfl, r7, n7, f7⟩
      go_wp2
      go_ret
      unfold NewBytes
      exact ⟨a7, rfl, r7, fun x hx => ⟨Nat.le_trans HP2.out.fr.size (n7 x hx).1, (n7 x hx).2⟩, HP2.out.fr.trans f7⟩
end Go.Proofs.YtolkoidbkaidkaaGreat.defl
/-
  append onto a slice that has no room: always a new block.
-/
namespace Go.Proofs.YtolkoidbkaidkaaGreat.lib
open Go Go.RowKit
section
variable {P : Program} {w : World} {t e : TypeId} {z : Value} {size bytes : Nat}
theorem cs_add {g o : Nat} {vs : List Value} (h : ∀ j v, vs[j]? = some v → w.cell? ⟨g, o + j, none⟩ = some v) : ∀ j v, vs[j]? = some v → w.cell? ((⟨g, o, none⟩ : Addr).add j) = some v := fun j v hv => by rw [addr_add]; exact h j v hv
theorem run_append_full (T : SliceTy P t e z size bytes) (ty : TypeId) (b : Option Addr) (n c : Nat) (olds : List Value) (hb : Cs w b olds) (hol : olds.length = n * size) (hnc : n ≤ c) (hbn : b = none → c = 0)
    (ao : Option Addr) (m c' : Nat) (news : List Value) (hc : Cs w ao news) (hl : news.length = m * size) (hfull : c < n + m)
    (hby : (n + m) * bytes ≤ 140737488355328) (h63 : n + m ≤ maxLen) :
    ∃ cap' w', (Builtin.append_ #[t, t] ty #[.slice b n c, .slice ao m c']).run P w = .ok (.slice (some ⟨w.heap.size, 0, none⟩) (n + m) cap') w' ∧ Appended w w' e size [] (some ⟨w.heap.size, 0, none⟩) (n + m) cap' (olds ++ news) := by
  obtain ⟨hu, ⟨i, hi, hz, hs, hbt⟩, hcz, hp⟩ := T
  have hsmall : n + m ≤ 9223372036854775807 := by simp only [maxLen] at h63; omega
  have hne : 0 < news.length := by rw [hl]; exact Nat.mul_pos (by omega) hp
  obtain ⟨g, o, rfl, hcn⟩ := hc.at hne
  have hn' := cs_add hcn
  have key : ∀ (old : Nat), old < n + m → Appended w (w.drew.alloc (.cells (olds.toArray ++ news.toArray ++ Builtin.zeroCells z.cells (grownCap w (n + m) old e - (n + m))) e)) e size []
      (some ⟨w.heap.size, 0, none⟩) (n + m) (grownCap w (n + m) old e) (olds ++ news) := by
    intro old ho
    have hge := grownCap_ge w (n + m) old e
    have hcm : grownCap w (n + m) old e ≤ maxLen := grownCap_le_maxLen w (n + m) old e h63
    refine ⟨⟨by rw [List.length_append, hol, hl, Nat.add_mul], .inr ⟨w.heap.size, _, _, rfl, Nat.zero_le _, heap_alloc_new w.drew _, hge, hcm, ?_, ?_⟩⟩, (Fr.drew1 [] w).alloc _, fun x hx => by right; simpa [blk] using hx, hge, hcm, fun h => by cases h⟩
    · simp only [Array.size_append, List.size_toArray, size_zeroCells, hcz, hol, hl]
      rw [← Nat.add_mul, ← Nat.add_mul]
      congr 1
      omega
    · simp only [Array.toList_append]
      rw [List.take_append_of_le_length (by simp [hol, hl, Nat.add_mul])]
      rw [List.take_of_length_le (by simp [hol, hl, Nat.add_mul])]
  cases b with
  | none =>
    have hc0 := hbn rfl
    subst hc0
    obtain rfl : n = 0 := by omega
    obtain rfl : olds = [] := List.eq_nil_of_length_eq_zero (by simpa using hol)
    have hr := run_append_nil (P := P) w t ty e i z hu hi hz ⟨g, o, none⟩ m c' news (by rw [hs]; exact hl) hn' (by omega) (by omega) (by rw [hbt]; simp at hby; omega)
    have hk := key 0 (by omega)
    simp only [Nat.zero_add, List.nil_append, Array.empty_append] at hk ⊢
    exact ⟨_, _, hr, hk⟩
  | some a =>
    have ho : ∀ j v, olds[j]? = some v → w.cell? (a.add j) = some v := by
      intro j v hv
      rcases hb with rfl | ⟨g', o', ha, hb⟩
      · simp at hv
      · obtain rfl := Option.some.inj ha
        rw [addr_add]
        exact hb j v hv
    have hfit : Builtin.nextslicecap (n + m) c * i.bytes ≤ 281474976710656 := by rw [hbt]; exact growslice_fits (by omega) (by omega)
    have hr := run_append_grow (P := P) w t ty e i z hu hi hz a n c olds (by rw [hs]; exact hol) ho ⟨g, o, none⟩ m c' news (by rw [hs]; exact hl) hn' hfull (by omega) hfit
    exact ⟨_, _, hr, key c hfull⟩
theorem wp_append_full (T : SliceTy P t e z size bytes) {o : Oper} {a : Act} {K : Act → World → Prop} {Q : Exit → Act → World → Prop} (s x : Operand)
    (ho : o.op = .call { callee := .builtin .append, args := #[s, x], argTypes := #[t, t] })
    (b : Option Addr) (n c : Nat) (olds : List Value) (hs : a.eval s = .slice b n c) (hb : Cs w b olds) (hol : olds.length = n * size) (hnc : n ≤ c) (hbn : b = none → c = 0)
    (ao : Option Addr) (m c' : Nat) (news : List Value) (hx : a.eval x = .slice ao m c') (hc : Cs w ao news) (hl : news.length = m * size) (hfull : c < n + m)
    (hby : (n + m) * bytes ≤ 140737488355328) (h63 : n + m ≤ maxLen)
    (h : ∀ cap' w', Appended w w' e size [] (some ⟨w.heap.size, 0, none⟩) (n + m) cap' (olds ++ news) → K (a.put o.dst (.slice (some ⟨w.heap.size, 0, none⟩) (n + m) cap')) w') : o.wp P a w K Q := by
  obtain ⟨cap', w', hr, h2⟩ := run_append_full (P := P) T o.type b n c olds hb hol hnc hbn ao m c' news hc hl hfull hby h63
  unfold Oper.wp execOp
  simp only [ho, resolve, invoke, builtin, Sem.run_bind, Sem.run_pure, Result.andThen_ok, List.map_toArray, List.map_cons, List.map_nil, hs, hx, hr]
  exact h cap' w' h2
theorem wpList_append_full (T : SliceTy P t e z size bytes) {ops : Array Oper} {rest : List Oper} {o : Oper} {a : Act} {Q : Exit → Act → World → Prop} (hgd : o.guard = none) (s x : Operand)
    (ho : o.op = .call { callee := .builtin .append, args := #[s, x], argTypes := #[t, t] })
    (b : Option Addr) (n c : Nat) (olds : List Value) (hs : a.eval s = .slice b n c) (hb : Cs w b olds) (hol : olds.length = n * size) (hnc : n ≤ c) (hbn : b = none → c = 0)
    (ao : Option Addr) (m c' : Nat) (news : List Value) (hx : a.eval x = .slice ao m c') (hc : Cs w ao news) (hl : news.length = m * size) (hfull : c < n + m)
    (hby : (n + m) * bytes ≤ 140737488355328) (h63 : n + m ≤ maxLen)
    (h : ∀ cap' w', Appended w w' e size [] (some ⟨w.heap.size, 0, none⟩) (n + m) cap' (olds ++ news) → wpList P ops Q rest (a.put o.dst (.slice (some ⟨w.heap.size, 0, none⟩) (n + m) cap')) w') : wpList P ops Q (o :: rest) a w :=
  wpList_plain hgd fun _ hK => wp_append_full T s x ho b n c olds hs hb hol hnc hbn ao m c' news hx hc hl hfull hby h63 fun cap' w' h2 => hK _ _ (h cap' w' h2)
end
end Go.Proofs.YtolkoidbkaidkaaGreat.lib
/-
  A slice of one's own that may begin in the midst of its block (s = s[n:]): read, cut, appended to. Elements of one cell.
-/
namespace Go.Proofs.YtolkoidbkaidkaaGreat.lib
open Go Go.RowKit

/-- The slice (a, xs.length, cap) is one's own and reads as xs. -/
def Own (w : World) (e : TypeId) (a : Option Addr) (cap : Nat) (xs : List Value) : Prop :=
  (a = none ∧ cap = 0 ∧ xs = []) ∨ ∃ g o cur, a = some ⟨g, o, none⟩ ∧ w.heap[g]? = some (.cells cur e (0, 0)) ∧ xs.length ≤ cap ∧ cap ≤ maxLen ∧ o + cap ≤ cur.size ∧ (cur.toList.drop o).take xs.length = xs
theorem Own.nil (w : World) (e : TypeId) : Own w e none 0 [] := .inl ⟨rfl, rfl, rfl⟩
theorem Own.shape {w : World} {e : TypeId} {a : Option Addr} {cap : Nat} {xs : List Value} (h : Own w e a cap xs) : xs.length ≤ cap ∧ cap ≤ maxLen ∧ (a = none → cap = 0) := by
  rcases h with ⟨_, rfl, rfl⟩ | ⟨g, o, cur, rfl, _, h1, h2, _⟩
  · exact ⟨Nat.le_refl _, Nat.zero_le _, fun _ => rfl⟩
  · exact ⟨h1, h2, fun h => by cases h⟩
theorem Own.cs {w : World} {e : TypeId} {a : Option Addr} {cap : Nat} {xs : List Value} (h : Own w e a cap xs) : Cs w a xs := by
  rcases h with ⟨_, _, rfl⟩ | ⟨g, o, cur, rfl, hg, h1, h2, h3, h4⟩
  · exact .inl rfl
  · refine .inr ⟨g, o, rfl, fun j v hv => ?_⟩
    rw [cell_of hg, ← Array.getElem?_toList]
    rw [← h4, List.getElem?_take] at hv
    split at hv
    · simpa using hv
    · cases hv
theorem Own.fr {S : List Nat} {w w' : World} {e : TypeId} {a : Option Addr} {cap : Nat} {xs : List Value} (h : Own w e a cap xs) (f : Fr S w w') (hn : ∀ x ∈ blk a, x ∉ S) : Own w' e a cap xs := by
  rcases h with h | ⟨g, o, cur, rfl, hg, r⟩
  · exact .inl h
  · exact .inr ⟨g, o, cur, rfl, f.blk hg (hn g (by simp [blk])), r⟩
theorem Own.lt {w : World} {e : TypeId} {a : Option Addr} {cap : Nat} {xs : List Value} (h : Own w e a cap xs) : ∀ x ∈ blk a, x < w.heap.size := by
  rcases h with ⟨rfl, _⟩ | ⟨g, o, cur, rfl, hg, r⟩
  · simp [blk]
  · intro x hx
    simp [blk] at hx
    rw [hx]
    exact lt_of_block hg
theorem Own.rd {w : World} {e : TypeId} {a : Option Addr} {cap : Nat} {bs : List UInt8} (h : Own w e a cap (bs.map bv)) : Rd w a cap bs := by
  obtain ⟨h1, h2, h3⟩ := h.shape
  exact ⟨h.cs, by simpa using h1, h2, h3⟩
theorem own_of_row {w : World} {e : TypeId} {a : Option Addr} {n cap : Nat} {xs : List Value} (h : w.ownsRow 0 e 1 (.slice a n cap) n xs) : Own w e a cap xs ∧ xs.length = n := by
  have hl : xs.length = n := by simpa using h.1
  refine ⟨?_, hl⟩
  rcases h.2 with ⟨h1, h2⟩ | ⟨g, cap', cur, h1, hb, hg, hn, hm, hs, ht⟩
  · simp only [Value.slice.injEq] at h1
    obtain ⟨rfl, h3, rfl⟩ := h1
    exact .inl ⟨rfl, rfl, List.eq_nil_of_length_eq_zero (by omega)⟩
  · simp only [Value.slice.injEq] at h1
    obtain ⟨rfl, _, rfl⟩ := h1
    refine .inr ⟨g, 0, cur, rfl, hg, by omega, hm, by omega, ?_⟩
    rw [List.drop_zero, hl]
    simpa using ht
theorem Own.take {w : World} {e : TypeId} {a : Option Addr} {cap : Nat} {xs : List Value} (h : Own w e a cap xs) (k : Nat) : Own w e a cap (xs.take k) := by
  rcases h with ⟨h1, h2, rfl⟩ | ⟨g, o, cur, rfl, hg, h1, h2, h3, h4⟩
  · exact .inl ⟨h1, h2, by simp⟩
  · refine .inr ⟨g, o, cur, rfl, hg, by rw [List.length_take]; omega, h2, h3, ?_⟩
    have e1 : xs.take k = ((cur.toList.drop o).take xs.length).take k := by rw [h4]
    rw [e1, List.take_take, List.length_take]
    congr 1
    have := congrArg List.length h4
    rw [List.length_take] at this
    omega
theorem Own.drop {w : World} {e : TypeId} {a : Option Addr} {cap : Nat} {xs : List Value} (h : Own w e a cap xs) (k : Nat) (hk : k ≤ xs.length) : Own w e (cutAtN a cap k 1) (cap - k) (xs.drop k) := by
  rcases h with ⟨rfl, rfl, rfl⟩ | ⟨g, o, cur, rfl, hg, h1, h2, h3, h4⟩
  · obtain rfl : k = 0 := by simpa using hk
    exact .inl ⟨rfl, rfl, rfl⟩
  · unfold cutAtN
    by_cases hc : cap = k
    · rw [if_pos hc]
      have hx : xs.drop k = [] := List.drop_eq_nil_of_le (by omega)
      rw [hx]
      exact .inr ⟨g, o, cur, rfl, hg, by simp, by omega, by omega, rfl⟩
    · rw [if_neg hc]
      refine .inr ⟨g, o + k, cur, by simp only [Option.map_some, addr_add, Nat.mul_one], hg, by rw [List.length_drop]; omega, by omega, by omega, ?_⟩
      have e1 : xs.drop k = ((cur.toList.drop o).take xs.length).drop k := by rw [h4]
      rw [e1, List.drop_take, List.drop_drop, List.length_take, List.length_drop]
      congr 1
      have := congrArg List.length h4
      rw [List.length_take, List.length_drop] at this
      simp only [Array.length_toList] at *
      omega
section
variable {P : Program} {w : World} {t e : TypeId} {z : Value} {bytes : Nat}
/-- What an append leaves. -/
structure OwnMore (w w' : World) (e : TypeId) (a a' : Option Addr) (cap' : Nat) (xs : List Value) : Prop where
  own : Own w' e a' cap' xs
  fr : Fr (blk a) w w'
  at_ : ∀ x ∈ blk a', x ∈ blk a ∨ w.heap.size ≤ x
theorem run_append_mid (T : SliceTy P t e z 1 bytes) (ty : TypeId) (a : Option Addr) (n cap : Nat) (xs : List Value) (hown : Own w e a cap xs) (hn : xs.length = n)
    (ao : Option Addr) (m c : Nat) (news : List Value) (hmc : m ≤ c) (hnone : ao = none → c = 0) (hc : Cs w ao news) (hl : news.length = m) (h1 : ∀ u ∈ news, u.oneCell' = true)
    (hby : (n + m) * bytes ≤ 140737488355328) (h63 : n + m ≤ maxLen) :
    ∃ a' cap' w', (Builtin.append_ #[t, t] ty #[.slice a n cap, .slice ao m c]).run P w = .ok (.slice a' (n + m) cap') w' ∧ OwnMore w w' e a a' cap' (xs ++ news) := by
  subst hn
  rcases hown with ⟨rfl, rfl, rfl⟩ | ⟨g, o, cur, rfl, hg, k1, k2, k3, k4⟩
  · obtain ⟨a', cap', w', hr, A⟩ := run_append (P := P) T ty (.slice none 0 0) 0 [] [] rfl (World.ownsRow_nil w 0 e 1) ao m c news hmc hnone hc (by omega) h1 (by simpa using hby) (by simpa using h63)
    obtain ⟨o1, _⟩ := own_of_row A.own
    exact ⟨a', cap', w', by simpa using hr, o1, A.fr, fun x hx => .inr (Nat.le_of_eq (by have := A.at_ x hx; simp at this; exact this.symm))⟩
  · have hsz : xs.length ≤ cur.size - o := by
      have := congrArg List.length k4
      rw [List.length_take, List.length_drop] at this
      simp only [Array.length_toList] at this
      omega
    by_cases hm0 : m = 0
    · subst hm0
      obtain rfl : news = [] := List.eq_nil_of_length_eq_zero hl
      obtain ⟨hu, ⟨i, hi, hz, hs, hbt⟩, hcz, hp⟩ := T
      refine ⟨some ⟨g, o, none⟩, cap, w, ?_, by rw [List.append_nil]; exact .inr ⟨g, o, cur, rfl, hg, k1, k2, k3, k4⟩, Fr.refl _ _, fun x hx => .inl hx⟩
      cases ao with
      | none =>
        have hc0 := hnone rfl
        simp [Builtin.append_, run_underlying hu, sizeOf, typeInfo, hi, Builtin.lenOf, k1, Builtin.firstCells, storeCells]
      | some b =>
        have hf := run_firstCells_some (P := P) w i.size 0 b 0 c [] (by simp) (by simp)
        simp [Builtin.append_, run_underlying hu, sizeOf, typeInfo, hi, Builtin.lenOf, k1, hf, storeCells]
    · by_cases hroom : xs.length + m ≤ cap
      · obtain ⟨hu, ⟨i, hi, hz, hs, hbt⟩, hcz, hp⟩ := T
        obtain ⟨g', o', rfl, hcn⟩ := hc.at (by omega)
        have hn' := cs_add hcn
        have hf := run_firstCells_some (P := P) w i.size m ⟨g', o', none⟩ m c news (by rw [hs]; omega) hn'
        have hst := run_storeCells_at P g (o + xs.length * i.size) e news 0 cur w hg (by rw [hs]; omega) h1
        simp only [Nat.add_zero] at hst
        refine ⟨some ⟨g, o, none⟩, cap, _, ?_, ⟨.inr ⟨g, o, _, rfl, setRow_heap w g cur (cur.toList.take (o + xs.length * i.size) ++ news ++ cur.toList.drop (o + xs.length * i.size + news.length)).toArray e (0, 0) hg, by rw [List.length_append, hl]; exact hroom, k2, ?_, ?_⟩, ⟨rfl, rfl, rfl, by simp, fun k _ hk => setRow_other w g k _ (fun e => hk (by simp [blk, e]))⟩, fun x hx => .inl hx⟩⟩
        · simp [Builtin.append_, run_underlying hu, sizeOf, typeInfo, hi, Builtin.lenOf, hroom, hf, Addr.add_lit, hst]
        · simp only [List.size_toArray, List.length_append, List.length_take, List.length_drop, Array.length_toList, hs]
          omega
        · simp only [hs, Nat.mul_one]
          rw [List.drop_append_of_le_length (by simp; omega), List.drop_append_of_le_length (by simp; omega), List.drop_take, Nat.add_sub_cancel_left, k4, List.length_append, hl]
          rw [List.take_append_of_le_length (by simp [hl]), List.take_of_length_le (by simp [hl])]
      · have hcs : Cs w (some ⟨g, o, none⟩) xs := Own.cs (.inr ⟨g, o, cur, rfl, hg, k1, k2, k3, k4⟩)
        obtain ⟨cap', w', hr, A⟩ := run_append_full (P := P) T ty (some ⟨g, o, none⟩) xs.length cap xs hcs (by omega) k1 (by simp) ao m c news hc (by omega) (by omega) hby h63
        obtain ⟨o1, _⟩ := own_of_row A.own
        exact ⟨_, cap', w', hr, o1, A.fr.mono (by simp), fun x hx => .inr (Nat.le_of_eq (by have := A.at_ x hx; simp at this; exact this.symm))⟩
theorem wp_append_mid (T : SliceTy P t e z 1 bytes) {o : Oper} {A : Act} {K : Act → World → Prop} {Q : Exit → Act → World → Prop} (s x : Operand)
    (ho : o.op = .call { callee := .builtin .append, args := #[s, x], argTypes := #[t, t] })
    (a : Option Addr) (n cap : Nat) (xs : List Value) (hs : A.eval s = .slice a n cap) (hown : Own w e a cap xs) (hn : xs.length = n)
    (ao : Option Addr) (m c : Nat) (news : List Value) (hx : A.eval x = .slice ao m c) (hmc : m ≤ c) (hnone : ao = none → c = 0) (hc : Cs w ao news) (hl : news.length = m) (h1 : ∀ u ∈ news, u.oneCell' = true)
    (hby : (n + m) * bytes ≤ 140737488355328) (h63 : n + m ≤ maxLen)
    (h : ∀ a' cap' w', OwnMore w w' e a a' cap' (xs ++ news) → K (A.put o.dst (.slice a' (n + m) cap')) w') : o.wp P A w K Q := by
  obtain ⟨a', cap', w', hr, h2⟩ := run_append_mid (P := P) T o.type a n cap xs hown hn ao m c news hmc hnone hc hl h1 hby h63
  unfold Oper.wp execOp
  simp only [ho, resolve, invoke, builtin, Sem.run_bind, Sem.run_pure, Result.andThen_ok, List.map_toArray, List.map_cons, List.map_nil, hs, hx, hr]
  exact h a' cap' w' h2
theorem wpList_append_mid (T : SliceTy P t e z 1 bytes) {ops : Array Oper} {rest : List Oper} {o : Oper} {A : Act} {Q : Exit → Act → World → Prop} (hgd : o.guard = none) (s x : Operand)
    (ho : o.op = .call { callee := .builtin .append, args := #[s, x], argTypes := #[t, t] })
    (a : Option Addr) (n cap : Nat) (xs : List Value) (hs : A.eval s = .slice a n cap) (hown : Own w e a cap xs) (hn : xs.length = n)
    (ao : Option Addr) (m c : Nat) (news : List Value) (hx : A.eval x = .slice ao m c) (hmc : m ≤ c) (hnone : ao = none → c = 0) (hc : Cs w ao news) (hl : news.length = m) (h1 : ∀ u ∈ news, u.oneCell' = true)
    (hby : (n + m) * bytes ≤ 140737488355328) (h63 : n + m ≤ maxLen)
    (h : ∀ a' cap' w', OwnMore w w' e a a' cap' (xs ++ news) → wpList P ops Q rest (A.put o.dst (.slice a' (n + m) cap')) w') : wpList P ops Q (o :: rest) A w :=
  wpList_plain hgd fun _ hK => wp_append_mid T s x ho a n cap xs hs hown hn ao m c news hx hmc hnone hc hl h1 hby h63 fun a' cap' w' h2 => hK _ _ (h a' cap' w' h2)
/-- Two appends, one on the other. -/
theorem OwnMore.two {w1 w2 w3 : World} {a a2 a3 : Option Addr} {c2 c3 : Nat} {xs ys : List Value} (A : OwnMore w1 w2 e a a2 c2 xs) (B : OwnMore w2 w3 e a2 a3 c3 ys) : OwnMore w1 w3 e a a3 c3 ys := by
  refine ⟨B.own, A.fr.step B.fr fun y hy => A.at_ y hy, fun y hy => ?_⟩
  rcases B.at_ y hy with h | h
  · exact A.at_ y h
  · exact .inr (Nat.le_trans A.fr.size h)
end
end Go.Proofs.YtolkoidbkaidkaaGreat.lib
/-
  sum: Adler-32.
-/
namespace Go.Proofs.YtolkoidbkaidkaaGreat.sums
open Go Go.RowKit Go.Proofs.YtolkoidbkaidkaaGreat.lib Go.Proofs.YtolkoidbkaidkaaGreat.bm

theorem sliceU8 : SliceTy Tryz.prog 22 5 (.int .u8 0) 1 1 := SliceTy.of Tryz.underlying22 (by kernel_rfl) rfl (by decide)
theorem bv_one (bs : List UInt8) : ∀ u ∈ bs.map bv, u.oneCell' = true := by
  intro u hu
  obtain ⟨b, _, rfl⟩ := List.mem_map.1 hu
  rfl
/-- Both parts of an Adler sum, from where it stands. -/
def ad : Nat → Nat → List UInt8 → Nat × Nat
  | a, b, [] => (a, b)
  | a, b, c :: t => ad ((a + c.toNat) % 65521) ((b + (a + c.toNat) % 65521) % 65521) t
theorem ad_lt : ∀ (a b : Nat) (l : List UInt8), a < 65521 → b < 65521 → (ad a b l).1 < 65521 ∧ (ad a b l).2 < 65521
  | _, _, [], ha, hb => ⟨ha, hb⟩
  | a, b, c :: t, _, _ => ad_lt _ _ t (Nat.mod_lt _ (by decide)) (Nat.mod_lt _ (by decide))
def adler (l : List UInt8) : Nat := (ad 1 0 l).2 * 65536 + (ad 1 0 l).1
theorem adler_lt (l : List UInt8) : adler l < 4294967296 := by
  have := ad_lt 1 0 l (by decide) (by decide)
  unfold adler
  omega
/-- A sum's block: which kind it is, and an Adler sum's parts. -/
def Ad (w : World) (g a b : Nat) : Prop :=
  ∃ C, w.heap[g]? = some (.cells C 149 (0, 0)) ∧ C.size = 267 ∧ C[0]? = some (.int .i64 3) ∧ C[265]? = some (.int .u32 a) ∧ C[266]? = some (.int .u32 b) ∧ a < 65521 ∧ b < 65521
set_option maxRecDepth 100000 in
set_option maxHeartbeats 1000000 in
theorem begun_three (w : World) : Calls Tryz.prog 69 #[.int .i64 3] w fun e w' => e = .returned (.pointer (some ⟨w.heap.size, 0, none⟩)) ∧ Ad w' w.heap.size 1 0 ∧ Fr [] w w' := by
  go_enter Tryz.func69, Tryz.ntmps69
  go_wp2
  go_ret
  exact ⟨rfl, ⟨_, alloc_at w _, rfl, rfl, rfl, rfl, by decide, by decide⟩, (Fr.refl [] w).alloc _⟩
set_option maxRecDepth 100000 in
set_option maxHeartbeats 1000000 in
theorem write_adler (g a0 b0 cap : Nat) (ao : Option Addr) (bs : List UInt8) (w : World) (h : Ad w g a0 b0) (hr : Rd w ao cap bs) (hng : bs ≠ [] → ∀ x ∈ blk ao, x ≠ g) :
    Calls Tryz.prog 70 #[.pointer (some ⟨g, 0, none⟩), .slice ao bs.length cap] w fun e w' => e = .returned (.tuple #[]) ∧ Fr [g] w w' ∧ Ad w' g (ad a0 b0 bs).1 (ad a0 b0 bs).2 := by
  obtain ⟨C, hC, hsz, hc0, _⟩ := h
  have c0 := cell_of hC 0
  rw [hc0] at c0
  obtain ⟨L, hL⟩ : ∃ L, L = bs.length := ⟨_, rfl⟩
  have hle := hr.le
  have hmax := hr.max
  unfold maxLen at hmax
  rw [← hL] at hle ⊢
  have H := Lib.hid (And.intro (show Ad w g a0 b0 from ⟨C, hC, hsz, hc0, ‹_›⟩) (And.intro hr (And.intro hng hL)))
  clear hr hng hL hC hsz hc0
  go_enter Tryz.func70, Tryz.ntmps70
  go_upto_block 5 with fail
  clear c0
  go_wp2
  go_loopg [7, 93] L (fun k s7 s93 wr => ∃ i a b : Nat, s93 = .int .i64 (i : Nat) ∧ i + k = L ∧ Ad wr g a b ∧ Fr [g] w wr ∧ ad a b (bs.drop i) = ad a0 b0 bs)
  case atStart => exact ⟨0, a0, b0, rfl, by omega, H.out.1, Fr.refl _ _, rfl⟩
  case round =>
    obtain ⟨i, a, b, rfl, hik, hA, hf, had⟩ := hrel
    by_cases hi : i < L
    · obtain ⟨k, rfl⟩ : ∃ k, gk = k + 1 := ⟨gk - 1, by omega⟩
      have hib : i < bs.length := by rw [← H.out.2.2.2]; exact hi
      have hbn : bs ≠ [] := by intro e; rw [e] at hib; simp at hib
      have hrr := rd_frE H.out.2.1 hf (fun hb x hx hm => H.out.2.2.1 hb x hx (by simpa using hm))
      obtain ⟨g1, o1, rfl, cc⟩ := hrr.at hib
      have hdr : bs.drop i = bs[i] :: bs.drop (i + 1) := List.drop_eq_getElem_cons hib
      rw [hdr, ad] at had
      have hc256 := UInt8.toNat_lt bs[i]
      generalize bs[i].toNat = c at *
      obtain ⟨C, hC, hsz, hc0, ha1, hb1, hla, hlb⟩ := hA
      have ca := cell_of hC 265
      rw [ha1] at ca
      have za := frozen_of hC 265
      obtain ⟨a2, ha2⟩ : ∃ a2, a2 = (a + c) % 65521 := ⟨_, rfl⟩
      obtain ⟨b2, hb2⟩ : ∃ b2, b2 = (b + a2) % 65521 := ⟨_, rfl⟩
      rw [← ha2, ← hb2] at had
      have e1 : ((a : Int) + (c : Int)) % 65521 = (a2 : Int) := by omega
      have e2 : ((b : Int) + (a2 : Int)) % 65521 = (b2 : Int) := by omega
      have hla2 : a2 < 65521 := by omega
      have hlb2 : b2 < 65521 := by omega
      have HC := Lib.hid (And.intro hC (And.intro hsz (And.intro hc0 (And.intro hb1 (And.intro hf had)))))
      clear hC hsz hc0 hb1 hf had ha1 ha2 hb2 hdr hrr hib
      go_upto_region 18 with fail
      have f2 : Fr [g] wr (wr.setCell ⟨g, 265, none⟩ (.int .u32 (a2 : Nat))) := (Fr.refl [g] wr).setCell (by simp) _
      have hC2 := setCell_of (o := 265) HC.out.1 (.int .u32 (a2 : Nat))
      generalize wr.setCell ⟨g, 265, none⟩ (.int .u32 (a2 : Nat)) = w2 at *
      have ca2 := cell_of hC2 265
      have cb2 := cell_of hC2 266
      have zb := frozen_of hC2 266
      rw [Array.getElem?_setIfInBounds_self_of_lt (by rw [HC.out.2.1]; decide)] at ca2
      rw [Array.getElem?_setIfInBounds_ne (by decide), HC.out.2.2.2.1] at cb2
      have HC2 := Lib.hid (And.intro hC2 f2)
      clear ca za cc hC2 f2
      refine region_tail 13 (by kernel_rfl) (by kernel_rfl) ?_
      simp only [List.take_succ_cons, List.take_zero, List.drop_succ_cons, List.drop_zero]
      repeat (go_big_quiet_step (fail))
      refine wpQuiet_nil ?_
      go_wp2
      go_roundg k
      case measure => omega
      case rel =>
        have f3 : Fr [g] w2 w2.drew := Fr.drew1 [g] w2
        have hC3 := f3.block g (lt_of_block HC2.out.1)
        have hC4 : (w2.drew).heap[g]? = _ := HC2.out.1
        have hC5 := setCell_of (o := 266) hC4 (.int .u32 (b2 : Nat))
        refine ⟨i + 1, a2, b2, by go_num, by omega, ⟨_, hC5, by simp [HC.out.2.1], ?_, ?_, ?_, hla2, hlb2⟩, ((HC.out.2.2.2.2.1.trans HC2.out.2).trans f3).setCell (by simp) _, HC.out.2.2.2.2.2⟩
        · rw [Array.getElem?_setIfInBounds_ne (by decide), Array.getElem?_setIfInBounds_ne (by decide), HC.out.2.2.1]
        · rw [Array.getElem?_setIfInBounds_ne (by decide), Array.getElem?_setIfInBounds_self_of_lt (by rw [HC.out.2.1]; decide)]
        · rw [Array.getElem?_setIfInBounds_self_of_lt (by rw [Array.size_setIfInBounds, HC.out.2.1]; decide)]
    · obtain rfl : gk = 0 := by omega
      obtain rfl : i = L := by omega
      have hd : bs.drop i = [] := List.drop_eq_nil_of_le (by rw [← H.out.2.2.2]; exact Nat.le_refl _)
      rw [hd, ad] at had
      have HA := Lib.hid (And.intro hA (And.intro hf had))
      clear hA hf had hd
      go_wp2
      go_end0
      exact ⟨rfl, HA.out.2.1, by rw [← HA.out.2.2]; exact HA.out.1⟩
end Go.Proofs.YtolkoidbkaidkaaGreat.sums
/-
  sum.four, number; the whole Adler sum.
-/
namespace Go.Proofs.YtolkoidbkaidkaaGreat.sums
open Go Go.RowKit Go.Proofs.YtolkoidbkaidkaaGreat.lib Go.Proofs.YtolkoidbkaidkaaGreat.bm

/-- A number of 32 bits as four bytes, the highest first. -/
def be4 (x : Nat) : List UInt8 := [UInt8.ofNat (x / 16777216), UInt8.ofNat (x / 65536), UInt8.ofNat (x / 256), UInt8.ofNat x]
theorem be4_length (x : Nat) : (be4 x).length = 4 := rfl
theorem be4_map (x : Nat) (h : x < 4294967296) : (be4 x).map bv = [.int .u8 ((x : Int) / 16777216), .int .u8 ((x : Int) / 65536 % 256), .int .u8 ((x : Int) / 256 % 256), .int .u8 ((x : Int) % 256)] := by
  simp only [be4, List.map_cons, List.map_nil, bv, UInt8.toNat_ofNat']
  refine List.cons_eq_cons.2 ⟨int_eq (by omega), List.cons_eq_cons.2 ⟨int_eq (by omega), List.cons_eq_cons.2 ⟨int_eq (by omega), List.cons_eq_cons.2 ⟨int_eq (by omega), rfl⟩⟩⟩⟩
theorem be4_num (x : Nat) (h : x < 4294967296) (b : List UInt8) (hb : b = be4 x) : (b[0]?.getD 0).toNat * 16777216 + (b[1]?.getD 0).toNat * 65536 + (b[2]?.getD 0).toNat * 256 + (b[3]?.getD 0).toNat = x := by
  subst hb
  show (UInt8.ofNat (x / 16777216)).toNat * 16777216 + (UInt8.ofNat (x / 65536)).toNat * 65536 + (UInt8.ofNat (x / 256)).toNat * 256 + (UInt8.ofNat x).toNat = x
  simp only [UInt8.toNat_ofNat']
  omega
def Foured (w : World) (ao : Option Addr) (bs : List UInt8) (x : Nat) (e : Ending) (w' : World) : Prop :=
  ∃ a c, e = .returned (.slice a (bs.length + 4) c) ∧ OwnMore w w' 5 ao a c ((bs ++ be4 x).map bv)
set_option maxRecDepth 100000 in
set_option maxHeartbeats 1000000 in
theorem four_any (ao : Option Addr) (cap : Nat) (bs : List UInt8) (x : Nat) (w : World) (hx : x < 4294967296) (h : Own w 5 ao cap (bs.map bv)) (hm : bs.length ≤ 140737488351232) :
    Calls Tryz.prog 84 #[.slice ao bs.length cap, .int .u32 x] w (Foured w ao bs x) := by
  obtain ⟨L, hL⟩ : ∃ L, L = bs.length := ⟨_, rfl⟩
  obtain ⟨o1, o2, o3⟩ := h.shape
  rw [List.length_map, ← hL] at o1
  rw [← hL] at hm ⊢
  have hb4 := be4_map x hx
  have H := Lib.hid (And.intro h (And.intro hL hb4))
  have f1 : Fr [] w (w.alloc (.cells #[.int .u8 ((x : Int) / 16777216), .int .u8 ((x : Int) / 65536 % 256), .int .u8 ((x : Int) / 256 % 256), .int .u8 ((x : Int) % 256)] 5)) := (Fr.refl [] w).alloc _
  have HF := Lib.hid f1
  clear h hL hb4 f1
  go_enter Tryz.func84, Tryz.ntmps84
  go_wp2_with (refine wpList_append_mid sliceU8 rfl _ _ rfl ao L cap (bs.map bv) rfl (H.out.1.fr HF.out (by simp)) (by rw [List.length_map]; exact H.out.2.1.symm) (some ⟨w.heap.size, 0, none⟩) 4 4 ((be4 x).map bv) rfl (by omega) (by simp) (by rw [H.out.2.2]; exact cs_new w _ _ _) rfl (bv_one _) (by omega) (by unfold maxLen; omega) ?_; intro a1 c1 w1 A1; have H1 := Lib.hid A1; clear A1)
  go_ret
  unfold Foured
  rw [← H.out.2.1, List.map_append]
  refine ⟨a1, c1, rfl, H1.out.own, HF.out.mono (by simp) |>.step H1.out.fr (fun y hy => .inl hy), fun y hy => ?_⟩
  rcases H1.out.at_ y hy with k | k
  · exact .inl k
  · right
    rw [World.size_alloc] at k
    omega
theorem or_hi (n v k : Nat) (hv : v < 2 ^ k) (hk : k ≤ 32) (hn : n < 4294967296) (hd : n % 2 ^ k = 0) : bits .or .u32 (n : Int) (v : Int) = ((n + v : Nat) : Int) := by
  have h1 := pow_le k 32 hk
  rw [p32] at h1
  have e : n = n / 2 ^ k * 2 ^ k := by
    have := Nat.div_add_mod n (2 ^ k)
    rw [hd, Nat.add_zero, Nat.mul_comm] at this
    exact this.symm
  rw [u32_or_nat n v hn (by omega)]
  conv => lhs; rw [e, Nat.or_comm, or_add v _ k hv, Nat.mul_comm (2 ^ k), ← e, Nat.add_comm]
set_option maxRecDepth 100000 in
set_option maxHeartbeats 1000000 in
theorem number_four (a : Option Addr) (cap : Nat) (y0 y1 y2 y3 : UInt8) (w : World) (h : Rd w a cap [y0, y1, y2, y3]) :
    Calls Tryz.prog 52 #[.slice a 4 cap] w fun e w' => e = .returned (.int .u32 (y0.toNat * 16777216 + y1.toNat * 65536 + y2.toNat * 256 + y3.toNat : Nat)) ∧ Fr [] w w' := by
  obtain ⟨g, o, rfl, c0⟩ := h.at (i := 0) (by simp)
  obtain ⟨g1, o1, e1, c1⟩ := h.at (i := 1) (by simp)
  obtain ⟨g2, o2, e2, c2⟩ := h.at (i := 2) (by simp)
  obtain ⟨g3, o3, e3, c3⟩ := h.at (i := 3) (by simp)
  simp only [Option.some.injEq, Addr.mk.injEq, and_true] at e1 e2 e3
  obtain ⟨rfl, rfl⟩ := e1
  obtain ⟨rfl, rfl⟩ := e2
  obtain ⟨rfl, rfl⟩ := e3
  have hle := h.le
  simp only [List.length_cons, List.length_nil] at hle
  have l0 := UInt8.toNat_lt y0
  have l1 := UInt8.toNat_lt y1
  have l2 := UInt8.toNat_lt y2
  have l3 := UInt8.toNat_lt y3
  simp only [Nat.add_zero, List.getElem_cons_zero, List.getElem_cons_succ] at c0 c1 c2 c3
  generalize y0.toNat = x0 at *
  generalize y1.toNat = x1 at *
  generalize y2.toNat = x2 at *
  generalize y3.toNat = x3 at *
  obtain ⟨z1, hz1⟩ : ∃ z, z = x0 * 16777216 + x1 * 65536 := ⟨_, rfl⟩
  obtain ⟨z2, hz2⟩ : ∃ z, z = z1 + x2 * 256 := ⟨_, rfl⟩
  obtain ⟨z3, hz3⟩ : ∃ z, z = z2 + x3 := ⟨_, rfl⟩
  have r1 : bits .or .u32 ((x0 : Int) * 16777216) ((x1 : Int) * 65536) = (z1 : Int) := by
    have := or_hi (x0 * 16777216) (x1 * 65536) 24 (by omega) (by decide) (by omega) (by omega)
    rw [← hz1] at this
    simpa using this
  have r2 : bits .or .u32 (z1 : Int) ((x2 : Int) * 256) = (z2 : Int) := by
    have := or_hi z1 (x2 * 256) 16 (by omega) (by decide) (by omega) (by omega)
    rw [← hz2] at this
    simpa using this
  have r3 : bits .or .u32 (z2 : Int) (x3 : Int) = (z3 : Int) := by
    have := or_hi z2 x3 8 (by omega) (by decide) (by omega) (by omega)
    rw [← hz3] at this
    exact this
  have HZ : Hid (x0 * 16777216 + x1 * 65536 + x2 * 256 + x3 = z3) := Lib.hid (by omega)
  clear hz1 hz2 hz3 h
  go_enter Tryz.func52, Tryz.ntmps52
  go_wp2
  go_quiet (fail)
  go_wp2
  go_ret
  exact ⟨by rw [HZ.out]; rfl, Fr.drewN _ _ _⟩
theorem number_any (a : Option Addr) (cap x : Nat) (w : World) (hx : x < 4294967296) (h : Rd w a cap (be4 x)) :
    Calls Tryz.prog 52 #[.slice a 4 cap] w fun e w' => e = .returned (.int .u32 x) ∧ Fr [] w w' := by
  have h1 := number_four a cap _ _ _ _ w h
  have h2 := be4_num x hx _ rfl
  have e : (UInt8.ofNat (x / 16777216)).toNat * 16777216 + (UInt8.ofNat (x / 65536)).toNat * 65536 + (UInt8.ofNat (x / 256)).toNat * 256 + (UInt8.ofNat x).toNat = x := h2
  rw [e] at h1
  exact h1
set_option maxRecDepth 100000 in
set_option maxHeartbeats 1000000 in
theorem sum_adler (g a b : Nat) (w : World) (h : Ad w g a b) : Calls Tryz.prog 71 #[.pointer (some ⟨g, 0, none⟩)] w fun e w' => (∃ ao c, e = .returned (.slice ao 4 c) ∧ Rd w' ao c (be4 (b * 65536 + a))) ∧ Fr [] w w' := by
  obtain ⟨C, hC, hsz, hc0, ha, hb, hla, hlb⟩ := h
  have c0 := cell_of hC 0
  have c1 := cell_of hC 265
  have c2 := cell_of hC 266
  rw [hc0] at c0
  rw [ha] at c1
  rw [hb] at c2
  obtain ⟨z, hz⟩ : ∃ z, z = b * 65536 + a := ⟨_, rfl⟩
  have r1 : bits .or .u32 ((b : Int) * 65536) (a : Int) = (z : Int) := by
    have := or_hi (b * 65536) a 16 (by omega) (by decide) (by omega) (by omega)
    rw [← hz] at this
    simpa using this
  have hzl : z < 4294967296 := by omega
  rw [← hz]
  have HC := Lib.hid hC
  clear hz hC hsz hc0 ha hb
  go_enter Tryz.func71, Tryz.ntmps71
  go_upto_region 5 with fail
  have hgl := lt_of_block HC.out
  obtain ⟨B, hB⟩ : ∃ B, B = w.heap.size := ⟨_, rfl⟩
  have hgB : g ∉ [B] := by simp; omega
  have s1 : ∀ x, (sup [B] w.drew x).cell? ⟨g, 265, none⟩ = some (.int .u32 (a : Nat)) := fun x => (sup_fr [B] w.drew x).cell (show w.drew.cell? _ = _ from c1) hgB
  have s2 : ∀ x, (sup [B] w.drew x).cell? ⟨g, 266, none⟩ = some (.int .u32 (b : Nat)) := fun x => (sup_fr [B] w.drew x).cell (show w.drew.cell? _ = _ from c2) hgB
  have hmk : ∀ w : World, (Instr.makeSlice 22 (.int .i64 0) (.int .i64 4)).run Tryz.prog w = .ok (.slice (some ⟨w.heap.size, 0, none⟩) 0 4) (w.alloc (.cells #[.int .u8 0, .int .u8 0, .int .u8 0, .int .u8 0] 5)) := fun _ => by kernel_rfl
  have hfo : ∀ w, Own w 5 (some ⟨B, 0, none⟩) 4 (([] : List UInt8).map bv) → Calls Tryz.prog 84 #[.slice (some ⟨B, 0, none⟩) 0 4, .int .u32 z] w (Foured w (some ⟨B, 0, none⟩) [] z) := fun w h => four_any (some ⟨B, 0, none⟩) 4 [] z w hzl h (by simp)
  unfold Foured at hfo
  simp only [List.length_nil, Nat.zero_add, List.nil_append] at hfo
  have HB := Lib.hid (And.intro hB hfo)
  clear hB hfo c0 c1 c2
  refine region_mix 13 [(false, 1), (false, 2), (false, 3), (false, 4), (false, 5), (false, 6), (false, 7), (false, 8), (false, 9), (false, 10), (true, 0), (true, 11), (false, 12)] [B] (by kernel_rfl) (by kernel_rfl) (fun _ _ d _ _ h => by cases d <;> exact h) ?_
  simp only [List.map_cons, List.map_nil, List.getD_cons_zero, List.getD_cons_succ, List.drop_succ_cons, List.drop_zero, List.drop_nil]
  refine mix_seg 10 rfl ?_
  simp only [List.take_succ_cons, List.take_zero, List.drop_succ_cons, List.drop_zero, List.map_cons, List.map_nil]
  repeat (go_big_quiet_step (fail))
  refine wpQuiet_nil ?_
  refine mix_eff rfl ?_
  intro X hX
  have hBd : w.drew.heap.size = B := HB.out.1.symm
  go_wp2
  have f1 : Fr [B] w.drew ((w.alloc (.cells #[.int .u8 0, .int .u8 0, .int .u8 0, .int .u8 0] 5)).drew) := (Fr.refl [B] w.drew).alloc (.cells #[.int .u8 0, .int .u8 0, .int .u8 0, .int .u8 0] 5)
  have hown : Own ((w.alloc (.cells #[.int .u8 0, .int .u8 0, .int .u8 0, .int .u8 0] 5)).drew) 5 (some ⟨B, 0, none⟩) 4 (([] : List UInt8).map bv) := .inr ⟨B, 0, _, rfl, by rw [HB.out.1]; exact alloc_at w _, Nat.zero_le _, by decide, Nat.le_refl _, rfl⟩
  refine hX.out _ _ f1 ?_
  clear hX X s1 s2 hmk
  generalize (w.alloc (.cells #[.int .u8 0, .int .u8 0, .int .u8 0, .int .u8 0] 5)).drew = w1 at *
  have H1 := Lib.hid (And.intro (HB.out.2 w1 hown) f1)
  clear hown f1 hBd
  refine mix_eff rfl ?_
  intro X hX
  go_wp2_with (go_at_call 84; refine H1.out.1.mono ?_; rintro e w2 ⟨a2, c2, rfl, A2⟩)
  refine hX.out _ _ A2.fr ?_
  clear hX X
  have H2 := Lib.hid A2
  clear A2
  refine mix_seg 1 rfl ?_
  simp only [List.take_succ_cons, List.take_zero, List.drop_succ_cons, List.drop_zero, List.map_cons, List.map_nil]
  repeat (go_big_quiet_step (fail))
  refine wpQuiet_nil ?_
  refine mix_nil ?_
  go_wp2
  go_ret
  have hr : Rd w2 a2 c2 (be4 z) := H2.out.own.rd
  refine ⟨⟨a2, c2, rfl, hr.fr (by first | exact Fr.refl _ _ | exact Fr.drewN _ _ _)⟩, ?_⟩
  have f2 : Fr [] w w.drew := Fr.drew1 [] w
  exact ((f2.step H1.out.2 (fun y hy => .inr (by simp at hy; rw [hy, HB.out.1]; exact Nat.le_refl _))).step H2.out.fr (fun y hy => .inr (by simp [blk] at hy; rw [hy, HB.out.1]; exact Nat.le_refl _)))
set_option maxRecDepth 100000 in
set_option maxHeartbeats 1000000 in
theorem whole_adler (a : Option Addr) (cap : Nat) (bs : List UInt8) (w : World) (h : Rd w a cap bs) : Calls Tryz.prog 53 #[.int .i64 3, .slice a bs.length cap] w fun e w' => (∃ ao c, e = .returned (.slice ao 4 c) ∧ Rd w' ao c (be4 (adler bs))) ∧ Fr [] w w' := by
  have H := Lib.hid h
  clear h
  go_enter Tryz.func53, Tryz.ntmps53
  go_upto_region 2 with (go_at_call 69; refine (begun_three _).mono ?_; rintro e w1 ⟨rfl, A1, f1⟩)
  have hw := write_adler w.heap.size 1 0 cap a bs w1 A1 (H.out.fr f1) (fun hb x hx => by have := rd_lt H.out hb x hx; omega)
  have H1 := Lib.hid (And.intro hw f1)
  clear hw f1 A1
  go_upto_region 3 with (go_at_call 70; refine H1.out.1.mono ?_; rintro e w2 ⟨rfl, f2, A2⟩)
  have hs := sum_adler _ _ _ w2 A2
  have H2 := Lib.hid (And.intro hs f2)
  clear hs f2 A2
  go_wp2_with (go_at_call 71; refine H2.out.1.mono ?_; rintro e w3 ⟨⟨a3, c3, rfl, r3⟩, f3⟩)
  go_ret
  exact ⟨⟨a3, c3, rfl, r3⟩, (H1.out.2.step H2.out.2 (fun y hy => .inr (by simp at hy; rw [hy]; exact Nat.le_refl _))).trans f3⟩
set_option maxRecDepth 100000 in
theorem adler_any (a : Option Addr) (cap : Nat) (bs : List UInt8) (w : World) (h : Rd w a cap bs) : Calls Tryz.prog 27 #[.slice a bs.length cap] w fun e w' => e = .returned (.int .u32 (adler bs)) ∧ Fr [] w w' := by
  have hw := whole_adler a cap bs w h
  have hn := fun a cap w h => number_any a cap (adler bs) w (adler_lt bs) h
  have H := Lib.hid (And.intro hw hn)
  clear hw hn h
  go_enter Tryz.func27, Tryz.ntmps27
  go_wp2_with (first | (go_at_call 53; refine H.out.1.mono ?_; rintro e w1 ⟨⟨a1, c1, rfl, r1⟩, f1⟩; have H1 := Lib.hid (And.intro r1 f1); clear r1 f1) | (go_at_call 52; refine (H.out.2 a1 c1 _ H1.out.1).mono ?_; rintro e w2 ⟨rfl, f2⟩))
  go_ret
  exact ⟨rfl, H1.out.2.trans f2⟩
end Go.Proofs.YtolkoidbkaidkaaGreat.sums
/-
  deflate.Zlib, over whatever Raw makes; Raw at level 0.
-/
namespace Go.Proofs.YtolkoidbkaidkaaGreat.defl
open Go Go.RowKit Go.Proofs.YtolkoidbkaidkaaGreat.lib Go.Proofs.YtolkoidbkaidkaaGreat.bm Go.Proofs.YtolkoidbkaidkaaGreat.bl Go.Proofs.YtolkoidbkaidkaaGreat.wb

set_option maxRecDepth 100000 in
theorem raw_zero (a : Option Addr) (cap : Nat) (b : List UInt8) (level : Int) (w : World) (h : lib.Rd w a cap b) (hlen : b.length ≤ 1000000) (hl : level ≤ 0) :
    Calls Tryz.prog 5 #[.slice a b.length cap, .int .i64 level] w (NewBytes w (plainBytes b)) := by
  have hp := plain_any a cap b w h hlen
  unfold NewBytes at hp
  have H := Lib.hid hp
  have d0 : decide (level ≤ 0) = true := by simpa using hl
  clear hp h
  go_enter Tryz.func5, Tryz.ntmps5
  go_wp2_with (go_at_call 10; refine H.out.mono ?_; rintro e w1 ⟨a1, rfl, r1, n1, f1⟩)
  go_ret
  unfold NewBytes
  exact ⟨a1, rfl, r1, n1, f1⟩
/-- Zlib's second byte. -/
def zsec (level : Int) : UInt8 := if level ≤ 0 then 1 else if level = 1 then 94 else 156
def zlibOf (level : Int) (r b : List UInt8) : List UInt8 := [120, zsec level] ++ r ++ sums.be4 (sums.adler b)
set_option maxRecDepth 100000 in
set_option maxHeartbeats 2000000 in
theorem zlib_ex (a : Option Addr) (cap : Nat) (b : List UInt8) (Qr : List UInt8 → Prop) (level : Int) (w : World) (h : lib.Rd w a cap b) (hrl : ∀ r, Qr r → r.length ≤ 100000000)
    (hraw : ∀ w', Fr [] w w' → Calls Tryz.prog 5 #[.slice a b.length cap, .int .i64 level] w' fun e w'' => ∃ r, Qr r ∧ NewBytes w' r e w'') :
    Calls Tryz.prog 8 #[.slice a b.length cap, .int .i64 level] w fun e w' => ∃ r, Qr r ∧ NewBytes w (zlibOf level r b) e w' := by
  obtain ⟨Q, hQ⟩ : ∃ Q, Q = w.heap.size := ⟨_, rfl⟩
  have f0 : Fr [] w (w.alloc (.cells #[.int .u8 120, .int .u8 156] 5)) := (Fr.refl [] w).alloc _
  have hb0 : (w.alloc (.cells #[.int .u8 120, .int .u8 156] 5)).heap[Q]? = some (.cells #[.int .u8 120, .int .u8 156] 5 (0, 0)) := by rw [hQ]; exact alloc_at w _
  have c1 := cell_of hb0 1
  have z1 := frozen_of hb0 1
  simp only [List.getElem?_toArray, List.getElem?_cons_zero, List.getElem?_cons_succ] at c1
  have H := Lib.hid (And.intro h (And.intro hraw (And.intro hQ (And.intro f0 hb0))))
  clear h hraw f0 hb0
  go_enter Tryz.func8, Tryz.ntmps8
  go_upto_block 0 with fail
  rw [← hQ]
  generalize (w.alloc (.cells #[.int .u8 120, .int .u8 156] 5)) = w0 at *
  clear hQ
  go_cut [] from 8 to 18 (fun wz => wz.heap[Q]? = some (.cells #[.int .u8 120, bv (zsec level)] 5 (0, 0)) ∧ Fr [] w wz)
  case first =>
    by_cases hl : level ≤ 0
    · have d0 : decide (level ≤ 0) = true := by simpa using hl
      have hz : zsec level = 1 := if_pos hl
      have HZ := Lib.hid hz
      clear hz
      go_wp2
      go_meet
      rw [HZ.out]
      exact ⟨setCell_of (o := 1) H.out.2.2.2.2 _, H.out.2.2.2.1.setCell (by right; show w.heap.size ≤ Q; rw [H.out.2.2.1]; exact Nat.le_refl _) _⟩
    · have d0 : decide (level ≤ 0) = false := by simp; omega
      by_cases h1 : level = 1
      · subst h1
        go_wp2
        go_meet
        exact ⟨setCell_of (o := 1) H.out.2.2.2.2 _, H.out.2.2.2.1.setCell (by right; show w.heap.size ≤ Q; rw [H.out.2.2.1]; exact Nat.le_refl _) _⟩
      · have d1 : (level == 1) = false := by simpa using h1
        have hz : zsec level = 156 := by unfold zsec; rw [if_neg hl, if_neg h1]
        have HZ := Lib.hid hz
        clear hz
        go_wp2
        go_meet
        rw [HZ.out]
        exact ⟨H.out.2.2.2.2, H.out.2.2.2.1⟩
  case rest =>
  obtain ⟨hbq, hfq⟩ := hcut
  obtain ⟨w1, rfl⟩ : ∃ w1 : World, w1 = wc := ⟨_, rfl⟩
  have hr := H.out.2.1 w1 hfq
  unfold NewBytes at hr
  have H1 := Lib.hid (And.intro hbq (And.intro hfq hr))
  have HRL := Lib.hid hrl
  clear hbq hfq hr c1 z1 hrl
  go_upto_region 7 with (first | (go_at_call 5; refine H1.out.2.2.mono ?_; rintro e w2 ⟨r, hq, a2, he, r2, n2, f2⟩; obtain ⟨L, hL⟩ : ∃ L, L = r.length := ⟨_, rfl⟩; rw [← hL] at he r2; subst he; have hrl := HRL.out r hq; rw [← hL] at hrl; have HL := Lib.hid hL; have HQ := Lib.hid hq; clear hL hq; have H2 := Lib.hid (And.intro r2 (And.intro n2 f2)); clear r2 n2 f2) | (refine wpList_append_mid bits.sliceU8 rfl _ _ rfl (some ⟨Q, 0, none⟩) 2 2 [.int .u8 120, bv (zsec level)] rfl (.inr ⟨Q, 0, _, rfl, H2.out.2.2.blk H1.out.1 (by simp), Nat.le_refl _, by decide, Nat.le_refl _, rfl⟩) rfl a2 L L (r.map bv) rfl (Nat.le_refl _) H2.out.1.nil H2.out.1.cs (by rw [List.length_map, HL.out]) (bits.bv_one _) (by omega) (by unfold maxLen; omega) ?_; intro a3 c3 w3 A3; have H3 := Lib.hid A3; clear A3))
  have f03 : Fr [] w w3 := (H1.out.2.1.trans H2.out.2.2).step H3.out.fr (fun y hy => .inr (by simp [blk] at hy; rw [hy, H.out.2.2.1]; exact Nat.le_refl _))
  have hQ2 : Q < w1.heap.size := lt_of_block H1.out.1
  have n3 : ∀ x ∈ blk a3, w.heap.size ≤ x := fun x hx => by
    have h1 := H2.out.2.2.size
    have h2 := H.out.2.2.1
    rcases H3.out.at_ x hx with k | k
    · simp [blk] at k; omega
    · omega
  have had := sums.adler_any a cap b w3 (H.out.1.fr f03)
  have hbe := sums.be4_map (sums.adler b) (sums.adler_lt b)
  have hxl := sums.adler_lt b
  obtain ⟨x, hx⟩ : ∃ x, x = sums.adler b := ⟨_, rfl⟩
  rw [← hx] at had hbe hxl
  have H4 := Lib.hid (And.intro f03 (And.intro n3 (And.intro had (And.intro hbe hx))))
  clear f03 n3 had hbe hQ2 hx
  go_upto_region 8 with (go_at_call 27; refine H4.out.2.2.1.mono ?_; rintro e w4 ⟨rfl, f4⟩)
  have f5 : Fr [] w4 (w4.alloc (.cells #[.int .u8 ((x : Int) / 16777216), .int .u8 ((x : Int) / 65536 % 256), .int .u8 ((x : Int) / 256 % 256), .int .u8 ((x : Int) % 256)] 5)) := (Fr.refl [] w4).alloc _
  have o5 := (H3.out.own.fr f4 (by simp)).fr f5 (by simp)
  have H5 := Lib.hid (And.intro f5 (And.intro o5 f4))
  clear f5 o5 f4
  have hc3 := H5.out.2.1.shape
  have hc4 : 2 + L ≤ c3 := by
    have := hc3.1
    simp only [List.length_append, List.length_cons, List.length_nil, List.length_map] at this
    rw [HL.out]
    omega
  obtain ⟨N, hN⟩ : ∃ N, N = 2 + L + 4 := ⟨_, rfl⟩
  clear hc3
  go_upto_region 9 with (refine wpList_append_mid bits.sliceU8 rfl _ _ rfl a3 (2 + L) c3 ([.int .u8 120, bv (zsec level)] ++ r.map bv) rfl H5.out.2.1 (by simp only [List.length_append, List.length_cons, List.length_nil, List.length_map]; rw [HL.out]) (some ⟨w4.heap.size, 0, none⟩) 4 4 ((sums.be4 x).map bv) rfl (by omega) (by simp) (by rw [H4.out.2.2.2.1]; exact cs_new w4 _ _ _) rfl (bits.bv_one _) (by omega) (by unfold maxLen; omega) ?_; intro a6 c6 w6 A6; have H6 := Lib.hid A6; clear A6)
  rw [← hN]
  have hzl : (zlibOf level r b).map bv = [.int .u8 120, bv (zsec level)] ++ r.map bv ++ (sums.be4 x).map bv := by
    unfold zlibOf
    rw [List.map_append, List.map_append, ← H4.out.2.2.2.2]
    rfl
  have hzn : (zlibOf level r b).length = N := by
    unfold zlibOf
    rw [List.length_append, List.length_append, ← HL.out, hN]
    rfl
  have ho := H6.out.own
  rw [← hzl] at ho
  obtain ⟨s1, s2, s3⟩ := ho.shape
  rw [List.length_map, hzn] at s1
  have hsl := fun w => run_slice_cut3 bits.sliceU8 N a6 c6 s1 w
  have HZ := Lib.hid (And.intro ho hzn)
  clear ho hzn hzl hN
  go_wp2
  go_ret
  unfold NewBytes
  have hz4 : w4.heap.size ≤ w6.heap.size := Nat.le_trans H5.out.1.size H6.out.fr.size
  refine ⟨r, HQ.out, ?_⟩
  rw [HZ.out.2]
  refine ⟨a6, rfl, ⟨HZ.out.1.cs, by rw [HZ.out.2]; exact Nat.le_refl _, Nat.le_trans s1 s2, fun h => by have := s3 h; omega⟩, fun y hy => ⟨?_, HZ.out.1.lt y hy⟩, (H4.out.1.trans H5.out.2.2).step (H5.out.1.mono (T := blk a3) (by simp) |>.trans (H6.out.fr)) (fun y hy => .inr (H4.out.2.1 y hy))⟩
  have k0 := H4.out.1.size
  have k1 := H5.out.2.2.size
  have k2 := H5.out.1.size
  rcases H6.out.at_ y hy with k | k
  · exact H4.out.2.1 y k
  · omega
theorem zlib_of (a : Option Addr) (cap : Nat) (b r : List UInt8) (level : Int) (w : World) (h : lib.Rd w a cap b) (hrl : r.length ≤ 100000000)
    (hraw : ∀ w', Fr [] w w' → Calls Tryz.prog 5 #[.slice a b.length cap, .int .i64 level] w' (NewBytes w' r)) :
    Calls Tryz.prog 8 #[.slice a b.length cap, .int .i64 level] w (NewBytes w (zlibOf level r b)) := by
  refine (zlib_ex a cap b (fun x => x = r) level w h (fun x hx => by rw [hx]; exact hrl) (fun w' f => (hraw w' f).mono fun e w'' hn => ⟨r, rfl, hn⟩)).mono ?_
  rintro e w' ⟨x, rfl, hn⟩
  exact hn
end Go.Proofs.YtolkoidbkaidkaaGreat.defl
/-
  deflate.coded.write's closure: a literal's bits, a match's bits.
-/
namespace Go.Proofs.YtolkoidbkaidkaaGreat.defl
open Go Go.RowKit Go.Proofs.YtolkoidbkaidkaaGreat.lib Go.Proofs.YtolkoidbkaidkaaGreat.bm Go.Proofs.YtolkoidbkaidkaaGreat.bl Go.Proofs.YtolkoidbkaidkaaGreat.mat Go.Proofs.YtolkoidbkaidkaaGreat.huf Go.Proofs.YtolkoidbkaidkaaGreat.wb

/-- A symbol's bits. -/
def sbits (ls : List Nat) (s : Nat) : List Bool := msb (lenAt ls s) (codeAt ls s)
def tbits (ll dl : List Nat) : Tok → List Bool
  | .lit c => sbits ll c.toNat
  | .mat n d => sbits ll (lcode n).1 ++ lsb (lcode n).2.2 (lcode n).2.1 ++ sbits dl (dcode d).1 ++ lsb (dcode d).2.2 (dcode d).2.1
def tsbits (ll dl : List Nat) (t : List Tok) : List Bool := t.flatMap (tbits ll dl)
theorem tsbits_add (ll dl : List Nat) (t : List Tok) (x : Tok) : tsbits ll dl (t ++ [x]) = tsbits ll dl t ++ tbits ll dl x := by simp [tsbits]
theorem sbits_len (ls : List Nat) (hle : ∀ l ∈ ls, l ≤ 15) (s : Nat) : (sbits ls s).length ≤ 15 := by
  unfold sbits
  rw [msb_length]
  unfold lenAt
  cases h : ls[s]? with
  | none => simp
  | some x => simpa [h] using hle x (List.mem_of_getElem? h)
theorem lcode_w (n : Nat) (h3 : 3 ≤ n) (h : n ≤ 258) : (lcode n).2.2 ≤ 5 := (lcode_lt h3 h).2.2.1
theorem tbits_len (ll dl : List Nat) (h1 : ∀ l ∈ ll, l ≤ 15) (h2 : ∀ l ∈ dl, l ≤ 15) (x : Tok) (hx : ∀ n d, x = .mat n d → 3 ≤ n ∧ n ≤ 258 ∧ 1 ≤ d ∧ d ≤ 32768) : (tbits ll dl x).length ≤ 48 := by
  cases x with
  | lit c => have := sbits_len ll h1 c.toNat; simp only [tbits]; omega
  | mat n d =>
    obtain ⟨a, b, c, e⟩ := hx n d rfl
    have k1 := sbits_len ll h1 (lcode n).1
    have k2 := sbits_len dl h2 (dcode d).1
    have k3 := (lcode_lt a b).2.2.1
    have k4 := (dcode_lt c e).2.1
    simp only [tbits, List.length_append, lsb_length]
    omega
/-- A row of codes in memory. -/
def U32 (w : World) (g : Nat) (xs : List Nat) : Prop := Cs w (some ⟨g, 0, none⟩) (xs.map fun x => .int .u32 (x : Nat))
theorem codesOf_at {ls : List Nat} {s : Nat} (h : s < ls.length) : (codesOf ls)[s]? = some (codeAt ls s) := by simp [codesOf, h]
theorem codeAt_lt (ls : List Nat) (s : Nat) (hle : ∀ l ∈ ls, l ≤ 15) (hw : weight ls ≤ 32768) : codeAt ls s < 32768 := by
  unfold codeAt
  split
  · decide
  · rename_i h
    have h1 := code_lt ls s hle hw (by omega)
    have h2 : lenAt ls s ≤ 15 := hle _ (lenAt_mem (lenAt_lt (by omega)))
    exact Nat.lt_of_lt_of_le h1 (Nat.pow_le_pow_right (by decide) h2)
/-- What the closure sees: the writer's box, the two rows of codes, the two rows of lengths. -/
structure Env (p q4 q6 q3 q8 g1 g2 : Nat) (a1 a2 : Option Addr) (c1 c2 n1 n2 : Nat) (ll dl : List Nat) (w : World) : Prop where
  c4 : w.cell? ⟨q4, 0, none⟩ = some (.pointer (some ⟨p, 0, none⟩))
  c6 : w.cell? ⟨q6, 0, none⟩ = some (.slice (some ⟨g1, 0, none⟩) n1 n1)
  c32 : w.cell? ⟨q3, 2, none⟩ = some (.slice a1 n1 c1)
  c33 : w.cell? ⟨q3, 3, none⟩ = some (.slice a2 n2 c2)
  c8 : w.cell? ⟨q8, 0, none⟩ = some (.slice (some ⟨g2, 0, none⟩) n2 n2)
  u1 : U32 w g1 (codesOf ll)
  u2 : U32 w g2 (codesOf dl)
  r1 : Ri w a1 c1 ll
  r2 : Ri w a2 c2 dl
  l1 : n1 = ll.length
  l2 : n2 = dl.length
def envB (q4 q6 q3 q8 g1 g2 : Nat) (a1 a2 : Option Addr) : List Nat := [q4, q6, q3, q8, g1, g2] ++ blk a1 ++ blk a2
theorem ri_frS {S : List Nat} {w w' : World} {a : Option Addr} {cap : Nat} {xs : List Nat} (h : Ri w a cap xs) (f : Fr S w w') (hn : ∀ x ∈ blk a, x ∉ S) : Ri w' a cap xs := ⟨h.cs.fr f hn, h.le, h.max, h.nil⟩
theorem Env.fr {p q4 q6 q3 q8 g1 g2 : Nat} {a1 a2 : Option Addr} {c1 c2 n1 n2 : Nat} {ll dl : List Nat} {w w' : World} {S : List Nat} (h : Env p q4 q6 q3 q8 g1 g2 a1 a2 c1 c2 n1 n2 ll dl w) (f : Fr S w w')
    (hn : ∀ x ∈ envB q4 q6 q3 q8 g1 g2 a1 a2, x ∉ S) : Env p q4 q6 q3 q8 g1 g2 a1 a2 c1 c2 n1 n2 ll dl w' := by
  have k : ∀ x, x ∈ [q4, q6, q3, q8, g1, g2] → x ∉ S := fun x hx => hn x (by simp only [envB, List.mem_append]; exact .inl (.inl hx))
  exact ⟨f.cell h.c4 (k q4 (by simp)), f.cell h.c6 (k q6 (by simp)), f.cell h.c32 (k q3 (by simp)), f.cell h.c33 (k q3 (by simp)), f.cell h.c8 (k q8 (by simp)),
    Cs.fr h.u1 f (by simpa [blk] using k g1 (by simp)), Cs.fr h.u2 f (by simpa [blk] using k g2 (by simp)),
    ri_frS h.r1 f (fun x hx => hn x (by simp only [envB, List.mem_append]; exact .inl (.inr hx))), ri_frS h.r2 f (fun x hx => hn x (by simp only [envB, List.mem_append]; exact .inr hx)), h.l1, h.l2⟩
/-- What a symbol's code and length lie at. -/
theorem Env.sym1 {p q4 q6 q3 q8 g1 g2 : Nat} {a1 a2 : Option Addr} {c1 c2 n1 n2 : Nat} {ll dl : List Nat} {w : World} (h : Env p q4 q6 q3 q8 g1 g2 a1 a2 c1 c2 n1 n2 ll dl w) {s : Nat} (hs : s < n1) :
    ∃ g o, a1 = some ⟨g, o, none⟩ ∧ w.cell? ⟨g, o + s, none⟩ = some (.int .i64 (lenAt ll s : Nat)) ∧ w.cell? ⟨g1, s, none⟩ = some (.int .u32 (codeAt ll s : Nat)) := by
  have hl : s < ll.length := by rw [← h.l1]; exact hs
  obtain ⟨g, o, e, hc⟩ := h.r1.at hl
  refine ⟨g, o, e, by rw [hc, lenAt, List.getElem?_eq_getElem hl]; rfl, ?_⟩
  obtain ⟨g', o', e', hc'⟩ := h.u1.at (by simp [codesOf]; omega)
  simp only [Option.some.injEq, Addr.mk.injEq, and_true] at e'
  obtain ⟨rfl, rfl⟩ := e'
  have := hc' s (.int .u32 (codeAt ll s : Nat)) (by rw [List.getElem?_map, codesOf_at hl]; rfl)
  simpa using this
theorem Env.sym2 {p q4 q6 q3 q8 g1 g2 : Nat} {a1 a2 : Option Addr} {c1 c2 n1 n2 : Nat} {ll dl : List Nat} {w : World} (h : Env p q4 q6 q3 q8 g1 g2 a1 a2 c1 c2 n1 n2 ll dl w) {s : Nat} (hs : s < n2) :
    ∃ g o, a2 = some ⟨g, o, none⟩ ∧ w.cell? ⟨g, o + s, none⟩ = some (.int .i64 (lenAt dl s : Nat)) ∧ w.cell? ⟨g2, s, none⟩ = some (.int .u32 (codeAt dl s : Nat)) := by
  have hl : s < dl.length := by rw [← h.l2]; exact hs
  obtain ⟨g, o, e, hc⟩ := h.r2.at hl
  refine ⟨g, o, e, by rw [hc, lenAt, List.getElem?_eq_getElem hl]; rfl, ?_⟩
  obtain ⟨g', o', e', hc'⟩ := h.u2.at (by simp [codesOf]; omega)
  simp only [Option.some.injEq, Addr.mk.injEq, and_true] at e'
  obtain ⟨rfl, rfl⟩ := e'
  have := hc' s (.int .u32 (codeAt dl s : Nat)) (by rw [List.getElem?_map, codesOf_at hl]; rfl)
  simpa using this
theorem code_s (p : Nat) (F : List Nat) (l : List Bool) (ls : List Nat) (s : Nat) (w : World) (h : Wb w p F l) (hle : ∀ l ∈ ls, l ≤ 15) (hw : weight ls ≤ 32768) (hL : l.length ≤ 562949953421200) :
    Calls Tryz.prog 116 #[.pointer (some ⟨p, 0, none⟩), .int .u32 (codeAt ls s : Nat), .int .i64 (lenAt ls s : Nat)] w (WbPost p F w (l ++ sbits ls s)) := by
  have h1 := code_b p F l (codeAt ls s) (lenAt ls s : Nat) w h (by have := codeAt_lt ls s hle hw; omega) hL
  have h2 := sbits_len ls hle s
  unfold sbits at h2 ⊢
  rw [msb_length] at h2
  rw [Int.toNat_natCast, Nat.min_eq_left (by omega)] at h1
  exact h1
set_option maxRecDepth 100000 in
set_option maxHeartbeats 1000000 in
theorem wtok_lit (p q4 q6 q3 q8 g1 g2 : Nat) (a1 a2 : Option Addr) (c1 c2 n1 n2 : Nat) (ll dl : List Nat) (F : List Nat) (l : List Bool) (c : UInt8) (w : World) (h : Env p q4 q6 q3 q8 g1 g2 a1 a2 c1 c2 n1 n2 ll dl w) (hW : Wb w p F l)
    (hle : ∀ l ∈ ll, l ≤ 15) (hw : weight ll ≤ 32768) (hn : 257 ≤ n1) (hL : l.length ≤ 562949953421200) :
    Calls Tryz.prog 115 #[.int .u8 c.toNat, .pointer none, .pointer (some ⟨q4, 0, none⟩), .pointer (some ⟨q6, 0, none⟩), .pointer (some ⟨q3, 0, none⟩), .pointer (some ⟨q8, 0, none⟩)] w (WbPost p F w (l ++ tbits ll dl (.lit c))) := by
  obtain ⟨s, hs⟩ : ∃ s, s = c.toNat := ⟨_, rfl⟩
  have hs2 : s < 256 := by rw [hs]; exact UInt8.toNat_lt _
  rw [← hs]
  have hn1 := h.r1.le
  rw [← h.l1] at hn1
  obtain ⟨g, o, rfl, d1, d2⟩ := h.sym1 (show s < n1 by omega)
  have d3 := h.c4
  have d4 := h.c6
  have d5 := h.c32
  have hcall := code_s p F l ll s w.drew (wb_fr hW (Fr.drew1 [] w) (by simp)) hle hw hL
  obtain ⟨x, hx⟩ : ∃ x, x = codeAt ll s := ⟨_, rfl⟩
  obtain ⟨y, hy⟩ : ∃ y, y = lenAt ll s := ⟨_, rfl⟩
  rw [← hx] at d2 hcall
  rw [← hy] at d1 hcall
  have hg : decide ((n1 : Int) ≤ (s : Int)) = false := by simp; omega
  have HC := Lib.hid (And.intro hcall hs)
  clear hcall h hW hle hw hL hx hy hs
  simp only [tbits]
  go_enter Tryz.func115, Tryz.ntmps115
  go_upto_region 1 with fail
  refine region_tail 10 (by kernel_rfl) (by kernel_rfl) ?_
  simp only [List.take_succ_cons, List.take_zero, List.drop_succ_cons, List.drop_zero]
  repeat (go_big_quiet_step (fail))
  refine wpQuiet_nil ?_
  go_wp2_with (go_at_call 116; refine HC.out.1.mono ?_; rintro e w2 ⟨rfl, hfr, hb⟩)
  refine bodyPost_ret (results_none rfl _ _ _) rfl ?_
  rw [HC.out.2] at hb
  exact ⟨rfl, (Fr.drew1 F w).trans hfr, hb⟩
/-- A writer's way: what has turned, what it holds, where. -/
structure Pg (p : Nat) (F : List Nat) (w : World) (b : List Bool) (F' : List Nat) (w' : World) : Prop where
  fr : Fr F w w'
  wb : Wb w' p F' b
  new : ∀ y ∈ F', y ∈ F ∨ w.heap.size ≤ y
theorem Pg.start {p : Nat} {F : List Nat} {w : World} {b : List Bool} (h : Wb w p F b) : Pg p F w b F w := ⟨.refl _ _, h, fun _ hy => .inl hy⟩
theorem Pg.fr0 {p : Nat} {F F' : List Nat} {w w1 w2 : World} {b : List Bool} (h : Pg p F w b F' w1) (f : Fr [] w1 w2) : Pg p F w b F' w2 := ⟨h.fr.trans (f.mono (by simp)), wb_fr h.wb f (by simp), h.new⟩
theorem Pg.step {p : Nat} {F F1 : List Nat} {w w1 w2 : World} {b b2 : List Bool} (h : Pg p F w b F1 w1) (f : Fr F1 w1 w2) (g : ∃ F', Wb w2 p F' b2 ∧ ∀ y ∈ F', y ∈ F1 ∨ w1.heap.size ≤ y) : ∃ F2, Pg p F w b2 F2 w2 := by
  obtain ⟨F2, hb, hn⟩ := g
  refine ⟨F2, h.fr.step f fun y hy => h.new y hy, hb, fun y hy => ?_⟩
  rcases hn y hy with k | k
  · exact h.new y k
  · exact .inr (Nat.le_trans h.fr.size k)
theorem put_w (p : Nat) (F : List Nat) (l : List Bool) (x n : Nat) (w : World) (h : Wb w p F l) (hx : x < 4294967296) (hn : n ≤ 32) (hL : l.length ≤ 562949953421312) :
    Calls Tryz.prog 117 #[.pointer (some ⟨p, 0, none⟩), .int .u32 (x : Nat), .int .i64 (n : Nat)] w (WbPost p F w (l ++ lsb n x)) := by
  have h1 := put_b p F l x (n : Nat) w h hx hL
  rwa [Int.toNat_natCast, Nat.min_eq_left hn] at h1
theorem cell_low {w : World} {a : Addr} {v : Value} (h : w.cell? a = some v) : a.block < w.heap.size := by
  rcases Nat.lt_or_ge a.block w.heap.size with k | k
  · exact k
  · unfold World.cell? at h
    rw [Array.getElem?_eq_none k] at h
    simp at h
set_option maxRecDepth 100000 in
set_option maxHeartbeats 4000000 in
theorem wtok_mat (p q4 q6 q3 q8 g1 g2 g o : Nat) (a1 a2 : Option Addr) (c1 c2 n1 n2 : Nat) (ll dl : List Nat) (F : List Nat) (l : List Bool) (n d : Nat) (w : World) (h : Env p q4 q6 q3 q8 g1 g2 a1 a2 c1 c2 n1 n2 ll dl w) (hW : Wb w p F l)
    (hle : ∀ l ∈ ll, l ≤ 15) (hw : weight ll ≤ 32768) (hle2 : ∀ l ∈ dl, l ≤ 15) (hw2 : weight dl ≤ 32768) (hn : 286 ≤ n1) (hn2 : 30 ≤ n2) (hL : l.length ≤ 562949953421000)
    (hE : ∀ x ∈ envB q4 q6 q3 q8 g1 g2 a1 a2, x ∉ F ∧ x < w.heap.size) (h3 : 3 ≤ n) (h258 : n ≤ 258) (h1 : 1 ≤ d) (hd : d ≤ 32768) (hg : g ∉ F)
    (e1 : w.cell? ⟨g, o + 1, none⟩ = some (.int .i64 (n : Nat))) (e2 : w.cell? ⟨g, o + 2, none⟩ = some (.int .i64 (d : Nat))) :
    Calls Tryz.prog 115 #[.int .u8 0, .pointer (some ⟨g, o, none⟩), .pointer (some ⟨q4, 0, none⟩), .pointer (some ⟨q6, 0, none⟩), .pointer (some ⟨q3, 0, none⟩), .pointer (some ⟨q8, 0, none⟩)] w (WbPost p F w (l ++ tbits ll dl (.mat n d))) := by
  have hlen := length_any n w h3 h258
  have hlt := lcode_lt h3 h258
  have hdt := dcode_lt h1 hd
  have hgl := cell_low e2
  simp only at hgl
  unfold Triple at hlen
  simp only [tbits]
  obtain ⟨s, hs⟩ : ∃ s, s = (lcode n).1 := ⟨_, rfl⟩
  obtain ⟨m, hm⟩ : ∃ m, m = (lcode n).2.1 := ⟨_, rfl⟩
  obtain ⟨v, hv⟩ : ∃ v, v = (lcode n).2.2 := ⟨_, rfl⟩
  obtain ⟨s2, hs2⟩ : ∃ s2, s2 = (dcode d).1 := ⟨_, rfl⟩
  obtain ⟨m2, hm2⟩ : ∃ m2, m2 = (dcode d).2.1 := ⟨_, rfl⟩
  obtain ⟨v2, hv2⟩ : ∃ v2, v2 = (dcode d).2.2 := ⟨_, rfl⟩
  rw [← hs, ← hm, ← hv] at hlt hlen ⊢
  rw [← hs2, ← hm2, ← hv2] at hdt ⊢
  have hmb : m < 4294967296 := Nat.lt_of_lt_of_le hlt.2.2.2 (Nat.le_trans (Nat.pow_le_pow_right (by decide) hlt.2.2.1) (by decide))
  have hmb2 : m2 < 4294967296 := Nat.lt_of_lt_of_le hdt.2.2 (Nat.le_trans (Nat.pow_le_pow_right (by decide) hdt.2.1) (by decide))
  have hn1 := h.r1.le
  rw [← h.l1] at hn1
  have hn3 := h.r2.le
  rw [← h.l2] at hn3
  have kS := sbits_len ll hle s
  have kS2 := sbits_len dl hle2 s2
  have H := Lib.hid (And.intro h (And.intro hW (And.intro hE (And.intro hlen (And.intro hgl (And.intro hg e2))))))
  have HB := Lib.hid (And.intro hlt (And.intro hdt (And.intro hmb (And.intro hmb2 (And.intro hle (And.intro hw (And.intro hle2 hw2)))))))
  have HD := Lib.hid (And.intro hs2 (And.intro hm2 (And.intro hv2 (And.intro h1 hd))))
  have HL := Lib.hid (And.intro hL (And.intro kS kS2))
  have hsl : s < n1 := by omega
  have hsl2 : s2 < n2 := by omega
  clear h hW hE hlen hgl hg e2 hlt hdt hmb hmb2 hle hw hle2 hw2 hs hm hv hs2 hm2 hv2 h1 hd h3 h258 hL kS kS2
  go_enter Tryz.func115, Tryz.ntmps115
  go_upto_region 3 with (go_at_call 34; refine H.out.2.2.2.1.mono ?_; rintro e w1 ⟨rfl, f1⟩; have H1 := Lib.hid f1; clear f1)
  clear e1
  have ev1 := H.out.1.fr H1.out (by simp)
  obtain ⟨ga, oa, ea, d1, d2⟩ := ev1.sym1 hsl
  subst ea
  have d3 := ev1.c4
  have d4 := ev1.c6
  have d5 := ev1.c32
  have hcall := code_s p F l ll s w1.drew (wb_fr H.out.2.1 (H1.out.trans (Fr.drew1 [] w1)) (by simp)) HB.out.2.2.2.2.1 HB.out.2.2.2.2.2.1 (by have := HL.out.1; omega)
  obtain ⟨x, hx⟩ : ∃ x, x = codeAt ll s := ⟨_, rfl⟩
  obtain ⟨y, hy⟩ : ∃ y, y = lenAt ll s := ⟨_, rfl⟩
  rw [← hx] at d2 hcall
  rw [← hy] at d1 hcall
  have hg : decide ((n1 : Int) ≤ (s : Int)) = false := by simp; omega
  have HC := Lib.hid hcall
  clear hcall hx hy ev1
  refine region_tail 10 (by kernel_rfl) (by kernel_rfl) ?_
  simp only [List.take_succ_cons, List.take_zero, List.drop_succ_cons, List.drop_zero]
  repeat (go_big_quiet_step (fail))
  refine wpQuiet_nil ?_
  clear d1 d2 d3 d4 d5 hg
  go_upto_region 4 with (go_at_call 116; refine HC.out.mono ?_; rintro e w2 ⟨rfl, f2, g2'⟩; have H2 := Lib.hid (Pg.step (Pg.fr0 (Pg.start H.out.2.1) (H1.out.trans (Fr.drew1 [] w1))) f2 g2'); clear f2 g2')
  obtain ⟨F2, hp2⟩ := H2.out
  have ev2 := H.out.1.fr hp2.fr fun x hx => (H.out.2.2.1 x hx).1
  have d3 := ev2.c4
  have hput := put_w p F2 _ m v w2 hp2.wb HB.out.2.2.1 (by have := HB.out.1.2.2.1; omega) (by rw [List.length_append]; have := HL.out; omega)
  have HC2 := Lib.hid hput
  clear ev2 hput
  go_upto_region 5 with (go_at_call 117; refine HC2.out.mono ?_; rintro e w3 ⟨rfl, f3, g3⟩; have H3 := Lib.hid (Pg.step hp2 f3 g3); clear f3 g3)
  clear d3
  obtain ⟨F3, hp3⟩ := H3.out
  have e2 := hp3.fr.cell H.out.2.2.2.2.2.2 H.out.2.2.2.2.2.1
  have hdi := distance_any d w3 HD.out.2.2.2.1 HD.out.2.2.2.2
  unfold Triple at hdi
  rw [← HD.out.1, ← HD.out.2.1, ← HD.out.2.2.1] at hdi
  have HDI := Lib.hid hdi
  have HP3 := Lib.hid hp3
  clear hdi hp3 hp2
  go_upto_region 6 with (go_at_call 35; refine HDI.out.mono ?_; rintro e w4 ⟨rfl, f4⟩; have H4 := Lib.hid f4; clear f4)
  clear e2
  have hp4 := HP3.out.fr0 H4.out
  have ev4 := H.out.1.fr hp4.fr fun x hx => (H.out.2.2.1 x hx).1
  obtain ⟨gb, ob, eb, d1, d2⟩ := ev4.sym2 hsl2
  subst eb
  have d3 := ev4.c4
  have d4 := ev4.c8
  have d5 := ev4.c33
  have hcall := code_s p F3 _ dl s2 w4.drew (hp4.fr0 (Fr.drew1 [] w4)).wb HB.out.2.2.2.2.2.2.1 HB.out.2.2.2.2.2.2.2 (by rw [List.length_append, List.length_append, lsb_length]; have := HL.out; have := HB.out.1.2.2.1; omega)
  obtain ⟨x2, hx2⟩ : ∃ x, x = codeAt dl s2 := ⟨_, rfl⟩
  obtain ⟨y2, hy2⟩ : ∃ y, y = lenAt dl s2 := ⟨_, rfl⟩
  rw [← hx2] at d2 hcall
  rw [← hy2] at d1 hcall
  have hg : decide ((n2 : Int) ≤ (s2 : Int)) = false := by simp; omega
  have HC4 := Lib.hid hcall
  have HP4 := Lib.hid hp4
  clear hcall hx2 hy2 ev4 hp4
  refine region_tail 10 (by kernel_rfl) (by kernel_rfl) ?_
  simp only [List.take_succ_cons, List.take_zero, List.drop_succ_cons, List.drop_zero]
  repeat (go_big_quiet_step (fail))
  refine wpQuiet_nil ?_
  clear d1 d2 d3 d4 d5 hg
  go_upto_region 7 with (go_at_call 116; refine HC4.out.mono ?_; rintro e w5 ⟨rfl, f5, g5⟩; have H5 := Lib.hid (Pg.step (HP4.out.fr0 (Fr.drew1 [] w4)) f5 g5); clear f5 g5)
  obtain ⟨F5, hp5⟩ := H5.out
  have ev5 := H.out.1.fr hp5.fr fun x hx => (H.out.2.2.1 x hx).1
  have d3 := ev5.c4
  have hput := put_w p F5 _ m2 v2 w5 hp5.wb HB.out.2.2.2.1 (by have := HB.out.2.1.2.1; omega) (by rw [List.length_append, List.length_append, List.length_append, lsb_length]; have := HL.out; have := HB.out.1.2.2.1; omega)
  have HC5 := Lib.hid hput
  have HP5 := Lib.hid hp5
  clear ev5 hput hp5
  go_wp2_with (go_at_call 117; refine HC5.out.mono ?_; rintro e w6 ⟨rfl, f6, g6⟩; have H6 := Lib.hid (Pg.step HP5.out f6 g6); clear f6 g6)
  (try simp only [Exit.inBlock, Exit.then])
  refine bodyPost_end (results_none rfl _ _ _) rfl ?_
  obtain ⟨F6, hp6⟩ := H6.out
  refine ⟨rfl, hp6.fr, F6, ?_, hp6.new⟩
  have := hp6.wb
  simpa only [List.append_assoc] using this
end Go.Proofs.YtolkoidbkaidkaaGreat.defl
/-
  deflate.cut, runs.
-/
namespace Go.Proofs.YtolkoidbkaidkaaGreat.defl
open Go Go.RowKit Go.Proofs.YtolkoidbkaidkaaGreat.lib Go.Proofs.YtolkoidbkaidkaaGreat.bm Go.Proofs.YtolkoidbkaidkaaGreat.bl Go.Proofs.YtolkoidbkaidkaaGreat.mat Go.Proofs.YtolkoidbkaidkaaGreat.huf Go.Proofs.YtolkoidbkaidkaaGreat.wb

/-- How many lengths stay when the noughts at the end are cut. -/
def cutN (ls : List Nat) (least : Nat) : Nat → Nat
  | 0 => 0
  | n + 1 => if least < n + 1 ∧ lenAt ls n = 0 then cutN ls least n else n + 1
theorem cutN_le (ls : List Nat) (least : Nat) : ∀ n, cutN ls least n ≤ n
  | 0 => Nat.le_refl _
  | n + 1 => by
    unfold cutN
    split
    · exact Nat.le_succ_of_le (cutN_le ls least n)
    · exact Nat.le_refl _
theorem cutN_ge (ls : List Nat) (least : Nat) : ∀ n, least ≤ n → least ≤ cutN ls least n
  | 0, h => by have : least = 0 := by omega
               rw [this]; exact Nat.zero_le _
  | n + 1, h => by
    unfold cutN
    split
    · rename_i hc; exact cutN_ge ls least n (by omega)
    · exact h
theorem cutN_zero (ls : List Nat) (least : Nat) : ∀ n i, cutN ls least n ≤ i → i < n → lenAt ls i = 0
  | 0, i, _, h => by omega
  | n + 1, i, h1, h2 => by
    unfold cutN at h1
    split at h1
    · rename_i hc
      rcases Nat.lt_or_ge i n with k | k
      · exact cutN_zero ls least n i h1 k
      · rw [show i = n from by omega]; exact hc.2
    · omega
set_option maxRecDepth 100000 in
theorem cut_any (a : Option Addr) (cap : Nat) (ls : List Nat) (least : Nat) (w : World) (h : Ri w a cap ls) (hlen : ls.length ≤ 1000000) (hle : least ≤ 1000000) :
    Calls Tryz.prog 118 #[.slice a ls.length cap, .int .i64 (least : Nat)] w fun e w' => e = .returned (.slice a (cutN ls least ls.length) cap) ∧ w' = w := by
  obtain ⟨N, hN⟩ : ∃ N, N = ls.length := ⟨_, rfl⟩
  obtain ⟨R, hR⟩ : ∃ R, R = cutN ls least ls.length := ⟨_, rfl⟩
  have hNc := h.le
  rw [← hN] at hlen hNc ⊢
  rw [← hN] at hR
  have hRN : R ≤ N := by rw [hR]; exact cutN_le _ _ _
  have hmx : cap ≤ 9223372036854775807 := h.max
  rw [← hR]
  have hnil := h.nil
  have H := Lib.hid (And.intro h (And.intro hN (And.intro hR hnil)))
  clear h hN hR hnil
  go_enter Tryz.func118, Tryz.ntmps118
  go_wp2
  go_loopg [5] N (fun k s5 wr => s5 = .int .i64 (k : Nat) ∧ k ≤ N ∧ R ≤ k ∧ cutN ls least k = R ∧ w = wr)
  case atStart => exact ⟨rfl, Nat.le_refl _, hRN, H.out.2.2.1.symm, rfl⟩
  case round =>
    obtain ⟨rfl, hk, hRk, hcn, rfl⟩ := hrel
    by_cases hl : least < gk
    · obtain ⟨k, rfl⟩ : ∃ k, gk = k + 1 := ⟨gk - 1, by omega⟩
      have hkl : k < ls.length := by rw [← H.out.2.1]; omega
      obtain ⟨g, o, rfl, hc⟩ := H.out.1.at hkl
      have hla : lenAt ls k = ls[k] := by unfold lenAt; rw [List.getElem?_eq_getElem hkl]; rfl
      rw [← hla] at hc
      obtain ⟨v, hv⟩ : ∃ v, v = lenAt ls k := ⟨_, rfl⟩
      rw [← hv] at hc
      have e1 : ((k + 1 : Nat) : Int) - 1 = (k : Int) := by omega
      have g1 : decide ((N : Int) ≤ (k : Int)) = false := by simp; omega
      unfold cutN at hcn
      rw [← hv] at hcn
      obtain ⟨k1, hk1⟩ : ∃ k1, k1 = k + 1 := ⟨_, rfl⟩
      rw [← hk1] at hl hk hRk e1 ⊢
      have HK := Lib.hid hk1
      clear hla hv hk1
      by_cases hv0 : v = 0
      · rw [if_pos ⟨by have := HK.out; omega, hv0⟩] at hcn
        have q : ((v : Int) == 0) = true := by simp [hv0]
        have HC := Lib.hid hcn
        clear hcn
        go_wp2
        go_roundg k
        case measure => have := HK.out; omega
        case rel => exact ⟨by go_num, by have := HK.out; omega, by have h := cutN_le ls least k; have := HC.out; omega, HC.out, rfl⟩
      · rw [if_neg (fun hh => hv0 hh.2)] at hcn
        have q : ((v : Int) == 0) = false := by simp only [beq_eq_false_iff_ne]; omega
        obtain rfl : k1 = R := by have := HK.out; omega
        clear hcn
        go_wp2
        go_ret
        exact ⟨rfl, rfl⟩
    · have e : cutN ls least gk = gk := by
        cases gk with
        | zero => rfl
        | succ n => unfold cutN; rw [if_neg (by omega)]
      obtain rfl : gk = R := by omega
      have q : decide ((least : Int) < (gk : Int)) = false := by simp; omega
      clear e hcn
      cases a with
      | none =>
        have h0 := H.out.2.2.2 rfl
        obtain rfl : cap = 0 := h0
        obtain rfl : gk = 0 := by omega
        go_wp2
        go_ret
        exact ⟨rfl, rfl⟩
      | some ad =>
        obtain ⟨g, o, s⟩ := ad
        go_wp2
        go_ret
        exact ⟨rfl, rfl⟩
/-! ### runs -/
/-- A length, perhaps with repeats: its symbol, what comes behind it, how many bits. -/
abbrev Rn := Nat × Nat × Nat
def rcells (l : List Rn) : List Value := l.flatMap fun x => [.int .i64 (x.1 : Nat), .int .u32 (x.2.1 : Nat), .int .i64 (x.2.2 : Nat)]
theorem rcells_append (a b : List Rn) : rcells (a ++ b) = rcells a ++ rcells b := by simp [rcells]
theorem rcells_length (l : List Rn) : (rcells l).length = l.length * 3 := by
  induction l with
  | nil => rfl
  | cons x l ih => simp only [rcells, List.flatMap_cons, List.length_append, List.length_cons, List.length_nil] at ih ⊢; omega
theorem rcells_at : ∀ (l : List Rn) (i : Nat) (x : Rn), l[i]? = some x → (rcells l)[i * 3]? = some (.int .i64 (x.1 : Nat)) ∧ (rcells l)[i * 3 + 1]? = some (.int .u32 (x.2.1 : Nat)) ∧ (rcells l)[i * 3 + 2]? = some (.int .i64 (x.2.2 : Nat))
  | [], i, x, h => by simp at h
  | y :: l, 0, x, h => by
    simp only [List.getElem?_cons_zero, Option.some.injEq] at h
    subst h
    exact ⟨rfl, rfl, rfl⟩
  | y :: l, i + 1, x, h => by
    have := rcells_at l i x (by simpa using h)
    rw [show (i + 1) * 3 = i * 3 + 3 from by omega]
    exact this
/-- What one of them makes of the lengths so far. -/
def exp1 (out : List Nat) (r : Rn) : List Nat :=
  if r.1 < 16 then out ++ [r.1] else if r.1 = 16 then out ++ List.replicate (3 + r.2.1) (out.getLast?.getD 0) else if r.1 = 17 then out ++ List.replicate (3 + r.2.1) 0 else out ++ List.replicate (11 + r.2.1) 0
def okR (out : List Nat) (r : Rn) : Prop :=
  (r.1 ≤ 15 ∧ r.2.1 = 0 ∧ r.2.2 = 0) ∨ (r.1 = 16 ∧ r.2.1 < 4 ∧ r.2.2 = 2 ∧ out ≠ []) ∨ (r.1 = 17 ∧ r.2.1 < 8 ∧ r.2.2 = 3) ∨ (r.1 = 18 ∧ r.2.1 < 128 ∧ r.2.2 = 7)
def RunsOk : List Nat → List Rn → List Nat → Prop
  | out, [], fin => out = fin
  | out, r :: rs, fin => okR out r ∧ RunsOk (exp1 out r) rs fin
theorem RunsOk.add : ∀ {rs : List Rn} {out mid : List Nat} {r : Rn}, RunsOk out rs mid → okR mid r → RunsOk out (rs ++ [r]) (exp1 mid r)
  | [], out, mid, r, h, k => by obtain rfl : out = mid := h; exact ⟨k, rfl⟩
  | x :: rs, out, mid, r, h, k => ⟨h.1, RunsOk.add h.2 k⟩
theorem exp1_len (out : List Nat) (r : Rn) : out.length + 1 ≤ (exp1 out r).length := by
  unfold exp1
  split
  · simp
  · split
    · simp; omega
    · split <;> simp <;> omega
theorem RunsOk.len : ∀ {rs : List Rn} {out fin : List Nat}, RunsOk out rs fin → out.length + rs.length ≤ fin.length
  | [], out, fin, h => by obtain rfl : out = fin := h; simp
  | x :: rs, out, fin, h => by
    have h1 := RunsOk.len h.2
    have h2 := exp1_len out x
    simp only [List.length_cons]
    omega
/-- d times x more behind what was there. -/
def outD (base : List Nat) (x d : Nat) : List Nat := base ++ List.replicate d x
theorem outD_len (base : List Nat) (x d : Nat) : (outD base x d).length = base.length + d := by simp [outD]
theorem outD_last (base : List Nat) (x d : Nat) (h : 1 ≤ d) : (outD base x d).getLast?.getD 0 = x := by
  obtain ⟨e, rfl⟩ : ∃ e, d = e + 1 := ⟨d - 1, by omega⟩
  unfold outD
  rw [List.replicate_succ', ← List.append_assoc, List.getLast?_append]
  simp
theorem outD_ne (base : List Nat) (x d : Nat) (h : 1 ≤ d) : outD base x d ≠ [] := by
  intro e
  have := congrArg List.length e
  rw [outD_len] at this
  simp at this
  omega
theorem outD_add (base : List Nat) (x d k : Nat) : outD base x d ++ List.replicate k x = outD base x (d + k) := by
  unfold outD
  rw [List.append_assoc, List.replicate_append_replicate]
theorem exp_one (base : List Nat) (x d : Nat) (hx : x ≤ 15) : exp1 (outD base x d) (x, 0, 0) = outD base x (d + 1) := by
  unfold exp1
  rw [if_pos (by simp only; omega)]
  exact outD_add base x d 1
theorem exp_16 (base : List Nat) (x d k : Nat) (h : 1 ≤ d) (hk : 3 ≤ k) : exp1 (outD base x d) (16, k - 3, 2) = outD base x (d + k) := by
  unfold exp1
  rw [if_neg (by simp), if_pos rfl, outD_last base x d h]
  simp only
  rw [show 3 + (k - 3) = k from by omega]
  exact outD_add base x d k
theorem exp_17 (base : List Nat) (d k : Nat) (hk : 3 ≤ k) : exp1 (outD base 0 d) (17, k - 3, 3) = outD base 0 (d + k) := by
  unfold exp1
  rw [if_neg (by simp), if_neg (by simp), if_pos rfl]
  simp only
  rw [show 3 + (k - 3) = k from by omega]
  exact outD_add base 0 d k
theorem exp_18 (base : List Nat) (d k : Nat) (hk : 11 ≤ k) : exp1 (outD base 0 d) (18, k - 11, 7) = outD base 0 (d + k) := by
  unfold exp1
  rw [if_neg (by simp), if_neg (by simp), if_neg (by simp)]
  simp only
  rw [show 11 + (k - 11) = k from by omega]
  exact outD_add base 0 d k
theorem take_run (ls : List Nat) (i : Nat) : ∀ n, i + n ≤ ls.length → (∀ j, j < n → lenAt ls (i + j) = lenAt ls i) → ls.take (i + n) = outD (ls.take i) (lenAt ls i) n
  | 0, _, _ => by simp [outD]
  | n + 1, h1, h2 => by
    have ih := take_run ls i n (by omega) fun j hj => h2 j (by omega)
    have hl : i + n < ls.length := by omega
    have e : ls[i + n] = lenAt ls i := by rw [← h2 n (by omega)]; unfold lenAt; rw [List.getElem?_eq_getElem hl]; rfl
    rw [show i + (n + 1) = i + n + 1 from rfl, List.take_succ_eq_append_getElem hl, ih, e]
    exact outD_add (ls.take i) (lenAt ls i) n 1
theorem runTy : SliceTy Tryz.prog 180 183 (.agg #[.int .i64 0, .int .u32 0, .int .i64 0]) 3 24 := SliceTy.of Tryz.underlying180 (by kernel_rfl) rfl (by decide)
theorem cs_new3 (w : World) (x y z : Value) (T : TypeId) : Cs (w.alloc (.cells #[x, y, z] T)) (some ⟨w.heap.size, 0, none⟩) [x, y, z] := by
  refine .inr ⟨_, 0, rfl, fun j v hv => ?_⟩
  rw [cell_of (alloc_at w _), Nat.zero_add]
  simpa using hv
theorem one3 {x y z : Value} (hx : x.oneCell' = true) (hy : y.oneCell' = true) (hz : z.oneCell' = true) : ∀ u ∈ [x, y, z], u.oneCell' = true := by
  intro u hu
  simp only [List.mem_cons, List.not_mem_nil, or_false] at hu
  rcases hu with rfl | rfl | rfl
  · exact hx
  · exact hy
  · exact hz
set_option maxRecDepth 100000 in
set_option maxHeartbeats 4000000 in
theorem runs_any (a : Option Addr) (cap : Nat) (ls : List Nat) (w : World) (h : Ri w a cap ls) (hlen : ls.length ≤ 100000) (h15 : ∀ l ∈ ls, l ≤ 15) :
    Calls Tryz.prog 119 #[.slice a ls.length cap] w fun e w' => ∃ ao rn cp rs, e = .returned (.slice ao rn cp) ∧ rn = rs.length ∧ Made w w' 183 3 ao rn cp (rcells rs) ∧ RunsOk [] rs ls := by
  obtain ⟨N, hN⟩ : ∃ N, N = ls.length := ⟨_, rfl⟩
  rw [← hN] at hlen ⊢
  have H := Lib.hid (And.intro h (And.intro hN h15))
  clear h hN h15
  go_enter Tryz.func119, Tryz.ntmps119
  go_wp2
  go_loopg [3, 4, 5, 6, 7, 62, 72, 87] N (fun k s3 s4 s5 s6 s7 s62 s72 s87 wr => ∃ (i : Nat) (ao : Option Addr) (rn cp : Nat) (rs : List Rn), s4 = .int .i64 (i : Nat) ∧ s3 = .slice ao rn cp ∧ k = N - i ∧ i ≤ N ∧ rn = rs.length ∧ Made w wr 183 3 ao rn cp (rcells rs) ∧ RunsOk [] rs (ls.take i))
  case atStart => exact ⟨0, none, 0, 0, [], rfl, rfl, rfl, Nat.zero_le _, rfl, .none w _ _, rfl⟩
  case round =>
    obtain ⟨i, ao, rn, cp, rs, rfl, rfl, hk, hiN, hrn, hm, hro⟩ := hrel
    by_cases hi : i < N
    · have hil : i < ls.length := by rw [← H.out.2.1]; exact hi
      obtain ⟨g, o, rfl, hc⟩ := (H.out.1.fr hm.fr).at hil
      have hla : ∀ j, j < ls.length → ls[j]? = some (lenAt ls j) := fun j hj => by unfold lenAt; rw [List.getElem?_eq_getElem hj]; rfl
      have hx15 : lenAt ls i ≤ 15 := H.out.2.2 _ (lenAt_mem hil)
      have hcell : ∀ j, j < N → wr.cell? ⟨g, o + j, none⟩ = some (.int .i64 (lenAt ls j : Nat)) := fun j hj => by
        obtain ⟨g', o', e, hc'⟩ := (H.out.1.fr hm.fr).at (i := j) (by rw [← H.out.2.1]; exact hj)
        simp only [Option.some.injEq, Addr.mk.injEq, and_true] at e
        obtain ⟨rfl, rfl⟩ := e
        rw [hc', ← (Option.some.inj ((List.getElem?_eq_getElem (by rw [← H.out.2.1]; exact hj)).symm.trans (hla j (by rw [← H.out.2.1]; exact hj))))]
      have HI := Lib.hid (And.intro hm (And.intro hro (And.intro hk (And.intro hrn hcell))))
      have HX := Lib.hid hx15
      obtain ⟨x, hx⟩ : ∃ x, x = lenAt ls i := ⟨_, rfl⟩
      have dx := hcell i hi
      rw [← hx] at dx
      have HXE := Lib.hid hx
      clear hm hro hk hrn hcell hla hc hx15 hx hil
      obtain ⟨wo, hwo⟩ : ∃ wo : World, wo = wr := ⟨_, rfl⟩
      have HWO := Lib.hid hwo
      rw [← hwo] at dx ⊢
      clear hwo
      go_wp2
      go_loopg [5] (N - 1) (fun k s5 wz => ∃ n : Nat, s5 = .int .i64 (n : Nat) ∧ 1 ≤ n ∧ i + n ≤ N ∧ k = N - n ∧ (∀ j, j < n → lenAt ls (i + j) = lenAt ls i) ∧ Fr [] wo wz)
      case atStart => exact ⟨1, rfl, Nat.le_refl _, by omega, rfl, fun j hj => by rw [show j = 0 from by omega, Nat.add_zero], .refl _ _⟩
      case round =>
        obtain ⟨n, rfl, hn1, hnN, hk2, hall, hfz⟩ := hrel
        obtain ⟨y, hy⟩ : ∃ y, y = i + n := ⟨_, rfl⟩
        have e0 : (i : Int) + (n : Int) = (y : Int) := by omega
        have dx2 := hfz.cell dx (by simp)
        have key : (y < N ∧ lenAt ls y = x) ∨ (y < N ∧ lenAt ls y ≠ x) ∨ N ≤ y := by omega
        have hstop : (y < N ∧ lenAt ls y = x) ∨ ((y < N ∧ lenAt ls y ≠ x) ∨ N ≤ y) := key
        clear key
        rcases hstop with ⟨hyN, hyx⟩ | hstop
        · have dy := (HI.out.2.2.2.2 y hyN)
          rw [← HWO.out, hyx] at dy
          have dy2 := hfz.cell dy (by simp)
          have q : ((x : Int) == (x : Int)) = true := by simp
          have g1 : decide ((N : Int) ≤ (y : Int)) = false := by simp; omega
          have g2 : decide ((N : Int) ≤ (i : Int)) = false := by simp; omega
          have g3 : decide ((y : Int) < (N : Int)) = true := by simp; omega
          have HK := Lib.hid (And.intro hall (And.intro hfz (And.intro hy (And.intro hk2 hyx))))
          clear hall hfz hy hk2 dy hyx
          go_upto_region 5 with fail
          go_quiet (fail)
          go_wp2
          go_roundg (N - (n + 1))
          case measure => have := HK.out.2.2.2.1; have := HK.out.2.2.1; omega
          case rel =>
            obtain ⟨hall, hfz, hy, hk2, hyx⟩ := HK.out
            refine ⟨n + 1, by go_num, by omega, by omega, rfl, fun j hj => ?_, hfz.trans (Fr.drewN [] _ _)⟩
            rcases Nat.lt_or_ge j n with k | k
            · exact hall j k
            · rw [show j = n from by omega, ← hy, hyx, HXE.out]
        · have hstop2 : (y < N ∧ decide (y < N) = true) ∨ N ≤ y := by rcases hstop with k | k; exact .inl ⟨k.1, by simp [k.1]⟩; exact .inr k
          have hyB : y ≤ 100000 := by omega
          have hyN : y ≤ N := by omega
          have HK := Lib.hid (And.intro hall (And.intro hfz (And.intro hy (And.intro hk2 hstop))))
          clear hall hfz hk2 hstop hy
          go_upto_region 5 with fail
          go_cut [30] from 12 to 31 (fun s30 wd => s30 = .bool false ∧ Fr [] wr wd)
          case first =>
            rcases HK.out.2.2.2.2 with ⟨hyN, hyx⟩ | hyN
            · have dy := (HI.out.2.2.2.2 y hyN)
              obtain ⟨v, hv⟩ : ∃ v, v = lenAt ls y := ⟨_, rfl⟩
              rw [← HWO.out, ← hv] at dy
              rw [← hv] at hyx
              have dy2 := HK.out.2.1.cell dy (by simp)
              have q : ((v : Int) == (x : Int)) = false := by simp only [beq_eq_false_iff_ne]; omega
              have g1 : decide ((N : Int) ≤ (y : Int)) = false := by simp; omega
              have g2 : decide ((N : Int) ≤ (i : Int)) = false := by simp; omega
              have g3 : decide ((y : Int) < (N : Int)) = true := by simp; omega
              clear dy hv hyx hstop2
              go_quiet (fail)
              go_wp2
              go_meet
              exact ⟨rfl, Fr.drewN [] _ _⟩
            · have g3 : decide ((y : Int) < (N : Int)) = false := by simp; omega
              have g4 : decide (y < N) = false := by simp; omega
              have ew : IntKind.i64.wrap (y : Int) = (y : Int) := by rw [IntKind.wrap_i64]; omega
              clear hstop2 hyN
              go_quiet (fail)
              go_wp2
              go_meet
              exact ⟨rfl, Fr.drewN [] _ _⟩
          case rest =>
          obtain ⟨rfl, hfd⟩ := hcut
          have dx3 := hfd.cell dx2 (by simp)
          have g2 : decide ((N : Int) ≤ (i : Int)) = false := by simp; omega
          obtain ⟨wd, hwd⟩ : ∃ wd : World, wd = wc := ⟨_, rfl⟩
          rw [← hwd] at dx3 hfd ⊢
          have fd := HK.out.2.1.trans hfd
          have htk : ls.take y = outD (ls.take i) x n := by
            obtain ⟨hall, hfz, hy, hk2, _⟩ := HK.out
            rw [hy, HXE.out]
            exact take_run ls i n (by rw [← H.out.2.1]; omega) hall
          have hx15 : x ≤ 15 := by rw [HXE.out]; exact HX.out
          have hm0 := HI.out.1
          rw [← HWO.out] at hm0
          have HD := Lib.hid (And.intro htk (And.intro (hm0.fr2 fd) (And.intro HI.out.2.1 (And.intro HI.out.2.2.2.1 (And.intro HI.out.2.2.1 HK.out.2.2.1)))))
          have hrnb : rn ≤ 100000 := by have := HI.out.2.1.len; rw [List.length_take, ← HI.out.2.2.2.1] at this; simp at this; omega
          clear HK HI HX HXE HWO htk hm0 fd hfd hwd dx2 dx hstop2
          go_upto_if 41 with fail
          clear dx3 g2
          go_cut [3, 5] from 41 to 49 (fun s3 s5 wz => ∃ (rem d : Nat) (ao : Option Addr) (rn cp : Nat) (rs : List Rn), s5 = .int .i64 (rem : Nat) ∧ s3 = .slice ao rn cp ∧ rem + d = n ∧ (0 < x → 1 ≤ d) ∧ rn = rs.length ∧ Made w wz 183 3 ao rn cp (rcells rs) ∧ RunsOk [] rs (outD (ls.take i) x d))
          case first =>
            by_cases hx0 : 0 < x
            · have q : decide ((0 : Int) < (x : Int)) = true := by simp; omega
              obtain ⟨n1, hn1'⟩ : ∃ n1, n1 = n - 1 := ⟨_, rfl⟩
              have e1 : (n : Int) - 1 = (n1 : Int) := by omega
              have HN1 := Lib.hid hn1'
              clear hn1'
              go_wp2_with (refine wpList_append runTy rfl _ _ rfl (.slice ao rn cp) rn (rcells rs) (blk ao) rfl (own_blk ao rn cp) (HD.out.2.1.fr2 ((Fr.refl [] _).alloc _)).own (some ⟨wd.heap.size, 0, none⟩) 1 1 [.int .i64 (x : Nat), .int .u32 (0 : Nat), .int .i64 (0 : Nat)] (by first | rfl | simp) (Nat.le_refl _) (fun h => by cases h) (cs_new3 _ _ _ _ _) rfl (one3 (by rfl) (by rfl) (by rfl)) (by omega) (by unfold maxLen; omega) ?_; intro ao2 cp2 w2 hap; have HA := Lib.hid ((HD.out.2.1.fr2 ((Fr.refl [] _).alloc _)).app hap); clear hap)
              go_meet
              have := HN1.out
              refine ⟨n1, 1, ao2, rn + 1, cp2, rs ++ [(x, 0, 0)], rfl, rfl, by omega, fun _ => Nat.le_refl _, by rw [List.length_append, HD.out.2.2.2.1]; rfl, by rw [rcells_append]; exact HA.out, ?_⟩
              have h1 := RunsOk.add HD.out.2.2.1 (r := (x, 0, 0)) (.inl ⟨hx15, rfl, rfl⟩)
              have h2 := exp_one (ls.take i) x 0 hx15
              rw [show outD (ls.take i) x 0 = ls.take i from by simp [outD]] at h2
              rwa [h2] at h1
            · obtain rfl : x = 0 := by omega
              go_wp2
              go_meet
              exact ⟨n, 0, ao, rn, cp, rs, rfl, rfl, rfl, fun h => absurd h (by omega), HD.out.2.2.2.1, HD.out.2.1, by rw [show outD (ls.take i) 0 0 = ls.take i from by simp [outD]]; exact HD.out.2.2.1⟩
          case rest =>
          obtain ⟨rem, d, ao, rn, cp, rs, rfl, rfl, hrd, hd1, hrn, hm, hro⟩ := hcut
          have HR := Lib.hid (And.intro hrd (And.intro hd1 (And.intro hrn (And.intro hm hro))))
          have hremb : rem ≤ 100000 := by omega
          clear hrd hd1 hrn hm hro hrnb
          go_wp2
          go_loopg [3, 5, 7, 62, 72] rem (fun k s3 s5 s7 s62 s72 wz => ∃ (d : Nat) (ao : Option Addr) (rn cp : Nat) (rs : List Rn), s5 = .int .i64 (k : Nat) ∧ s3 = .slice ao rn cp ∧ k + d = n ∧ (0 < x → 1 ≤ d) ∧ rn = rs.length ∧ Made w wz 183 3 ao rn cp (rcells rs) ∧ RunsOk [] rs (outD (ls.take i) x d))
          case atStart => exact ⟨d, ao, rn, cp, rs, rfl, rfl, HR.out⟩
          case round =>
            obtain ⟨d, ao, rn, cp, rs, rfl, rfl, hrd, hd1, hrn, hm, hro⟩ := hrel
            have hrnb : rn ≤ 200000 := by
              have := hro.len
              rw [outD_len, List.length_take] at this
              have := H.out.2.1
              simp only [List.length_nil] at *
              omega
            have hgk : gk ≤ 100000 := by omega
            have HZ := Lib.hid (And.intro hrd (And.intro hd1 (And.intro hrn (And.intro hm hro))))
            clear hrd hd1 hrn hm hro
            by_cases h3 : 3 ≤ gk
            · by_cases hx0 : 0 < x
              · by_cases h6 : 6 < gk
                · obtain ⟨m, hm⟩ : ∃ m, m = 6 - 3 := ⟨_, rfl⟩
                  obtain ⟨q, hq⟩ : ∃ q, q = gk - 6 := ⟨_, rfl⟩
                  have em : ((6 : Nat) : Int) - 3 = (m : Int) := by omega
                  have eq : (gk : Int) - ((6 : Nat) : Int) = (q : Int) := by omega
                  have hmb : m ≤ 1000 := by omega
                  have hq1 : q < gk := by omega
                  have HM := Lib.hid (And.intro hm hq)
                  clear hm hq
                  go_wp2_with (refine wpList_append runTy rfl _ _ rfl (.slice ao rn cp) rn (rcells rs) (blk ao) rfl (own_blk ao rn cp) (HZ.out.2.2.2.1.fr2 ((Fr.refl [] _).alloc _)).own (some ⟨wr.heap.size, 0, none⟩) 1 1 [.int .i64 (16 : Nat), .int .u32 (3 : Nat), .int .i64 (2 : Nat)] (by first | rfl | simp) (Nat.le_refl _) (fun h => by cases h) (cs_new3 _ _ _ _ _) rfl (one3 (by rfl) (by rfl) (by rfl)) (by omega) (by unfold maxLen; omega) ?_; intro ao2 cp2 w2 hap; have HA := Lib.hid ((HZ.out.2.2.2.1.fr2 ((Fr.refl [] _).alloc _)).app hap); clear hap)
                  go_roundg q
                  case measure => exact hq1
                  case rel =>
                    obtain ⟨hrd, hd1, hrn, hmm, hro⟩ := HZ.out
                    obtain ⟨hm, hq⟩ := HM.out
                    refine ⟨d + 6, ao2, rn + 1, cp2, rs ++ [(16, 3, 2)], by go_num, rfl, by omega, fun h => by omega, by rw [List.length_append, hrn]; rfl, by rw [rcells_append]; exact HA.out, ?_⟩
                    have h1 := RunsOk.add hro (r := (16, 3, 2)) (.inr (.inl ⟨rfl, by show 3 < 4; omega, rfl, outD_ne _ _ _ (hd1 (by omega))⟩))
                    have h2 := exp_16 (ls.take i) x d 6 (hd1 (by omega)) (by omega)
                    rw [h2] at h1
                    exact h1
                · obtain ⟨m, hm⟩ : ∃ m, m = gk - 3 := ⟨_, rfl⟩
                  obtain ⟨q, hq⟩ : ∃ q, q = gk - gk := ⟨_, rfl⟩
                  have em : ((gk : Nat) : Int) - 3 = (m : Int) := by omega
                  have eq : (gk : Int) - ((gk : Nat) : Int) = (q : Int) := by omega
                  have hmb : m ≤ 1000 := by omega
                  have hq1 : q < gk := by omega
                  have HM := Lib.hid (And.intro hm hq)
                  clear hm hq
                  go_wp2_with (refine wpList_append runTy rfl _ _ rfl (.slice ao rn cp) rn (rcells rs) (blk ao) rfl (own_blk ao rn cp) (HZ.out.2.2.2.1.fr2 ((Fr.refl [] _).alloc _)).own (some ⟨wr.heap.size, 0, none⟩) 1 1 [.int .i64 (16 : Nat), .int .u32 (m : Nat), .int .i64 (2 : Nat)] (by first | rfl | simp) (Nat.le_refl _) (fun h => by cases h) (cs_new3 _ _ _ _ _) rfl (one3 (by rfl) (by rfl) (by rfl)) (by omega) (by unfold maxLen; omega) ?_; intro ao2 cp2 w2 hap; have HA := Lib.hid ((HZ.out.2.2.2.1.fr2 ((Fr.refl [] _).alloc _)).app hap); clear hap)
                  go_roundg q
                  case measure => exact hq1
                  case rel =>
                    obtain ⟨hrd, hd1, hrn, hmm, hro⟩ := HZ.out
                    obtain ⟨hm, hq⟩ := HM.out
                    refine ⟨d + gk, ao2, rn + 1, cp2, rs ++ [(16, m, 2)], by go_num, rfl, by omega, fun h => by omega, by rw [List.length_append, hrn]; rfl, by rw [rcells_append]; exact HA.out, ?_⟩
                    have h1 := RunsOk.add hro (r := (16, m, 2)) (.inr (.inl ⟨rfl, by show m < 4; omega, rfl, outD_ne _ _ _ (hd1 (by omega))⟩))
                    have h2 := exp_16 (ls.take i) x d gk (hd1 (by omega)) (by omega)
                    rw [← hm] at h2
                    rw [h2] at h1
                    exact h1
              · obtain rfl : x = 0 := by omega
                by_cases h11 : gk < 11
                · by_cases h6 : 6 < gk
                  · obtain ⟨m, hm⟩ : ∃ m, m = gk - 3 := ⟨_, rfl⟩
                    obtain ⟨q, hq⟩ : ∃ q, q = gk - gk := ⟨_, rfl⟩
                    have em : ((gk : Nat) : Int) - 3 = (m : Int) := by omega
                    have eq : (gk : Int) - ((gk : Nat) : Int) = (q : Int) := by omega
                    have hmb : m ≤ 1000 := by omega
                    have hq1 : q < gk := by omega
                    have HM := Lib.hid (And.intro hm hq)
                    clear hm hq
                    go_wp2_with (refine wpList_append runTy rfl _ _ rfl (.slice ao rn cp) rn (rcells rs) (blk ao) rfl (own_blk ao rn cp) (HZ.out.2.2.2.1.fr2 ((Fr.refl [] _).alloc _)).own (some ⟨wr.heap.size, 0, none⟩) 1 1 [.int .i64 (17 : Nat), .int .u32 (m : Nat), .int .i64 (3 : Nat)] (by first | rfl | simp) (Nat.le_refl _) (fun h => by cases h) (cs_new3 _ _ _ _ _) rfl (one3 (by rfl) (by rfl) (by rfl)) (by omega) (by unfold maxLen; omega) ?_; intro ao2 cp2 w2 hap; have HA := Lib.hid ((HZ.out.2.2.2.1.fr2 ((Fr.refl [] _).alloc _)).app hap); clear hap)
                    go_roundg q
                    case measure => exact hq1
                    case rel =>
                      obtain ⟨hrd, hd1, hrn, hmm, hro⟩ := HZ.out
                      obtain ⟨hm, hq⟩ := HM.out
                      refine ⟨d + gk, ao2, rn + 1, cp2, rs ++ [(17, m, 3)], by go_num, rfl, by omega, fun h => by omega, by rw [List.length_append, hrn]; rfl, by rw [rcells_append]; exact HA.out, ?_⟩
                      have h1 := RunsOk.add hro (r := (17, m, 3)) (.inr (.inr (.inl ⟨rfl, by show m < 8; omega, rfl⟩)))
                      have h2 := exp_17 (ls.take i) d gk (by omega)
                      rw [← hm] at h2
                      rw [h2] at h1
                      exact h1
                  · obtain ⟨m, hm⟩ : ∃ m, m = gk - 3 := ⟨_, rfl⟩
                    obtain ⟨q, hq⟩ : ∃ q, q = gk - gk := ⟨_, rfl⟩
                    have em : ((gk : Nat) : Int) - 3 = (m : Int) := by omega
                    have eq : (gk : Int) - ((gk : Nat) : Int) = (q : Int) := by omega
                    have hmb : m ≤ 1000 := by omega
                    have hq1 : q < gk := by omega
                    have HM := Lib.hid (And.intro hm hq)
                    clear hm hq
                    go_wp2_with (refine wpList_append runTy rfl _ _ rfl (.slice ao rn cp) rn (rcells rs) (blk ao) rfl (own_blk ao rn cp) (HZ.out.2.2.2.1.fr2 ((Fr.refl [] _).alloc _)).own (some ⟨wr.heap.size, 0, none⟩) 1 1 [.int .i64 (17 : Nat), .int .u32 (m : Nat), .int .i64 (3 : Nat)] (by first | rfl | simp) (Nat.le_refl _) (fun h => by cases h) (cs_new3 _ _ _ _ _) rfl (one3 (by rfl) (by rfl) (by rfl)) (by omega) (by unfold maxLen; omega) ?_; intro ao2 cp2 w2 hap; have HA := Lib.hid ((HZ.out.2.2.2.1.fr2 ((Fr.refl [] _).alloc _)).app hap); clear hap)
                    go_roundg q
                    case measure => exact hq1
                    case rel =>
                      obtain ⟨hrd, hd1, hrn, hmm, hro⟩ := HZ.out
                      obtain ⟨hm, hq⟩ := HM.out
                      refine ⟨d + gk, ao2, rn + 1, cp2, rs ++ [(17, m, 3)], by go_num, rfl, by omega, fun h => by omega, by rw [List.length_append, hrn]; rfl, by rw [rcells_append]; exact HA.out, ?_⟩
                      have h1 := RunsOk.add hro (r := (17, m, 3)) (.inr (.inr (.inl ⟨rfl, by show m < 8; omega, rfl⟩)))
                      have h2 := exp_17 (ls.take i) d gk (by omega)
                      rw [← hm] at h2
                      rw [h2] at h1
                      exact h1
                · have h6 : 6 < gk := by omega
                  by_cases h138 : 138 < gk
                  · obtain ⟨m, hm⟩ : ∃ m, m = 138 - 11 := ⟨_, rfl⟩
                    obtain ⟨q, hq⟩ : ∃ q, q = gk - 138 := ⟨_, rfl⟩
                    have em : ((138 : Nat) : Int) - 11 = (m : Int) := by omega
                    have eq : (gk : Int) - ((138 : Nat) : Int) = (q : Int) := by omega
                    have hmb : m ≤ 1000 := by omega
                    have hq1 : q < gk := by omega
                    have HM := Lib.hid (And.intro hm hq)
                    clear hm hq
                    go_wp2_with (refine wpList_append runTy rfl _ _ rfl (.slice ao rn cp) rn (rcells rs) (blk ao) rfl (own_blk ao rn cp) (HZ.out.2.2.2.1.fr2 ((Fr.refl [] _).alloc _)).own (some ⟨wr.heap.size, 0, none⟩) 1 1 [.int .i64 (18 : Nat), .int .u32 (127 : Nat), .int .i64 (7 : Nat)] (by first | rfl | simp) (Nat.le_refl _) (fun h => by cases h) (cs_new3 _ _ _ _ _) rfl (one3 (by rfl) (by rfl) (by rfl)) (by omega) (by unfold maxLen; omega) ?_; intro ao2 cp2 w2 hap; have HA := Lib.hid ((HZ.out.2.2.2.1.fr2 ((Fr.refl [] _).alloc _)).app hap); clear hap)
                    go_roundg q
                    case measure => exact hq1
                    case rel =>
                      obtain ⟨hrd, hd1, hrn, hmm, hro⟩ := HZ.out
                      obtain ⟨hm, hq⟩ := HM.out
                      refine ⟨d + 138, ao2, rn + 1, cp2, rs ++ [(18, 127, 7)], by go_num, rfl, by omega, fun h => by omega, by rw [List.length_append, hrn]; rfl, by rw [rcells_append]; exact HA.out, ?_⟩
                      have h1 := RunsOk.add hro (r := (18, 127, 7)) (.inr (.inr (.inr ⟨rfl, by show 127 < 128; omega, rfl⟩)))
                      have h2 := exp_18 (ls.take i) d 138 (by omega)
                      rw [h2] at h1
                      exact h1
                  · obtain ⟨m, hm⟩ : ∃ m, m = gk - 11 := ⟨_, rfl⟩
                    obtain ⟨q, hq⟩ : ∃ q, q = gk - gk := ⟨_, rfl⟩
                    have em : ((gk : Nat) : Int) - 11 = (m : Int) := by omega
                    have eq : (gk : Int) - ((gk : Nat) : Int) = (q : Int) := by omega
                    have hmb : m ≤ 1000 := by omega
                    have hq1 : q < gk := by omega
                    have HM := Lib.hid (And.intro hm hq)
                    clear hm hq
                    go_wp2_with (refine wpList_append runTy rfl _ _ rfl (.slice ao rn cp) rn (rcells rs) (blk ao) rfl (own_blk ao rn cp) (HZ.out.2.2.2.1.fr2 ((Fr.refl [] _).alloc _)).own (some ⟨wr.heap.size, 0, none⟩) 1 1 [.int .i64 (18 : Nat), .int .u32 (m : Nat), .int .i64 (7 : Nat)] (by first | rfl | simp) (Nat.le_refl _) (fun h => by cases h) (cs_new3 _ _ _ _ _) rfl (one3 (by rfl) (by rfl) (by rfl)) (by omega) (by unfold maxLen; omega) ?_; intro ao2 cp2 w2 hap; have HA := Lib.hid ((HZ.out.2.2.2.1.fr2 ((Fr.refl [] _).alloc _)).app hap); clear hap)
                    go_roundg q
                    case measure => exact hq1
                    case rel =>
                      obtain ⟨hrd, hd1, hrn, hmm, hro⟩ := HZ.out
                      obtain ⟨hm, hq⟩ := HM.out
                      refine ⟨d + gk, ao2, rn + 1, cp2, rs ++ [(18, m, 7)], by go_num, rfl, by omega, fun h => by omega, by rw [List.length_append, hrn]; rfl, by rw [rcells_append]; exact HA.out, ?_⟩
                      have h1 := RunsOk.add hro (r := (18, m, 7)) (.inr (.inr (.inr ⟨rfl, by show m < 128; omega, rfl⟩)))
                      have h2 := exp_18 (ls.take i) d gk (by omega)
                      rw [← hm] at h2
                      rw [h2] at h1
                      exact h1
            · obtain ⟨rem, hrem⟩ : ∃ rem, rem = gk := ⟨_, rfl⟩
              rw [← hrem]
              have hr3 : rem < 3 := by omega
              have HRM := Lib.hid hrem
              clear hrem h3
              go_wp2
              go_loopg [3, 87] rem (fun k s3 s87 wz => ∃ (t : Nat) (ao : Option Addr) (rn cp : Nat) (rs : List Rn), s87 = .int .i64 (t : Nat) ∧ s3 = .slice ao rn cp ∧ t + k = rem ∧ rn = rs.length ∧ Made w wz 183 3 ao rn cp (rcells rs) ∧ RunsOk [] rs (outD (ls.take i) x (d + t)))
              case atStart => exact ⟨0, ao, rn, cp, rs, rfl, rfl, by omega, HZ.out.2.2.1, HZ.out.2.2.2.1, HZ.out.2.2.2.2⟩
              case round =>
                obtain ⟨t, ao, rn, cp, rs, rfl, rfl, htk, hrn, hm, hro⟩ := hrel
                by_cases ht : t < rem
                · obtain ⟨k2, rfl⟩ : ∃ k2, gk = k2 + 1 := ⟨gk - 1, by omega⟩
                  have hrnb : rn ≤ 300000 := by
                    have := hro.len
                    rw [outD_len, List.length_take] at this
                    have := H.out.2.1
                    have := HZ.out.1
                    simp only [List.length_nil] at *
                    omega
                  have HY := Lib.hid (And.intro htk (And.intro hrn (And.intro hm hro)))
                  clear htk hrn hm hro
                  go_wp2_with (refine wpList_append runTy rfl _ _ rfl (.slice ao rn cp) rn (rcells rs) (blk ao) rfl (own_blk ao rn cp) (HY.out.2.2.1.fr2 ((Fr.refl [] _).alloc _)).own (some ⟨wr.heap.size, 0, none⟩) 1 1 [.int .i64 (x : Nat), .int .u32 (0 : Nat), .int .i64 (0 : Nat)] (by first | rfl | simp) (Nat.le_refl _) (fun h => by cases h) (cs_new3 _ _ _ _ _) rfl (one3 (by rfl) (by rfl) (by rfl)) (by omega) (by unfold maxLen; omega) ?_; intro ao2 cp2 w2 hap; have HA := Lib.hid ((HY.out.2.2.1.fr2 ((Fr.refl [] _).alloc _)).app hap); clear hap)
                  go_roundg k2
                  case measure => omega
                  case rel =>
                    obtain ⟨htk, hrn, hm, hro⟩ := HY.out
                    refine ⟨t + 1, ao2, rn + 1, cp2, rs ++ [(x, 0, 0)], by go_num, rfl, by omega, by rw [List.length_append, hrn]; rfl, by rw [rcells_append]; exact HA.out, ?_⟩
                    have h1 := RunsOk.add hro (r := (x, 0, 0)) (.inl ⟨hx15, rfl, rfl⟩)
                    rw [exp_one (ls.take i) x (d + t) hx15] at h1
                    exact h1
                · obtain rfl : t = rem := by omega
                  have HY := Lib.hid (And.intro hrn (And.intro hm hro))
                  clear htk hrn hm hro
                  go_wp2
                  go_roundg (N - y)
                  case measure => have := HD.out.2.2.2.2.1; have := HD.out.2.2.2.2.2; omega
                  case rel =>
                    obtain ⟨hrn, hm, hro⟩ := HY.out
                    refine ⟨y, ao, rn, cp, rs, rfl, rfl, rfl, hyN, hrn, hm, ?_⟩
                    rw [HD.out.1, show n = d + t from by have := HZ.out.1; have := HRM.out; omega]
                    exact hro
    · obtain rfl : i = N := by omega
      have HY := Lib.hid (And.intro hrn (And.intro hm hro))
      clear hk hrn hm hro
      go_wp2
      go_ret
      obtain ⟨hrn, hm, hro⟩ := HY.out
      rw [List.take_of_length_le (by rw [← H.out.2.1]; exact Nat.le_refl _)] at hro
      exact ⟨ao, rn, cp, rs, rfl, hrn, hm, hro⟩
end Go.Proofs.YtolkoidbkaidkaaGreat.defl
