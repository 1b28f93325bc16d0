/-
  net.Net: what a net is in memory; the small library functions (slices.Clone, slices.Clip, slices.Delete at datagrams).
-/
import Derived.Test.YtmoiahgbenaihaaOps
import Derived.Test.YtmoiahgbenaihaaTail
import Derived.Deep.DeepCutAuto
import Derived.Deep.CutBlock
import Derived.Lib.SliceRun
namespace Go.Proofs.Ytmoiahgbenaihaa.net
open Go Go.RowKit Go.Proofs.Ytmoiahgbenaihaa.lib

theorem sliceU8 : SliceTy Try.prog 29 5 (.int .u8 0) 1 1 := SliceTy.of Try.underlying29 (by kernel_rfl) rfl (by decide)
theorem bv_one (bs : List UInt8) : ∀ u ∈ bs.map bv, u.oneCell' = true := by
  intro u hu
  obtain ⟨b, _, rfl⟩ := List.mem_map.1 hu
  rfl
theorem results_tmp4 {fn : Func} {t u v x : Tmp} (h : fn.results = #[.tmp t, .tmp u, .tmp v, .tmp x]) (tmps : Array Value) (P : Program) (w : World) :
    (results fn tmps).run P w = .ok (.tuple #[tmps.getD t undef, tmps.getD u undef, tmps.getD v undef, tmps.getD x undef]) w := by
  simp [results, h]
/-- A new copy of bytes. -/
def Copied (w : World) (bs : List UInt8) (e : Ending) (w' : World) : Prop :=
  ∃ ao cap, e = .returned (.slice ao bs.length cap) ∧ Fresh w' w.heap.size 5 ao (bs.map bv) ∧ bs.length ≤ cap ∧ cap ≤ maxLen ∧ (ao = none → cap = 0) ∧ (∀ x ∈ blk ao, w.heap.size ≤ x ∧ x < w'.heap.size) ∧ Fr [] w w'
set_option maxHeartbeats 1000000 in
theorem clone_any (ao : Option Addr) (cap : Nat) (bs : List UInt8) (w : World) (hcs : Cs w ao (bs.map bv)) (hle : bs.length ≤ cap) (hnone : ao = none → cap = 0) (hlim : bs.length ≤ 140737488355328) :
    Calls Try.prog 19 #[.slice ao bs.length cap] w (Copied w bs) := by
  have qT : ∀ (w : World) (a : Option Addr) (n c n' c' : Nat), (binOp .eql 29 (.slice a n c) (.slice none n' c')).run Try.prog w = .ok (.bool a.isNone) w := fun w a n c n' c' => Lib.run_eql_slice_nil w _ _ a n c n' c' Try.underlying29
  cases ao with
  | none =>
    have h0 := hnone rfl
    obtain rfl : bs = [] := List.eq_nil_of_length_eq_zero (by omega)
    go_enter Try.func19, Try.ntmps19
    go_wp2
    go_ret
    exact ⟨none, 0, rfl, .inl rfl, by simp, by decide, fun _ => rfl, by simp [blk], Fr.refl _ _⟩
  | some a =>
    go_enter Try.func19, Try.ntmps19
    go_wp2_with (refine wpList_append sliceU8 rfl _ _ rfl (.slice (some ⟨w.heap.size, 0, none⟩) 0 0) 0 [] [w.heap.size] rfl rfl ⟨rfl, .inr ⟨w.heap.size, 0, #[], rfl, Nat.zero_le _, alloc_at _ _, Nat.le_refl _, Nat.zero_le _, rfl, rfl⟩⟩ (some a) bs.length cap (bs.map bv) rfl hle hnone (hcs.fr ((Fr.refl [] w).alloc _) (by simp)) (by simp) (bv_one bs) (by omega) (by unfold maxLen; omega) ?_; intro ao1 cap1 w1 A1; simp only [Nat.zero_add, List.nil_append] at A1)
    go_ret
    have fr2 : Fr [] w w1 := ((Fr.refl [] w).alloc _).step A1.fr (by simp)
    have hb : ∀ x ∈ blk ao1, w.heap.size ≤ x ∧ x < w1.heap.size := fun x hx => ⟨by have := A1.at_ x hx; simp at this; omega, A1.lt x hx⟩
    exact ⟨ao1, cap1, rfl, fresh_of_cells A1.own fun x hx => (hb x hx).1, A1.le, A1.max, A1.nil, hb, fr2⟩
theorem clip_any (ao : Option Addr) (len cap : Nat) (w : World) (hle : len ≤ cap) (hmax : cap ≤ maxLen) :
    Calls Try.prog 21 #[.slice ao len cap] w fun e w' => e = .returned (.slice ao len len) ∧ w' = w := by
  go_enter Try.func21, Try.ntmps21
  go_wp2
  all_goals go_ret
  all_goals exact ⟨by first | rfl | simp, rfl⟩

theorem zeroT : ∃ i, Try.prog.info? 56 = some i ∧ i.size = 3 := ⟨_, rfl, rfl⟩
/-- What slices.Delete of one datagram leaves. -/
def Cut (w : World) (g n cap i : Nat) (xs : List Value) (e : Ending) (w' : World) : Prop :=
  e = .returned (.slice (some ⟨g, 0, none⟩) (n - 1) cap) ∧ w'.ownsRow 0 56 3 (.slice (some ⟨g, 0, none⟩) (n - 1) cap) (n - 1) (xs.take (3 * i) ++ xs.drop (3 * (i + 1))) ∧ Fr [g] w w'
theorem shorter {w : World} {e : TypeId} {g n cap m : Nat} {xs : List Value} (h : w.ownsRow 0 e 3 (.slice (some ⟨g, 0, none⟩) n cap) n xs) (hm : m ≤ n) : w.ownsRow 0 e 3 (.slice (some ⟨g, 0, none⟩) m cap) m (xs.take (m * 3)) := by
  obtain ⟨h1, h2⟩ := h
  rcases h2 with ⟨h2, _⟩ | ⟨g', cap', cur, h2, hb, hg, hn, hx, hs, ht⟩
  · simp at h2
  · simp only [Value.slice.injEq, Option.some.injEq, Addr.mk.injEq, and_true, true_and] at h2
    obtain ⟨rfl, rfl⟩ := h2
    refine ⟨by rw [List.length_take, h1]; omega, .inr ⟨g, cap, cur, rfl, hb, hg, by omega, hx, hs, ?_⟩⟩
    rw [← ht, List.take_take, show min (m * 3) (n * 3) = m * 3 from by omega]
/-- append where there is room: it stays in its place (what is put may lie in the same row). -/
theorem wpList_append_fits {P : Program} {t e : TypeId} {size : Nat} (ht : P.underlying t = some (.slice e)) (hi : ∃ i, P.info? e = some i ∧ i.size = size) {w : World} {ops : Array Oper} {rest : List Oper} {o : Oper} {a : Act} {Q : Exit → Act → World → Prop}
    (hgd : o.guard = none) (s x : Operand) (ho : o.op = .call { callee := .builtin .append, args := #[s, x], argTypes := #[t, t] })
    (g n cap : Nat) (xs : List Value) (hs : a.eval s = .slice (some ⟨g, 0, none⟩) n cap) (hown : w.ownsRow 0 e size (.slice (some ⟨g, 0, none⟩) n cap) n xs)
    (xo : Option Addr) (ad : Addr) (m c : Nat) (news : List Value) (hx : a.eval x = .slice xo m c) (hxo : xo = some ad) (hl : news.length = m * size) (hnews : ∀ j u, news[j]? = some u → w.cell? (ad.add j) = some u) (h1 : ∀ u ∈ news, u.oneCell' = true) (hroom : n + m ≤ cap)
    (h : ∀ w', w'.ownsRow 0 e size (.slice (some ⟨g, 0, none⟩) (n + m) cap) (n + m) (xs ++ news) → Fr [g] w w' → wpList P ops Q rest (a.put o.dst (.slice (some ⟨g, 0, none⟩) (n + m) cap)) w') : wpList P ops Q (o :: rest) a w := by
  obtain ⟨i, hi, hsz⟩ := hi
  subst hxo
  obtain ⟨w', hr, h2, h3⟩ := run_append_fits (P := P) w 0 t o.type e i size ht hi hsz g n cap xs hown ad m c news hl hnews h1 hroom
  refine wpList_plain hgd fun K hK => ?_
  unfold Oper.wp execOp
  simp only [ho, resolve, invoke, builtin, Sem.run_bind, Sem.run_pure, Result.andThen_ok, List.map_toArray, List.map_cons, List.map_nil, hs, hx, hr]
  exact hK _ _ (h w' h2 ((Fr.refl [g] w).grown h3 (fun k hk => by simp at hk; simp [hk])))
theorem zero3 : ∃ z, (∀ w, (zeroValue 56).run Try.prog w = .ok z w) ∧ (Builtin.zeroCells z.cells 1).toList = [.int .i64 0, .int .i64 0, .slice none 0 0] := ⟨_, fun _ => rfl, by kernel_rfl⟩
/-- clear of one datagram. -/
theorem run_clear3 (w : World) (g o c : Nat) (cur : Array Value) (hg : w.heap[g]? = some (.cells cur 56 (0, 0))) (ho : o + 3 ≤ cur.size) (ty : TypeId) :
    (Builtin.clear_ #[51] ty #[.slice (some ⟨g, o, none⟩) 1 c]).run Try.prog w = .ok (.tuple #[]) (w.setRow g (cur.toList.take o ++ [Value.int .i64 0, Value.int .i64 0, Value.slice none 0 0] ++ cur.toList.drop (o + 3)).toArray) := by
  obtain ⟨z, hv, hzc⟩ := zero3
  have hst := run_storeCells_at (P := Try.prog) g o 56 [.int .i64 0, .int .i64 0, .slice none 0 0] 0 cur w hg (by simpa using ho) (by intro v hv'; simp at hv'; rcases hv' with rfl | rfl <;> rfl)
  simp only [Nat.add_zero] at hst
  simp only [List.length_cons, List.length_nil, Nat.zero_add, Nat.reduceAdd] at hst
  simp [Builtin.clear_, run_underlying Try.underlying51, hv, hzc, hst]
set_option maxHeartbeats 1000000 in
set_option maxRecDepth 100000 in
theorem delete_one (g n cap i : Nat) (xs : List Value) (w : World) (hown : w.ownsRow 0 56 3 (.slice (some ⟨g, 0, none⟩) n cap) n xs) (hi : i < n) (h1 : ∀ u ∈ xs, u.oneCell' = true) :
    Calls Try.prog 20 #[.slice (some ⟨g, 0, none⟩) n cap, .int .i64 i, .int .i64 (i + 1)] w (Cut w g n cap i xs) := by
  have hx3 : xs.length = n * 3 := hown.1
  obtain ⟨ao', cap', he, hle, hmax⟩ := owns_shape hown
  simp only [Value.slice.injEq] at he
  obtain ⟨rfl, _, rfl⟩ := he
  have hcap : cap ≤ 9223372036854775807 := hmax
  have hil : (i : Int) < n := by omega
  go_enter Try.func20, Try.ntmps20
  go_upto_region 5 with fail
  go_cut [0] (fun s0 wc => s0 = .slice (some ⟨g, 0, none⟩) (n - 1) cap ∧ wc.ownsRow 0 56 3 (.slice (some ⟨g, 0, none⟩) (n - 1) cap) (n - 1) (xs.take (3 * i) ++ xs.drop (3 * (i + 1))) ∧ Fr [g] w wc)
  case first =>
    refine region_tail 6 (by kernel_rfl) (by kernel_rfl) ?_
    simp only [List.take_succ_cons, List.take_zero, List.drop_succ_cons, List.drop_zero]
    repeat (go_big_quiet_step (fail))
    refine wpQuiet_nil ?_
    obtain ⟨ad, had, hnews⟩ : ∃ ad, (if cap = i + 1 then some (⟨g, 0, none⟩ : Addr) else some ⟨g, (i + 1) * 3, none⟩) = some ad ∧ ∀ j u, (xs.drop (3 * (i + 1)))[j]? = some u → w.drew.cell? (ad.add j) = some u := by
      by_cases hc : cap = i + 1
      · refine ⟨_, if_pos hc, fun j u hj => ?_⟩
        rw [List.getElem?_drop, List.getElem?_eq_none (by omega)] at hj
        cases hj
      · refine ⟨_, if_neg hc, fun j u hj => ?_⟩
        rw [List.getElem?_drop] at hj
        have hlt : 3 * (i + 1) + j < xs.length := (List.getElem?_eq_some_iff.1 hj).1
        have := hown.drew.cellAt (3 * (i + 1) + j) (by omega)
        rw [addr_add, show (i + 1) * 3 + j = 3 * (i + 1) + j from by omega, this, hj]
    have hsh := shorter hown.drew (Nat.le_of_lt hi)
    go_wp2_with (refine wpList_append_fits Try.underlying51 zeroT rfl _ _ rfl g i cap (xs.take (i * 3)) rfl hsh _ ad (n - (i + 1)) _ (xs.drop (3 * (i + 1))) rfl had (by rw [List.length_drop]; omega) hnews (fun u hu => h1 u (List.mem_of_mem_drop hu)) (by omega) ?_; intro w1 own1 fr1)
    go_meet
    have e1 : i + (n - (i + 1)) = n - 1 := by omega
    rw [e1] at own1 ⊢
    rw [show i * 3 = 3 * i from by omega] at own1
    exact ⟨rfl, own1, (Fr.drew1 [g] w).trans fr1⟩
  case rest =>
  obtain ⟨rfl, own1, fr1⟩ := hcut
  have hl : (xs.take (3 * i) ++ xs.drop (3 * (i + 1))).length = (n - 1) * 3 := own1.1
  obtain ⟨_, ⟨h, _⟩ | ⟨g', cap', cur, hv, _, hg, _, _, hs, ht⟩⟩ := own1
  · simp at h
  simp only [Value.slice.injEq, Option.some.injEq, Addr.mk.injEq, and_true, true_and] at hv
  obtain ⟨rfl, rfl⟩ := hv
  have hcl := run_clear3 wc g ((n - 1) * 3) (cap - (n - 1)) cur hg (by omega)
  have hn1 : n - 1 ≤ n := by omega
  have hn2 : n - (n - 1) = 1 := by omega
  have Hg := Lib.hid hg
  clear hg
  generalize hrow : (cur.toList.take ((n - 1) * 3) ++ [Value.int .i64 0, Value.int .i64 0, Value.slice none 0 0] ++ cur.toList.drop ((n - 1) * 3 + 3)).toArray = row at hcl
  have Hrow := Lib.hid hrow
  clear hrow
  go_wp2
  go_ret
  have hl2 : (cur.toList.take ((n - 1) * 3)).length = (n - 1) * 3 := by rw [List.length_take, Array.length_toList]; omega
  have h2 := setRow_heap wc g cur row 56 (0, 0) Hg.out
  have hgb : wc.grownBy (wc.setRow g row) (some g) := ⟨rfl, rfl, rfl, by simp, fun k _ hk => setRow_other wc g k _ (fun e => hk (by simp [e]))⟩
  refine ⟨rfl, ⟨hl, .inr ⟨g, cap, row, rfl, Nat.zero_le _, h2, by omega, hmax, ?_, ?_⟩⟩, fr1.grown hgb (fun k hk => by simp at hk; simp [hk])⟩
  · rw [← Hrow.out]
    simp only [List.size_toArray, List.length_append, hl2, List.length_cons, List.length_nil, List.length_drop, Array.length_toList, hs]
    omega
  · rw [← Hrow.out, ← ht]
    simp only [List.append_assoc]
    rw [List.take_left' hl2]
end Go.Proofs.Ytmoiahgbenaihaa.net
