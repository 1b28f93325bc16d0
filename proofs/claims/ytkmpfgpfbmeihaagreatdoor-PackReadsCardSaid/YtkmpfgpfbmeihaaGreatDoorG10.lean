/-
  Texts of this proof, one behind the other: RsAsk, RsMade, RowsArg, KnArg, Get11, RfFirst, RfFind, RsRes, Objs11, RfRes, To11, Unlike, Awake11, PkLaw6, ReadsIn.
-/
import Derived.Test.YtkmpfgpfbmeihaaGreatDoorG9
import Derived.Carry
import Derived.Lib.SmallJoins
import Derived.Deep.Strs
import Derived.ScopeJumps
import Derived.WalkMore
import Derived.RegionTactic
import Derived.BigRegion
set_option maxRecDepth 100000
set_option linter.unusedVariables false
set_option linter.unusedSimpArgs false
namespace Go.Proofs.YtkmpfgpfbmeihaaGreatDoor.pk
open Go Go.RowKit lib bm
theorem baseV_named (l : List Ent) (i : Nat) (x : Ent) : ∃ sb ok, (∀ w : World, (Instr.typeAssert (baseV l i x) 98 124 true).run Tryz.prog w = .ok (.tuple #[.string sb, .bool ok]) w) ∧ ((ok = true ∧ x.kind = 7 ∧ sb = str x.base) ∨ (ok = false ∧ x.kind ≠ 7)) := by
 unfold baseV
 by_cases h6 : x.kind = 6
 ·rw [if_pos h6]
  exact ⟨⟨#[]⟩, false, fun _ => by kernel_rfl, .inr ⟨rfl, by omega⟩⟩
 ·rw [if_neg h6]
  by_cases h7 : x.kind = 7
  ·rw [if_pos h7]
   exact ⟨str x.base, true, fun _ => by kernel_rfl, .inl ⟨rfl, h7, rfl⟩⟩
  ·rw [if_neg h7]
   exact ⟨⟨#[]⟩, false, fun _ => by kernel_rfl, .inr ⟨rfl, h7⟩⟩
theorem KQ.no {w : World} {O S : Nat} {q : Option Nat} (h : KQ w O S q none) : q = none := by
 cases q with
 | none => rfl
 | some p => exact h.elim
theorem KQ.yes {w : World} {O S : Nat} {q : Option Nat} {k : Kn} (h : KQ w O S q (some k)) : ∃ p, q = some p ∧ KB w O S p k := by
 cases q with
 | none => exact h.elim
 | some p => exact ⟨p, rfl, h⟩
def Asked (w : World) (g O S bt N : Nat) (gv : Value) (la : Option Addr) (ms : List EM) (kn : List Kn) (R : Option (List St)) (e : Ending) (w' : World) : Prop :=
 Told w' O S bt (N + ms.length) kn ∧ match R with
 | none => e = .returned (.bool false) ∧ Fr [bt] w w'
 | some W2 => e = .returned (.bool true) ∧ Fr [O, S, bt] w w' ∧ ∃ C' D', Rb w' g O S gv (.map (some bt)) la ms C' D' ∧ Sts w' O S C' D' (ms.map (·.1)) W2
set_option maxHeartbeats 8000000 in
theorem ask_any (g O S bt N : Nat) (gv : Value) (la : Option Addr) (ms : List EM) (C D : Array Value) (kn : List Kn) (W : List St) (w : World) (h : Rb w g O S gv (.map (some bt)) la ms C D) (hs : Sts w O S C D (ms.map (·.1)) W) (ht : Told w O S bt N kn) (hg : Getter w [O, S, bt] gv kn)
  (hd : kn.Pairwise fun a b => a.id ≠ b.id) (hN : N ≤ 50000000) (hb : ∀ m ∈ ms, m.1.base.length ≤ 40) (hp : ∀ w', Fr [O, S, bt] w w' → obj.Pw w') :
  Calls Tryz.prog 49 #[.pointer (some ⟨g, 0, none⟩)] w (Asked w g O S bt N gv la ms kn (ask (ms.map (·.1)) kn ms.length 0 W)) := by
 obtain ⟨n, hn⟩ : ∃ n, n = ms.length := ⟨_, rfl⟩
 have hfew : n ≤ 4096 := by rw [hn]; exact h.few
 have b0 := cell_of h.box 0
 simp only [List.getElem?_toArray, List.getElem?_cons_zero, List.getElem?_cons_succ] at b0
 rw [← hn] at b0
 obtain ⟨R, hR⟩ : ∃ R, R = ask (ms.map (·.1)) kn n 0 W := ⟨_, rfl⟩
 rw [← hn, ← hR]
 have hat := ht.at_
 have H := Lib.hid (And.intro h (And.intro hs (And.intro hn (And.intro hg (And.intro hd (And.intro hb (And.intro hp hat)))))))
 have HT0 := Lib.hid (And.intro ht hR)
 clear h hs ht hg hd hb hp hR hat hn
 go_enter Tryz.func49, Tryz.ntmps49
 go_wp2
 go_loopg [12] n (fun k s12 wr => ∃ i : Nat, s12 = .int .i64 (i : Nat) ∧ i + k = n ∧ Fr [bt] w wr ∧ Told wr O S bt (N + i) kn ∧ R = ask (ms.map (·.1)) kn k i W)
 case atStart => exact ⟨0, rfl, by omega, Fr.refl _ _, HT0.out.1, HT0.out.2⟩
 case round =>
  clear b0
  obtain ⟨i, rfl, hik, hf, hti, hRi⟩ := hrel
  by_cases hi : i < n
  ·obtain ⟨k, rfl⟩ : ∃ k, gk = k + 1 := ⟨gk - 1, by omega⟩
   obtain ⟨hR0, hs0, hn, hg, hd, hb, hp, hat⟩ := H.out
   obtain ⟨m, hm⟩ : ∃ m, ms[i]? = some m := ⟨ms[i]'(by omega), List.getElem?_eq_getElem _⟩
   have hl : (ms.map (·.1))[i]? = some m.1 := by rw [List.getElem?_map, hm]; rfl
   obtain ⟨s, hW⟩ : ∃ s, W[i]? = some s := ⟨W[i]'(by rw [hs0.len, List.length_map]; omega), List.getElem?_eq_getElem _⟩
   have hRb := hR0.frM hat hf
   have hst := hs0.frM hat hf
   have b2 := cell_of hRb.box 2
   simp only [List.getElem?_toArray, List.getElem?_cons_zero, List.getElem?_cons_succ] at b2
   rw [← hn] at b2
   have hbase := hst.base i m.1 hl
   obtain ⟨sb, ok, hta, hok⟩ := baseV_named (ms.map (·.1)) i m.1
   obtain ⟨bV, hbV⟩ : ∃ bV, bV = baseV (ms.map (·.1)) i m.1 := ⟨_, rfl⟩
   rw [← hbV] at hta hbase
   have y3 : wr.cell? ⟨S, i * 4 + 3, none⟩ = some bV := by rw [cell_of hRb.sb]; exact hbase
   have y0 : wr.cell? ⟨S, i * 4, none⟩ = some (.bool s.isSome) := by rw [cell_of hRb.sb]; exact (hst.st i s hW).done
   rw [ask, hl, hW] at hRi
   have HR := Lib.hid (And.intro hRb (And.intro hst (And.intro hm (And.intro hW (And.intro hf (And.intro hti hRi))))))
   clear hR0 hs0 hn hg hd hb hp hat hl hRb hst hbase hbV hf hti hRi hm
   cases s with
   | some t =>
    simp only [Option.isSome_some] at y0
    clear hok hW
    go_wp2
    clear y0 y3 b2 hta
    go_roundg k
    case measure => omega
    case rel => exact ⟨i + 1, rfl, by omega, HR.out.2.2.2.2.1, HR.out.2.2.2.2.2.1.mono (by omega), HR.out.2.2.2.2.2.2⟩
   | none =>
    simp only [Option.isSome_none] at y0
    have hRi := HR.out.2.2.2.2.2.2
    simp only at hRi
    rcases hok with ⟨rfl, h7, rfl⟩ | ⟨rfl, h7⟩
    ·rw [if_pos h7] at hRi
     have hfrom := from_any g O S bt (N + i) gv la ms C D kn m.1.base wr HR.out.1 HR.out.2.2.2.2.2.1 (H.out.2.2.2.1.fr (HR.out.2.2.2.2.1.mono (by simp))) H.out.2.2.2.2.1 (by omega) (H.out.2.2.2.2.2.1 m (List.mem_of_getElem? HR.out.2.2.1)) (H.out.2.2.2.2.2.2.1 _ (HR.out.2.2.2.2.1.mono (by simp)))
     obtain ⟨sb, hsb⟩ : ∃ sb, sb = str m.1.base := ⟨_, rfl⟩
     rw [← hsb] at hfrom hta
     unfold From at hfrom
     generalize kfind kn m.1.base = KR at hRi hfrom
     cases KR with
     | none =>
      have HX := Lib.hid (And.intro hRi hfrom)
      clear hRi hfrom hsb h7 hW
      go_wp2_with (go_at_call 81; refine HX.out.2.mono ?_; rintro e w2 ⟨f2, t2, q, rfl, kq⟩; obtain rfl := kq.no; have H2 := Lib.hid (And.intro f2 t2); clear f2 t2 kq; simp only [pV, Option.map_none])
      clear y0 y3 b2 hta
      go_roundg k
      case measure => omega
      case rel => exact ⟨i + 1, rfl, by omega, HR.out.2.2.2.2.1.trans H2.out.1, H2.out.2, HX.out.1⟩
     | some kk =>
      have HX := Lib.hid (And.intro hRi hfrom)
      clear hRi hfrom hsb h7 hW
      go_upto_region 7 with (go_at_call 81; refine HX.out.2.mono ?_; rintro e w2 ⟨f2, t2, q, rfl, kq⟩; obtain ⟨p, rfl, kb⟩ := kq.yes; have H2 := Lib.hid (And.intro f2 (And.intro t2 kb)); clear f2 t2 kb kq; simp only [pV, Option.map_some])
      clear y0 y3 b2 hta
      obtain ⟨pO, pS, a, c, hpb, hrd, hoff⟩ := H2.out.2.2
      have k0 : w2.cell? ⟨p, 0, none⟩ = some (.int .i64 kk.kind) := by rw [cell_of hpb]; rfl
      have k1 : w2.cell? ⟨p, 1, none⟩ = some (.slice a kk.body.length c) := by rw [cell_of hpb]; rfl
      have hRb2 := (HR.out.1.frM HR.out.2.2.2.2.2.1.at_ H2.out.1).fr (Fr.drew1 [] w2)
      have hst2 := HR.out.2.1.frM HR.out.2.2.2.2.2.1.at_ H2.out.1
      have hfin : Calls Tryz.prog 80 #[.pointer (some ⟨g, 0, none⟩), .int .i64 (i : Nat), .int .i64 kk.kind, .slice a kk.body.length c, .int .i64 1] w2.drew _ :=
       finish_any g O S gv (.map (some bt)) la ms C D i m kk.kind a c kk.body 0 w2.drew hRb2 HR.out.2.2.1 (hrd.fr (Fr.drew1 [] w2)) hoff (by omega) (H.out.2.2.2.2.2.2.1 _ (((HR.out.2.2.2.2.1.trans H2.out.1).mono (by simp)).trans (Fr.drew1 _ w2))) (HR.out.2.1.st i none HR.out.2.2.2.1).2
        (fun w' f => H.out.2.2.2.2.2.2.1 _ ((((HR.out.2.2.2.2.1.trans H2.out.1).mono (by simp)).trans (Fr.drew1 _ w2)).trans (f.mono (fun y hy => .inl (by simp at hy; rcases hy with rfl | rfl <;> simp)))))
      obtain ⟨kl, hkl⟩ : ∃ kl, kl = kk.body.length := ⟨_, rfl⟩
      obtain ⟨kd, hkd⟩ : ∃ kd, kd = kk.kind := ⟨_, rfl⟩
      rw [← hkl, ← hkd] at hfin
      rw [← hkl] at k1
      rw [← hkd] at k0
      have HY := Lib.hid (And.intro hfin (And.intro hRb2 (And.intro hst2 hkd)))
      clear hfin hRb2 hst2 hkl hkd hpb hrd hoff pO pS
      go_upto_region 8 with fail
      refine region_tail 10 (by kernel_rfl) (by kernel_rfl) ?_
      simp only [List.take_succ_cons, List.take_zero, List.drop_succ_cons, List.drop_zero]
      repeat (go_big_quiet_step (fail))
      refine wpQuiet_nil ?_
      clear k0 k1
      go_wp2_with (go_at_call 80; refine HY.out.1.mono ?_; rintro e w3 ⟨rfl, f3, C3, D3, hR3, hF3⟩; have H3 := Lib.hid (And.intro f3 (And.intro hR3 hF3)); clear f3 hR3 hF3)
      go_ret
      obtain ⟨f3, hR3, hF3⟩ := H3.out
      obtain ⟨hfin, hRb2, hst2, hkd⟩ := HY.out
      rw [hkd] at hF3
      have hat2 := H2.out.2.1.at_
      have hbO : bt ≠ O := Ne.symm (hat2.ne (show w2.heap[O]? = _ from hRb2.ob))
      have hbS : bt ≠ S := Ne.symm (hat2.ne (show w2.heap[S]? = _ from hRb2.sb))
      have fT : Fr [O, S] w2 w3 := ((Fr.drew1 [] w2).mono (by simp)).trans f3
      refine ⟨(H2.out.2.1.fr fT hbO hbS).mono (by have := H.out.2.2.1; omega), ?_⟩
      rw [HX.out.1]
      exact ⟨rfl, ((HR.out.2.2.2.2.1.trans H2.out.1).mono (by simp)).trans (fT.mono (fun y hy => .inl (by simp at hy; rcases hy with rfl | rfl <;> simp))), C3, D3, hR3, hst2.one i _ hF3.1 hF3.2.1 fT (hF3.st (lt_of_block hRb2.ob) (lt_of_block hRb2.sb))⟩
    ·rw [if_neg h7] at hRi
     have HRi := Lib.hid hRi
     clear hRi h7 hW
     go_wp2
     clear y0 y3 b2 hta
     go_roundg k
     case measure => omega
     case rel => exact ⟨i + 1, rfl, by omega, HR.out.2.2.2.2.1, HR.out.2.2.2.2.2.1.mono (by omega), HRi.out⟩
  ·obtain rfl : i = n := by omega
   obtain rfl : gk = 0 := by omega
   have HR := Lib.hid (And.intro hf (And.intro hti hRi))
   clear hf hti hRi
   go_wp2
   go_ret
   refine ⟨?_, ?_⟩
   ·rw [← H.out.2.2.1]; exact HR.out.2.1
   ·rw [HR.out.2.2]
    exact ⟨rfl, HR.out.1⟩
end Go.Proofs.YtkmpfgpfbmeihaaGreatDoor.pk
namespace Go.Proofs.YtkmpfgpfbmeihaaGreatDoor.pk
open Go Go.RowKit lib bm
theorem info_obj : (Tryz.prog.info? 34).map (fun i => (i.zero, i.size, i.bytes)) = some (some (.agg #[.int .i64 0, .slice none 0 0, .string ⟨#[]⟩, .int .i64 0, .int .u32 0]), 5, 64) := by kernel_rfl
theorem info_state : (Tryz.prog.info? 100).map (fun i => (i.zero, i.size, i.bytes)) = some (some (.agg #[.bool false, .int .i64 0, .int .i64 0, .nilIface]), 4, 40) := by kernel_rfl
theorem made_at (z : Array Value) (n j : Nat) (h : j < n) : (madeCells z n)[j]? = some (z[j % z.size]!) := by
 rw [Array.getElem?_eq_getElem (by rw [size_madeCells]; exact h)]
 simp [madeCells]
theorem make_objs (n : Nat) (h : n ≤ 1000000) : ∃ Z : Array Value, Z.size = n * 5 ∧ ∀ w : World, (Instr.makeSlice 27 (.int .i64 (n : Nat)) (.int .i64 (n : Nat))).run Tryz.prog w = .ok (.slice (some ⟨w.heap.size, 0, none⟩) n n) (w.alloc (.cells Z 34)) := by
 obtain ⟨i, hi, hz, hs, hb⟩ := info_parts info_obj
 refine ⟨madeCells (Value.agg #[.int .i64 0, .slice none 0 0, .string ⟨#[]⟩, .int .i64 0, .int .u32 0]).cells (n * 5), size_madeCells _ _, fun w => ?_⟩
 have := run_make (P := Tryz.prog) w 27 34 i _ Tryz.underlying27 hi hz .i64 .i64 (n : Nat) (n : Nat) (by omega) (Int.le_refl _) (by rw [hb]; omega) (by omega)
 rw [hs, Int.toNat_natCast] at this
 exact this
theorem make_states (n : Nat) (h : n ≤ 1000000) : ∃ Z : Array Value, Z.size = n * 4 ∧ (∀ t, t < n → Z[t * 4]? = some (.bool false) ∧ Z[t * 4 + 1]? = some (.int .i64 0) ∧ Z[t * 4 + 3]? = some .nilIface) ∧ (∀ t, t < n → Z[t * 4 + 2]? = some (.int .i64 0)) ∧ ∀ w : World, (Instr.makeSlice 93 (.int .i64 (n : Nat)) (.int .i64 (n : Nat))).run Tryz.prog w = .ok (.slice (some ⟨w.heap.size, 0, none⟩) n n) (w.alloc (.cells Z 100)) := by
 obtain ⟨i, hi, hz, hs, hb⟩ := info_parts info_state
 have key : ∀ t k : Nat, t < n → k < 4 → (madeCells (Value.agg #[.bool false, .int .i64 0, .int .i64 0, .nilIface]).cells (n * 4))[t * 4 + k]? = some ((#[.bool false, .int .i64 0, .int .i64 0, .nilIface] : Array Value)[k]!) := fun t k ht hk => by
  rw [made_at _ _ _ (by omega)]
  have e : (t * 4 + k) % (Value.agg #[.bool false, .int .i64 0, .int .i64 0, .nilIface]).cells.size = k := by
   show (t * 4 + k) % 4 = k
   omega
  rw [e]
  rfl
 refine ⟨madeCells (Value.agg #[.bool false, .int .i64 0, .int .i64 0, .nilIface]).cells (n * 4), size_madeCells _ _, fun t ht => ⟨?_, ?_, ?_⟩, fun t ht => ?_, fun w => ?_⟩
 ·have := key t 0 ht (by decide); rw [Nat.add_zero] at this; exact this
 ·exact key t 1 ht (by decide)
 ·exact key t 3 ht (by decide)
 ·exact key t 2 ht (by decide)
 ·have := run_make (P := Tryz.prog) w 93 100 i _ Tryz.underlying93 hi hz .i64 .i64 (n : Nat) (n : Nat) (by omega) (Int.le_refl _) (by rw [hb]; omega) (by omega)
  rw [hs, Int.toNat_natCast] at this
  exact this
theorem made4 {w W : World} {o1 o2 o3 o4 : Go.Obj} (hh : W.heap = (((w.heap.push o1).push o2).push o3).push o4) (h1 : W.os = w.os) (h2 : W.tape = w.tape) (h3 : W.output = w.output) :
  W.heap[w.heap.size]? = some o1 ∧ W.heap[w.heap.size + 1]? = some o2 ∧ W.heap[w.heap.size + 1 + 1]? = some o3 ∧ W.heap[w.heap.size + 1 + 1 + 1]? = some o4 ∧ Fr [] w W := by
 refine ⟨?_, ?_, ?_, ?_, h1, h2, h3, ?_, fun k hk _ => ?_⟩
 ·rw [hh]; simp only [Array.getElem?_push, Array.size_push]; rw [if_neg (by omega), if_neg (by omega), if_neg (by omega), if_pos trivial]
 ·rw [hh]; simp only [Array.getElem?_push, Array.size_push]; rw [if_neg (by omega), if_neg (by omega), if_pos trivial]
 ·rw [hh]; simp only [Array.getElem?_push, Array.size_push]; rw [if_neg (by omega), if_pos trivial]
 ·rw [hh]; simp only [Array.getElem?_push, Array.size_push]; rw [if_pos trivial]
 ·rw [hh]; simp; omega
 ·rw [hh]
  simp only [Array.getElem?_push, Array.size_push]
  rw [if_neg (by omega), if_neg (by omega), if_neg (by omega), if_neg (by omega)]
theorem made4a (w : World) (o1 o2 o3 o4 : Go.Obj) : ((((w.alloc o1).alloc o2).alloc o3).alloc o4).drew.heap[w.heap.size]? = some o1 := (made4 (w := w) (W := ((((w.alloc o1).alloc o2).alloc o3).alloc o4).drew) rfl rfl rfl rfl).1
theorem made4b (w : World) (o1 o2 o3 o4 : Go.Obj) : ((((w.alloc o1).alloc o2).alloc o3).alloc o4).drew.heap[w.heap.size + 1]? = some o2 := (made4 (w := w) (W := ((((w.alloc o1).alloc o2).alloc o3).alloc o4).drew) rfl rfl rfl rfl).2.1
theorem made4c (w : World) (o1 o2 o3 o4 : Go.Obj) : ((((w.alloc o1).alloc o2).alloc o3).alloc o4).drew.heap[w.heap.size + 1 + 1]? = some o3 := (made4 (w := w) (W := ((((w.alloc o1).alloc o2).alloc o3).alloc o4).drew) rfl rfl rfl rfl).2.2.1
theorem made4d (w : World) (o1 o2 o3 o4 : Go.Obj) : ((((w.alloc o1).alloc o2).alloc o3).alloc o4).drew.heap[w.heap.size + 1 + 1 + 1]? = some o4 := (made4 (w := w) (W := ((((w.alloc o1).alloc o2).alloc o3).alloc o4).drew) rfl rfl rfl rfl).2.2.2.1
end Go.Proofs.YtkmpfgpfbmeihaaGreatDoor.pk
namespace Go.Proofs.YtkmpfgpfbmeihaaGreatDoor.lib
open Go Go.RowKit Go.ChangeShapes Go.WideShapes
theorem exists_list {α : Type} {P : Nat → α → Prop} : ∀ (n : Nat), (∀ i, i < n → ∃ x, P i x) → ∃ l : List α, l.length = n ∧ ∀ (i : Nat) (h : i < l.length), P i l[i]
 | 0, _ => ⟨[], rfl, fun i h => by cases h⟩
 | n + 1, h => by
  obtain ⟨l, h1, h2⟩ := exists_list n fun i hi => h i (by omega)
  obtain ⟨x, hx⟩ := h n (by omega)
  refine ⟨l ++ [x], by simp [h1], fun i hi => ?_⟩
  by_cases hl : i < l.length
  ·rw [List.getElem_append_left hl]; exact h2 i hl
  ·simp at hi
   obtain rfl : i = l.length := by omega
   simp
   rw [h1]
   exact hx
end Go.Proofs.YtkmpfgpfbmeihaaGreatDoor.lib
namespace Go.Proofs.YtkmpfgpfbmeihaaGreatDoor.pk
open Go Go.RowKit Go.ChangeShapes Go.WideShapes lib
def knL (k : Kn) : List Value := [.int .i64 k.kind, .string (str k.body), .string (str k.id)]
theorem knL_len (kn : List Kn) : (kn.flatMap knL).length = kn.length * 3 := flat_len knL 3 (fun _ => rfl) kn
structure Knows (w : World) (a : Option Addr) (cap : Nat) (kn : List Kn) : Prop where
 cs : Cs w a (kn.flatMap knL)
 le : kn.length ≤ cap
 max : cap ≤ maxLen
 nil : a = none → cap = 0
 len : ∀ k ∈ kn, k.body.length ≤ 140737488351232
theorem Knows.fr {w w' : World} {a : Option Addr} {cap : Nat} {kn : List Kn} (h : Knows w a cap kn) (f : Fr [] w w') : Knows w' a cap kn := ⟨h.cs.fr f (by simp), h.le, h.max, h.nil, h.len⟩
theorem Knows.frS {S : List Nat} {w w' : World} {a : Option Addr} {cap : Nat} {kn : List Kn} (h : Knows w a cap kn) (f : Fr S w w') (hS : ∀ x ∈ blk a, x ∉ S) : Knows w' a cap kn := ⟨h.cs.fr f hS, h.le, h.max, h.nil, h.len⟩
theorem Knows.cell {w : World} {a : Option Addr} {cap : Nat} {kn : List Kn} (h : Knows w a cap kn) {i : Nat} {k : Kn} (hi : kn[i]? = some k) : ∃ g o, a = some ⟨g, o, none⟩ ∧ w.cell? ⟨g, o + i * 3, none⟩ = some (.int .i64 k.kind) ∧ w.cell? ⟨g, o + i * 3 + 1, none⟩ = some (.string (str k.body)) ∧ w.cell? ⟨g, o + i * 3 + 2, none⟩ = some (.string (str k.id)) := by
 have hl := (List.getElem?_eq_some_iff.1 hi).1
 obtain ⟨g, o, ha, hc⟩ := h.cs.at (by rw [knL_len]; omega)
 refine ⟨g, o, ha, ?_, ?_, ?_⟩
 ·exact hc (i * 3 + 0) _ ((flat_get knL 3 (fun _ => rfl) kn i k 0 hi (by decide)).trans rfl)
 ·rw [Nat.add_assoc]; exact hc (i * 3 + 1) _ ((flat_get knL 3 (fun _ => rfl) kn i k 1 hi (by decide)).trans rfl)
 ·rw [Nat.add_assoc]; exact hc (i * 3 + 2) _ ((flat_get knL 3 (fun _ => rfl) kn i k 2 hi (by decide)).trans rfl)
theorem cellsKn : Tryz.prog.cellsOf 63 = 3 := by kernel_rfl
theorem cellsIntK : Tryz.prog.cellsOf 3 = 1 := by kernel_rfl
theorem cellsStrK : Tryz.prog.cellsOf 9 = 1 := by kernel_rfl
theorem str_of (s : ByteArray) : str s.data.toList = s := by cases s; rfl
theorem knows_arg {H : Type} {enc : TypeId × Value → H} {w : World} {a : Option Addr} {len cap : Nat} {d : DataW H} {p : List MemPlace}
  (h : DataW.Trod enc Tryz.prog w 0 (fun _ => true) true 49 (.slice a len cap) d p) (hL : Light Tryz.prog 49 d) :
  ∃ kn : List Kn, kn.length = len ∧ Knows w a cap kn := by
 obtain ⟨h1, h2, h4, _, h5, h3⟩ := slice_arg Tryz.underlying49 cellsKn (by decide) h hL
 rcases h3 with rfl | ⟨g, o, rfl, h3⟩
 ·exact ⟨[], rfl, .inl rfl, Nat.zero_le _, h2, h4, by simp⟩
 ·obtain ⟨kn, hl, hks⟩ := exists_list (P := fun i (k : Kn) => (∀ j v, (knL k)[j]? = some v → w.cell? ⟨g, o + i * 3 + j, none⟩ = some v) ∧ k.body.length ≤ 140737488351232) len fun i hi => by
   obtain ⟨cs, y, n, hl, hc, ht, hLy, hBy⟩ := h3 i hi
   match cs, hl with
   | [x0, x1, x2], _ =>
    obtain ⟨y0, y1, y2, m, rfl, _, t0, t1, t2⟩ := Go.Deep.trod_struct3 Tryz.underlying63 ht
    simp only [cellsIntK, cellsStrK, List.drop_zero, List.drop_succ_cons, List.take_succ_cons, List.take_zero] at t0 t1 t2
    obtain ⟨k, e0, _, _⟩ := DataW.trod_int Tryz.underlying3 t0
    obtain ⟨s1, e1, z1, m1⟩ := DataW.trod_string Tryz.underlying9 t1
    obtain ⟨s2, e2, z2, m2⟩ := DataW.trod_string Tryz.underlying9 t2
    have hL3 : Light Tryz.prog 9 y1.1 := light_struct Tryz.underlying63 hLy (j := 1) rfl rfl
    rw [z1] at hL3
    have hb := light_string hL3
    simp only [List.cons.injEq, and_true] at e0 e1 e2
    subst e0 e1 e2
    refine ⟨⟨k, s1.data.toList, s2.data.toList⟩, fun j v hv => hc j v ?_, hb⟩
    unfold knL at hv
    simp only [str_of] at hv
    exact hv
  refine ⟨kn, hl, .inr ⟨g, o, rfl, fun j v hv => ?_⟩, by omega, h2, h4, fun x hx => ?_⟩
  ·have hj : j < kn.length * 3 := by rw [← knL_len]; exact (List.getElem?_eq_some_iff.1 hv).1
   have hi : j / 3 < kn.length := by omega
   have e : j = j / 3 * 3 + j % 3 := by omega
   have hg := flat_get knL 3 (fun _ => rfl) kn (j / 3) kn[j / 3] (j % 3) (List.getElem?_eq_getElem hi) (by omega)
   rw [← e] at hg
   rw [hg] at hv
   have := (hks (j / 3) hi).1 (j % 3) v hv
   rw [Nat.add_assoc, ← e] at this
   exact this
  ·obtain ⟨i, hi, rfl⟩ := List.getElem_of_mem hx
   exact (hks i hi).2
end Go.Proofs.YtkmpfgpfbmeihaaGreatDoor.pk
namespace Go.Proofs.YtkmpfgpfbmeihaaGreatDoor.pk
open Go Go.RowKit lib bm
theorem find_kn_no {kn : List Kn} {id : List UInt8} (h : ∀ t, t < kn.length → ∀ y, kn[t]? = some y → y.id ≠ id) : kn.find? (fun k => k.id == id) = none := by
 rw [List.find?_eq_none]
 intro x hx
 obtain ⟨t, ht, rfl⟩ := List.mem_iff_getElem.1 hx
 have := h t ht _ (List.getElem?_eq_getElem ht)
 simpa using this
theorem find_kn_hit (p : Kn → Bool) : ∀ (kn : List Kn) (j : Nat) (k : Kn), (∀ t, t < j → ∀ y, kn[t]? = some y → p y = false) → kn[j]? = some k → p k = true → kn.find? p = some k
 | [], j, k, _, h, _ => by simp at h
 | x :: t, 0, k, _, h, hs => by
  simp only [List.getElem?_cons_zero, Option.some.injEq] at h
  rw [List.find?_cons, h, hs]
 | x :: t, j + 1, k, hn, h, hs => by
  rw [List.find?_cons, hn 0 (by omega) x rfl]
  exact find_kn_hit p t j k (fun i hi y hy => hn (i + 1) (by omega) y (by simpa using hy)) (by simpa using h) hs
theorem wp_bytes_own {P : Program} {w : World} {e : TypeId} {o : Oper} {a : Act} {K : Act → World → Prop} {Q : Exit → Act → World → Prop} {src dst : TypeId} (hs : P.underlying src = some .string) (hd : P.underlying dst = some (.slice e)) (he : P.underlying e = some (.int .u8))
  (x : Operand) (ho : o.op = .convert src dst x) (bs : List UInt8) (hx : a.eval x = .string (str bs)) (hm : bs.length ≤ maxLen)
  (h : ∀ cap w', OwnB w' e (some ⟨w.heap.size, 0, none⟩) cap (bs.map bv) → Fr [] w w' → w.heap.size < w'.heap.size → K (a.put o.dst (.slice (some ⟨w.heap.size, 0, none⟩) bs.length cap)) w') : o.wp P a w K Q := by
 have hr := run_bytes_of_string (P := P) w src dst e (str bs) hs hd he
 have hsz : (str bs).size = bs.length := by simp [str, ByteArray.size]
 rw [hsz] at hr
 have h1 := grownCap_ge w bs.length 0 e
 have h2 := grownCap_le_maxLen w bs.length 0 e hm
 generalize grownCap w bs.length 0 e = cap at *
 unfold Oper.wp execOp
 simp only [ho, hx, Sem.run_bind, Result.andThen_ok, Sem.run_pure, hr]
 have hb := alloc_at w.drew (.cells (bytesRow (str bs) cap) e ((bytesRow (str bs) cap).size, (bytesRow (str bs) cap).size + 1))
 have hrow : (bytesRow (str bs) cap).toList.take bs.length = bs.map bv ∧ (bytesRow (str bs) cap).size = cap := by
  constructor
  ·unfold bytesRow
   rw [Array.toList_append, List.take_append_of_le_length (by simp [str]), List.take_of_length_le (by simp [str])]
   simp [str, bv]
  ·unfold bytesRow
   simp
   omega
 refine h cap _ (.inr ⟨w.heap.size, 0, _, _, rfl, hb, .inr (Nat.le_refl _), by simpa using h1, h2, by rw [hrow.2]; omega, ?_⟩) ((Fr.drew1 [] w).alloc _) (by rw [World.size_alloc]; exact Nat.lt_succ_self _)
 rw [List.drop_zero, List.length_map]
 exact hrow.1
set_option maxHeartbeats 4000000 in
theorem get1_any (B : Nat) (a : Option Addr) (cap : Nat) (kn : List Kn) (id : List UInt8) (w : World) (hB : w.cell? ⟨B, 0, none⟩ = some (.slice a kn.length cap)) (h : Knows w a cap kn) (hl : kn.length ≤ 1000000) :
  Calls Tryz.prog 55 #[.string (str id), .pointer (some ⟨B, 0, none⟩)] w (Got w kn id) := by
 obtain ⟨n, hn⟩ : ∃ n, n = kn.length := ⟨_, rfl⟩
 rw [← hn] at hB hl
 obtain ⟨si, hsi⟩ : ∃ si, si = str id := ⟨_, rfl⟩
 rw [← hsi]
 have H := Lib.hid (And.intro h (And.intro hn hsi))
 clear h hn hsi
 go_enter Tryz.func55, Tryz.ntmps55
 go_wp2
 go_loopg [6] n (fun k s6 wr => ∃ i : Nat, s6 = .int .i64 (i : Nat) ∧ i + k = n ∧ wr = w ∧ ∀ t, t < i → ∀ y, kn[t]? = some y → (y.id == id) = false)
 case atStart => exact ⟨0, rfl, by omega, rfl, fun t ht => by omega⟩
 case round =>
  obtain ⟨i, rfl, hik, hwr, hno⟩ := hrel
  subst hwr
  have HN := Lib.hid hno
  clear hno
  by_cases hi : i < n
  ·obtain ⟨k, rfl⟩ : ∃ k, gk = k + 1 := ⟨gk - 1, by omega⟩
   obtain ⟨x, hx⟩ : ∃ x, kn[i]? = some x := ⟨kn[i]'(by rw [← H.out.2.1]; omega), List.getElem?_eq_getElem _⟩
   obtain ⟨g, o, rfl, c0, c1, c2⟩ := H.out.1.cell hx
   have hlen := H.out.1.len x (List.mem_of_getElem? hx)
   obtain ⟨sx, hsx⟩ : ∃ sx, sx = str x.id := ⟨_, rfl⟩
   obtain ⟨kd, hkd⟩ : ∃ kd, kd = x.kind := ⟨_, rfl⟩
   rw [← hsx] at c2
   rw [← hkd] at c0
   by_cases he : x.id = id
   ·have gs : (sx.toList == si.toList) = true := by rw [hsx, H.out.2.2, he]; exact beq_self_eq_true _
    have hf := find_kn_hit (fun k => k.id == id) kn i x (fun t ht y hy => HN.out t ht y hy) hx (by simpa using he)
    have HX := Lib.hid (And.intro hf (And.intro hlen hkd))
    clear hx hsx he hf hlen hkd
    go_upto_region 5 with fail
    refine region_mix 12 [(false, 0), (false, 1), (false, 2), (false, 3), (false, 4), (false, 5), (false, 6), (false, 7), (false, 8), (false, 9), (false, 11), (true, 10)] [] (by kernel_rfl) (by kernel_rfl) (fun _ _ d _ _ h => by cases d <;> exact h) ?_
    simp only [List.map_cons, List.map_nil, List.getD_cons_zero, List.getD_cons_succ, List.drop_succ_cons, List.drop_zero, List.drop_nil]
    have f1 := fun x : World => sup_fr [] wr.drew x
    have q1 : ∀ x, (sup [] wr.drew x).cell? ⟨B, 0, none⟩ = some (.slice (some ⟨g, o, none⟩) n cap) := fun x => (f1 x).cell (show wr.drew.cell? _ = _ from hB) (by simp)
    have q2 : ∀ x, (sup [] wr.drew x).cell? ⟨g, o + i * 3, none⟩ = some (.int .i64 kd) := fun x => (f1 x).cell (show wr.drew.cell? _ = _ from c0) (by simp)
    have q3 : ∀ z, (sup [] wr.drew z).cell? ⟨g, o + i * 3 + 1, none⟩ = some (.string (str x.body)) := fun z => (f1 z).cell (show wr.drew.cell? _ = _ from c1) (by simp)
    refine mix_seg 11 rfl ?_
    simp only [List.take_succ_cons, List.take_zero, List.drop_succ_cons, List.drop_zero, List.map_cons, List.map_nil]
    repeat (go_big_quiet_step (fail))
    refine wpQuiet_nil ?_
    clear q1 q2 q3 f1
    refine mix_eff rfl ?_
    intro X hX
    refine wp_bytes_own (e := 5) Tryz.underlying9 Tryz.underlying23 Tryz.underlying5 _ rfl x.body rfl (by have : x.body.length ≤ 140737488351232 := HX.out.2.1; unfold maxLen; omega) ?_
    intro c3 w3 ho3 f3 hl3
    simp only [Act.put, List.setIfInBounds_toArray, List.set_cons_succ, List.set_cons_zero]
    refine hX.out _ _ f3 ?_
    clear hX X
    have H3 := Lib.hid (And.intro ho3 (And.intro f3 hl3))
    clear ho3 f3 hl3
    refine mix_nil ?_
    go_wp2
    go_ret3
    refine ⟨(Fr.drew1 [] wr).trans H3.out.2.1, ?_⟩
    rw [HX.out.1]
    refine ⟨_, c3, by rw [← HX.out.2.2]; rfl, H3.out.1.rd, fun y hy => ?_, by have := HX.out.2.1; omega⟩
    simp [blk] at hy
    rw [hy]
    exact Nat.le_refl _
   ·have gs : (sx.toList == si.toList) = false := by rw [hsx, H.out.2.2, str_toList, str_toList]; simpa using he
    have HX := Lib.hid (And.intro hx he)
    clear hx hsx he hlen hkd
    go_wp2
    go_roundg k
    case measure => omega
    case rel =>
     refine ⟨i + 1, rfl, by omega, rfl, fun t ht y hy => ?_⟩
     by_cases hti : t = i
     ·subst hti
      rw [HX.out.1] at hy
      obtain rfl := Option.some.inj hy
      simpa using HX.out.2
     ·exact HN.out t (by omega) y hy
  ·obtain rfl : i = n := by omega
   have hf := find_kn_no (kn := kn) (id := id) (fun t ht y hy => by have := HN.out t (by rw [H.out.2.1]; exact ht) y hy; simpa using this)
   have HX := Lib.hid hf
   clear hf
   go_wp2
   go_ret3
   refine ⟨Fr.refl _ _, ?_⟩
   rw [HX.out]
   rfl
theorem get_any (a : Option Addr) (cap : Nat) (kn : List Kn) (w : World) (h : Knows w a cap kn) (hl : kn.length ≤ 1000000) :
  Calls Tryz.prog 25 #[.slice a kn.length cap] w fun e w' => ∃ gv, e = .returned gv ∧ Fr [] w w' ∧ Getter w' [] gv kn := by
 obtain ⟨n, hn⟩ : ∃ n, n = kn.length := ⟨_, rfl⟩
 rw [← hn]
 have H := Lib.hid (And.intro h (And.intro hn hl))
 clear h hn hl
 go_enter Tryz.func25, Tryz.ntmps25
 go_wp2
 go_ret
 have f0 : Fr [] w (w.alloc (.cells #[.slice a n cap] 49)) := (Fr.refl [] w).alloc _
 refine ⟨_, rfl, f0, .inr ⟨_, _, rfl, fun _ _ => by kernel_rfl, fun id w' _ f => ?_⟩⟩
 have hc : (w.alloc (.cells #[.slice a n cap] 49)).cell? ⟨w.heap.size, 0, none⟩ = some (.slice a kn.length cap) := by
  rw [cell_of (alloc_at w _), ← H.out.2.1]
  rfl
 exact get1_any w.heap.size a cap kn id w' (f.cell hc (by simp)) ((H.out.1.fr f0).fr f) H.out.2.2
end Go.Proofs.YtkmpfgpfbmeihaaGreatDoor.pk
namespace Go.Proofs.YtkmpfgpfbmeihaaGreatDoor.pk
open Go Go.RowKit lib bm
theorem info_items : (Tryz.prog.info? 113).map (fun i => (i.zero, i.size, i.bytes)) = some (some (.agg itemZ), 8, 88) := by kernel_rfl
theorem make_items (n : Nat) (h : n ≤ 1000000) : ∃ Z : Array Value, Z.size = n * 8 ∧ (∀ t j v, t < n → itemZ[j]? = some v → Z[t * 8 + j]? = some v) ∧ ∀ w : World, (Instr.makeSlice 110 (.int .i64 (n : Nat)) (.int .i64 (n : Nat))).run Tryz.prog w = .ok (.slice (some ⟨w.heap.size, 0, none⟩) n n) (w.alloc (.cells Z 113)) := by
 obtain ⟨i, hi, hz, hs, hb⟩ := info_parts info_items
 refine ⟨madeCells (Value.agg itemZ).cells (n * 8), size_madeCells _ _, fun t j v ht hv => ?_, fun w => ?_⟩
 ·have hj : j < 8 := (Array.getElem?_eq_some_iff.1 hv).1
  rw [made_at _ _ _ (by omega)]
  have e : (t * 8 + j) % (Value.agg itemZ).cells.size = j := by
   show (t * 8 + j) % 8 = j
   omega
  rw [e, ← hv]
  show some itemZ[j]! = itemZ[j]?
  rw [getElem!_pos itemZ j (show j < itemZ.size from hj), Array.getElem?_eq_getElem (show j < itemZ.size from hj)]
 ·have := run_make (P := Tryz.prog) w 110 113 i _ Tryz.underlying110 hi hz .i64 .i64 (n : Nat) (n : Nat) (by omega) (Int.le_refl _) (by rw [hb]; omega) (by omega)
  rw [hs, Int.toNat_natCast] at this
  exact this
def Pre (l : List Ent) (W : List St) (i : Nat) : Prop := W.length = l.length ∧ ∀ t x, l[t]? = some x → W[t]? = some (if t < i then first1 l t x else none)
theorem pre_start (l : List Ent) : Pre l (List.replicate l.length none) 0 := ⟨by simp, fun t x hx => by
 have := (List.getElem?_eq_some_iff.1 hx).1
 rw [if_neg (by omega), List.getElem?_replicate, if_pos this]⟩
theorem Pre.next {l : List Ent} {W : List St} {i : Nat} {x : Ent} (h : Pre l W i) (hx : l[i]? = some x) : Pre l (W.set i (first1 l i x)) (i + 1) := by
 refine ⟨by rw [List.length_set]; exact h.1, fun t y hy => ?_⟩
 have ht := (List.getElem?_eq_some_iff.1 hy).1
 rw [List.getElem?_set]
 by_cases hti : i = t
 ·subst hti
  rw [hx] at hy
  obtain rfl := Option.some.inj hy
  rw [if_pos rfl, if_pos (by rw [h.1]; exact ht), if_pos (by omega)]
 ·rw [if_neg hti, h.2 t y hy]
  by_cases h1 : t < i
  ·rw [if_pos h1, if_pos (by omega)]
  ·rw [if_neg h1, if_neg (by omega)]
theorem Pre.same {l : List Ent} {W : List St} {i : Nat} {x : Ent} (h : Pre l W i) (hx : l[i]? = some x) (hf : first1 l i x = none) : Pre l W (i + 1) := by
 refine ⟨h.1, fun t y hy => ?_⟩
 rw [h.2 t y hy]
 by_cases h1 : t < i
 ·rw [if_pos h1, if_pos (by omega)]
 ·rw [if_neg h1]
  by_cases h2 : t = i
  ·subst h2
   rw [hx] at hy
   obtain rfl := Option.some.inj hy
   rw [if_pos (by omega), hf]
  ·rw [if_neg (by omega)]
theorem Pre.all {l : List Ent} {W : List St} (h : Pre l W l.length) : W = firsts l := by
 apply List.ext_getElem?
 intro t
 by_cases ht : t < l.length
 ·have hx := List.getElem?_eq_getElem ht
  rw [h.2 t _ hx, if_pos ht, firsts_get l t _ hx]
 ·rw [List.getElem?_eq_none (by rw [h.1]; omega), List.getElem?_eq_none (by rw [firsts_length]; omega)]
theorem any_at {l : List Ent} {i off : Nat} : (List.range i).any (atP l off) = (atOf l i off).isSome := by
 rw [atOf_eq, Bool.eq_iff_iff, List.any_eq_true, List.find?_isSome]
set_option maxHeartbeats 8000000 in
theorem rfirst_any (la : Option Addr) (lc : Nat) (l : List Ent) (w : World) (hl : Cs w la (rCells l)) (hfew : l.length ≤ 4096) (hd : ∀ y ∈ l, y.data.length ≤ 2147483647) :
  Calls Tryz.prog 56 #[.slice la l.length lc] w fun e w' => Fr [] w w' ∧ ∃ G C, e = .returned (.slice (some ⟨G, 0, none⟩) l.length l.length) ∧ Its w' G C (firsts l) ∧ w.heap.size ≤ G := by
 obtain ⟨n, hn⟩ : ∃ n, n = l.length := ⟨_, rfl⟩
 rw [← hn] at hfew ⊢
 obtain ⟨Z, hz, hzc, mk⟩ := make_items n (by omega)
 obtain ⟨G, hG⟩ : ∃ G, G = w.heap.size := ⟨_, rfl⟩
 have hI0 : Its (w.alloc (.cells Z 113)) G Z (List.replicate l.length none) := by
  refine ⟨by rw [hG]; exact alloc_at w _, by rw [hz, List.length_replicate, hn], fun i s hs => ⟨itemZ, ?_, fun j v hv => ?_⟩⟩
  ·have := List.getElem?_replicate (n := l.length) (a := (none : St)) (i := i)
   rw [this] at hs
   split at hs
   ·obtain rfl := Option.some.inj hs
    rfl
   ·cases hs
  ·have := (List.getElem?_eq_some_iff.1 hs).1
   rw [List.length_replicate] at this
   exact hzc i j v (by omega) hv
 have H := Lib.hid (And.intro hl (And.intro hn (And.intro hd (And.intro hI0 hG))))
 clear hl hn hd hI0 hz hzc hG
 go_enter Tryz.func56, Tryz.ntmps56
 go_upto_region 2 with fail
 rw [← H.out.2.2.2.2]
 generalize hw1 : World.alloc _ _ = w1
 have hI1 := H.out.2.2.2.1
 rw [hw1] at hI1
 have f1 : Fr [] w w1 := by rw [← hw1]; exact (Fr.refl [] w).alloc _
 have H1 := Lib.hid (And.intro hI1 f1)
 clear hI1 f1 hw1 mk
 go_wp2
 go_loopg [4] n (fun k s4 wr => ∃ i W C, s4 = .int .i64 (i : Nat) ∧ i + k = n ∧ Fr [G] w1 wr ∧ Its wr G C W ∧ Pre l W i)
 case atStart => exact ⟨0, _, Z, rfl, by omega, Fr.refl _ _, H1.out.1, pre_start l⟩
 case round =>
  obtain ⟨i, W, C, rfl, hik, hf, hI, hP⟩ := hrel
  generalize wr = w2 at *
  by_cases hi : i < n
  ·obtain ⟨k, rfl⟩ : ∃ k, gk = k + 1 := ⟨gk - 1, by omega⟩
   obtain ⟨x, hx⟩ : ∃ x, l[i]? = some x := ⟨l[i]'(by rw [← H.out.2.1]; omega), List.getElem?_eq_getElem _⟩
   have hla : ∀ y ∈ blk la, y ∉ [G] := fun y hy => by
    have := H.out.1.lt (by intro h; have := congrArg List.length h; rw [rCells_len] at this; simp at this; have := H.out.2.1; omega)
    cases la with
    | none => simp [blk] at hy
    | some z =>
     have := this z rfl
     simp [blk] at hy
     have := H.out.2.2.2.2
     simp
     omega
   have hlw := (H.out.1.fr H1.out.2 (by simp)).fr hf hla
   obtain ⟨g, o, rfl, c0, c1, c2, c3, c4, c5, c6⟩ := rcell hlw hx
   have hWi : i < W.length := by rw [hP.1, ← H.out.2.1]; exact hi
   have hdx := H.out.2.2.1 x (List.mem_of_getElem? hx)
   have HI := Lib.hid (And.intro hf (And.intro hI (And.intro hP (And.intro hx (And.intro hlw (And.intro hWi hdx))))))
   clear hf hI hP hx hlw hWi hdx hla
   obtain ⟨xk, xa, xs, xc, xd, xb, xo⟩ := x
   simp only at c0 c1 c2 c3 c4 c5 c6
   by_cases h6 : xk = 6
   ·subst h6
    have g6 : (((6 : Nat) : Int) == 6) = true := by decide
    clear c1 c2 c3 c4 c5
    go_wp2
    clear c0
    go_loopg [5, 6] i (fun k2 s5 s6 wr => ∃ q : Nat, s6 = .int .i64 (q : Nat) ∧ q + k2 = i ∧ s5 = .bool ((List.range q).any (atP l xo)) ∧ Fr [] w2 wr)
    case atStart => exact ⟨0, rfl, by omega, rfl, Fr.refl _ _⟩
    case round =>
     obtain ⟨q, rfl, hqk, rfl, hfq⟩ := hrel
     by_cases hqi : q < i
     ·obtain ⟨k2, rfl⟩ : ∃ k2, gk = k2 + 1 := ⟨gk - 1, by omega⟩
      obtain ⟨y, hy⟩ : ∃ y, l[q]? = some y := ⟨l[q]'(by rw [← H.out.2.1]; omega), List.getElem?_eq_getElem _⟩
      obtain ⟨g', o', hgo, _, e1, _⟩ := rcell (HI.out.2.2.2.2.1.fr hfq (by simp)) hy
      simp only [Option.some.injEq, Addr.mk.injEq, and_true] at hgo
      obtain ⟨rfl, rfl⟩ := hgo
      have c6 := hfq.cell c6 (by simp)
      have hat : atP l xo q = (y.at_ == xo) := by unfold atP; rw [hy]
      have hsucc : (List.range (q + 1)).any (atP l xo) = ((List.range q).any (atP l xo) || (y.at_ == xo)) := by
       rw [List.range_succ, List.any_append, ← hat]
       simp
      have hqn : q < n := by omega
      obtain ⟨ya, hya⟩ : ∃ ya, ya = y.at_ := ⟨_, rfl⟩
      rw [← hya] at e1 hsucc
      generalize hb : (List.range q).any (atP l xo) = b at hsucc
      have HQ := Lib.hid (And.intro hsucc hfq)
      clear hat hsucc hya hy hb
      cases b with
      | true =>
       go_upto_region 12 with fail
       go_quiet (fail)
       go_wp2
       go_roundg k2
       case measure => omega
       case rel => exact ⟨q + 1, rfl, by omega, by rw [HQ.out.1]; rfl, HQ.out.2.drewsN _⟩
      | false =>
       by_cases hao : ya = xo
       ·subst hao
        go_upto_region 12 with fail
        go_quiet (fail)
        go_wp2
        go_roundg k2
        case measure => omega
        case rel => exact ⟨q + 1, rfl, by omega, by rw [HQ.out.1]; simp, HQ.out.2.drewsN _⟩
       ·have gao : ((ya : Int) == (xo : Int)) = false := by simp; omega
        have HA := Lib.hid hao
        clear hao
        go_upto_region 12 with fail
        go_quiet (fail)
        go_wp2
        go_roundg k2
        case measure => omega
        case rel => exact ⟨q + 1, rfl, by omega, by rw [HQ.out.1]; simp [HA.out], HQ.out.2.drewsN _⟩
     ·obtain rfl : q = i := by omega
      clear c6
      have hany := any_at (l := l) (i := q) (off := xo)
      have hf := HI.out.1
      have hI := HI.out.2.1
      have hP := HI.out.2.2.1
      have hx := HI.out.2.2.2.1
      have hWi := HI.out.2.2.2.2.2.1
      cases hat : atOf l q xo with
      | some z =>
       rw [hat] at hany
       simp only [Option.isSome_some] at hany
       have hf1 : first1 l q ⟨6, xa, xs, xc, xd, xb, xo⟩ = none := by unfold first1; simp only [if_pos]; rw [hat]
       have HZ := Lib.hid (And.intro hf1 hfq)
       clear hf hI hP hx hWi hat hf1 hfq
       rw [hany]
       clear hany
       go_wp2
       go_roundg k
       case measure => omega
       case rel =>
        obtain ⟨hf, hI, hP, hx, _⟩ := HI.out
        exact ⟨q + 1, W, C, rfl, by omega, hf.trans (HZ.out.2.mono (by simp)), hI.fr HZ.out.2, hP.same hx HZ.out.1⟩
      | none =>
       rw [hat] at hany
       simp only [Option.isSome_none] at hany
       have hf1 : first1 l q ⟨6, xa, xs, xc, xd, xb, xo⟩ = some (.error 3) := by unfold first1; simp only [if_pos]; rw [hat]
       have hIz := hI.fr hfq
       obtain ⟨C', hI', fI⟩ := hIz.set (i := q) hWi (s := some (.error 3)) (r := itemE 3) ⟨rfl, by decide⟩
       have ht : wr.there G (q * 8) 8 := there_of hIz.blk (q * 8) 8 (by rw [hIz.size]; omega)
       have HZ := Lib.hid (And.intro hf1 (And.intro hfq (And.intro hI' (And.intro fI ht))))
       clear hf hI hP hx hWi hat hf1 hfq hIz hI' fI ht
       rw [hany]
       clear hany
       go_upto_region 14 with fail
       clear hqk
       go_wp2_with (guard_target =~ wpList _ _ _ (⟨_, Op.store _ _ _, _, _, _, _⟩ :: _) _ _; refine wpList_store_mid rfl 113 (.tmp 67) (.tmp 66) rfl G (q * 8) #[.bool true, .int .i64 0, .slice none 0 0, .string ⟨#[]⟩, .int .i64 0, .int .u32 0, .int .i64 0, .int .i64 3] rfl rfl HZ.out.2.2.2.2 infoItem (by kernel_rfl) ?_)
       go_roundg k
       case measure => omega
       case rel =>
        obtain ⟨hf, hI, hP, hx, _⟩ := HI.out
        refine ⟨q + 1, _, C', rfl, by omega, (hf.trans (HZ.out.2.1.mono (by simp))).trans HZ.out.2.2.2.1, HZ.out.2.2.1, ?_⟩
        rw [← HZ.out.1]
        exact hP.next hx
   ·have g6 : ((xk : Int) == 6) = false := by simp; omega
    by_cases h7 : xk = 7
    ·subst h7
     have g7 : (((7 : Nat) : Int) == 7) = true := by decide
     clear c1 c2 c3 c4 c5 c6
     go_wp2
     go_roundg k
     case measure => omega
     case rel =>
      obtain ⟨hf, hI, hP, hx, _⟩ := HI.out
      exact ⟨i + 1, W, C, rfl, by omega, hf, hI, hP.same hx rfl⟩
    ·have g7 : ((xk : Int) == 7) = false := by simp; omega
     have hwh := fun ba bc wz (hb : lib.Rd wz ba bc xd) => rwhole_any ⟨xk, xa, xs, xc, xd, xb, xo⟩ (xk : Nat) ba bc xd wz hb (by have : xd.length ≤ 2147483647 := HI.out.2.2.2.2.2.2; omega)
     obtain ⟨sj, hsj⟩ : ∃ sj, sj = str (oid (xk : Nat) xd) := ⟨_, rfl⟩
     have hob : ∀ ba bc, objV (whole ⟨xk, xa, xs, xc, xd, xb, xo⟩ (xk : Nat) xd) ba bc = #[.int .i64 (xk : Nat), .slice ba xd.length bc, .string sj, .int .i64 (xa : Nat), .int .u32 (xc : Nat)] := fun ba bc => by rw [hsj]; rfl
     simp only [hob, rentV] at hwh
     have hf1 : first1 l i ⟨xk, xa, xs, xc, xd, xb, xo⟩ = some (.ok (whole ⟨xk, xa, xs, xc, xd, xb, xo⟩ (xk : Nat) xd, 0)) := by unfold first1; rw [if_neg h6, if_neg h7]
     have HW := Lib.hid (And.intro hwh (And.intro hob (And.intro hsj hf1)))
     clear hwh hob hsj hf1 h6 h7
     go_upto_region 6 with fail
     have fs : ∀ {v : Value} {a : Addr}, w2.cell? a = some v → ∀ x, (sup [] w2.drew x).cell? a = some v := fun h x => (sup_fr [] w2.drew x).cell (show w2.drew.cell? _ = _ from h) (by simp)
     have s0 := fs c0
     have s1 := fs c1
     have s2 := fs c2
     have s3 := fs c3
     have s4 := fs c4
     have s5 := fs c5
     have s6 := fs c6
     clear fs c0 c1 c2 c3 c4 c5 c6
     refine region_mix 20 [(false, 0), (false, 1), (false, 2), (false, 3), (false, 4), (false, 5), (false, 6), (false, 7), (false, 8), (false, 9), (false, 10), (false, 11), (false, 12), (false, 13), (false, 14), (false, 15), (true, 16), (true, 17), (true, 18), (false, 19)] [] (by kernel_rfl) (by kernel_rfl) (fun _ _ d _ _ h => by cases d <;> exact h) ?_
     simp only [List.map_cons, List.map_nil, List.getD_cons_zero, List.getD_cons_succ, List.drop_succ_cons, List.drop_zero, List.drop_nil]
     refine mix_seg 16 rfl ?_
     simp only [List.take_succ_cons, List.take_zero, List.drop_succ_cons, List.drop_zero, List.map_cons, List.map_nil]
     repeat (go_big_quiet_step (fail))
     refine wpQuiet_nil ?_
     clear s0 s1 s2 s3 s4 s5 s6
     refine mix_eff rfl ?_
     intro X hX
     refine wp_bytes_own (e := 5) Tryz.underlying9 Tryz.underlying23 Tryz.underlying5 _ rfl xd rfl (by have : xd.length ≤ 2147483647 := HI.out.2.2.2.2.2.2; unfold maxLen; omega) ?_
     intro c3 w3 ho3 f3 hl3
     simp only [Act.put, List.setIfInBounds_toArray, List.set_cons_succ, List.set_cons_zero]
     refine hX.out _ _ f3 ?_
     clear hX X
     obtain ⟨B, hB⟩ : ∃ B, B = w2.drew.heap.size := ⟨_, rfl⟩
     rw [← hB] at ho3 ⊢
     have H3 := Lib.hid (And.intro ho3.rd (And.intro ((Fr.drew1 [] w2).trans f3) (And.intro (show w2.heap.size = B from hB.symm) (show B < w3.heap.size by rw [hB]; exact hl3))))
     clear ho3 f3 hl3 hB
     refine mix_eff rfl ?_
     intro X hX
     go_wp2_with (go_at_call 90; refine (HW.out.1 _ _ _ H3.out.1).mono ?_; rintro e w4 ⟨rfl, f4⟩)
     refine hX.out _ _ f4 ?_
     clear hX X
     have H4 := Lib.hid f4
     clear f4
     refine mix_eff rfl ?_
     intro X hX
     go_wp2
     refine hX.out _ _ (Fr.refl _ _) ?_
     clear hX X
     refine mix_seg 1 rfl ?_
     simp only [List.take_succ_cons, List.take_zero, List.drop_succ_cons, List.drop_zero, List.map_cons, List.map_nil]
     repeat (go_big_quiet_step (fail))
     refine wpQuiet_nil ?_
     refine mix_nil ?_
     have fz := H3.out.2.1.trans H4.out
     have hIz := HI.out.2.1.fr fz
     have hG2 := lt_of_block HI.out.2.1.blk
     obtain ⟨C', hI', fI⟩ := hIz.set (i := i) HI.out.2.2.2.2.2.1 (s := some (.ok (whole ⟨xk, xa, xs, xc, xd, xb, xo⟩ (xk : Nat) xd, 0))) (r := itemO (whole ⟨xk, xa, xs, xc, xd, xb, xo⟩ (xk : Nat) xd) 0 (some ⟨B, 0, none⟩) c3)
      ⟨some ⟨B, 0, none⟩, c3, rfl, H3.out.1.fr H4.out, fun y hy => by have := H3.out.2.2.1; simp [blk] at hy; omega, HI.out.2.2.2.2.2.2, by decide⟩
     have ht : w4.there G (i * 8) 8 := there_of hIz.blk (i * 8) 8 (by rw [hIz.size]; have := HI.out.2.2.2.2.2.1; omega)
     have hrow : itemO (whole ⟨xk, xa, xs, xc, xd, xb, xo⟩ (xk : Nat) xd) 0 (some ⟨B, 0, none⟩) c3 = #[.bool true, .int .i64 (xk : Nat), .slice (some ⟨B, 0, none⟩) xd.length c3, .string sj, .int .i64 (xa : Nat), .int .u32 (xc : Nat), .int .i64 0, .int .i64 0] := by rw [HW.out.2.2.1]; rfl
     rw [hrow] at hI' fI
     have HZ := Lib.hid (And.intro fz (And.intro hI' (And.intro fI ht)))
     clear fz hIz hI' fI ht hG2 hrow
     refine wpList_store_mid rfl 113 (.tmp 40) (.tmp 39) rfl G (i * 8) #[.bool true, .int .i64 (xk : Nat), .slice (some ⟨B, 0, none⟩) xd.length c3, .string sj, .int .i64 (xa : Nat), .int .u32 (xc : Nat), .int .i64 0, .int .i64 0] rfl rfl HZ.out.2.2.2 infoItem (by kernel_rfl) ?_
     go_wp2
     go_roundg k
     case measure => omega
     case rel =>
      obtain ⟨hf, hI, hP, hx, _⟩ := HI.out
      refine ⟨i + 1, _, C', rfl, by omega, (hf.trans (HZ.out.1.mono (by simp))).trans HZ.out.2.2.1, HZ.out.2.1, ?_⟩
      rw [← HW.out.2.2.2]
      exact hP.next hx
  ·obtain rfl : i = n := by omega
   have HI := Lib.hid (And.intro hf (And.intro hI hP))
   clear hf hI hP
   go_wp2
   go_ret
   obtain ⟨hf, hI, hP⟩ := HI.out
   refine ⟨H1.out.2.step hf (fun y hy => by have := H.out.2.2.2.2; simp at hy; right; omega), G, C, rfl, ?_, by rw [H.out.2.2.2.2]; exact Nat.le_refl _⟩
   rw [H.out.2.1] at hP
   rw [← hP.all]
   exact hI
end Go.Proofs.YtkmpfgpfbmeihaaGreatDoor.pk
namespace Go.Proofs.YtkmpfgpfbmeihaaGreatDoor.pk
open Go Go.RowKit lib bm
theorem infoKn : (Tryz.prog.info? 63).map (·.size) = some 3 := by kernel_rfl
theorem results_kn {fn : Func} {p u : Tmp} (h : fn.results = #[.cell p 63, .tmp u]) (tmps : Array Value) (w : World) (g : Nat) (cs : Array Value) (fr : Nat × Nat)
  (hp : tmps.getD p undef = .pointer (some ⟨g, 0, none⟩)) (hg : w.heap[g]? = some (.cells cs 63 fr)) (hs : cs.size = 3) :
  (results fn tmps).run Tryz.prog w = .ok (.tuple #[.agg cs, tmps.getD u undef]) w := by
 have h1 := run_loadVar_row (P := Tryz.prog) w g 63 63 cs fr _ hg Tryz.underlying63 rfl (by rw [infoKn, hs])
 have hp' : tmps[p]?.getD undef = .pointer (some ⟨g, 0, none⟩) := by simpa using hp
 simp [results, h, hp', asAddr, h1]
def RFound (w : World) (R : Option Kn) (e : Ending) (w' : World) : Prop := Fr [] w w' ∧ match R with
 | none => e = .returned (.tuple #[.agg #[.int .i64 0, .string ⟨#[]⟩, .string ⟨#[]⟩], .bool false])
 | some k => e = .returned (.tuple #[.agg #[.int .i64 k.kind, .string (str k.body), .string (str k.id)], .bool true])
set_option maxHeartbeats 4000000 in
theorem rfind_any (a : Option Addr) (cap : Nat) (kn : List Kn) (id : List UInt8) (w : World) (h : Knows w a cap kn) (hl : kn.length ≤ 1000000) :
  Calls Tryz.prog 58 #[.slice a kn.length cap, .string (str id)] w (RFound w (kfind kn id)) := by
 obtain ⟨n, hn⟩ : ∃ n, n = kn.length := ⟨_, rfl⟩
 rw [← hn] at hl ⊢
 obtain ⟨si, hsi⟩ : ∃ si, si = str id := ⟨_, rfl⟩
 rw [← hsi]
 obtain ⟨R, hR⟩ : ∃ R, R = kfind kn id := ⟨_, rfl⟩
 rw [← hR]
 have H := Lib.hid (And.intro h (And.intro hn (And.intro hsi hR)))
 clear h hn hsi hR
 go_enter Tryz.func58, Tryz.ntmps58
 go_upto_region 1 with fail
 obtain ⟨w1, hw1⟩ : ∃ w1, w1 = w.alloc (Obj.cells #[.int .i64 0, .string ⟨#[]⟩, .string ⟨#[]⟩] 63) := ⟨_, rfl⟩
 obtain ⟨G, hG⟩ : ∃ G, G = w.heap.size := ⟨_, rfl⟩
 rw [← hw1, ← hG]
 have f1 : Fr [] w w1 := by rw [hw1]; exact (Fr.refl [] w).alloc _
 have g1 : w1.heap[G]? = some (.cells #[.int .i64 0, .string ⟨#[]⟩, .string ⟨#[]⟩] 63 (0, 0)) := by rw [hw1, hG]; exact alloc_at w _
 have H1 := Lib.hid (And.intro f1 (And.intro g1 hG))
 clear f1 g1 hG hw1
 go_wp2
 go_loopg [6] n (fun k s6 wr => ∃ i : Nat, s6 = .int .i64 (i : Nat) ∧ i + k = n ∧ Fr [] w1 wr ∧ ∀ t, t < i → ∀ y, kn[t]? = some y → (y.id == id && oid y.kind y.body == id) = false)
 case atStart => exact ⟨0, rfl, by omega, Fr.refl _ _, fun t ht => by omega⟩
 case round =>
  obtain ⟨i, rfl, hik, hf, hno⟩ := hrel
  have HN := Lib.hid (And.intro hf hno)
  clear hf hno
  by_cases hi : i < n
  ·obtain ⟨k, rfl⟩ : ∃ k, gk = k + 1 := ⟨gk - 1, by omega⟩
   obtain ⟨x, hx⟩ : ∃ x, kn[i]? = some x := ⟨kn[i]'(by rw [← H.out.2.1]; omega), List.getElem?_eq_getElem _⟩
   have hkw := (H.out.1.fr H1.out.1).fr HN.out.1
   obtain ⟨g, o, rfl, c0, c1, c2⟩ := hkw.cell hx
   have hlen := H.out.1.len x (List.mem_of_getElem? hx)
   have hnext : ∀ wz, Fr [] wr wz → (x.id == id && oid x.kind x.body == id) = false → ∃ j : Nat, Value.int .i64 ((i : Int) + 1) = .int .i64 (j : Nat) ∧ j + k = n ∧ Fr [] w1 wz ∧ ∀ t, t < j → ∀ y, kn[t]? = some y → (y.id == id && oid y.kind y.body == id) = false := fun wz fz he => by
    refine ⟨i + 1, rfl, by omega, HN.out.1.trans fz, fun t ht y hy => ?_⟩
    by_cases hti : t = i
    ·subst hti
     rw [hx] at hy
     obtain rfl := Option.some.inj hy
     exact he
    ·exact HN.out.2 t (by omega) y hy
   obtain ⟨sx, hsx⟩ : ∃ sx, sx = str x.id := ⟨_, rfl⟩
   obtain ⟨kd, hkd⟩ : ∃ kd, kd = x.kind := ⟨_, rfl⟩
   rw [← hsx] at c2
   rw [← hkd] at c0
   have HX := Lib.hid (And.intro hx (And.intro hlen (And.intro hkd (And.intro hsx hnext))))
   clear hx hlen hkd hnext hkw
   by_cases he : x.id = id
   ·have gs : (sx.toList == si.toList) = true := by rw [hsx, H.out.2.2.1, he]; exact beq_self_eq_true _
    have hri := fun w' => obj.rid_any kd x.body w' (by have : x.body.length ≤ 140737488351232 := HX.out.2.1; omega)
    obtain ⟨sj, hsj⟩ : ∃ sj, sj = str (oid kd x.body) := ⟨_, rfl⟩
    rw [← hsj] at hri
    have HI := Lib.hid (And.intro hri (And.intro hsj he))
    clear hri hsj he hsx
    go_upto_region 4 with fail
    refine region_mix 21 [(false, 0), (false, 1), (false, 2), (false, 3), (false, 4), (false, 5), (false, 6), (false, 7), (false, 8), (false, 9), (false, 10), (false, 11), (false, 12), (false, 13), (false, 14), (false, 15), (false, 16), (false, 17), (false, 19), (true, 18), (false, 20)] [] (by kernel_rfl) (by kernel_rfl) (fun _ _ d _ _ h => by cases d <;> exact h) ?_
    simp only [List.map_cons, List.map_nil, List.getD_cons_zero, List.getD_cons_succ, List.drop_succ_cons, List.drop_zero, List.drop_nil]
    have f1 := fun x : World => sup_fr [] wr.drew x
    have q2 : ∀ x, (sup [] wr.drew x).cell? ⟨g, o + i * 3, none⟩ = some (.int .i64 kd) := fun x => (f1 x).cell (show wr.drew.cell? _ = _ from c0) (by simp)
    have q3 : ∀ z, (sup [] wr.drew z).cell? ⟨g, o + i * 3 + 1, none⟩ = some (.string (str x.body)) := fun z => (f1 z).cell (show wr.drew.cell? _ = _ from c1) (by simp)
    have q4 : ∀ z, (sup [] wr.drew z).cell? ⟨g, o + i * 3 + 2, none⟩ = some (.string sx) := fun z => (f1 z).cell (show wr.drew.cell? _ = _ from c2) (by simp)
    refine mix_seg 19 rfl ?_
    simp only [List.take_succ_cons, List.take_zero, List.drop_succ_cons, List.drop_zero, List.map_cons, List.map_nil]
    repeat (go_big_quiet_step (fail))
    refine wpQuiet_nil ?_
    clear q2 q3 q4 f1
    refine mix_eff rfl ?_
    intro X hX
    go_wp2_with (go_at_call 20; refine (HI.out.1 _).mono ?_; rintro e w2 ⟨rfl, f2⟩)
    refine hX.out _ _ f2 ?_
    clear hX X
    have HF := Lib.hid ((Fr.drew1 [] wr).trans f2)
    have c0 := HF.out.cell c0 (by simp)
    have c1 := HF.out.cell c1 (by simp)
    have c2 := HF.out.cell c2 (by simp)
    clear f2
    by_cases ho : oid kd x.body = id
    ·have gt : (sj.toList == si.toList) = true := by rw [HI.out.2.1, H.out.2.2.1, ho]; exact beq_self_eq_true _
     have hR : R = some x := by
      rw [H.out.2.2.2, kfind]
      exact find_kn_hit _ kn i x (fun t ht y hy => HN.out.2 t ht y hy) HX.out.1 (by rw [← HX.out.2.2.1, ho]; simp [HI.out.2.2])
     have hg := (HN.out.1.trans HF.out).blk H1.out.2.1 (by simp)
     have hs := setRow_heap w2 G _ #[.int .i64 kd, .string (str x.body), .string sx] _ _ hg
     have fF : Fr [] w (w2.setRow G #[.int .i64 kd, .string (str x.body), .string sx]) := ((H1.out.1.trans HN.out.1).trans HF.out).setRow (.inr (by rw [H1.out.2.2]; exact Nat.le_refl _)) _
     have HY := Lib.hid (And.intro hR (And.intro hg (And.intro hs fF)))
     clear hR hg hs fF ho
     refine mix_seg 1 rfl ?_
     simp only [List.take_succ_cons, List.take_zero, List.drop_succ_cons, List.drop_zero, List.map_cons, List.map_nil]
     repeat (go_big_quiet_step (fail))
     refine wpQuiet_nil ?_
     refine mix_nil ?_
     go_wp2_with (refine wpList_store_row rfl 63 (.tmp 4) (.tmp 38) rfl G #[.int .i64 kd, .string (str x.body), .string sx] rfl rfl 63 _ HY.out.2.1 infoKn rfl (by kernel_rfl) ?_)
     refine bodyPost_ret (results_kn rfl _ _ G _ _ rfl HY.out.2.2.1 rfl) rfl ?_
     refine ⟨HY.out.2.2.2, ?_⟩
     rw [HY.out.1, HX.out.2.2.2.1, HX.out.2.2.1]
     rfl
    ·have gt : (sj.toList == si.toList) = false := by rw [HI.out.2.1, H.out.2.2.1, str_toList, str_toList]; simpa using ho
     have HO := Lib.hid ho
     clear ho c0 c1 c2
     refine mix_seg 1 rfl ?_
     simp only [List.take_succ_cons, List.take_zero, List.drop_succ_cons, List.drop_zero, List.map_cons, List.map_nil]
     repeat (go_big_quiet_step (fail))
     refine wpQuiet_nil ?_
     refine mix_nil ?_
     go_wp2
     go_roundg k
     case measure => omega
     case rel => exact HX.out.2.2.2.2 _ HF.out (by rw [← HX.out.2.2.1]; simp [HO.out])
   ·have gs : (sx.toList == si.toList) = false := by rw [hsx, H.out.2.2.1, str_toList, str_toList]; simpa using he
    have HE := Lib.hid he
    clear he hsx
    go_upto_region 4 with fail
    go_quiet (fail)
    go_wp2
    go_roundg k
    case measure => omega
    case rel => exact HX.out.2.2.2.2 _ (Fr.drewN [] wr _) (by simp [HE.out])
  ·obtain rfl : i = n := by omega
   have hR : R = none := by
    rw [H.out.2.2.2, kfind, List.find?_eq_none]
    intro x hx
    obtain ⟨t, ht, rfl⟩ := List.mem_iff_getElem.1 hx
    have := HN.out.2 t (by rw [H.out.2.1]; exact ht) _ (List.getElem?_eq_getElem ht)
    simp only [this]
    exact Bool.false_ne_true
   have hg := HN.out.1.blk H1.out.2.1 (by simp)
   have hs := setRow_heap wr G _ #[.int .i64 0, .string ⟨#[]⟩, .string ⟨#[]⟩] _ _ hg
   have fF : Fr [] w (wr.setRow G #[.int .i64 0, .string ⟨#[]⟩, .string ⟨#[]⟩]) := (H1.out.1.trans HN.out.1).setRow (.inr (by rw [H1.out.2.2]; exact Nat.le_refl _)) _
   have HX := Lib.hid (And.intro hR (And.intro hg (And.intro hs fF)))
   clear hR hg hs fF
   go_wp2_with (refine wpList_store_row rfl 63 (.tmp 4) (.tmp 39) rfl G #[.int .i64 0, .string ⟨#[]⟩, .string ⟨#[]⟩] rfl rfl 63 _ HX.out.2.1 infoKn rfl (by kernel_rfl) ?_)
   refine bodyPost_ret (results_kn rfl _ _ G _ _ rfl HX.out.2.2.1 rfl) rfl ?_
   refine ⟨HX.out.2.2.2, ?_⟩
   rw [HX.out.1]
   rfl
end Go.Proofs.YtkmpfgpfbmeihaaGreatDoor.pk
namespace Go.Proofs.YtkmpfgpfbmeihaaGreatDoor.pk
open Go Go.RowKit lib bm
theorem gather_none : ∀ (W : List St) (i : Nat), (∀ t, t < i → ∃ o d, W[t]? = some (some (.ok (o, d)))) → W[i]? = some none → gather W = .error 61
 | [], i, _, h => by simp at h
 | s :: t, 0, _, h => by
  simp only [List.getElem?_cons_zero, Option.some.injEq] at h
  subst h
  rfl
 | s :: t, i + 1, hb, h => by
  obtain ⟨o, d, h0⟩ := hb 0 (by omega)
  simp only [List.getElem?_cons_zero, Option.some.injEq] at h0
  subst h0
  rw [gather, gather_none t i (fun k hk => by simpa using hb (k + 1) (by omega)) (by simpa using h)]
theorem gather_error : ∀ (W : List St) (i x : Nat), (∀ t, t < i → ∃ o d, W[t]? = some (some (.ok (o, d)))) → W[i]? = some (some (.error x)) → gather W = .error x
 | [], i, _, _, h => by simp at h
 | s :: t, 0, x, _, h => by
  simp only [List.getElem?_cons_zero, Option.some.injEq] at h
  subst h
  rfl
 | s :: t, i + 1, x, hb, h => by
  obtain ⟨o, d, h0⟩ := hb 0 (by omega)
  simp only [List.getElem?_cons_zero, Option.some.injEq] at h0
  subst h0
  rw [gather, gather_error t i x (fun k hk => by simpa using hb (k + 1) (by omega)) (by simpa using h)]
theorem gather_all : ∀ (W : List St), (∀ t, t < W.length → ∃ o d, W[t]? = some (some (.ok (o, d)))) → ∃ os : List Obj, gather W = .ok os ∧ os.length = W.length ∧ ∀ (i : Nat) (o : Obj), os[i]? = some o → ∃ d, W[i]? = some (some (.ok (o, d)))
 | [], _ => ⟨[], rfl, rfl, fun i o h => by simp at h⟩
 | s :: t, hb => by
  obtain ⟨o, d, h0⟩ := hb 0 (by simp)
  simp only [List.getElem?_cons_zero, Option.some.injEq] at h0
  subst h0
  obtain ⟨os, h1, h2, h3⟩ := gather_all t (fun k hk => by simpa using hb (k + 1) (by simpa using hk))
  refine ⟨o :: os, by rw [gather, h1], by simp [h2], fun i p hp => ?_⟩
  cases i with
  | zero =>
   simp only [List.getElem?_cons_zero, Option.some.injEq] at hp
   exact ⟨d, by simp [hp]⟩
  | succ i => simpa using h3 i p (by simpa using hp)
def Objs (w : World) (a : Option Addr) (os : List Obj) : Prop := ∀ i o, os[i]? = some o → ∃ g k ba bc, a = some ⟨g, k, none⟩ ∧ (∀ j v, (objV o ba bc)[j]? = some v → w.cell? ⟨g, k + i * 5 + j, none⟩ = some v) ∧ lib.Rd w ba bc o.body
def Resd (w : World) (n : Nat) (R : Except Nat (List Obj)) (e : Ending) (w' : World) : Prop := Fr [] w w' ∧ match R with
 | .error x => e = .returned (.tuple #[.slice none 0 0, .int .i64 (x : Nat)])
 | .ok os => ∃ a c, e = .returned (.tuple #[.slice a n c, .int .i64 0]) ∧ os.length = n ∧ Objs w' a os
structure RI (w wr : World) (g O S bt N : Nat) (gv : Value) (la : Option Addr) (ms : List EM) (kn : List Kn) (C D : Array Value) (W : List St) : Prop where
 rb : Rb wr g O S gv (.map (some bt)) la ms C D
 sts : Sts wr O S C D (ms.map (·.1)) W
 told : Told wr O S bt N kn
 fr : Fr [] w wr
 new : w.heap.size ≤ O ∧ w.heap.size ≤ S ∧ w.heap.size ≤ bt
 und : Und (ms.map (·.1)) W
theorem Sts.fr0 {w w' : World} {O S : Nat} {C D : Array Value} {l : List Ent} {W : List St} (h : Sts w O S C D l W) (f : Fr [] w w') : Sts w' O S C D l W :=
 ⟨h.len, fun i s hs => (h.st i s hs).keep (fun _ _ => rfl) (fun _ _ => rfl) (f.mono (by simp)), h.base⟩
theorem RI.off {w wr : World} {g O S bt N : Nat} {gv : Value} {la : Option Addr} {ms : List EM} {kn : List Kn} {C D : Array Value} {W : List St} (h : RI w wr g O S bt N gv la ms kn C D W) : bt ≠ O ∧ bt ≠ S :=
 ⟨Ne.symm (h.told.at_.ne h.rb.ob), Ne.symm (h.told.at_.ne h.rb.sb)⟩
theorem RI.fr0 {w wr w2 : World} {g O S bt N : Nat} {gv : Value} {la : Option Addr} {ms : List EM} {kn : List Kn} {C D : Array Value} {W : List St} (h : RI w wr g O S bt N gv la ms kn C D W) (f : Fr [] wr w2) : RI w w2 g O S bt N gv la ms kn C D W :=
 ⟨h.rb.fr f, h.sts.fr0 f, h.told.fr (f.mono (by simp)) h.off.1 h.off.2, h.fr.trans f, h.new, h.und⟩
theorem RI.turn {w wr w2 : World} {g O S bt N : Nat} {gv : Value} {la : Option Addr} {ms : List EM} {kn : List Kn} {C D C' D' : Array Value} {W W' : List St} (h : RI w wr g O S bt N gv la ms kn C D W) (f : Fr [O, S] wr w2) (rb : Rb w2 g O S gv (.map (some bt)) la ms C' D') (st : Sts w2 O S C' D' (ms.map (·.1)) W') (und : Und (ms.map (·.1)) W') : RI w w2 g O S bt N gv la ms kn C' D' W' :=
 ⟨rb, st, h.told.fr f h.off.1 h.off.2, h.fr.step f (fun y hy => by have := h.new; simp at hy; right; rcases hy with rfl | rfl <;> omega), h.new, und⟩
theorem RI.old {w wr w2 : World} {g O S bt N N' : Nat} {gv : Value} {la : Option Addr} {ms : List EM} {kn : List Kn} {C D : Array Value} {W : List St} (h : RI w wr g O S bt N gv la ms kn C D W) (f : Fr [bt] wr w2) (t : Told w2 O S bt N' kn) : RI w w2 g O S bt N' gv la ms kn C D W :=
 ⟨h.rb.frM h.told.at_ f, h.sts.frM h.told.at_ f, t, h.fr.step f (fun y hy => by have := h.new; simp at hy; right; omega), h.new, h.und⟩
theorem RI.asked {w wr w2 : World} {g O S bt N N' : Nat} {gv : Value} {la : Option Addr} {ms : List EM} {kn : List Kn} {C D C' D' : Array Value} {W W' : List St} (h : RI w wr g O S bt N gv la ms kn C D W) (f : Fr [O, S, bt] wr w2) (rb : Rb w2 g O S gv (.map (some bt)) la ms C' D') (st : Sts w2 O S C' D' (ms.map (·.1)) W') (t : Told w2 O S bt N' kn) (und : Und (ms.map (·.1)) W') : RI w w2 g O S bt N' gv la ms kn C' D' W' :=
 ⟨rb, st, t, h.fr.step f (fun y hy => by have := h.new; simp at hy; right; rcases hy with rfl | rfl | rfl <;> omega), h.new, und⟩
theorem Getter.up {w w1 : World} {gv : Value} {kn : List Kn} {T : List Nat} (h : Getter w [] gv kn) (f : Fr [] w w1) (hT : ∀ x ∈ T, w.heap.size ≤ x) : Getter w1 T gv kn := by
 rcases h with h | ⟨fid, cv, h1, h2, h3⟩
 ·exact .inl h
 ·exact .inr ⟨fid, cv, h1, h2, fun id w2 hl f2 => h3 id w2 hl (f.step f2 (fun x hx => .inr (hT x hx)))⟩
structure RJ (w wr : World) (g O S bt N : Nat) (gv : Value) (la : Option Addr) (ms : List EM) (kn : List Kn) (C D : Array Value) (W : List St) (f : Nat) (R : Except Nat (List Obj)) : Prop where
 ri : RI w wr g O S bt N gv la ms kn C D W
 fuel : undone W < f
 num : N + f * ms.length ≤ 16785408
 res : R = gather (resF (ms.map (·.1)) kn f W)
def measR (a : Act) (w : World) : Nat := match a.tmps.getD 6 undef with
 | .pointer (some p) => (match w.cell? ⟨p.block, 2, none⟩ with
  | some (.slice (some s) n _) => undM w s.block 4 n
  | _ => 0)
 | _ => 0
theorem measR_eq {a : Act} {w wr : World} {g O S bt N : Nat} {gv : Value} {la : Option Addr} {ms : List EM} {kn : List Kn} {C D : Array Value} {W : List St} (h6 : a.tmps.getD 6 undef = .pointer (some ⟨g, 0, none⟩)) (h : RI w wr g O S bt N gv la ms kn C D W) : measR a wr = undone W := by
 unfold measR
 rw [h6]
 simp only
 rw [cell_of h.rb.box]
 have := h.sts.undM h.rb.sb
 rw [List.length_map] at this
 exact this
theorem frame86 (a : Act) (h : a.tmps.size = 86) (hd : a.defers = []) : ∃ u : Nat → Value, a = ⟨#[u 0, u 1, u 2, u 3, u 4, u 5, u 6, u 7, u 8, u 9, u 10, u 11, u 12, u 13, u 14, u 15, u 16, u 17, u 18, u 19, u 20, u 21, u 22, u 23, u 24, u 25, u 26, u 27, u 28, u 29, u 30, u 31, u 32, u 33, u 34, u 35, u 36, u 37, u 38, u 39, u 40, u 41, u 42, u 43, u 44, u 45, u 46, u 47, u 48, u 49, u 50, u 51, u 52, u 53, u 54, u 55, u 56, u 57, u 58, u 59, u 60, u 61, u 62, u 63, u 64, u 65, u 66, u 67, u 68, u 69, u 70, u 71, u 72, u 73, u 74, u 75, u 76, u 77, u 78, u 79, u 80, u 81, u 82, u 83, u 84, u 85], []⟩ ∧ ∀ i, i < 86 → a.tmps[i]? = some (u i) := by
 obtain ⟨t, d⟩ := a
 simp only at h hd
 subst hd
 have key : t = ((List.range 86).map fun i => t.getD i undef).toArray := by
  apply Array.ext_getElem?
  intro i
  by_cases hi : i < 86
  ·simp [hi, h]
  ·rw [Array.getElem?_eq_none (by omega), Array.getElem?_eq_none (by simp; omega)]
 refine ⟨fun i => t.getD i undef, ?_, fun i hi => ?_⟩
 ·rw [Act.mk.injEq]
  exact ⟨key, rfl⟩
 ·simp [h, hi]
theorem wp_scope_main {P : Program} {Q : Exit → Act → World → Prop} {a : Act} {w : World} {c c2 : Code} (l : Nat) (J : Act → World → Prop) (μ : Act → World → Nat) (hf : findLabel c l = some (Code.seq Code.skip c2))
  (first : (∀ a w, J a w → c2.wp P (Exit.jump l J Q) a w) → c.wp P (Exit.jump l J Q) a w) (main : ∀ a w, J a w → c2.wp P (Exit.jump l (fun a' w' => J a' w' ∧ μ a' w' < μ a w) Q) a w) : (Code.scope c).wp P Q a w :=
 wp_scope_jumps l J μ hf (first fun a w h => Code.wp_mono (fun e a w q => by cases e <;> first | exact q | exact ⟨q.1, q.2.1⟩) (main a w h)) (fun a w h => wp_seq (wp_skip (main a w h)))
def JR (w : World) (n : Nat) (gv : Value) (la : Option Addr) (ms : List EM) (kn : List Kn) (R : Except Nat (List Obj)) (a : Act) (w' : World) : Prop := ∃ g O S bt C D W N f, a.tmps.size = 86 ∧ a.defers = [] ∧ a.tmps[0]? = some (.slice la n n) ∧ a.tmps[1]? = some gv ∧ a.tmps[4]? = some (.slice none 0 0) ∧ a.tmps[5]? = some (.int .i64 0) ∧ a.tmps[6]? = some (.pointer (some ⟨g, 0, none⟩)) ∧
 RJ w w' g O S bt N gv la ms kn C D W f R
set_option maxHeartbeats 8000000 in
theorem resolve_any (gv : Value) (la : Option Addr) (ms : List EM) (kn : List Kn) (w : World) (h : Ents w la ms) (hfew : ms.length ≤ 4096) (hg : Getter w [] gv kn) (hd : kn.Pairwise fun a b => a.id ≠ b.id) (hp : obj.Pw w)
  (hl : ∀ m ∈ ms, m.1.data.length ≤ 2147483647) (hb : ∀ m ∈ ms, m.1.base.length ≤ 40) (hof : ∀ x ∈ blk la, x < w.heap.size) (hof2 : ∀ m ∈ ms, ∀ x ∈ blk m.2, x < w.heap.size) :
  Calls Tryz.prog 19 #[.slice la ms.length ms.length, gv] w (Resd w ms.length (resolve (ms.map (·.1)) kn)) := by
 obtain ⟨n, hn⟩ : ∃ n, n = ms.length := ⟨_, rfl⟩
 obtain ⟨R, hR⟩ : ∃ R, R = resolve (ms.map (·.1)) kn := ⟨_, rfl⟩
 have hgs : gv = .nilFunc ∨ ∃ fid cv, gv = .func (.func fid) #[] cv := by
  rcases hg with ⟨rfl, _⟩ | ⟨fid, cv, rfl, _⟩
  ·exact .inl rfl
  ·exact .inr ⟨fid, cv, rfl⟩
 rw [← hn] at hfew
 rw [← hn, ← hR]
 have H := Lib.hid (And.intro h (And.intro hn (And.intro hg (And.intro hd (And.intro hp (And.intro hl (And.intro hb (And.intro hof (And.intro hof2 hR)))))))))
 clear h hn hg hd hp hl hb hof hof2 hR
 obtain ⟨Z1, hz1, mka⟩ := make_objs n (by omega)
 obtain ⟨Z2, hz2, hz3, hz4, mkb⟩ := make_states n (by omega)
 have HZ := Lib.hid (And.intro hz1 (And.intro hz2 (And.intro hz3 hz4)))
 clear hz1 hz2 hz3 hz4
 go_enter Tryz.func19, Tryz.ntmps19
 go_wp2
 refine wp_scope_main 0 (JR w n gv la ms kn R) measR rfl ?first ?main
 case first =>
  intro main
  have HP := Lib.hid main
  clear main
  have hmm := @run_makeMap Tryz.prog
  go_upto_region 1 with fail
  go_cut [6] from 6 to 20 (fun s6 wz => ∃ g O S bt, s6 = .pointer (some ⟨g, 0, none⟩) ∧ wz.heap[g]? = some (.cells #[.slice la n n, .slice (some ⟨O, 0, none⟩) n n, .slice (some ⟨S, 0, none⟩) n n, gv, .map (some bt)] 96 (0, 0)) ∧
   wz.heap[O]? = some (.cells Z1 34 (0, 0)) ∧ wz.heap[S]? = some (.cells Z2 100 (0, 0)) ∧ wz.heap[bt]? = some (.map #[] 0) ∧ O ≠ S ∧ w.heap.size ≤ g ∧ w.heap.size ≤ O ∧ w.heap.size ≤ S ∧ w.heap.size ≤ bt ∧ g ≠ O ∧ g ≠ S ∧ Fr [] w wz)
  case first =>
   rcases hgs with rfl | ⟨fid, cv, rfl⟩
   ·go_region
    all_goals go_wp2
    all_goals go_meet
    all_goals refine ⟨_, _, _, _, rfl, made4d w _ _ _ _, ?_, ?_, ?_, ?_, ?_, ?_, ?_, ?_, ?_, ?_, ?_⟩
    all_goals first | exact made4a w _ _ _ _ | exact made4b w _ _ _ _ | exact made4c w _ _ _ _ | omega | exact (((((Fr.refl [] w).alloc _).alloc _).alloc _).alloc _).drew
   ·go_region
    all_goals go_wp2
    all_goals go_meet
    all_goals refine ⟨_, _, _, _, rfl, made4d w _ _ _ _, ?_, ?_, ?_, ?_, ?_, ?_, ?_, ?_, ?_, ?_, ?_⟩
    all_goals first | exact made4a w _ _ _ _ | exact made4b w _ _ _ _ | exact made4c w _ _ _ _ | omega | exact (((((Fr.refl [] w).alloc _).alloc _).alloc _).alloc _).drew
  case rest =>
   obtain ⟨g, O, S, bt, rfl, hbox, hob, hsb, hmb, hOS, hg0, hO0, hS0, hb0, hgO, hgS, hf⟩ := hcut
   clear mka mkb hmm hgs
   have hrb : Rb wc g O S gv (.map (some bt)) la ms Z1 Z2 := by
    obtain ⟨h, hn, hg, hd, hp, hl, hb, hof, hof2, hR⟩ := H.out
    refine ⟨by rw [← hn]; exact hbox, h.fr hf, hob, by rw [HZ.out.1, hn], hsb, by rw [HZ.out.2.1, hn], hgO, hgS, hOS, fun x hx => ?_, fun m hm x hx => ?_, by omega⟩
    ·have := hof x hx
     exact ⟨by omega, by omega⟩
    ·have := hof2 m hm x hx
     exact ⟨by omega, by omega⟩
   have htold : Told wc O S bt 0 kn := ⟨_, 0, Nat.le_refl _, ⟨#[], 0, hmb, ⟨by simp, MapKept.stamped_empty 0, by simp⟩, Nat.le_refl _, rfl⟩, fun id hi => by cases hi⟩
   have hst := start_any g O S gv (.map (some bt)) la ms Z1 Z2 wc hrb (fun w' f => H.out.2.2.2.2.1.fr (hf.step f (fun y hy => by simp at hy; right; rcases hy with rfl | rfl <;> omega))) H.out.2.2.2.2.2.1 (fun t ht => HZ.out.2.2.1 t (by rw [H.out.2.1]; exact ht)) (fun t ht => HZ.out.2.2.2 t (by rw [H.out.2.1]; exact ht))
   have start_ob := Lib.hid (And.intro hrb.ob hrb.sb)
   have HS := Lib.hid (And.intro hst (And.intro htold (And.intro hf (And.intro hO0 (And.intro hS0 hb0)))))
   clear hst htold hrb hbox hob hsb hmb hOS hg0 hO0 hS0 hb0 hgO hgS hf
   go_upto_region 2 with fail
   go_wp2_with (go_at_call 47; refine HS.out.1.mono ?_; rintro e w2 ⟨rfl, C2, D2, hB⟩; have H2 := Lib.hid hB; clear hB)
   go_step3
   rename_i _ hK
   have hres : R = gather (resF (ms.map (·.1)) kn (n + 1) (firsts (ms.map (·.1)))) := by
    rw [H.out.2.2.2.2.2.2.2.2.2, resolve, List.length_map, H.out.2.1]
   refine hK _ _ (HP.out _ w2 ⟨g, O, S, bt, C2, D2, firsts (ms.map (·.1)), 0, n + 1, rfl, rfl, rfl, rfl, rfl, rfl, rfl, ⟨⟨H2.out.rb, H2.out.sts, ?_, ?_, HS.out.2.2.2, und_firsts _⟩, ?_, ?_, hres⟩⟩)
   ·exact HS.out.2.1.fr H2.out.fr (Ne.symm (HS.out.2.1.at_.ne (start_ob.out.1))) (Ne.symm (HS.out.2.1.at_.ne (start_ob.out.2)))
   ·exact HS.out.2.2.1.step H2.out.fr (fun y hy => by have := HS.out.2.2.2; simp at hy; right; rcases hy with rfl | rfl <;> omega)
   ·have := undone_le (firsts (ms.map (·.1)))
    rw [firsts_length, List.length_map, ← H.out.2.1] at this
    omega
   ·rw [← H.out.2.1, Nat.zero_add]
    exact Nat.le_trans (Nat.mul_le_mul (show n + 1 ≤ 4097 by omega) hfew) (by decide)
 case main =>
  rintro a1 w1 ⟨g, O, S, bt, C, D, W, N, f, hsz, hdf, t0, t1, t4, t5, t6, hJ⟩
  have hM : measR a1 w1 = undone W := measR_eq (by rw [Array.getD_eq_getD_getElem?, t6]; rfl) hJ.ri
  simp only [hM]
  obtain ⟨u, rfl, hu⟩ := frame86 a1 hsz hdf
  have e0 := Option.some.inj ((hu 0 (by decide)).symm.trans t0)
  have e1 := Option.some.inj ((hu 1 (by decide)).symm.trans t1)
  have e4 := Option.some.inj ((hu 4 (by decide)).symm.trans t4)
  have e5 := Option.some.inj ((hu 5 (by decide)).symm.trans t5)
  have e6 := Option.some.inj ((hu 6 (by decide)).symm.trans t6)
  rw [e0, e1, e4, e5, e6]
  clear e0 e1 e4 e5 e6 hu t0 t1 t4 t5 t6 hsz hdf hM hgs mka mkb
  obtain ⟨P, hP⟩ : ∃ P, P = pass (ms.map (·.1)) n 0 W false := ⟨_, rfl⟩
  have HJ := Lib.hid (And.intro hJ hP)
  clear hJ hP
  go_wp2
  go_loopg [7, 25] n (fun k s7 s25 wr => ∃ i W' C' D' more, s7 = .bool more ∧ s25 = .int .i64 (i : Nat) ∧ i + k = n ∧ RI w wr g O S bt N gv la ms kn C' D' W' ∧ pass (ms.map (·.1)) k i W' more = P)
  case atStart => exact ⟨0, W, C, D, false, rfl, rfl, by omega, HJ.out.1.ri, HJ.out.2.symm⟩
  case round =>
   obtain ⟨i, W', C', D', more, rfl, rfl, hik, hri, hpass⟩ := hrel
   by_cases hi : i < n
   ·obtain ⟨k, rfl⟩ : ∃ k, gk = k + 1 := ⟨gk - 1, by omega⟩
    obtain ⟨m, hm⟩ : ∃ m, ms[i]? = some m := ⟨ms[i]'(by rw [← H.out.2.1]; omega), List.getElem?_eq_getElem _⟩
    have hlx : (ms.map (·.1))[i]? = some m.1 := by rw [List.getElem?_map, hm]; rfl
    obtain ⟨s, hW⟩ : ∃ s, W'[i]? = some s := ⟨W'[i]'(by rw [hri.sts.len, List.length_map, ← H.out.2.1]; omega), List.getElem?_eq_getElem _⟩
    rw [pass_step (ms.map (·.1)) k i W' more m.1 hlx s hW] at hpass
    have b2 := cell_of hri.rb.box 2
    simp only [List.getElem?_toArray, List.getElem?_cons_zero, List.getElem?_cons_succ] at b2
    rw [← H.out.2.1] at b2
    have y0 : wr.cell? ⟨S, i * 4, none⟩ = some (.bool s.isSome) := by rw [cell_of hri.rb.sb]; exact (hri.sts.st i s hW).done
    cases s with
    | some z =>
     rw [if_neg (by simp)] at hpass
     simp only [Option.isSome_some] at y0
     have HR := Lib.hid (And.intro hri hpass)
     clear hri hpass hm hlx hW
     go_wp2
     clear y0 b2
     go_roundg k
     case measure => omega
     case rel => exact ⟨i + 1, W', C', D', more, rfl, rfl, by omega, HR.out.1, HR.out.2⟩
    | none =>
     rw [if_pos rfl] at hpass
     simp only [Option.isSome_none] at y0
     have htry := try_any g O S gv (.map (some bt)) la ms C' D' W' i m wr hri.rb hri.sts hm hW (fun w' f' => H.out.2.2.2.2.1.fr (hri.fr.step f' (fun y hy => by have := hri.new; simp at hy; right; rcases hy with rfl | rfl <;> omega))) (hri.und i m.1 hlx hW)
     generalize try1 (ms.map (·.1)) W' i m.1 = T at hpass htry
     cases T with
     | none =>
      have HR := Lib.hid (And.intro hri (And.intro hpass htry))
      clear hri hpass htry hm hlx hW
      go_wp2_with (go_at_call 48; refine HR.out.2.2.mono ?_; rintro e w2 ⟨rfl, f2⟩; have H2 := Lib.hid f2; clear f2)
      clear y0 b2
      go_roundg k
      case measure => omega
      case rel => exact ⟨i + 1, W', C', D', more, rfl, rfl, by omega, HR.out.1.fr0 H2.out, HR.out.2.1⟩
     | some z =>
      have HR := Lib.hid (And.intro hri (And.intro hpass htry))
      clear hri hpass htry hm hlx hW
      go_wp2_with (go_at_call 48; refine HR.out.2.2.mono ?_; rintro e w2 ⟨rfl, f2, C2, D2, hR2, hS2⟩; have H2 := Lib.hid (And.intro f2 (And.intro hR2 hS2)); clear f2 hR2 hS2)
      clear y0 b2
      go_roundg k
      case measure => omega
      case rel => exact ⟨i + 1, W'.set i (some z), C2, D2, true, rfl, rfl, by omega, HR.out.1.turn H2.out.1 H2.out.2.1 H2.out.2.2 (HR.out.1.und.set i z), HR.out.2.1⟩
   ·obtain rfl : i = n := by omega
    obtain rfl : gk = 0 := by omega
    rw [pass] at hpass
    obtain ⟨f', rfl⟩ : ∃ f', f = f' + 1 := ⟨f - 1, by have := HJ.out.1.fuel; omega⟩
    have hRf := HJ.out.1.res
    have hfu := HJ.out.1.fuel
    have hnum := HJ.out.1.num
    rw [resF, List.length_map, ← H.out.2.1, ← HJ.out.2, ← hpass] at hRf
    simp only at hRf
    obtain ⟨hu1, hu2, hu3⟩ := pass_undone (ms.map (·.1)) i 0 W false
    rw [← HJ.out.2, ← hpass] at hu1 hu2 hu3
    simp only at hu1 hu2 hu3
    rw [← H.out.2.1, Nat.succ_mul] at hnum
    cases more with
    | true =>
     rw [if_pos rfl] at hRf
     have hlt : undone W' < undone W := by rcases hu3 rfl with q | q; · cases q
                                           exact q
     have hfin : RJ w wr g O S bt N gv la ms kn C' D' W' f' R := ⟨hri, by omega, by rw [← H.out.2.1]; omega, hRf⟩
     have HE := Lib.hid (And.intro hfin hlt)
     clear hri hpass hRf hfu hnum hu1 hu2 hu3 hlt hfin
     go_wp2
     go_step3
     refine ⟨rfl, ⟨g, O, S, bt, C', D', W', N, f', rfl, rfl, rfl, rfl, rfl, rfl, rfl, HE.out.1⟩, ?_⟩
     rw [measR_eq rfl HE.out.1.ri]
     exact HE.out.2
    | false =>
     rw [if_neg (by simp)] at hRf
     have hask := ask_any g O S bt N gv la ms C' D' kn W' wr hri.rb hri.sts hri.told (H.out.2.2.1.up hri.fr (fun y hy => by have := hri.new; simp at hy; rcases hy with rfl | rfl | rfl <;> omega)) H.out.2.2.2.1 (by omega) H.out.2.2.2.2.2.2.1 (fun w' f' => H.out.2.2.2.2.1.fr (hri.fr.step f' (fun y hy => by have := hri.new; simp at hy; right; rcases hy with rfl | rfl | rfl <;> omega)))
     rw [← H.out.2.1] at hask
     obtain ⟨K, hK⟩ : ∃ K, K = ask (ms.map (·.1)) kn i 0 W' := ⟨_, rfl⟩
     rw [← hK] at hask hRf
     cases K with
     | some W2 =>
      obtain ⟨ha1, ha2⟩ := ask_undone (ms.map (·.1)) kn i 0 W' hK.symm
      have hund := Und.ask i 0 W' hri.und hK.symm
      simp only at hRf
      have hlt : undone W2 < undone W := by omega
      have HR := Lib.hid (And.intro hri (And.intro hask (And.intro hRf (And.intro hlt (And.intro hund (And.intro (show undone W2 < f' by omega) hnum))))))
      clear hri hask hRf hlt hund hnum hpass hfu hu1 hu2 hu3 ha1 ha2 hK
      go_wp2_with (go_at_call 49; refine HR.out.2.1.mono ?_; rintro e w2 ⟨t2, rfl, f2, C2, D2, hR2, hS2⟩; have H2 := Lib.hid (And.intro f2 (And.intro hR2 (And.intro hS2 t2))); clear f2 hR2 hS2 t2)
      go_step3
      have hfin : RJ w w2 g O S bt (N + ms.length) gv la ms kn C2 D2 W2 f' R := ⟨HR.out.1.asked H2.out.1 H2.out.2.1 H2.out.2.2.1 H2.out.2.2.2 HR.out.2.2.2.2.1, HR.out.2.2.2.2.2.1, by have := HR.out.2.2.2.2.2.2; rw [← H.out.2.1]; omega, HR.out.2.2.1⟩
      refine ⟨rfl, ⟨g, O, S, bt, C2, D2, W2, N + ms.length, f', rfl, rfl, rfl, rfl, rfl, rfl, rfl, hfin⟩, ?_⟩
      rw [measR_eq rfl hfin.ri]
      exact HR.out.2.2.2.1
     | none =>
      simp only at hRf
      have HR := Lib.hid (And.intro hri (And.intro hask hRf))
      clear hri hask hRf hnum hpass hfu hu1 hu2 hu3 hK
      go_wp2_with (go_at_call 49; refine HR.out.2.1.mono ?_; rintro e w2 ⟨t2, rfl, f2⟩; have H2 := Lib.hid (HR.out.1.old f2 t2); clear f2 t2)
      go_loopg [50] i (fun k s50 wr => ∃ q : Nat, s50 = .int .i64 (q : Nat) ∧ q + k = i ∧ Fr [] w2 wr ∧ ∀ t, t < q → ∃ o d, W'[t]? = some (some (.ok (o, d))))
      case atStart => exact ⟨0, rfl, by omega, Fr.refl _ _, fun t ht => by omega⟩
      case round =>
       obtain ⟨q, rfl, hqk, hfq, hq⟩ := hrel
       have hri := H2.out.fr0 hfq
       by_cases hqi : q < i
       ·obtain ⟨k, rfl⟩ : ∃ k, gk = k + 1 := ⟨gk - 1, by omega⟩
        obtain ⟨s, hW⟩ : ∃ s, W'[q]? = some s := ⟨W'[q]'(by rw [hri.sts.len, List.length_map, ← H.out.2.1]; omega), List.getElem?_eq_getElem _⟩
        have b2 := cell_of hri.rb.box 2
        simp only [List.getElem?_toArray, List.getElem?_cons_zero, List.getElem?_cons_succ] at b2
        rw [← H.out.2.1] at b2
        have hst := hri.sts.st q s hW
        match s, hst, hW with
        | none, hst, hW =>
         have y0 : wr.cell? ⟨S, q * 4, none⟩ = some (.bool false) := by rw [cell_of hri.rb.sb]; exact hst.1
         have hge := gather_none W' q hq hW
         have HX := Lib.hid (And.intro hri hge)
         clear hri hst hW hge hq hfq
         go_wp2
         simp only [Exit.jump]
         go_ret2
         refine ⟨HX.out.1.fr, ?_⟩
         rw [HR.out.2.2, HX.out.2]
         rfl
        | some (.error x), hst, hW =>
         have y0 : wr.cell? ⟨S, q * 4, none⟩ = some (.bool true) := by rw [cell_of hri.rb.sb]; exact hst.1
         have y1 : wr.cell? ⟨S, q * 4 + 1, none⟩ = some (.int .i64 (x : Nat)) := by rw [cell_of hri.rb.sb]; exact hst.2.1
         have hx := hst.2.2
         have gx : ((x : Int) != 0) = true := by simp; omega
         have hge := gather_error W' q x hq hW
         have HX := Lib.hid (And.intro hri hge)
         clear hri hst hW hge hq hfq hx
         go_upto_region 17 with fail
         go_quiet (fail)
         go_wp2
         simp only [Exit.jump]
         go_ret2
         refine ⟨HX.out.1.fr.drewsN _, ?_⟩
         rw [HR.out.2.2, HX.out.2]
         rfl
        | some (.ok (o, d)), hst, hW =>
         have y0 : wr.cell? ⟨S, q * 4, none⟩ = some (.bool true) := by rw [cell_of hri.rb.sb]; exact hst.1
         have y1 : wr.cell? ⟨S, q * 4 + 1, none⟩ = some (.int .i64 0) := by rw [cell_of hri.rb.sb]; exact hst.2.1
         have gx : ((0 : Int) != 0) = false := by decide
         have HX := Lib.hid (And.intro hfq (And.intro hq hW))
         clear hri hst hW hq hfq
         go_wp2
         go_roundg k
         case measure => omega
         case rel =>
          refine ⟨q + 1, rfl, by omega, HX.out.1, fun t ht => ?_⟩
          by_cases htq : t = q
          ·subst htq
           exact ⟨o, d, HX.out.2.2⟩
          ·exact HX.out.2.1 t (by omega)
       ·obtain rfl : q = i := by omega
        have b1 := cell_of hri.rb.box 1
        simp only [List.getElem?_toArray, List.getElem?_cons_zero, List.getElem?_cons_succ] at b1
        rw [← H.out.2.1] at b1
        have HX := Lib.hid (And.intro hri hq)
        clear hri hq hfq
        go_wp2
        simp only [Exit.jump]
        go_ret2
        have hri := HX.out.1
        obtain ⟨os, g1, g2, g3⟩ := gather_all W' (fun t ht => HX.out.2 t (by rw [hri.sts.len, List.length_map, ← H.out.2.1] at ht; exact ht))
        refine ⟨hri.fr, ?_⟩
        rw [HR.out.2.2, g1]
        refine ⟨_, _, rfl, by rw [g2, hri.sts.len, List.length_map, ← H.out.2.1], fun j o ho => ?_⟩
        obtain ⟨d, hd⟩ := g3 j o ho
        obtain ⟨h0, h1, h2, h3, ba, bc, h4, h5, h6, h7⟩ := hri.sts.st j _ hd
        refine ⟨O, 0, ba, bc, rfl, fun i v hv => ?_, h5⟩
        rw [Nat.zero_add, cell_of hri.rb.ob]
        exact h4 i v hv
end Go.Proofs.YtkmpfgpfbmeihaaGreatDoor.pk
namespace Go.Proofs.YtkmpfgpfbmeihaaGreatDoor.pk
open Go Go.RowKit lib bm
theorem Objs.fr {w w' : World} {a : Option Addr} {os : List Obj} (h : Objs w a os) (f : Fr [] w w') : Objs w' a os := fun i o ho => by
 obtain ⟨g, k, ba, bc, h1, h2, h3⟩ := h i o ho
 exact ⟨g, k, ba, bc, h1, fun j v hv => f.cell (h2 j v hv) (by simp), h3.fr f⟩
set_option maxHeartbeats 4000000 in
theorem osame_any (a b : Option Addr) (ca cb : Nat) (os : List Obj) (w : World) (ha : Objs w a os) (hb : Objs w b os) (hl : os.length ≤ 1000000) :
  Calls Tryz.prog 16 #[.slice a os.length ca, .slice b os.length cb] w fun e w' => e = .returned (.bool true) ∧ Fr [] w w' := by
 obtain ⟨n, hn⟩ : ∃ n, n = os.length := ⟨_, rfl⟩
 rw [← hn] at hl ⊢
 have H := Lib.hid (And.intro ha (And.intro hb hn))
 clear ha hb hn
 go_enter Tryz.func16, Tryz.ntmps16
 go_wp2
 go_loopg [5] n (fun k s5 wr => ∃ i : Nat, s5 = .int .i64 (i : Nat) ∧ i + k = n ∧ Fr [] w wr)
 case atStart => exact ⟨0, rfl, by omega, Fr.refl _ _⟩
 case round =>
  obtain ⟨i, rfl, hik, hf⟩ := hrel
  have HF := Lib.hid hf
  clear hf
  by_cases hi : i < n
  ·obtain ⟨k, rfl⟩ : ∃ k, gk = k + 1 := ⟨gk - 1, by omega⟩
   obtain ⟨x, hx⟩ : ∃ x, os[i]? = some x := ⟨os[i]'(by rw [← H.out.2.2]; omega), List.getElem?_eq_getElem _⟩
   obtain ⟨g, o, ba, bc, rfl, hc, hr⟩ := (H.out.1.fr HF.out) i x hx
   obtain ⟨g', o', ba', bc', rfl, hc', hr'⟩ := (H.out.2.1.fr HF.out) i x hx
   have c0 := hc 0 (.int .i64 x.kind) rfl
   have c1 := hc 1 (.slice ba x.body.length bc) rfl
   have c2 := hc 2 (.string (str x.id)) rfl
   have d0 := hc' 0 (.int .i64 x.kind) rfl
   have d1 := hc' 1 (.slice ba' x.body.length bc') rfl
   have d2 := hc' 2 (.string (str x.id)) rfl
   rw [Nat.add_zero] at c0 d0
   obtain ⟨kd, hkd⟩ : ∃ kd, kd = x.kind := ⟨_, rfl⟩
   obtain ⟨si, hsi⟩ : ∃ si, si = str x.id := ⟨_, rfl⟩
   obtain ⟨bl, hbl⟩ : ∃ bl, bl = x.body.length := ⟨_, rfl⟩
   rw [← hkd] at c0 d0
   rw [← hbl] at c1 d1
   rw [← hsi] at c2 d2
   have cva : ∀ x1 cap, (convert 23 9 (.slice ba bl cap)).run Tryz.prog (wr.drewN x1) = .ok (.string (str x.body)) (wr.drewN x1) := fun x1 => run_conv _ Tryz.underlying23 Tryz.underlying5 Tryz.underlying9 hbl.symm (hr.fr (Fr.drewN [] wr x1)).cs
   have cvb : ∀ x1 cap, (convert 23 9 (.slice ba' bl cap)).run Tryz.prog (wr.drewN x1) = .ok (.string (str x.body)) (wr.drewN x1) := fun x1 => run_conv _ Tryz.underlying23 Tryz.underlying5 Tryz.underlying9 hbl.symm (hr'.fr (Fr.drewN [] wr x1)).cs
   obtain ⟨sb, hsb⟩ : ∃ sb, sb = str x.body := ⟨_, rfl⟩
   rw [← hsb] at cva cvb
   clear hc hc' hr hr' hx hkd hsi hbl hsb
   go_upto_region 6 with fail
   go_quiet (fail)
   go_wp2
   go_roundg k
   case measure => omega
   case rel => exact ⟨i + 1, rfl, by omega, HF.out.drewsN _⟩
  ·obtain rfl : i = n := by omega
   go_wp2
   go_ret
   exact ⟨rfl, HF.out⟩
set_option maxHeartbeats 4000000 in
theorem objects_any (a b : Option Addr) (ca cb : Nat) (os : List Obj) (w : World) (ha : Objs w a os) (hb : Objs w b os) (hl : os.length ≤ 1000000) :
  Calls Tryz.prog 27 #[.slice a os.length ca, .slice b os.length cb] w fun e w' => e = .returned (.bool true) ∧ Fr [] w w' := by
 have hsame := osame_any a b ca cb os w ha hb hl
 obtain ⟨n, hn⟩ : ∃ n, n = os.length := ⟨_, rfl⟩
 rw [← hn] at hl hsame ⊢
 have H := Lib.hid (And.intro ha (And.intro hb (And.intro hn hsame)))
 clear ha hb hn hsame
 go_enter Tryz.func27, Tryz.ntmps27
 go_wp2_with (go_at_call 16; refine H.out.2.2.2.mono ?_; rintro e w1 ⟨rfl, f1⟩; have H1 := Lib.hid f1; clear f1)
 go_loopg [5] n (fun k s5 wr => ∃ i : Nat, s5 = .int .i64 (i : Nat) ∧ i + k = n ∧ Fr [] w wr)
 case atStart => exact ⟨0, rfl, by omega, H1.out⟩
 case round =>
  obtain ⟨i, rfl, hik, hf⟩ := hrel
  have HF := Lib.hid hf
  clear hf
  by_cases hi : i < n
  ·obtain ⟨k, rfl⟩ : ∃ k, gk = k + 1 := ⟨gk - 1, by omega⟩
   obtain ⟨x, hx⟩ : ∃ x, os[i]? = some x := ⟨os[i]'(by rw [← H.out.2.2.1]; omega), List.getElem?_eq_getElem _⟩
   obtain ⟨g, o, ba, bc, rfl, hc, hr⟩ := (H.out.1.fr HF.out) i x hx
   obtain ⟨g', o', ba', bc', rfl, hc', hr'⟩ := (H.out.2.1.fr HF.out) i x hx
   have c3 := hc 3 (.int .i64 (x.at_ : Nat)) rfl
   have c4 := hc 4 (.int .u32 (x.crc : Nat)) rfl
   have d3 := hc' 3 (.int .i64 (x.at_ : Nat)) rfl
   have d4 := hc' 4 (.int .u32 (x.crc : Nat)) rfl
   obtain ⟨xa, hxa⟩ : ∃ xa, xa = x.at_ := ⟨_, rfl⟩
   obtain ⟨xc, hxc⟩ : ∃ xc, xc = x.crc := ⟨_, rfl⟩
   rw [← hxa] at c3 d3
   rw [← hxc] at c4 d4
   clear hc hc' hr hr' hx hxa hxc
   go_upto_region 6 with fail
   go_quiet (fail)
   go_wp2
   go_roundg k
   case measure => omega
   case rel => exact ⟨i + 1, rfl, by omega, HF.out.drewsN _⟩
  ·obtain rfl : i = n := by omega
   go_wp2
   go_ret
   exact ⟨rfl, HF.out⟩
end Go.Proofs.YtkmpfgpfbmeihaaGreatDoor.pk
namespace Go.Proofs.YtkmpfgpfbmeihaaGreatDoor.pk
open Go Go.RowKit lib bm
theorem sty_obj : SliceTy Tryz.prog 27 34 (.agg #[.int .i64 0, .slice none 0 0, .string ⟨#[]⟩, .int .i64 0, .int .u32 0]) 5 64 := SliceTy.of Tryz.underlying27 (by kernel_rfl) rfl (by decide)
abbrev OM := Obj × Option Addr × Nat
def oL (m : OM) : List Value := (objV m.1 m.2.1 m.2.2).toList
theorem oL_one (m : OM) : ∀ u ∈ oL m, u.oneCell' = true := by
 intro u hu
 simp only [oL, objV, List.mem_cons, List.not_mem_nil, or_false] at hu
 rcases hu with rfl | rfl | rfl | rfl | rfl <;> rfl
structure RQ (l : List Ent) (w1 wr : World) (G : Nat) (C : Array Value) (W : List St) : Prop where
 its : Its wr G C W
 fr : Fr [G] w1 wr
 und : Und l W
 len : W.length = l.length
theorem RQ.fr0 {l : List Ent} {w1 wr w2 : World} {G : Nat} {C : Array Value} {W : List St} (h : RQ l w1 wr G C W) (f : Fr [] wr w2) : RQ l w1 w2 G C W := ⟨h.its.fr f, h.fr.trans (f.mono (by simp)), h.und, h.len⟩
theorem RQ.set {l : List Ent} {w1 wr w2 : World} {G : Nat} {C C' : Array Value} {W : List St} {i : Nat} {s : Except Nat (Obj × Nat)} (h : RQ l w1 wr G C W) (f : Fr [G] wr w2) (hi : Its w2 G C' (W.set i (some s))) : RQ l w1 w2 G C' (W.set i (some s)) := ⟨hi, h.fr.trans f, h.und.set i s, by rw [List.length_set]; exact h.len⟩
set_option maxHeartbeats 16000000 in
theorem rresolve_any (la : Option Addr) (lc : Nat) (l : List Ent) (ka : Option Addr) (kc : Nat) (kn : List Kn) (w : World) (hl : Cs w la (rCells l)) (hfew : l.length ≤ 4096) (hd : ∀ y ∈ l, y.data.length ≤ 2147483647) (hap : Apart l) (hk : Knows w ka kc kn) (hkl : kn.length ≤ 1000000) (hkb : ∀ k ∈ kn, k.body.length ≤ 140737488351232) :
  Calls Tryz.prog 26 #[.slice la l.length lc, .slice ka kn.length kc] w (Resd w l.length (resolve l kn)) := by
 obtain ⟨n, hn⟩ : ∃ n, n = l.length := ⟨_, rfl⟩
 obtain ⟨kl, hkn⟩ : ∃ kl, kl = kn.length := ⟨_, rfl⟩
 obtain ⟨R, hR⟩ : ∃ R, R = resolve l kn := ⟨_, rfl⟩
 have hfirst := rfirst_any la lc l w hl hfew hd
 rw [← hn] at hfew hfirst
 rw [← hn, ← hkn, ← hR]
 have hlo : ∀ (G : Nat), w.heap.size ≤ G → 0 < n → ∀ y ∈ blk la, y ∉ [G] := fun G hG h0 y hy => by
  have := hl.lt (by intro h; have := congrArg List.length h; rw [rCells_len] at this; simp at this; omega)
  cases la with
  | none => simp [blk] at hy
  | some z =>
   have := this z rfl
   simp [blk] at hy
   simp
   omega
 have hko : ∀ (G : Nat), w.heap.size ≤ G → 0 < kn.length → ∀ y ∈ blk ka, y ∉ [G] := fun G hG h0 y hy => by
  have := hk.cs.lt (by intro h; have := congrArg List.length h; rw [knL_len] at this; simp at this; omega)
  cases ka with
  | none => simp [blk] at hy
  | some z =>
   have := this z rfl
   simp [blk] at hy
   simp
   omega
 have H := Lib.hid (And.intro hl (And.intro hn (And.intro hd (And.intro hap (And.intro hk (And.intro hkl (And.intro hkn (And.intro hR (And.intro hfirst (And.intro hlo (And.intro hko hkb)))))))))))
 clear hl hn hd hap hk hkl hkn hR hfirst hlo hko hkb
 go_enter Tryz.func26, Tryz.ntmps26
 go_wp2_with (go_at_call 56; refine H.out.2.2.2.2.2.2.2.2.1.mono ?_; rintro e w1 ⟨f1, G, C0, rfl, hI0, hG⟩; have H1 := Lib.hid (And.intro f1 (And.intro hI0 hG)); clear f1 hI0 hG)
 have hLat : ∀ wr, Fr [G] w1 wr → 0 < n → Cs wr la (rCells l) := fun wr f h0 => (H.out.1.fr H1.out.1 (by simp)).fr f (H.out.2.2.2.2.2.2.2.2.2.1 G H1.out.2.2 h0)
 have hKat : ∀ wr, Fr [G] w1 wr → Knows wr ka kc kn := fun wr f => by
  have hk := H.out.2.2.2.2.1.fr H1.out.1
  refine ⟨?_, hk.le, hk.max, hk.nil, hk.len⟩
  by_cases h0 : 0 < kn.length
  ·exact hk.cs.fr f (H.out.2.2.2.2.2.2.2.2.2.2.1 G H1.out.2.2 h0)
  ·left
   have : kn = [] := List.eq_nil_of_length_eq_zero (by omega)
   rw [this]
   rfl
 have HL := Lib.hid hLat
 have HK := Lib.hid hKat
 clear hLat hKat
 go_loopg [7] (n + 1) (fun k s7 wr => ∃ W C ag, s7 = .bool ag ∧ RQ l w1 wr G C W ∧ ((ag = true ∧ undone W < k ∧ R = gather (resF l kn k W)) ∨ (ag = false ∧ R = gather W)))
 case atStart => 
  refine ⟨firsts l, C0, true, rfl, ⟨H1.out.2.1, Fr.refl _ _, und_firsts l, firsts_length l⟩, .inl ⟨rfl, ?_, ?_⟩⟩
  ·have := undone_le (firsts l)
   rw [firsts_length, ← H.out.2.1] at this
   omega
  ·rw [H.out.2.2.2.2.2.2.2.1, resolve, H.out.2.1]
 case round =>
  obtain ⟨W, C, ag, rfl, hq, hag⟩ := hrel
  generalize wr = w2 at *
  rcases hag with ⟨rfl, hun, hRf⟩ | ⟨rfl, hRf⟩
  ·obtain ⟨f, rfl⟩ : ∃ f, gk = f + 1 := ⟨gk - 1, by omega⟩
   obtain ⟨P, hP⟩ : ∃ P, P = pass l n 0 W false := ⟨_, rfl⟩
   have HQ := Lib.hid (And.intro hq (And.intro hun (And.intro hRf hP)))
   clear hq hun hRf hP
   go_wp2
   go_loopg [7, 8] n (fun k s7 s8 wr => ∃ i W' C' more, s7 = .bool more ∧ s8 = .int .i64 (i : Nat) ∧ i + k = n ∧ RQ l w1 wr G C' W' ∧ pass l k i W' more = P)
   case atStart => exact ⟨0, W, C, false, rfl, rfl, by omega, HQ.out.1, HQ.out.2.2.2.symm⟩
   case round =>
    obtain ⟨i, W', C', more, rfl, rfl, hik, hri, hpass⟩ := hrel
    by_cases hi : i < n
    ·obtain ⟨k, rfl⟩ : ∃ k, gk = k + 1 := ⟨gk - 1, by omega⟩
     obtain ⟨x, hx⟩ : ∃ x, l[i]? = some x := ⟨l[i]'(by rw [← H.out.2.1]; omega), List.getElem?_eq_getElem _⟩
     obtain ⟨s, hW⟩ : ∃ s, W'[i]? = some s := ⟨W'[i]'(by rw [hri.len, ← H.out.2.1]; omega), List.getElem?_eq_getElem _⟩
     rw [pass_step l k i W' more x hx s hW] at hpass
     cases s with
     | some z =>
      rw [if_neg (by simp)] at hpass
      have y0 : wr.cell? ⟨G, i * 8, none⟩ = some (.bool true) := by rw [cell_of hri.its.blk]; exact hri.its.done hW
      have HR := Lib.hid (And.intro hri hpass)
      clear hri hpass hx hW
      go_wp2
      clear y0
      go_roundg k
      case measure => omega
      case rel => exact ⟨i + 1, W', C', more, rfl, rfl, by omega, HR.out.1, HR.out.2⟩
     | none =>
      rw [if_pos rfl] at hpass
      have y0 : wr.cell? ⟨G, i * 8, none⟩ = some (.bool false) := by rw [cell_of hri.its.blk]; exact hri.its.done hW
      have hstep := rstep_any la lc l G C' W' i x wr (HL.out wr hri.fr (by omega)) hri.its hri.len (by rw [← H.out.2.1]; exact hfew) H.out.2.2.2.1 hx hW (by rcases hri.und i x hx hW with q | q; · exact .inl q.1
                                                                                                                                                             exact .inr q) H.out.2.2.1
      rw [← H.out.2.1] at hstep
      generalize try1 l W' i x = T at hpass hstep
      cases T with
      | none =>
       have HR := Lib.hid (And.intro hri (And.intro hpass hstep))
       clear hri hpass hstep hx hW
       go_wp2_with (go_at_call 57; refine HR.out.2.2.mono ?_; rintro e w3 ⟨rfl, f3⟩; have H3 := Lib.hid f3; clear f3)
       clear y0
       go_roundg k
       case measure => omega
       case rel => exact ⟨i + 1, W', C', more, rfl, rfl, by omega, HR.out.1.fr0 H3.out, HR.out.2.1⟩
      | some z =>
       have HR := Lib.hid (And.intro hri (And.intro hpass hstep))
       clear hri hpass hstep hx hW
       go_wp2_with (go_at_call 57; refine HR.out.2.2.mono ?_; rintro e w3 ⟨rfl, f3, C3, hI3⟩; have H3 := Lib.hid (And.intro f3 hI3); clear f3 hI3)
       clear y0
       go_roundg k
       case measure => omega
       case rel => exact ⟨i + 1, W'.set i (some z), C3, true, rfl, rfl, by omega, HR.out.1.set H3.out.1 H3.out.2, HR.out.2.1⟩
    ·obtain rfl : i = n := by omega
     obtain rfl : gk = 0 := by omega
     rw [pass] at hpass
     obtain ⟨hq, hun, hRf, hP⟩ := HQ.out
     rw [resF, ← H.out.2.1, ← hP, ← hpass] at hRf
     simp only at hRf
     obtain ⟨hu1, hu2, hu3⟩ := pass_undone l i 0 W false
     rw [← hP, ← hpass] at hu1 hu2 hu3
     simp only at hu1 hu2 hu3
     clear hq
     cases more with
     | true =>
      rw [if_pos rfl] at hRf
      have hlt : undone W' < f := by rcases hu3 rfl with q | q; · cases q
                                     omega
      have HE := Lib.hid (And.intro hri (And.intro hlt hRf))
      clear hri hpass hRf hun hu1 hu2 hu3 hlt hP
      go_wp2
      go_loopg [7, 9] 0 (fun k s7 s9 wz => s7 = .bool true ∧ s9 = .int .i64 0 ∧ wz = wr)
      case atStart => exact ⟨rfl, rfl, rfl⟩
      case round =>
       obtain ⟨rfl, rfl, rfl⟩ := hrel
       by_cases h0 : (0 : Int) < (i : Int)
       ·go_wp2
        go_roundg f
        case measure => omega
        case rel => exact ⟨W', C', true, rfl, HE.out.1, .inl ⟨rfl, HE.out.2.1, HE.out.2.2⟩⟩
       ·have h0' : decide ((0 : Int) < (i : Int)) = false := by simpa using h0
        have hi0 : i = 0 := by omega
        subst hi0
        go_wp2
        go_roundg f
        case measure => omega
        case rel => exact ⟨W', C', true, rfl, HE.out.1, .inl ⟨rfl, HE.out.2.1, HE.out.2.2⟩⟩
     | false =>
      rw [if_neg (by simp)] at hRf
      obtain ⟨K, hK⟩ : ∃ K, K = ask l kn i 0 W' := ⟨_, rfl⟩
      rw [← hK] at hRf
      have HE := Lib.hid (And.intro hri (And.intro hRf (And.intro hK (And.intro hu2 hun))))
      clear hri hpass hRf hun hu1 hu2 hu3 hP hK
      generalize wr = w3 at *
      go_wp2
      go_loopg [7, 9] i (fun k s7 s9 wr => ∃ q : Nat, s9 = .int .i64 (q : Nat) ∧ ((s7 = .bool false ∧ q + k = i ∧ Fr [] w3 wr ∧ K = ask l kn k q W') ∨ (s7 = .bool true ∧ q ≤ i ∧ ∃ W2 C2, K = some W2 ∧ RQ l w1 wr G C2 W2)))
      case atStart => exact ⟨0, rfl, .inl ⟨rfl, by omega, Fr.refl _ _, HE.out.2.2.1⟩⟩
      case round =>
       obtain ⟨q, rfl, ⟨rfl, hqk, hfq, hKq⟩ | ⟨rfl, hqi, W2, C2, hKs, hq2⟩⟩ := hrel
       ·by_cases hqi : q < i
        ·obtain ⟨k, rfl⟩ : ∃ k, gk = k + 1 := ⟨gk - 1, by omega⟩
         obtain ⟨x, hx⟩ : ∃ x, l[q]? = some x := ⟨l[q]'(by rw [← H.out.2.1]; omega), List.getElem?_eq_getElem _⟩
         have hri := HE.out.1.fr0 hfq
         obtain ⟨s, hW⟩ : ∃ s, W'[q]? = some s := ⟨W'[q]'(by rw [hri.len, ← H.out.2.1]; omega), List.getElem?_eq_getElem _⟩
         rw [ask, hx, hW] at hKq
         obtain ⟨g, o, hlg, c0, c1, c2, c3, c4, c5, c6⟩ := rcell (HL.out wr hri.fr (by omega)) hx
         subst hlg
         cases s with
         | some z =>
          have y0 : wr.cell? ⟨G, q * 8, none⟩ = some (.bool true) := by rw [cell_of hri.its.blk]; exact hri.its.done hW
          simp only at hKq
          have HR := Lib.hid (And.intro hfq hKq)
          clear hri hfq hKq hx hW c0 c1 c2 c3 c4 c5 c6
          go_wp2
          clear y0
          go_roundg k
          case measure => omega
          case rel => exact ⟨q + 1, rfl, .inl ⟨rfl, by omega, HR.out.1, HR.out.2⟩⟩
         | none =>
          have y0 : wr.cell? ⟨G, q * 8, none⟩ = some (.bool false) := by rw [cell_of hri.its.blk]; exact hri.its.done hW
          simp only at hKq
          obtain ⟨xk, xa, xs, xc, xd, xb, xo⟩ := x
          simp only at c0 c1 c2 c3 c4 c5 c6 hKq
          by_cases h7 : xk = 7
          ·subst h7
           rw [if_pos rfl] at hKq
           have g7 : (((7 : Nat) : Int) != 7) = false := by decide
           have hW' := hri.len
           have hfind := rfind_any ka kc kn xb wr (HK.out wr hri.fr) H.out.2.2.2.2.2.1
           rw [← H.out.2.2.2.2.2.2.1] at hfind
           have hmem : ∀ kk, kfind kn xb = some kk → kk ∈ kn := fun kk h => List.mem_of_find?_eq_some h
           generalize kfind kn xb = KR at hKq hfind hmem
           cases KR with
           | none =>
            simp only at hKq
            have HR := Lib.hid (And.intro hfq (And.intro hKq hfind))
            clear hri hfq hKq hx hW hW' hfind hmem
            go_upto_region 15 with (first
             | (go_at_call 58; refine HR.out.2.2.mono ?_; rintro e w4 ⟨f4, rfl⟩; have H4 := Lib.hid f4; clear f4)
             | (guard_target =~ wpList _ _ _ (⟨_, Op.store _ _ _, _, _, _, _⟩ :: _) _ _; refine wpList_store_row rfl 63 (.tmp 10) (.tmp 66) rfl w4.heap.size #[.int .i64 0, .string ⟨#[]⟩, .string ⟨#[]⟩] rfl rfl 63 _ (alloc_at _ _) infoKn rfl (by kernel_rfl) ?_))
            generalize hw5 : World.setRow _ _ _ = w5
            have f5 : Fr [] w4 w5 := by rw [← hw5]; exact ((Fr.refl [] w4).alloc _).setRow (.inr (Nat.le_refl _)) _
            have H5 := Lib.hid f5
            clear hw5 f5 y0 c0 c1 c2 c3 c4 c5 c6
            go_wp2
            go_roundg k
            case measure => omega
            case rel => exact ⟨q + 1, rfl, .inl ⟨rfl, by omega, (HR.out.1.trans H4.out).trans H5.out, HR.out.2.1⟩⟩
           | some kk =>
            simp only at hKq
            have hkb := H.out.2.2.2.2.2.2.2.2.2.2.2 kk (hmem kk rfl)
            have HR := Lib.hid (And.intro hri (And.intro hKq (And.intro hfind (And.intro hkb (And.intro hx hW')))))
            clear hri hfq hKq hx hW hW' hfind hmem hkb
            go_upto_region 15 with (first
             | (go_at_call 58; refine HR.out.2.2.1.mono ?_; rintro e w4 ⟨f4, rfl⟩; have H4 := Lib.hid f4; clear f4)
             | (guard_target =~ wpList _ _ _ (⟨_, Op.store _ _ _, _, _, _, _⟩ :: _) _ _; refine wpList_store_row rfl 63 (.tmp 10) (.tmp 66) rfl w4.heap.size #[.int .i64 kk.kind, .string (str kk.body), .string (str kk.id)] rfl rfl 63 _ (alloc_at _ _) infoKn rfl (by kernel_rfl) ?_))
            generalize hw5 : World.setRow _ _ _ = w5
            obtain ⟨X, hX⟩ : ∃ X, X = w4.heap.size := ⟨_, rfl⟩
            rw [← hX] at hw5 ⊢
            have hx5 : w5.heap[X]? = some (.cells #[.int .i64 kk.kind, .string (str kk.body), .string (str kk.id)] 63 (0, 0)) := by rw [← hw5, hX]; exact setRow_heap _ _ _ _ _ _ (alloc_at _ _)
            have f5 : Fr [] wr w5 := by rw [← hw5, hX]; exact H4.out.trans (((Fr.refl [] w4).alloc _).setRow (.inr (Nat.le_refl _)) _)
            have fs : ∀ {v : Value} {a : Addr}, wr.cell? a = some v → ∀ x, (sup [] w5.drew x).cell? a = some v := fun h x => (sup_fr [] w5.drew x).cell (show w5.drew.cell? _ = _ from f5.cell h (by simp)) (by simp)
            have ft : ∀ {v : Value} {a : Addr}, w5.cell? a = some v → ∀ x, (sup [] w5.drew x).cell? a = some v := fun h x => (sup_fr [] w5.drew x).cell (show w5.drew.cell? _ = _ from h) (by simp)
            have s0 := fs c0
            have s1 := fs c1
            have s2 := fs c2
            have s3 := fs c3
            have s4 := fs c4
            have s5 := fs c5
            have s6 := fs c6
            have t0 : ∀ x, (sup [] w5.drew x).cell? ⟨X, 0, none⟩ = some (.int .i64 kk.kind) := ft (by rw [cell_of hx5]; rfl)
            have t1 : ∀ x, (sup [] w5.drew x).cell? ⟨X, 1, none⟩ = some (.string (str kk.body)) := ft (by rw [cell_of hx5]; rfl)
            have H5 := Lib.hid f5
            clear hw5 f5 y0 c0 c1 c2 c3 c4 c5 c6 fs ft hX hx5
            go_upto_region 16 with fail
            refine region_mix 13 [(false, 0), (false, 1), (false, 2), (false, 3), (false, 4), (false, 5), (false, 6), (false, 7), (false, 8), (false, 9), (true, 10), (true, 11), (false, 12)] [] (by kernel_rfl) (by kernel_rfl) (fun _ _ d _ _ h => by cases d <;> exact h) ?_
            simp only [List.map_cons, List.map_nil, List.getD_cons_zero, List.getD_cons_succ, List.drop_succ_cons, List.drop_zero, List.drop_nil]
            refine mix_seg 10 rfl ?_
            simp only [List.take_succ_cons, List.take_zero, List.drop_succ_cons, List.drop_zero, List.map_cons, List.map_nil]
            repeat (go_big_quiet_step (fail))
            refine wpQuiet_nil ?_
            clear s0 s1 s2 s3 s4 s5 s6 t0 t1
            refine mix_eff rfl ?_
            intro XX hXX
            refine wp_bytes_own (e := 5) Tryz.underlying9 Tryz.underlying23 Tryz.underlying5 _ rfl kk.body rfl (by have := HR.out.2.2.2.1; unfold maxLen; omega) ?_
            intro cc w6 ho6 f6 hl6
            simp only [Act.put, List.setIfInBounds_toArray, List.set_cons_succ, List.set_cons_zero]
            refine hXX.out _ _ f6 ?_
            clear hXX XX
            obtain ⟨B, hB⟩ : ∃ B, B = w5.drew.heap.size := ⟨_, rfl⟩
            rw [← hB] at ho6 ⊢
            have hov : Calls Tryz.prog 59 #[.agg #[.int .i64 ((7 : Nat) : Int), .int .i64 (xa : Nat), .int .i64 (xs : Nat), .int .u32 (xc : Nat), .string (str xd), .string (str xb), .int .i64 (xo : Nat)], .int .i64 kk.kind, .slice (some ⟨B, 0, none⟩) kk.body.length cc, .int .i64 0] w6 (ROver w6 (over ⟨7, xa, xs, xc, xd, xb, xo⟩ kk.kind kk.body 0)) :=
             rover_any ⟨7, xa, xs, xc, xd, xb, xo⟩ kk.kind (some ⟨B, 0, none⟩) cc kk.body 0 w6 ho6.rd (by omega) (H.out.2.2.1 _ (List.mem_of_getElem? HR.out.2.2.2.2.1))
            have hGz : G < w6.heap.size := by
             have h1 := lt_of_block HR.out.1.its.blk
             have h2 := H5.out.size
             have h3 := f6.size
             have h4 : w5.drew.heap.size = w5.heap.size := rfl
             omega
            have H6 := Lib.hid (And.intro hov (And.intro (H5.out.trans ((Fr.drew1 [] w5).trans f6)) hGz))
            clear hov ho6 f6 hl6 hB hGz
            refine mix_eff rfl ?_
            intro XX hXX
            go_wp2_with (go_at_call 59; refine H6.out.1.mono ?_; rintro e w7 hov2; obtain ⟨r2, rfl, hir, h1, f7⟩ := hov2.row H6.out.2.2)
            refine hXX.out _ _ f7 ?_
            clear hXX XX hov2
            refine mix_seg 1 rfl ?_
            simp only [List.take_succ_cons, List.take_zero, List.drop_succ_cons, List.drop_zero, List.map_cons, List.map_nil]
            repeat (go_big_quiet_step (fail))
            refine wpQuiet_nil ?_
            refine mix_nil ?_
            have fz := H6.out.2.1.trans f7
            have hqz := HR.out.1.fr0 fz
            have hrs := hir.size
            obtain ⟨C2, hI2, fI⟩ := hqz.its.set (i := q) (by rw [hqz.len, ← H.out.2.1]; omega) hir
            have ht : w7.there G (q * 8) r2.size := by rw [hrs]; exact there_of hqz.its.blk (q * 8) 8 (by rw [hqz.its.size, hqz.len, ← H.out.2.1]; omega)
            have HZ := Lib.hid (And.intro (hqz.set fI hI2) (And.intro ht (And.intro hrs h1)))
            clear fz hqz hI2 fI ht hir h1 f7 hrs
            refine wpList_store_mid rfl 113 (.tmp 81) (.tmp 80) rfl G (q * 8) r2 rfl rfl HZ.out.2.1 (by rw [infoItem, HZ.out.2.2.1]) HZ.out.2.2.2 ?_
            go_wp2
            go_roundg k
            case measure => omega
            case rel => exact ⟨q + 1, rfl, .inr ⟨rfl, by omega, _, C2, HR.out.2.1, HZ.out.1⟩⟩
          ·rw [if_neg h7] at hKq
           have g7 : ((xk : Int) != 7) = true := by simp; omega
           have HR := Lib.hid (And.intro hfq hKq)
           clear hri hfq hKq hx hW h7
           go_wp2
           clear y0 c0 c1 c2 c3 c4 c5 c6
           go_roundg k
           case measure => omega
           case rel => exact ⟨q + 1, rfl, .inl ⟨rfl, by omega, HR.out.1, HR.out.2⟩⟩
        ·obtain rfl : q = i := by omega
         obtain rfl : gk = 0 := by omega
         have hK0 : K = none := hKq
         have hRf := HE.out.2.1
         rw [hK0] at hRf
         simp only at hRf
         have HR := Lib.hid (And.intro hfq hRf)
         clear hfq hKq hK0 hRf
         go_wp2
         go_roundg 0
         case measure => omega
         case rel => exact ⟨W', C', false, rfl, HE.out.1.fr0 HR.out.1, .inr ⟨rfl, HR.out.2⟩⟩
       ·have hRf := HE.out.2.1
        rw [hKs] at hRf
        simp only at hRf
        have hu := ask_undone l kn i 0 W' (HE.out.2.2.1.symm.trans hKs)
        have hlt : undone W2 < f := by have := HE.out.2.2.2; omega
        have HR := Lib.hid (And.intro hq2 (And.intro hRf hlt))
        clear hq2 hRf hKs hu hlt
        by_cases hqn : (q : Int) < (i : Int)
        ·go_wp2
         go_roundg f
         case measure => omega
         case rel => exact ⟨W2, C2, true, rfl, HR.out.1, .inl ⟨rfl, HR.out.2.2, HR.out.2.1⟩⟩
        ·have hqn' : decide ((q : Int) < (i : Int)) = false := by simpa using hqn
         have hqe : q = i := by omega
         subst hqe
         go_wp2
         go_roundg f
         case measure => omega
         case rel => exact ⟨W2, C2, true, rfl, HR.out.1, .inl ⟨rfl, HR.out.2.2, HR.out.2.1⟩⟩
  ·have HQ := Lib.hid (And.intro hq hRf)
   clear hq hRf
   go_wp2
   go_loopg [12, 13] n (fun k s12 s13 wr => ∃ i a c, ∃ oms : List OM, s13 = .int .i64 (i : Nat) ∧ s12 = .slice a i c ∧ i + k = n ∧ oms.length = i ∧ wr.ownsRow 0 34 5 (.slice a i c) i (oms.flatMap oL) ∧ Fr [] w2 wr ∧ (∀ y ∈ blk a, w2.heap.size ≤ y) ∧ ∀ (t : Nat) (m : OM), oms[t]? = some m → (∃ d, W[t]? = some (some (.ok (m.1, d)))) ∧ lib.Rd w2 m.2.1 m.2.2 m.1.body)
   case atStart => exact ⟨0, none, 0, [], rfl, rfl, by omega, rfl, World.ownsRow_nil _ _ _ _, Fr.refl _ _, by simp [blk], fun t m ht => by simp at ht⟩
   case round =>
    obtain ⟨i, a, c, oms, rfl, rfl, hik, hol, hown, hf, hnew, hom⟩ := hrel
    obtain ⟨_, cc, hsl, hsc, hsm⟩ := owns_shape hown
    simp only [Value.slice.injEq] at hsl
    obtain ⟨rfl, _, rfl⟩ := hsl
    have hq := HQ.out.1.fr0 hf
    generalize wr = w3 at *
    by_cases hi : i < n
    ·obtain ⟨k, rfl⟩ : ∃ k, gk = k + 1 := ⟨gk - 1, by omega⟩
     obtain ⟨s, hW⟩ : ∃ s, W[i]? = some s := ⟨W[i]'(by rw [hq.len, ← H.out.2.1]; omega), List.getElem?_eq_getElem _⟩
     have hok : ∀ t, t < i → ∃ o d, W[t]? = some (some (.ok (o, d))) := fun t ht => by
      obtain ⟨⟨d, hd⟩, _⟩ := hom t _ (List.getElem?_eq_getElem (by omega))
      exact ⟨_, d, hd⟩
     obtain ⟨r, hr, hc⟩ := hq.its.st i s hW
     match s, hr, hW with
     | none, hr, hW =>
      have y0 : w3.cell? ⟨G, i * 8, none⟩ = some (.bool false) := by rw [cell_of hq.its.blk]; exact hq.its.done hW
      have hge := gather_none W i hok hW
      have HX := Lib.hid (And.intro hq hge)
      clear hq hr hc hW hge hok hown hf hnew hom
      go_wp2
      go_ret2
      refine ⟨H1.out.1.step HX.out.1.fr (fun y hy => by have := H1.out.2.2; simp at hy; right; omega), ?_⟩
      rw [HQ.out.2, HX.out.2]
      rfl
     | some (.error x), hr, hW =>
      have y0 : w3.cell? ⟨G, i * 8, none⟩ = some (.bool true) := by rw [cell_of hq.its.blk]; exact hq.its.done hW
      have y7 : w3.cell? ⟨G, i * 8 + 7, none⟩ = some (.int .i64 (x : Nat)) := by rw [cell_of hq.its.blk]; exact hc 7 _ (by rw [hr.1]; rfl)
      have gx : ((x : Int) != 0) = true := by have := hr.2; simp; omega
      have hge := gather_error W i x hok hW
      have HX := Lib.hid (And.intro hq hge)
      clear hq hr hc hW hge hok hown hf hnew hom
      go_upto_region 25 with fail
      go_quiet (fail)
      go_wp2
      go_ret2
      refine ⟨(H1.out.1.step HX.out.1.fr (fun y hy => by have := H1.out.2.2; simp at hy; right; omega)).drewsN _, ?_⟩
      rw [HQ.out.2, HX.out.2]
      rfl
     | some (.ok (ob, d)), hr, hW =>
      obtain ⟨ba, bc, rfl, hrd, hoff, hle, hd5⟩ := hr
      have y0 : w3.cell? ⟨G, i * 8, none⟩ = some (.bool true) := by rw [cell_of hq.its.blk]; exact hq.its.done hW
      have y7 : w3.cell? ⟨G, i * 8 + 7, none⟩ = some (.int .i64 0) := by rw [cell_of hq.its.blk]; exact hc 7 _ rfl
      have gx : ((0 : Int) != 0) = false := by decide
      have k1 : w3.cell? ⟨G, i * 8 + 1, none⟩ = some (.int .i64 ob.kind) := by rw [cell_of hq.its.blk]; exact hc 1 _ rfl
      have k2 : w3.cell? ⟨G, i * 8 + 2, none⟩ = some (.slice ba ob.body.length bc) := by rw [cell_of hq.its.blk]; exact hc 2 _ rfl
      have k3 : w3.cell? ⟨G, i * 8 + 3, none⟩ = some (.string (str ob.id)) := by rw [cell_of hq.its.blk]; exact hc 3 _ rfl
      have k4 : w3.cell? ⟨G, i * 8 + 4, none⟩ = some (.int .i64 (ob.at_ : Nat)) := by rw [cell_of hq.its.blk]; exact hc 4 _ rfl
      have k5 : w3.cell? ⟨G, i * 8 + 5, none⟩ = some (.int .u32 (ob.crc : Nat)) := by rw [cell_of hq.its.blk]; exact hc 5 _ rfl
      have hrng : w3.rangeAt G (i * 8 + 1) (oL (ob, ba, bc)) := fun j v hv => by
       have hv' : (objV ob ba bc)[j]? = some v := by rw [← Array.getElem?_toList]; exact hv
       have hj : j < 5 := (Array.getElem?_eq_some_iff.1 hv').1
       rw [cell_of hq.its.blk, Nat.add_assoc]
       refine hc (1 + j) v ?_
       rw [← hv']
       match j, hj with
       | 0, _ => rfl
       | 1, _ => rfl
       | 2, _ => rfl
       | 3, _ => rfl
       | 4, _ => rfl
      obtain ⟨sa, hsa⟩ : ∃ sa, sa = blk a := ⟨_, rfl⟩
      have hrd2 := (HQ.out.1.its.st i _ hW)
      have HX := Lib.hid (And.intro hq (And.intro hW (And.intro hown (And.intro hf (And.intro hnew (And.intro hom (And.intro hol (And.intro hsa (And.intro hrd2 hrng)))))))))
      have HC := Lib.hid hc
      clear hq hW hown hf hnew hom hol hsa hrd hoff hle hd5 hc hok hrd2 k1 k2 k3 k4 k5 hrng
      have hcA : Cs (w3.alloc (.cells #[.int .i64 ob.kind, .slice ba ob.body.length bc, .string (str ob.id), .int .i64 (ob.at_ : Nat), .int .u32 (ob.crc : Nat)] 34)) (some ⟨w3.heap.size, 0, none⟩) (oL (ob, ba, bc)) :=
       .inr ⟨w3.heap.size, 0, rfl, fun j u hj => by rw [cell_of (alloc_at w3 _), Nat.zero_add, ← Array.getElem?_toList]; exact hj⟩
      have hoA := ownsRow_fr HX.out.2.2.1 ((Fr.refl [] w3).alloc (.cells #[.int .i64 ob.kind, .slice ba ob.body.length bc, .string (str ob.id), .int .i64 (ob.at_ : Nat), .int .u32 (ob.crc : Nat)] 34)) (by simp)
      have HO := Lib.hid (And.intro hoA hcA)
      clear hoA hcA
      go_upto_region 26 with fail
      clear y0 y7
      go_wp2_with (first
       | (guard_target =~ wpList _ _ _ (⟨_, Op.load _ _, _, _, _, _⟩ :: _) _ _; refine wpList_load_mid rfl 34 (.tmp 109) rfl G (i * 8 + 1) rfl [.int .i64 ob.kind, .slice ba ob.body.length bc, .string (str ob.id), .int .i64 (ob.at_ : Nat), .int .u32 (ob.crc : Nat)] _ HX.out.2.2.2.2.2.2.2.2.2 Tryz.underlying34 rfl infoObj ?_)
       | (guard_target =~ wpList _ _ _ (⟨_, Op.call _, _, _, _, _⟩ :: _) _ _; refine wpList_append sty_obj rfl _ _ rfl (.slice a i c) i (oms.flatMap oL) sa rfl (by rw [own_blk, HX.out.2.2.2.2.2.2.2.1]) (HO.out.1) (some ⟨w3.heap.size, 0, none⟩) 1 1 (oL (ob, ba, bc)) rfl (by decide) (by simp) HO.out.2 rfl (oL_one _) (by omega) (by unfold maxLen; omega) ?_; intro a2 c2 w4 A1; have HA := Lib.hid A1; clear A1))
      go_roundg k
      case measure => omega
      case rel =>
       obtain ⟨hq, hW, hown, hf, hnew, hom, hol, hsa, hrd2, hrng⟩ := HX.out
       have A1 := HA.out
       have f0 : Fr [] w3 (w3.alloc (.cells #[.int .i64 ob.kind, .slice ba ob.body.length bc, .string (str ob.id), .int .i64 (ob.at_ : Nat), .int .u32 (ob.crc : Nat)] 34)) := (Fr.refl [] w3).alloc _
       rw [hsa] at A1
       refine ⟨i + 1, a2, c2, oms ++ [(ob, ba, bc)], rfl, rfl, by omega, by rw [List.length_append, hol]; rfl, ?_, (hf.trans f0).step A1.fr (fun y hy => .inr (hnew y hy)), fun y hy => ?_, fun t m ht => ?_⟩
       ·rw [List.flatMap_append]
        have : [(ob, ba, bc)].flatMap oL = oL (ob, ba, bc) := by simp
        rw [this]
        exact A1.own
       ·rcases A1.at_ y hy with z | z
        ·exact hnew y z
        ·have := hf.size; rw [z]; exact Nat.le_trans this f0.size
       ·by_cases hti : t < oms.length
        ·rw [List.getElem?_append_left hti] at ht
         exact hom t m ht
        ·have htl := (List.getElem?_eq_some_iff.1 ht).1
         rw [List.length_append] at htl
         simp only [List.length_cons, List.length_nil] at htl
         have hte : t = oms.length := by omega
         subst hte
         rw [List.getElem?_append_right (Nat.le_refl _)] at ht
         simp only [Nat.sub_self, List.getElem?_cons_zero, Option.some.injEq] at ht
         subst ht
         refine ⟨⟨d, by rw [hol]; exact hW⟩, ?_⟩
         obtain ⟨r', ⟨ba', bc', hr', hrd', _⟩, hc'⟩ := hrd2
         have e2 := hc' 2 (.slice ba' ob.body.length bc') (by rw [hr']; rfl)
         have e2' := HC.out 2 (.slice ba ob.body.length bc) rfl
         have e3 := Option.some.inj (e2.symm.trans e2')
         simp only [Value.slice.injEq] at e3
         obtain ⟨rfl, _, rfl⟩ := e3
         exact hrd'
    ·obtain rfl : i = n := by omega
     obtain rfl : gk = 0 := by omega
     have HX := Lib.hid (And.intro hq (And.intro hown (And.intro hf (And.intro hom hol))))
     clear hq hown hf hom hnew hol
     go_wp2
     go_ret2
     obtain ⟨hq, hown, hf, hom, hol⟩ := HX.out
     obtain ⟨os, g1, g2, g3⟩ := gather_all W (fun t ht => by
      obtain ⟨⟨d, hd⟩, _⟩ := hom t _ (List.getElem?_eq_getElem (by rw [hol, H.out.2.1, ← hq.len]; exact ht))
      exact ⟨_, d, hd⟩)
     refine ⟨H1.out.1.step hq.fr (fun y hy => by have := H1.out.2.2; simp at hy; right; omega), ?_⟩
     rw [HQ.out.2, g1]
     refine ⟨_, _, rfl, by rw [g2, hq.len, H.out.2.1], fun j ob hj => ?_⟩
     have hjl : j < oms.length := by rw [hol, H.out.2.1, ← hq.len, ← g2]; exact (List.getElem?_eq_some_iff.1 hj).1
     obtain ⟨d, hd⟩ := g3 j ob hj
     obtain ⟨⟨d2, hd2⟩, hrd⟩ := hom j _ (List.getElem?_eq_getElem hjl)
     rw [hd] at hd2
     simp only [Option.some.injEq, Except.ok.injEq, Prod.mk.injEq] at hd2
     obtain ⟨hob, _⟩ := hd2
     have hcs := cs_owns hown
     obtain ⟨g', k', ha', hcells⟩ := hcs.at (by rw [flat_len oL 5 (fun _ => rfl)]; omega)
     refine ⟨g', k', oms[j].2.1, oms[j].2.2, ha', fun t v hv => ?_, ?_⟩
     ·have ht : t < 5 := by have := (Array.getElem?_eq_some_iff.1 hv).1; exact this
      rw [Nat.add_assoc]
      refine hcells _ v ?_
      rw [flat_get oL 5 (fun _ => rfl) oms j oms[j] t (List.getElem?_eq_getElem hjl) ht]
      unfold oL
      rw [Array.getElem?_toList, ← hob]
      exact hv
     ·rw [hob]
      exact hrd.fr hf
end Go.Proofs.YtkmpfgpfbmeihaaGreatDoor.pk
namespace Go.Proofs.YtkmpfgpfbmeihaaGreatDoor.pk
open Go Go.RowKit lib bm
set_option maxHeartbeats 4000000 in
theorem to_any (la : Option Addr) (ms : List EM) (w : World) (h : Ents w la ms) (hl : ms.length ≤ 1000000) :
  Calls Tryz.prog 24 #[.slice la ms.length ms.length] w fun e w' => Fr [] w w' ∧ ∃ a c, e = .returned (.slice a ms.length c) ∧ Cs w' a (rCells (ms.map (·.1))) := by
 obtain ⟨n, hn⟩ : ∃ n, n = ms.length := ⟨_, rfl⟩
 rw [← hn] at hl ⊢
 have H := Lib.hid (And.intro h hn)
 clear h hn
 go_enter Tryz.func24, Tryz.ntmps24
 go_wp2
 go_loopg [3, 4] n (fun k s3 s4 wr => ∃ i a c, i + k = n ∧ s4 = .int .i64 (i : Nat) ∧ s3 = .slice a i c ∧ wr.ownsRow 0 107 7 (.slice a i c) i (rCells ((ms.map (·.1)).take i)) ∧ Fr [] w wr ∧ ∀ y ∈ blk a, w.heap.size ≤ y)
 case atStart => exact ⟨0, none, 0, by omega, rfl, rfl, World.ownsRow_nil _ _ _ _, Fr.refl _ _, by simp [blk]⟩
 case round =>
  obtain ⟨i, a, c, hi, rfl, rfl, hown, hf, hnew⟩ := hrel
  obtain ⟨_, cc, hsl, hsc, hsm⟩ := owns_shape hown
  simp only [Value.slice.injEq] at hsl
  obtain ⟨rfl, _, rfl⟩ := hsl
  generalize wr = w1 at *
  by_cases hin : i < n
  ·obtain ⟨m, hm⟩ : ∃ m, ms[i]? = some m := ⟨ms[i]'(by rw [← H.out.2]; omega), List.getElem?_eq_getElem _⟩
   have hE := H.out.1.fr hf
   obtain ⟨g, o, rfl, hce⟩ := hE.cell hm
   have c0 := hce 0 _ (by decide) rfl
   have c1 := hce 1 _ (by decide) rfl
   have c2 := hce 2 _ (by decide) rfl
   have c3 := hce 3 _ (by decide) rfl
   have c4 := hce 4 _ (by decide) rfl
   have c5 := hce 5 _ (by decide) rfl
   have c6 := hce 6 _ (by decide) rfl
   rw [← Nat.add_assoc] at c0 c1 c2 c3 c4 c5 c6
   have hrd := (hE.dat m (List.mem_of_getElem? hm)).fr (Fr.drew1 [] w1)
   have hrd0 := H.out.1.dat m (List.mem_of_getElem? hm)
   have htk : (ms.map (·.1)).take (i + 1) = (ms.map (·.1)).take i ++ [m.1] := by rw [List.take_add_one, List.getElem?_map, hm]; rfl
   have hgS : g ∉ blk a := fun hy => by
    have h1 := hnew g hy
    have h2 := H.out.1.cs.lt (by intro h; have := congrArg List.length h; rw [entCells_len, ← H.out.2] at this; simp at this; omega) ⟨g, o, none⟩ rfl
    simp only at h2
    omega
   have hxa : m.1.data = [] ∨ ∀ y ∈ blk m.2, y ∉ blk a := by
    by_cases hne : m.1.data = []
    ·exact .inl hne
    ·right
     intro y hy hya
     have h1 := hrd0.cs.lt (by simpa using hne)
     have h2 := hnew y hya
     cases hz : m.2 with
     | none => rw [hz] at hy; simp [blk] at hy
     | some z =>
      rw [hz] at hy
      have := h1 z hz
      simp [blk] at hy
      omega
   obtain ⟨⟨xk, xa, xs, xc, xd, xb, xo⟩, da⟩ := m
   replace c0 : w1.cell? ⟨g, o + i * 7, none⟩ = some (.int .i64 (xk : Nat)) := c0
   replace c1 : w1.cell? ⟨g, o + i * 7 + 1, none⟩ = some (.int .i64 (xa : Nat)) := c1
   replace c2 : w1.cell? ⟨g, o + i * 7 + 2, none⟩ = some (.int .i64 (xs : Nat)) := c2
   replace c3 : w1.cell? ⟨g, o + i * 7 + 3, none⟩ = some (.int .u32 (xc : Nat)) := c3
   replace c4 : w1.cell? ⟨g, o + i * 7 + 4, none⟩ = some (.slice da xd.length xd.length) := c4
   replace c5 : w1.cell? ⟨g, o + i * 7 + 5, none⟩ = some (.string (str xb)) := c5
   replace c6 : w1.cell? ⟨g, o + i * 7 + 6, none⟩ = some (.int .i64 (xo : Nat)) := c6
   simp only at hrd hxa htk
   obtain ⟨S, hS⟩ : ∃ S, S = blk a := ⟨_, rfl⟩
   rw [← hS] at hgS hxa
   generalize hD : xd.length = D at *
   have fd : ∀ {v : Value} {j : Nat}, w1.cell? ⟨g, j, none⟩ = some v → ∀ x, (sup S w1.drew x).cell? ⟨g, j, none⟩ = some v := fun h x => (sup_fr S w1.drew x).cell (show w1.drew.cell? _ = _ from h) hgS
   have q0 := fd c0
   have q1 := fd c1
   have q2 := fd c2
   have q3 := fd c3
   have q4 := fd c4
   have q5 := fd c5
   have q6 := fd c6
   have cv : ∀ x cap, (convert 23 9 (.slice da D cap)).run Tryz.prog (sup S w1.drew x) = .ok (.string (str xd)) (sup S w1.drew x) := fun x => by
    rcases hxa with hne | hxa
    ·exact run_conv (sup S w1.drew x) Tryz.underlying23 Tryz.underlying5 Tryz.underlying9 hD (.inl (by rw [hne]; rfl))
    ·exact run_conv_sup S w1.drew Tryz.underlying23 Tryz.underlying5 Tryz.underlying9 hD hrd.cs hxa x
   have HT := Lib.hid (And.intro htk (And.intro hown (And.intro hf (And.intro hnew hS))))
   clear c0 c1 c2 c3 c4 c5 c6 hrd hrd0 hxa hD hce hE hown hf hnew htk hS hm fd
   go_upto_region 5 with fail
   refine region_mix 40 [(false, 0), (false, 1), (false, 2), (false, 3), (false, 4), (false, 5), (false, 6), (false, 7), (false, 8), (false, 9), (false, 10), (false, 11), (false, 12), (false, 13), (false, 14), (false, 15), (false, 16), (false, 17), (false, 18), (false, 19), (false, 20), (false, 21), (false, 22), (false, 23), (false, 24), (false, 25), (false, 26), (false, 27), (false, 28), (false, 29), (false, 30), (false, 31), (false, 32), (false, 33), (false, 34), (false, 35), (false, 36), (true, 37), (true, 38), (true, 39)] S (by kernel_rfl) (by kernel_rfl) (fun _ _ d _ _ h => by cases d <;> exact h) ?_
   simp only [List.map_cons, List.map_nil, List.getD_cons_zero, List.getD_cons_succ, List.drop_succ_cons, List.drop_zero, List.drop_nil]
   refine mix_seg 37 rfl ?_
   simp only [List.take_succ_cons, List.take_zero, List.drop_succ_cons, List.drop_zero, List.map_cons, List.map_nil]
   repeat (go_big_quiet_step (fail))
   refine wpQuiet_nil ?_
   clear q0 q1 q2 q3 q4 q5 q6 cv
   refine mix_eff rfl ?_
   intro X hX
   go_wp2
   refine hX.out _ _ (Fr.refl _ _) ?_
   clear hX X
   refine mix_eff rfl ?_
   intro X hX
   go_wp2
   refine hX.out _ _ ((Fr.refl S w1.drew).alloc _) ?_
   clear hX X
   have f0 : Fr [] w1 (w1.alloc (.cells #[.int .i64 (xk : Nat), .int .i64 (xa : Nat), .int .i64 (xs : Nat), .int .u32 (xc : Nat), .string (str xd), .string (str xb), .int .i64 (xo : Nat)] 107)).drew := ((Fr.refl [] w1).alloc _).drew
   have ownA := ownsRow_fr HT.out.2.1 f0 (by simp)
   have cA : Cs (w1.alloc (.cells #[.int .i64 (xk : Nat), .int .i64 (xa : Nat), .int .i64 (xs : Nat), .int .u32 (xc : Nat), .string (str xd), .string (str xb), .int .i64 (xo : Nat)] 107)).drew (some ⟨w1.heap.size, 0, none⟩) (rentV ⟨xk, xa, xs, xc, xd, xb, xo⟩).toList :=
    .inr ⟨w1.heap.size, 0, rfl, fun j u hj => by rw [cell_of (show (w1.alloc (.cells #[.int .i64 (xk : Nat), .int .i64 (xa : Nat), .int .i64 (xs : Nat), .int .u32 (xc : Nat), .string (str xd), .string (str xb), .int .i64 (xo : Nat)] 107)).drew.heap[w1.heap.size]? = some (.cells #[.int .i64 (xk : Nat), .int .i64 (xa : Nat), .int .i64 (xs : Nat), .int .u32 (xc : Nat), .string (str xd), .string (str xb), .int .i64 (xo : Nat)] 107 (0, 0)) from alloc_at w1 _), Nat.zero_add, ← Array.getElem?_toList]; exact hj⟩
   refine mix_eff rfl ?_
   intro X hX
   refine wp_append sty_rraw _ _ rfl (.slice a i c) i (rCells ((ms.map (·.1)).take i)) S rfl (by rw [own_blk, HT.out.2.2.2.2]) ownA (some ⟨w1.heap.size, 0, none⟩) 1 1 (rentV ⟨xk, xa, xs, xc, xd, xb, xo⟩).toList rfl (by decide) (by simp) cA (by rfl) (rentV_one _) (by omega) (by unfold maxLen; omega) ?_
   intro a2 c2 w2 A1
   refine hX.out _ _ A1.fr ?_
   clear hX X
   have HA := Lib.hid A1
   clear A1 ownA cA
   refine mix_nil ?_
   go_wp2
   go_roundg (n - (i + 1))
   case measure => omega
   case rel =>
    have A1 := HA.out
    obtain ⟨htk, hown, hf, hnew, hS⟩ := HT.out
    rw [hS] at A1
    refine ⟨i + 1, a2, c2, by omega, by go_num, rfl, ?_, (hf.trans f0).step A1.fr (fun y hy => .inr (hnew y hy)), fun y hy => ?_⟩
    ·rw [htk, rCells_app]
     have : rCells [(⟨xk, xa, xs, xc, xd, xb, xo⟩ : Ent)] = (rentV ⟨xk, xa, xs, xc, xd, xb, xo⟩).toList := by simp [rCells]
     rw [this]
     exact A1.own
    ·rcases A1.at_ y hy with q | q
     ·exact hnew y q
     ·have := hf.size; rw [q]; exact Nat.le_trans this f0.size
  ·obtain rfl : i = n := by omega
   have HT := Lib.hid (And.intro hown hf)
   clear hown hf hnew
   go_wp2
   go_ret
   refine ⟨HT.out.2, a, _, rfl, ?_⟩
   have := cs_owns HT.out.1
   rw [List.take_of_length_le (by rw [List.length_map, ← H.out.2]; omega)] at this
   exact this
end Go.Proofs.YtkmpfgpfbmeihaaGreatDoor.pk
namespace Go.Proofs.YtkmpfgpfbmeihaaGreatDoor.pk
open Go Go.RowKit lib bm
set_option maxHeartbeats 4000000 in
theorem unlike_any (a : Option Addr) (cap : Nat) (kn : List Kn) (w : World) (h : Knows w a cap kn) :
  Calls Tryz.prog 21 #[.slice a kn.length cap] w fun e w' => Fr [] w w' ∧ ∃ b, e = .returned (.bool b) ∧ (b = true → kn.Pairwise (fun a b => a.id ≠ b.id) ∧ kn.length ≤ 40) := by
 obtain ⟨n, hn⟩ : ∃ n, n = kn.length := ⟨_, rfl⟩
 have hnb : n ≤ 9223372036854775807 := by have h1 := h.le; have h2 := h.max; unfold maxLen at h2; omega
 rw [← hn]
 have H := Lib.hid (And.intro h hn)
 clear h hn
 go_enter Tryz.func21, Tryz.ntmps21
 go_wp2
 go_loopg [3] n (fun k s3 wr => ∃ i : Nat, s3 = .int .i64 (i : Nat) ∧ i + k = n ∧ Fr [] w wr ∧ ∀ t u y z, u < t → t < i → kn[t]? = some y → kn[u]? = some z → z.id ≠ y.id)
 case atStart => exact ⟨0, rfl, by omega, Fr.refl _ _, fun t u y z _ ht => by omega⟩
 case round =>
  obtain ⟨i, rfl, hik, hf, hno⟩ := hrel
  have HL := Lib.hid (And.intro hf hno)
  clear hf hno
  generalize wr = w1 at *
  by_cases hi : i < n
  ·obtain ⟨k, rfl⟩ : ∃ k, gk = k + 1 := ⟨gk - 1, by omega⟩
   obtain ⟨x, hx⟩ : ∃ x, kn[i]? = some x := ⟨kn[i]'(by rw [← H.out.2]; omega), List.getElem?_eq_getElem _⟩
   have HX := Lib.hid hx
   clear hx
   go_wp2
   go_loopg [4] i (fun k s4 wr => ∃ j : Nat, s4 = .int .i64 (j : Nat) ∧ j + k = i ∧ Fr [] w1 wr ∧ ∀ u z, u < j → kn[u]? = some z → z.id ≠ x.id)
   case atStart => exact ⟨0, rfl, by omega, Fr.refl _ _, fun u z hu => by omega⟩
   case round =>
    obtain ⟨j, rfl, hjk, hf, hno⟩ := hrel
    have HM := Lib.hid (And.intro hf hno)
    clear hf hno
    by_cases hj : j < i
    ·obtain ⟨m, rfl⟩ : ∃ m, gk = m + 1 := ⟨gk - 1, by omega⟩
     obtain ⟨y, hy⟩ : ∃ y, kn[j]? = some y := ⟨kn[j]'(by rw [← H.out.2]; omega), List.getElem?_eq_getElem _⟩
     have hk := (H.out.1.fr HL.out.1).fr HM.out.1
     obtain ⟨g, o, rfl, _, _, c2⟩ := hk.cell HX.out
     obtain ⟨g', o', hg, _, _, d2⟩ := hk.cell hy
     simp only [Option.some.injEq, Addr.mk.injEq, and_true] at hg
     obtain ⟨rfl, rfl⟩ := hg
     have HY := Lib.hid hy
     clear hy hk
     obtain ⟨sx, hsx⟩ : ∃ sx, sx = str x.id := ⟨_, rfl⟩
     obtain ⟨sy, hsy⟩ : ∃ sy, sy = str y.id := ⟨_, rfl⟩
     rw [← hsx] at c2
     rw [← hsy] at d2
     by_cases he : y.id = x.id
     ·have gs : (sx.toList == sy.toList) = true := by rw [hsx, hsy, he]; exact beq_self_eq_true _
      clear hsx hsy he
      go_upto_region 7 with fail
      go_quiet (fail)
      go_wp2
      go_ret
      exact ⟨(HL.out.1.trans HM.out.1).drewsN _, false, rfl, fun h => by cases h⟩
     ·have gs : (sx.toList == sy.toList) = false := by rw [hsx, hsy, str_toList, str_toList]; simpa using fun h => he h.symm
      have HE := Lib.hid he
      clear hsx hsy he
      go_upto_region 7 with fail
      go_quiet (fail)
      go_wp2
      go_roundg m
      case measure => omega
      case rel =>
       refine ⟨j + 1, rfl, by omega, HM.out.1.drewsN _, fun u z hu hz => ?_⟩
       by_cases huj : u = j
       ·subst huj
        rw [HY.out] at hz
        obtain rfl := Option.some.inj hz
        exact HE.out
       ·exact HM.out.2 u z (by omega) hz
    ·obtain rfl : j = i := by omega
     go_wp2
     go_roundg k
     case measure => omega
     case rel =>
      refine ⟨j + 1, rfl, by omega, HL.out.1.trans HM.out.1, fun t u y z hut ht hy hz => ?_⟩
      by_cases htj : t = j
      ·subst htj
       rw [HX.out] at hy
       obtain rfl := Option.some.inj hy
       exact HM.out.2 u z hut hz
      ·exact HL.out.2 t u y z hut (by omega) hy hz
  ·obtain rfl : i = n := by omega
   go_wp2
   go_ret
   refine ⟨HL.out.1, _, rfl, fun hb => ⟨?_, ?_⟩⟩
   ·rw [List.pairwise_iff_getElem]
    intro u t hu ht hut h
    exact HL.out.2 t u _ _ hut (by rw [H.out.2]; exact ht) (List.getElem?_eq_getElem ht) (List.getElem?_eq_getElem hu) h
   ·simp at hb
    omega
end Go.Proofs.YtkmpfgpfbmeihaaGreatDoor.pk
namespace Go.Proofs.YtkmpfgpfbmeihaaGreatDoor.pk
open Go Go.RowKit lib bm
set_option maxHeartbeats 4000000 in
theorem awake_any (w : World) : Calls Tryz.prog 8 #[] w fun e w' => e = .returned (.bool true) ∧ Fr [] w w' := by
 have hlen : (begin12 ++ sha.sha1 begin12).length = 32 := by rw [List.length_append, sha.sha1_length]; rfl
 have hwr := write_nil w
 unfold NewBytes at hwr
 rw [hlen] at hwr
 have hh := fun w' => head_any 3 20 w' (by decide) (by decide)
 have hb := fun w' => back_any 128 w' (by decide)
 unfold NewBytes at hh hb
 have eh : hd 3 20 = [180, 1] := by decide
 have eb : (bk 128).reverse = [128, 0] := by decide
 rw [eh] at hh
 rw [eb] at hb
 have H0 := Lib.hid (And.intro hwr (And.intro hh hb))
 clear hwr hh hb eh eb hlen
 go_enter Tryz.func8, Tryz.ntmps8
 go_upto_region 2 with (go_at_call 15; refine H0.out.1.mono ?_; rintro e w1 ⟨a1, rfl, rd1, nb1, f1⟩)
 have hrd := read_nil a1 w1 rd1 (fun x hx => (nb1 x hx).2)
 have H1 := Lib.hid (And.intro hrd f1)
 clear hrd f1 rd1 nb1
 go_upto_region 3 with (go_at_call 18; refine H1.out.1.mono ?_; rintro e w2 ⟨⟨s, hs, rfl⟩, f2⟩)
 go_wp2_with (first
  | (go_at_call 10; refine (H0.out.2.1 _).mono ?_; rintro e w3 ⟨a3, rfl, rd3, nb3, f3⟩; have cv3 : ∀ c, (convert 23 9 (.slice a3 2 c)).run Tryz.prog w3 = .ok (.string ⟨#[180, 1]⟩) w3 := run_conv w3 Tryz.underlying23 Tryz.underlying5 Tryz.underlying9 (n := 2) (bs := [180, 1]) rfl rd3.cs)
  | (go_at_call 9; refine (H0.out.2.2 _).mono ?_; rintro e w4 ⟨a4, rfl, rd4, nb4, f4⟩; have cv4 : ∀ c, (convert 23 9 (.slice a4 2 c)).run Tryz.prog w4 = .ok (.string ⟨#[128, 0]⟩) w4 := run_conv w4 Tryz.underlying23 Tryz.underlying5 Tryz.underlying9 (n := 2) (bs := [128, 0]) rfl rd4.cs))
 go_ret
 exact ⟨by first | rfl | simp, H1.out.2.trans (f2.trans (f3.trans f4))⟩
end Go.Proofs.YtkmpfgpfbmeihaaGreatDoor.pk
namespace Go.Proofs.YtkmpfgpfbmeihaaGreatDoor.pk
def Small (l : List Ent) : Prop := ∀ x ∈ l, x.data.length ≤ 65536 ∧ x.base.length ≤ 40
theorem pentry_small {bs : List UInt8} {at_ : Nat} {x : Ent} {p : Nat} (h : pentry bs at_ = .ok (x, p)) : x.data.length ≤ 65536 ∧ x.base.length ≤ 40 := by
 unfold pentry at h
 split at h
 ·cases h
 ·rename_i kind size n hh
  obtain ⟨h1, h2, h3, h4⟩ := phF_le _ _ _ _ _ hh
  rw [List.length_drop] at h3
  split at h
  ·cases h
  ·rename_i base off q hb
   obtain ⟨k1, k2, k3, k4⟩ := pbase_le (by omega) hb
   split at h
   ·cases h
   ·split at h
    ·rename_i ho
     simp only [Except.ok.injEq, Prod.mk.injEq] at h
     obtain ⟨rfl, rfl⟩ := h
     exact ⟨by simp only; omega, k3⟩
    ·cases h
theorem pents_small (bs : List UInt8) : ∀ (n at_ : Nat) (l : List Ent) {r : List Ent} {p : Nat}, Small l → pents bs n at_ l = .ok (r, p) → Small r
 | 0, at_, l, r, p, ha, h => by
  simp only [pents, Except.ok.injEq, Prod.mk.injEq] at h
  rw [← h.1]
  exact ha
 | n + 1, at_, l, r, p, ha, h => by
  rw [pents] at h
  split at h
  ·cases h
  ·rename_i x q hx
   refine pents_small bs n q (l ++ [x]) (fun y hy => ?_) h
   rcases List.mem_append.1 hy with hy | hy
   ·exact ha y hy
   ·obtain rfl : y = x := by simpa using hy
    exact pentry_small hx
theorem pread_small {bs : List UInt8} {l : List Ent} {id : List UInt8} (h : pread bs = .ok (l, id)) : Small l := by
 unfold pread at h
 split at h
 ·cases h
 ·split at h
  ·cases h
  ·split at h
   ·cases h
   ·split at h
    ·cases h
    ·split at h
     ·cases h
     ·rename_i l2 at_ hp
      split at h
      ·cases h
      ·split at h
       ·cases h
       ·split at h
        ·cases h
        ·simp only [Except.ok.injEq, Prod.mk.injEq] at h
         rw [← h.1]
         exact pents_small bs _ 12 [] (fun y hy => by simp at hy) hp
end Go.Proofs.YtkmpfgpfbmeihaaGreatDoor.pk
namespace Go.Proofs.YtkmpfgpfbmeihaaGreatDoor.pk
open Go Go.RowKit lib bm
theorem infoGot : (Tryz.prog.info? 53).map (·.size) = some 3 := by kernel_rfl
theorem PRead.err {w w' : World} {x : Nat} {e : Ending} (h : PRead w (.error x) e w') : Fr [] w w' ∧ 0 < x ∧ e = .returned (.tuple #[.slice none 0 0, .string ⟨#[]⟩, .int .i64 (x : Nat)]) := by
 obtain ⟨f, ⟨y, hy, h0, _, he⟩ | ⟨l, id, a, ms, hp, _⟩⟩ := h
 ·cases hy
  exact ⟨f, h0, he⟩
 ·cases hp
theorem PRead.good {w w' : World} {l : List Ent} {id : List UInt8} {e : Ending} (h : PRead w (.ok (l, id)) e w') : Fr [] w w' ∧ ∃ a ms, e = .returned (.tuple #[.slice a l.length l.length, .string (str id), .int .i64 0]) ∧ ms.map (·.1) = l ∧ Ents w' a ms ∧ (∀ y ∈ blk a, y < w'.heap.size) ∧ (∀ m ∈ ms, ∀ y ∈ blk m.2, y < w'.heap.size) := by
 obtain ⟨f, ⟨y, hy, _⟩ | ⟨l', id', a, ms, hp, he, hm, hE, hb, _, hd⟩⟩ := h
 ·cases hy
 ·cases hp
  exact ⟨f, a, ms, he, hm, hE, fun y hy => (hb y hy).2, fun m hm' y hy => (hd m hm' y hy).2⟩
theorem RReadP.err {w w' : World} {x : Nat} {e : Ending} (h : RReadP w (.error x) e w') : Fr [] w w' ∧ e = .returned (.agg #[.slice none 0 0, .string ⟨#[]⟩, .int .i64 (x : Nat)]) := by
 obtain ⟨f, ⟨y, hy, _, _, he⟩ | ⟨l, id, a, c, hp, _⟩⟩ := h
 ·cases hy
  exact ⟨f, he⟩
 ·cases hp
theorem RReadP.good {w w' : World} {l : List Ent} {id : List UInt8} {e : Ending} (h : RReadP w (.ok (l, id)) e w') : Fr [] w w' ∧ ∃ a c, e = .returned (.agg #[.slice a l.length c, .string (str id), .int .i64 0]) ∧ Cs w' a (rCells l) := by
 obtain ⟨f, ⟨y, hy, _⟩ | ⟨l', id', a, c, hp, he, hcs, _⟩⟩ := h
 ·cases hy
 ·cases hp
  exact ⟨f, a, c, he, hcs⟩
theorem pents_len (bs : List UInt8) : ∀ (n at_ : Nat) (l : List Ent) {r : List Ent} {p : Nat}, pents bs n at_ l = .ok (r, p) → r.length = l.length + n
 | 0, at_, l, r, p, h => by
  simp only [pents, Except.ok.injEq, Prod.mk.injEq] at h
  rw [← h.1]
  rfl
 | n + 1, at_, l, r, p, h => by
  rw [pents] at h
  split at h
  ·cases h
  ·have := pents_len bs n _ _ h
   rw [List.length_append, List.length_singleton] at this
   omega
theorem pread_len {bs : List UInt8} {l : List Ent} {id : List UInt8} (h : pread bs = .ok (l, id)) : l.length ≤ 4096 := by
 unfold pread at h
 split at h
 ·cases h
 ·split at h
  ·cases h
  ·split at h
   ·cases h
   ·split at h
    ·cases h
    ·rename_i hn
     split at h
     ·cases h
     ·rename_i l2 at_ hp
      split at h
      ·cases h
      ·split at h
       ·cases h
       ·split at h
        ·cases h
        ·simp only [Except.ok.injEq, Prod.mk.injEq] at h
         rw [← h.1, pents_len bs _ 12 [] hp]
         simp only [List.length_nil]
         omega
set_option maxHeartbeats 16000000 in
theorem reads_in (a : Option Addr) (cap : Nat) (bs : List UInt8) (ka : Option Addr) (kc : Nat) (kn : List Kn) (w : World) (h : lib.Rd w a cap bs) (hk : Knows w ka kc kn) (hp : obj.Pw w) :
  Calls Tryz.prog 6 #[.slice a bs.length cap, .slice ka kn.length kc] w fun e w' => e = .returned (.bool true) ∧ Fr [] w w' := by
 have hrd := fun w' (f : Fr [] w w') => read_any a cap bs w' (h.fr f)
 have hrr := fun w' (f : Fr [] w w') => rread_any a cap bs w' (h.fr f)
 have hun := unlike_any ka kc kn w hk
 obtain ⟨L, hL⟩ : ∃ L, L = bs.length := ⟨_, rfl⟩
 obtain ⟨kl, hkl⟩ : ∃ kl, kl = kn.length := ⟨_, rfl⟩
 obtain ⟨P, hP⟩ : ∃ P, P = pread bs := ⟨_, rfl⟩
 rw [← hkl] at hun ⊢
 rw [← hL, ← hP] at hrd hrr
 rw [← hL]
 have H := Lib.hid (And.intro h (And.intro hk (And.intro hp (And.intro hL (And.intro hkl (And.intro hP (And.intro hrd (And.intro hrr hun))))))))
 clear h hk hp hL hkl hP hrd hrr hun
 by_cases hl : 20000 < L
 ·have g0 : decide ((20000 : Int) < (L : Int)) = true := by simp; omega
  clear hl
  go_enter Tryz.func6, Tryz.ntmps6
  go_wp2_with (go_at_call 8; refine (awake_any _).mono ?_; rintro e w1 ⟨rfl, f1⟩; have H1 := Lib.hid f1; clear f1)
  go_ret
  exact ⟨rfl, H1.out⟩
 ·have g0 : decide ((20000 : Int) < (L : Int)) = false := by simp; omega
  clear hl
  go_enter Tryz.func6, Tryz.ntmps6
  go_upto_region 1 with fail
  go_cut [20] from 13 to 20 (fun s20 wz => Fr [] w wz ∧ ∃ b, s20 = .bool b ∧ (b = false → kn.Pairwise (fun a b => a.id ≠ b.id) ∧ kn.length ≤ 40))
  case first =>
   go_wp2_with (go_at_call 21; refine H.out.2.2.2.2.2.2.2.2.mono ?_; rintro e w1 ⟨f1, b, rfl, hb⟩; have H1 := Lib.hid (And.intro f1 hb); clear f1 hb)
   go_meet
   exact ⟨H1.out.1, !b, rfl, fun h => by rw [← H.out.2.2.2.2.1]; exact H1.out.2 (by simpa using h)⟩
  case rest =>
   obtain ⟨f1, b, rfl, hb⟩ := hcut
   generalize wc = w1 at *
   have H1 := Lib.hid (And.intro f1 hb)
   clear f1 hb g0
   cases b with
   | true =>
    go_wp2_with (go_at_call 8; refine (awake_any _).mono ?_; rintro e w2 ⟨rfl, f2⟩; have H2 := Lib.hid f2; clear f2)
    go_ret
    exact ⟨rfl, H1.out.1.trans H2.out⟩
   | false =>
    cases P with
    | error x =>
     have hrd := fun w' f => (H.out.2.2.2.2.2.2.1 w' f).mono (fun e w2 h => h.err)
     have hrr := fun w' f => (H.out.2.2.2.2.2.2.2.1 w' f).mono (fun e w2 h => h.err)
     have HR := Lib.hid (And.intro hrd hrr)
     clear hrd hrr
     go_upto_region 5 with (first
      | (go_at_call 18; refine (HR.out.1 _ H1.out.1).mono ?_; rintro e w2 ⟨f2, hx0, rfl⟩; have H2 := Lib.hid (And.intro f2 hx0); clear f2 hx0)
      | (go_at_call 22; refine (HR.out.2 _ (H1.out.1.trans H2.out.1)).mono ?_; rintro e w3 ⟨f3, rfl⟩; have H3 := Lib.hid f3; clear f3)
      | (guard_target =~ wpList _ _ _ (⟨_, Op.store _ _ _, _, _, _, _⟩ :: _) _ _; refine wpList_store_row rfl 53 (.tmp 8) (.tmp 29) rfl w3.heap.size #[.slice none 0 0, .string ⟨#[]⟩, .int .i64 (x : Nat)] rfl rfl 53 _ (alloc_at _ _) infoGot rfl (by kernel_rfl) ?_))
     generalize hw4 : World.setRow _ _ _ = w4
     obtain ⟨X, hX⟩ : ∃ X, X = w3.heap.size := ⟨_, rfl⟩
     rw [← hX] at hw4 ⊢
     have hx4 : w4.heap[X]? = some (.cells #[.slice none 0 0, .string ⟨#[]⟩, .int .i64 (x : Nat)] 53 (0, 0)) := by rw [← hw4, hX]; exact setRow_heap _ _ _ _ _ _ (alloc_at _ _)
     have f4 : Fr [] w3 w4 := by rw [← hw4, hX]; exact ((Fr.refl [] w3).alloc _).setRow (.inr (Nat.le_refl _)) _
     have x0 := cell_of hx4 0
     have x1 := cell_of hx4 1
     have x2 := cell_of hx4 2
     simp only [List.getElem?_toArray, List.getElem?_cons_zero, List.getElem?_cons_succ] at x0 x1 x2
     have HX := Lib.hid hx4
     have fw4 := ((H1.out.1.trans H2.out.1).trans H3.out).trans f4
     have hto := fun wz (fz : Fr [] w4 wz) => to_any none [] wz ⟨.inl rfl, fun m hm => by simp at hm⟩ (by simp)
     have hsm := fun at_ ct wz (fz : Fr [] w4 wz) (hc : Cs wz at_ (rCells (([] : List EM).map (·.1)))) => rsame_any at_ none ct 0 [] wz (.inl rfl) (.inl rfl) (by simp)
     have HT := Lib.hid hto
     have HS := Lib.hid hsm
     have gx : ((x : Int) != 0) = true := by have := H2.out.2; simp; omega
     have HF := Lib.hid fw4
     clear hw4 hX hx4 f4 fw4 hto hsm
     simp only [Act.put]
     refine region_mix 18 [(false, 0), (false, 2), (false, 3), (true, 1), (true, 4), (false, 5), (false, 6), (false, 7), (false, 8), (false, 9), (false, 10), (false, 11), (false, 12), (false, 13), (false, 14), (false, 15), (false, 16), (false, 17)] [] (by kernel_rfl) (by kernel_rfl) (fun _ _ d _ _ h => by cases d <;> exact h) ?_
     simp only [List.map_cons, List.map_nil, List.getD_cons_zero, List.getD_cons_succ, List.drop_succ_cons, List.drop_zero, List.drop_nil]
     have y0 := fun x => (sup_fr [] w4.drew x).cell (show w4.drew.cell? _ = _ from x0) (by simp)
     refine mix_seg 3 rfl ?_
     simp only [List.take_succ_cons, List.take_zero, List.drop_succ_cons, List.drop_zero, List.map_cons, List.map_nil]
     repeat (go_big_quiet_step (fail))
     refine wpQuiet_nil ?_
     clear y0
     refine mix_eff rfl ?_
     intro XX hXX
     go_wp2_with (go_at_call 24; refine (HT.out _ (Fr.drew1 [] w4)).mono ?_; rintro e w5 ⟨f5, at_, ct, rfl, hct⟩; have H5 := Lib.hid (And.intro ((Fr.drew1 [] w4).trans f5) hct))
     refine hXX.out _ _ f5 ?_
     clear hXX XX f5 hct
     refine mix_eff rfl ?_
     intro XX hXX
     go_wp2_with (go_at_call 23; refine (HS.out _ _ _ H5.out.1 H5.out.2).mono ?_; rintro e w6 ⟨rfl, f6⟩; have H6 := Lib.hid (H5.out.1.trans f6))
     refine hXX.out _ _ f6 ?_
     clear hXX XX f6
     have hx6 := H6.out.blk HX.out (by simp)
     have x0 := cell_of hx6 0
     have x1 := cell_of hx6 1
     have x2 := cell_of hx6 2
     simp only [List.getElem?_toArray, List.getElem?_cons_zero, List.getElem?_cons_succ] at x0 x1 x2
     have x0 := fun x => (sup_fr [] w6 x).cell x0 (by simp)
     have x1 := fun x => (sup_fr [] w6 x).cell x1 (by simp)
     have x2 := fun x => (sup_fr [] w6 x).cell x2 (by simp)
     clear hx6
     refine mix_seg 13 rfl ?_
     simp only [List.take_succ_cons, List.take_zero, List.drop_succ_cons, List.drop_zero, List.map_cons, List.map_nil]
     repeat (go_big_quiet_step (fail))
     refine wpQuiet_nil ?_
     clear x0 x1 x2
     refine mix_nil ?_
     have hx6 := H6.out.blk HX.out (by simp)
     have x0 := cell_of hx6 0
     have x1 := cell_of hx6 1
     have x2 := cell_of hx6 2
     simp only [List.getElem?_toArray, List.getElem?_cons_zero, List.getElem?_cons_succ] at x0 x1 x2
     clear hx6
     go_wp2_with (go_at_call 8; refine (awake_any _).mono ?_; rintro e wA ⟨rfl, fA⟩; have HA := Lib.hid fA; clear fA)
     go_ret
     exact ⟨rfl, (HF.out.trans H6.out).trans HA.out⟩
    | ok pr =>
     obtain ⟨l, id⟩ := pr
     obtain ⟨ll, hll⟩ : ∃ ll, ll = l.length := ⟨_, rfl⟩
     obtain ⟨sid, hsid⟩ : ∃ sid, sid = str id := ⟨_, rfl⟩
     have hrd := fun w' f => (H.out.2.2.2.2.2.2.1 w' f).mono (fun e w2 h => h.good)
     have hrr := fun w' f => (H.out.2.2.2.2.2.2.2.1 w' f).mono (fun e w2 h => h.good)
     simp only [← hll, ← hsid] at hrd hrr
     have HR := Lib.hid (And.intro hrd (And.intro hrr hll))
     clear hrd hrr hll hsid
     go_upto_region 5 with (first
      | (go_at_call 18; refine (HR.out.1 _ H1.out.1).mono ?_; rintro e w2 ⟨f2, la, ms, rfl, hms, hE, hlb, hmb⟩; have H2 := Lib.hid (And.intro f2 (And.intro hms (And.intro hE (And.intro hlb hmb)))); clear f2 hms hE hlb hmb)
      | (go_at_call 22; refine (HR.out.2.1 _ (H1.out.1.trans H2.out.1)).mono ?_; rintro e w3 ⟨f3, ga, gc, rfl, hcs⟩; have H3 := Lib.hid (And.intro f3 hcs); clear f3 hcs)
      | (guard_target =~ wpList _ _ _ (⟨_, Op.store _ _ _, _, _, _, _⟩ :: _) _ _; refine wpList_store_row rfl 53 (.tmp 8) (.tmp 29) rfl w3.heap.size #[.slice ga ll gc, .string sid, .int .i64 0] rfl rfl 53 _ (alloc_at _ _) infoGot rfl (by kernel_rfl) ?_))
     generalize hw4 : World.setRow _ _ _ = w4
     obtain ⟨X, hX⟩ : ∃ X, X = w3.heap.size := ⟨_, rfl⟩
     rw [← hX] at hw4 ⊢
     have hx4 : w4.heap[X]? = some (.cells #[.slice ga ll gc, .string sid, .int .i64 0] 53 (0, 0)) := by rw [← hw4, hX]; exact setRow_heap _ _ _ _ _ _ (alloc_at _ _)
     have f4 : Fr [] w3 w4 := by rw [← hw4, hX]; exact ((Fr.refl [] w3).alloc _).setRow (.inr (Nat.le_refl _)) _
     have x0 := cell_of hx4 0
     have x1 := cell_of hx4 1
     have x2 := cell_of hx4 2
     simp only [List.getElem?_toArray, List.getElem?_cons_zero, List.getElem?_cons_succ] at x0 x1 x2
     have HX := Lib.hid hx4
     have fw4 := ((H1.out.1.trans H2.out.1).trans H3.out.1).trans f4
     have hml : ms.length = ll := by rw [HR.out.2.2, ← H2.out.2.1, List.length_map]
     have hap := pread_apart H.out.2.2.2.2.2.1.symm
     have hsma := pread_small H.out.2.2.2.2.2.1.symm
     have hlen := pread_len H.out.2.2.2.2.2.1.symm
     have hE4 := H2.out.2.2.1.fr (H3.out.1.trans f4)
     have hC4 := H3.out.2.fr f4 (by simp)
     have hto : ∀ wz, Fr [] w4 wz → Calls Tryz.prog 24 #[.slice la ll ll] wz fun e w' => Fr [] wz w' ∧ ∃ a c, e = .returned (.slice a ll c) ∧ Cs w' a (rCells l) := fun wz fz => by
      have := to_any la ms wz (hE4.fr fz) (by rw [hml, HR.out.2.2]; omega)
      rw [hml, H2.out.2.1] at this
      exact this
     have hsm : ∀ at_ ct wz, Fr [] w4 wz → Cs wz at_ (rCells l) → Calls Tryz.prog 23 #[.slice at_ ll ct, .slice ga ll gc] wz fun e w' => e = .returned (.bool true) ∧ Fr [] wz w' := fun at_ ct wz fz hc => by
      have := rsame_any at_ ga ct gc l wz hc (hC4.fr fz (by simp)) (by omega)
      rw [← HR.out.2.2] at this
      exact this
     have HT := Lib.hid hto
     have HS := Lib.hid hsm
     have HF := Lib.hid (And.intro fw4 (And.intro hml (And.intro hap (And.intro hsma (And.intro hE4 (And.intro hC4 ((H3.out.1.trans f4).size)))))))
     have gx : ((0 : Int) != 0) = false := by decide
     clear hw4 hX hx4 f4 fw4 hto hsm hml hap hsma hlen hE4 hC4
     simp only [Act.put]
     refine region_mix 18 [(false, 0), (false, 2), (false, 3), (true, 1), (true, 4), (false, 5), (false, 6), (false, 7), (false, 8), (false, 9), (false, 10), (false, 11), (false, 12), (false, 13), (false, 14), (false, 15), (false, 16), (false, 17)] [] (by kernel_rfl) (by kernel_rfl) (fun _ _ d _ _ h => by cases d <;> exact h) ?_
     simp only [List.map_cons, List.map_nil, List.getD_cons_zero, List.getD_cons_succ, List.drop_succ_cons, List.drop_zero, List.drop_nil]
     have y0 := fun x => (sup_fr [] w4.drew x).cell (show w4.drew.cell? _ = _ from x0) (by simp)
     refine mix_seg 3 rfl ?_
     simp only [List.take_succ_cons, List.take_zero, List.drop_succ_cons, List.drop_zero, List.map_cons, List.map_nil]
     repeat (go_big_quiet_step (fail))
     refine wpQuiet_nil ?_
     clear y0
     refine mix_eff rfl ?_
     intro XX hXX
     go_wp2_with (go_at_call 24; refine (HT.out _ (Fr.drew1 [] w4)).mono ?_; rintro e w5 ⟨f5, at_, ct, rfl, hct⟩; have H5 := Lib.hid (And.intro ((Fr.drew1 [] w4).trans f5) hct))
     refine hXX.out _ _ f5 ?_
     clear hXX XX f5 hct
     refine mix_eff rfl ?_
     intro XX hXX
     go_wp2_with (go_at_call 23; refine (HS.out _ _ _ H5.out.1 H5.out.2).mono ?_; rintro e w6 ⟨rfl, f6⟩; have H6 := Lib.hid (H5.out.1.trans f6))
     refine hXX.out _ _ f6 ?_
     clear hXX XX f6
     have hx6 := H6.out.blk HX.out (by simp)
     have x0 := cell_of hx6 0
     have x1 := cell_of hx6 1
     have x2 := cell_of hx6 2
     simp only [List.getElem?_toArray, List.getElem?_cons_zero, List.getElem?_cons_succ] at x0 x1 x2
     have x0 := fun x => (sup_fr [] w6 x).cell x0 (by simp)
     have x1 := fun x => (sup_fr [] w6 x).cell x1 (by simp)
     have x2 := fun x => (sup_fr [] w6 x).cell x2 (by simp)
     clear hx6
     refine mix_seg 13 rfl ?_
     simp only [List.take_succ_cons, List.take_zero, List.drop_succ_cons, List.drop_zero, List.map_cons, List.map_nil]
     repeat (go_big_quiet_step (fail))
     refine wpQuiet_nil ?_
     clear x0 x1 x2
     refine mix_nil ?_
     have hx6 := H6.out.blk HX.out (by simp)
     have x0 := cell_of hx6 0
     have x1 := cell_of hx6 1
     have x2 := cell_of hx6 2
     simp only [List.getElem?_toArray, List.getElem?_cons_zero, List.getElem?_cons_succ] at x0 x1 x2
     clear hx6
     by_cases h60 : 60 < ll
     ·have g60 : decide ((60 : Int) < (ll : Int)) = true := by simp; omega
      clear h60
      go_wp2_with (go_at_call 8; refine (awake_any _).mono ?_; rintro e wA ⟨rfl, fA⟩; have HA := Lib.hid fA; clear fA)
      go_ret
      exact ⟨rfl, (HF.out.1.trans H6.out).trans HA.out⟩
     ·have g60 : decide ((60 : Int) < (ll : Int)) = false := by simp; omega
      go_upto_region 9 with fail
      clear x1 x2 gx g60
      have hkn := H1.out.2 (by simp)
      have hget := get_any ka kc kn w6 (H.out.2.1.fr (HF.out.1.trans H6.out)) (by omega)
      have hres : ∀ gv wz, Fr [] w6 wz → Getter wz [] gv kn → Calls Tryz.prog 19 #[.slice la ll ll, gv] wz (Resd wz ll (resolve l kn)) := fun gv wz fz hg => by
       have fall := H6.out.trans fz
       have s1 := HF.out.2.2.2.2.2.2
       have s2 := fall.size
       have := resolve_any gv la ms kn wz (HF.out.2.2.2.2.1.fr fall) (by rw [HF.out.2.1]; omega) hg hkn.1 (H.out.2.2.1.fr (HF.out.1.trans fall))
        (fun m hm => by have := (HF.out.2.2.2.1 m.1 (by rw [← H2.out.2.1]; exact List.mem_map_of_mem hm)).1; omega) (fun m hm => (HF.out.2.2.2.1 m.1 (by rw [← H2.out.2.1]; exact List.mem_map_of_mem hm)).2)
        (fun y hy => by have := H2.out.2.2.2.1 y hy; omega) (fun m hm y hy => by have := H2.out.2.2.2.2 m hm y hy; omega)
       rw [HF.out.2.1, H2.out.2.1] at this
       exact this
      have hrre : ∀ wz, Fr [] w6 wz → Calls Tryz.prog 26 #[.slice ga ll gc, .slice ka kl kc] wz (Resd wz ll (resolve l kn)) := fun wz fz => by
       have fall := H6.out.trans fz
       have := rresolve_any ga gc l ka kc kn wz (HF.out.2.2.2.2.2.1.fr fall (by simp)) (by rw [← HR.out.2.2]; omega) (fun y hy => by have := (HF.out.2.2.2.1 y hy).1; omega) HF.out.2.2.1 (H.out.2.1.fr (HF.out.1.trans fall)) (by omega) H.out.2.1.len
       rw [← HR.out.2.2, ← H.out.2.2.2.2.1] at this
       exact this
      rw [← H.out.2.2.2.2.1] at hget
      generalize resolve l kn = RR at hres hrre
      have hl6 : ll ≤ 60 := by omega
      have HG := Lib.hid (And.intro hget (And.intro hres hrre))
      clear hget hres hrre hkn h60
      cases RR with
      | error x =>
       have hob := fun wz => objects_any none none 0 0 [] wz (fun i o h => by simp at h) (fun i o h => by simp at h) (by simp)
       have HO := Lib.hid hob
       clear hob
       go_wp2_with (first
        | (go_at_call 25; refine HG.out.1.mono ?_; rintro e w7 ⟨gv, rfl, f7, hgv⟩; have H7 := Lib.hid (And.intro f7 hgv); clear f7 hgv; have x0 := H7.out.1.cell x0 (by simp))
        | (go_at_call 19; refine (HG.out.2.1 _ _ H7.out.1 H7.out.2).mono ?_; rintro e w8 ⟨f8, rfl⟩; have H8 := Lib.hid f8; clear f8; have x0 := H8.out.cell x0 (by simp))
        | (go_at_call 26; refine (HG.out.2.2 _ (H7.out.1.trans H8.out)).mono ?_; rintro e w9 ⟨f9, rfl⟩; have H9 := Lib.hid f9; clear f9)
        | (go_at_call 27; refine (HO.out _).mono ?_; rintro e wB ⟨rfl, fB⟩; have HB := Lib.hid fB; clear fB)
        | (go_at_call 8; refine (awake_any _).mono ?_; rintro e wA ⟨rfl, fA⟩; have HA := Lib.hid fA; clear fA))
       go_ret
       exact ⟨rfl, ((((((HF.out.1.trans H6.out).trans H7.out.1).trans H8.out).trans H9.out).trans HB.out).trans HA.out)⟩
      | ok os =>
       go_upto_region 11 with (first
        | (go_at_call 25; refine HG.out.1.mono ?_; rintro e w7 ⟨gv, rfl, f7, hgv⟩; have H7 := Lib.hid (And.intro f7 hgv); clear f7 hgv; have x0 := H7.out.1.cell x0 (by simp))
        | (go_at_call 19; refine (HG.out.2.1 _ _ H7.out.1 H7.out.2).mono ?_; rintro e w8 ⟨f8, oa, oc, rfl, hol, hob⟩; have H8 := Lib.hid (And.intro f8 (And.intro hol hob)); clear f8 hol hob; have x0 := H8.out.1.cell x0 (by simp))
        | (go_at_call 26; refine (HG.out.2.2 _ (H7.out.1.trans H8.out.1)).mono ?_; rintro e w9 ⟨f9, oa2, oc2, rfl, hol2, hob2⟩; have H9 := Lib.hid (And.intro f9 hob2); clear f9 hol2 hob2))
       have hob : Calls Tryz.prog 27 #[.slice oa ll oc, .slice oa2 ll oc2] w9 fun e w' => e = .returned (.bool true) ∧ Fr [] w9 w' := by
        have := objects_any oa oa2 oc oc2 os w9 (H8.out.2.2.fr H9.out.1) H9.out.2 (by rw [H8.out.2.1]; omega)
        rw [H8.out.2.1] at this
        exact this
       have HO := Lib.hid hob
       clear hob
       go_wp2_with (first
        | (go_at_call 27; refine HO.out.mono ?_; rintro e wB ⟨rfl, fB⟩; have HB := Lib.hid fB; clear fB)
        | (go_at_call 8; refine (awake_any _).mono ?_; rintro e wA ⟨rfl, fA⟩; have HA := Lib.hid fA; clear fA))
       go_ret
       exact ⟨rfl, ((((((HF.out.1.trans H6.out).trans H7.out.1).trans H8.out.1).trans H9.out.1).trans HB.out).trans HA.out)⟩
end Go.Proofs.YtkmpfgpfbmeihaaGreatDoor.pk
