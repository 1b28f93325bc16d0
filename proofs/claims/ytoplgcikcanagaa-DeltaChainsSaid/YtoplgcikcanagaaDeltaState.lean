/-
  Make: where the making stands: what is written, what waits, how long it is.
-/
import Derived.Test.YtoplgcikcanagaaDeltaIdx
import Derived.Test.YtoplgcikcanagaaDeltaMap
namespace Go.Proofs.Ytoplgcikcanagaa.delta
open Go Go.RowKit Go.Proofs.Ytoplgcikcanagaa.lib Go.Proofs.Ytoplgcikcanagaa.bm

/-- What Make makes. -/
def Made (base text d : List UInt8) : Prop :=
  ∃ ins, d = numb base.length ++ (numb text.length ++ ins) ∧ Runs base ins text ∧ ins.length ≤ text.length + text.length / 127 + 8 ∧ ((∃ p, Occ base text p) → ins.length ≤ 8 * ((text.length + 65535) / 65536))
def St (base text hd out wait : List UInt8) (i : Nat) : Prop :=
  ∃ ins acc, out = hd ++ ins ∧ Runs base ins acc ∧ acc ++ wait = text.take i ∧ 127 * ins.length ≤ 128 * acc.length ∧ i ≤ text.length
theorem st_start (base text hd : List UInt8) : St base text hd hd [] 0 := ⟨[], [], by simp, runs_nil base, by simp, by simp, Nat.zero_le _⟩
theorem St.len {base text hd out wait : List UInt8} {i : Nat} (h : St base text hd out wait i) : out.length ≤ hd.length + 2 * text.length ∧ wait.length ≤ i ∧ i ≤ text.length := by
  obtain ⟨ins, acc, rfl, _, he, hl, hi⟩ := h
  have := congrArg List.length he
  rw [List.length_append, List.length_take] at this
  rw [List.length_append]
  omega
theorem St.wait {base text hd out wait : List UInt8} {i : Nat} (h : St base text hd out wait i) (hi : i < text.length) : St base text hd out (wait ++ [text[i]]) (i + 1) := by
  obtain ⟨ins, acc, rfl, hr, he, hl, _⟩ := h
  refine ⟨ins, acc, rfl, hr, ?_, hl, hi⟩
  rw [← List.append_assoc, he, List.take_succ_eq_append_getElem hi]
theorem St.copy {base text hd out wait : List UInt8} {i p b n : Nat} (h : St base text hd out wait i) (hb : base.length < 4294967296) (h16 : 16 ≤ n) (hm : Match base text p i n) (hbw : b ≤ wait.length) (hk : Back base text p i b) :
    St base text hd (out ++ lits (wait.take (wait.length - b)).length (wait.take (wait.length - b)) ++ cops (b + n) (p - b) (b + n)) [] (i + n) := by
  obtain ⟨ins, acc, rfl, hr, he, hl, hi⟩ := h
  obtain ⟨m1, m2, m3⟩ := hm
  obtain ⟨k1, k2, k3, k4, k5⟩ := hk
  obtain ⟨W, hW⟩ : ∃ W, W = wait.take (wait.length - b) := ⟨_, rfl⟩
  have hWl : W.length = wait.length - b := by rw [hW, List.length_take]; omega
  rw [← hW]
  have hpc : p - b + (b + n) ≤ base.length := by omega
  have hc := runs_cops base hb (b + n) (p - b) (b + n) (Nat.le_refl _) hpc
  have hcl := cops_len (b + n) (p - b) (b + n)
  have hli := runs_lits base W.length W (Nat.le_refl _)
  have hll := lits_len W.length W
  have hlen := congrArg List.length he
  rw [List.length_append, List.length_take] at hlen
  have hdl : ((base.drop (p - b)).take (b + n)).length = b + n := by rw [List.length_take, List.length_drop]; omega
  refine ⟨ins ++ (lits W.length W ++ cops (b + n) (p - b) (b + n)), acc ++ (W ++ (base.drop (p - b)).take (b + n)), by simp only [List.append_assoc], hr.append (hli.append hc), ?_, ?_, m2⟩
  · rw [List.append_nil, ← List.append_assoc]
    have e1 : acc ++ W = text.take (i - b) := by
      have : (acc ++ wait).take (i - b) = acc ++ W := by
        rw [List.take_append, hW, List.take_of_length_le (by omega)]
        congr 2
        omega
      rw [← this, he, List.take_take]
      congr 1
      omega
    have e2 : (base.drop (p - b)).take (b + n) = (text.drop (i - b)).take (b + n) := by
      rw [List.take_add, List.take_add, k5, List.drop_drop, List.drop_drop, Nat.sub_add_cancel k1, Nat.sub_add_cancel k2, m3]
    rw [e1, e2, ← List.take_add]
    congr 1
    omega
  · simp only [List.length_append, hdl]
    omega
theorem St.done {base text hd out wait : List UInt8} (h : St base text hd out wait text.length) : ∃ ins, out ++ lits wait.length wait = hd ++ ins ∧ Runs base ins text ∧ ins.length ≤ text.length + text.length / 127 + 8 := by
  obtain ⟨ins, acc, rfl, hr, he, hl, _⟩ := h
  rw [List.take_length] at he
  have hll := lits_len wait.length wait
  have hlen := congrArg List.length he
  rw [List.length_append] at hlen
  refine ⟨ins ++ lits wait.length wait, by rw [List.append_assoc], by rw [← he]; exact hr.append (runs_lits base wait.length wait (Nat.le_refl _)), ?_⟩
  rw [List.length_append]
  omega
theorem made_whole {base text : List UInt8} {p : Nat} (hb : base.length < 4294967296) (h : Occ base text p) : Made base text (numb base.length ++ numb text.length ++ lits ([] : List UInt8).length [] ++ cops text.length p text.length) := by
  obtain ⟨h1, h2⟩ := h
  have hc := runs_cops base hb text.length p text.length (Nat.le_refl _) h1
  have hcl := cops_len text.length p text.length
  rw [h2] at hc
  refine ⟨cops text.length p text.length, ?_, hc, by omega, fun _ => hcl⟩
  simp only [List.length_nil, lits_nil, List.append_nil, List.append_assoc]
theorem made_done {base text out wait : List UInt8} (hno : ∀ p, ¬ Occ base text p) (h : St base text (numb base.length ++ numb text.length) out wait text.length) : Made base text (out ++ lits wait.length wait) := by
  obtain ⟨ins, he, hr, hl⟩ := h.done
  exact ⟨ins, by rw [he, List.append_assoc], hr, hl, fun ⟨p, hp⟩ => absurd hp (hno p)⟩
theorem run_slice_cut {P : Program} {t e : TypeId} {z : Value} {size bytes : Nat} (T : SliceTy P t e z size bytes) (n : Nat) (a : Option Addr) (cap : Nat) (hc : n ≤ cap) (w : World) :
    (Instr.slice t (.slice a n cap) Option.none (some (.int .i64 (n : Nat))) (some (.int .i64 (n : Nat)))).run P w = .ok (.slice a n n) w := by
  obtain ⟨hu, ⟨i, hi', _, hs, _⟩, _, _⟩ := T
  have c1 : (0 : Int) ≤ (n : Int) ∧ (n : Int) ≤ (cap : Int) := by omega
  have ad0 : ∀ x : Addr, x.add 0 = x := fun x => rfl
  cases a <;> simp [run_underlying hu, Instr.slice, Instr.sliceBounds, Instr.sliceBound, asIntOf, c1, hc, sizeOf, typeInfo, hi', hs, Result.andThen, ad0]
/-- What a maker wrote, cut to its length, is the result. -/
theorem Mk.made {S0 : List Nat} {w w0 wr : World} {q : Nat} {oa wa : Option Addr} {oc wc : Nat} {out wait : List UInt8} (h : Mk S0 w0 wr q oa oc out wa wc wait) (f : Fr [] w w0) (hS : ∀ y ∈ S0, w.heap.size ≤ y) (n : Nat) (hl : n = out.length) : NewBytes w out (.returned (.slice oa n n)) wr := by
  obtain ⟨o1, o2, o3⟩ := h.o.shape
  subst hl
  rw [List.length_map] at o1
  refine ⟨oa, rfl, ⟨h.o.cs, Nat.le_refl _, Nat.le_trans o1 o2, fun e => by have := o3 e; omega⟩, fun x hx => ⟨?_, h.o.lt x hx⟩, f.step h.fr fun y hy => .inr (hS y hy)⟩
  rcases h.newO x hx with k | k
  · exact hS x k
  · exact Nat.le_trans f.size k
theorem Mk.waitMore {S0 : List Nat} {w wr w1 w2 : World} {q : Nat} {oa wa a2 : Option Addr} {oc wc c2 n : Nat} {out wait news : List UInt8} (h : Mk S0 w wr q oa oc out wa wc wait) (f : Fr [] wr w1)
    (A : OwnMore w1 w2 5 wa a2 c2 (wait.map bv ++ news.map bv)) (hn : wait.length + news.length = n) : Mk S0 w (w2.setCell ⟨q, 1, none⟩ (.slice a2 n c2)) q oa oc out a2 c2 (wait ++ news) := by
  have h1 := h.fr0 f
  have hq : q < w1.heap.size := lt_of_block h1.blk
  have ho := h1.o.lt
  have ha2 : ∀ y ∈ lib.blk a2, y ≠ q ∧ y ∉ lib.blk oa ∧ (y ∈ S0 ∨ w.heap.size ≤ y) := fun y hy => by
    rcases A.at_ y hy with k | k
    · exact ⟨fun e => h.qx (by rw [← e]; exact k), fun e => h.apart y e k, h.newX y k⟩
    · have := h1.fr.size
      exact ⟨by omega, fun e => by have := ho y e; omega, by omega⟩
  have fs : Fr [q] w2 (w2.setCell ⟨q, 1, none⟩ (.slice a2 n c2)) := (Fr.refl [q] w2).setCell (by simp) _
  have hb := A.fr.blk h1.blk h.qx
  refine ⟨?_, ?_, ?_, h.qo, fun e => (ha2 q e).1 rfl, fun y hy e => (ha2 y e).2.1 hy, ((h1.fr.step A.fr fun y hy => h.newX y hy).step fs fun y hy => by simp at hy; rw [hy]; exact h.new), h.new, h.newO, fun y hy => (ha2 y hy).2.2⟩
  · rw [setCell_of hb, List.length_append, hn]
    rfl
  · exact (h1.o.fr A.fr fun y hy e => h.apart y hy e).fr fs fun y hy => by simp; intro e; exact h.qo (by rw [← e]; exact hy)
  · rw [List.map_append]
    exact A.own.fr fs fun y hy => by simpa using (ha2 y hy).1
theorem Mk.rebase {S0 : List Nat} {w0 wr : World} {q : Nat} {oa wa : Option Addr} {oc wc : Nat} {out wait : List UInt8} (h : Mk S0 w0 wr q oa oc out wa wc wait) : Mk (q :: (lib.blk oa ++ lib.blk wa)) wr wr q oa oc out wa wc wait :=
  ⟨h.blk, h.o, h.x, h.qo, h.qx, h.apart, Fr.refl _ _, .inl (by simp), fun y hy => .inl (by simp [hy]), fun y hy => .inl (by simp [hy])⟩
end Go.Proofs.Ytoplgcikcanagaa.delta
