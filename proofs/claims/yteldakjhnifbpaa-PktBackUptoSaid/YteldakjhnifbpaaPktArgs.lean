/-
  Lines (a slice of pkt.Line) among a law's arguments, as a walk is told of them.
-/
import Derived.Test.YteldakjhnifbpaaPktEnc
import Derived.Test.YteldakjhnifbpaaArgs2
import Derived.Lib.SmallJoins
namespace Go.Proofs.Yteldakjhnifbpaa.pkt
open Go Go.RowKit Go.ChangeShapes Go.WideShapes Go.Proofs.Yteldakjhnifbpaa.lib

theorem exists_list {α : Type} {P : Nat → α → Prop} : ∀ (n : Nat), (∀ i, i < n → ∃ x, P i x) → ∃ l : List α, l.length = n ∧ ∀ (i : Nat) (h : i < l.length), P i l[i]
  | 0, _ => ⟨[], rfl, fun i h => by cases h⟩
  | n + 1, h => by
    obtain ⟨l, h1, h2⟩ := exists_list n fun i hi => h i (by omega)
    obtain ⟨x, hx⟩ := h n (by omega)
    refine ⟨l ++ [x], by simp [h1], fun i hi => ?_⟩
    by_cases hl : i < l.length
    · rw [List.getElem_append_left hl]; exact h2 i hl
    · simp at hi
      obtain rfl : i = l.length := by omega
      simp
      rw [h1]
      exact hx
theorem cells2L : Try.prog.cellsOf 28 = 2 := by kernel_rfl
theorem cellsInt : Try.prog.cellsOf 3 = 1 := by kernel_rfl
theorem cellsU8s : Try.prog.cellsOf 23 = 1 := by kernel_rfl
theorem cellsU8 : Try.prog.cellsOf 5 = 1 := by kernel_rfl
theorem bytesU8 : Try.prog.bytesOf 5 = 1 := by kernel_rfl
theorem tot_le (m : Nat) : ∀ l : List Ln, (∀ x ∈ l, x.2.length ≤ m) → tot l ≤ l.length * (m + 4)
  | [], _ => Nat.zero_le _
  | x :: l, h => by
    have h1 := tot_le m l fun y hy => h y (by simp [hy])
    have h2 := h x (by simp)
    simp only [tot, List.length_cons, Nat.succ_mul]
    omega
theorem lines_arg {H : Type} {enc : TypeId × Value → H} {w : World} {a : Option Addr} {len cap : Nat} {d : DataW H} {p : List MemPlace}
    (h : DataW.Trod enc Try.prog w 0 (fun _ => true) true 29 (.slice a len cap) d p) (hL : Light Try.prog 29 d) :
    ∃ ls : List Lv, ls.length = len ∧ Lines w a cap ls ∧ tot (ls.map Lv.ln) ≤ len * (Rows.uptoBulk d + 4) ∧ len ≤ Rows.uptoBulk d := by
  obtain ⟨h1, h2, h4, _, h5, h3⟩ := slice_arg Try.underlying29 cells2L (by decide) h hL
  rcases h3 with rfl | ⟨g, o, rfl, h3⟩
  · exact ⟨[], rfl, ⟨.inl rfl, Nat.zero_le _, h4, h2, by simp⟩, by simp [tot], Nat.zero_le _⟩
  · obtain ⟨ls, hl, hls⟩ := exists_list (P := fun i (x : Lv) => w.cell? ⟨g, o + i * 2, none⟩ = some (.int .i64 x.kind) ∧ w.cell? ⟨g, o + i * 2 + 1, none⟩ = some (.slice x.ao x.bs.length x.cap) ∧ x.Ok w ∧ x.bs.length ≤ Rows.uptoBulk d) len fun i hi => by
      obtain ⟨cs, y, n, hl, hc, ht, hLy, hBy⟩ := h3 i hi
      match cs, hl with
      | [x0, x1], _ =>
        obtain ⟨y0, y1, m, rfl, _, t0, t1⟩ := trod_struct2 Try.underlying28 ht

        simp only [cellsInt, cellsU8s, List.drop_zero, List.drop_succ_cons, List.take_succ_cons, List.take_zero] at t0 t1
        obtain ⟨k, e0, _, _⟩ := DataW.trod_int Try.underlying3 t0
        have hL3 : Light Try.prog 23 y1.1 := light_struct Try.underlying28 hLy (j := 1) rfl rfl
        obtain ⟨ad, dl, dc, bs, e3, hB, hbk⟩ := bytes_cell Try.underlying23 Try.underlying5 cellsU8 bytesU8 t1 hL3
        simp only [List.cons.injEq, and_true] at e0 e3
        subst e0 e3
        have hBy' : Rows.uptoBulk (DataW.agg [y0.1, y1.1]) ≤ Rows.uptoBulk d := hBy
        obtain rfl := hB.length
        exact ⟨⟨k, ad, dc, bs⟩, hc 0 _ rfl, hc 1 _ rfl, ⟨hB.cs, hB.le, hB.nil, hB.max⟩, by have := bulk_agg (d := y1.1) (parts := [y0.1, y1.1]) (by simp); simp only; omega⟩
    have hcs : Cs w (some ⟨g, o, none⟩) (lcells ls) := by
      refine .inr ⟨g, o, rfl, fun j v hv => ?_⟩
      have hj : j < ls.length * 2 := by rw [← lcells_length]; exact (List.getElem?_eq_some_iff.1 hv).1
      have hi : j / 2 < ls.length := by omega
      obtain ⟨a0, a1⟩ := lcells_at ls (j / 2) hi
      obtain ⟨b0, b1, _⟩ := hls (j / 2) hi
      rcases (show j = j / 2 * 2 ∨ j = j / 2 * 2 + 1 from by omega) with e | e
      · rw [e, a0] at hv
        rw [e, b0, hv]
      · rw [e, a1] at hv
        rw [e, ← Nat.add_assoc, b1, hv]
    refine ⟨ls, hl, ⟨hcs, by omega, h4, h2, fun x hx => ?_⟩, ?_, h5⟩
    · obtain ⟨i, hi, rfl⟩ := List.getElem_of_mem hx
      exact (hls i hi).2.2.1
    · have := tot_le (Rows.uptoBulk d) (ls.map Lv.ln) fun x hx => by
        obtain ⟨y, hy, rfl⟩ := List.mem_map.1 hx
        obtain ⟨i, hi, rfl⟩ := List.getElem_of_mem hy
        exact (hls i hi).2.2.2
      rw [List.length_map, hl] at this
      exact this
end Go.Proofs.Yteldakjhnifbpaa.pkt
