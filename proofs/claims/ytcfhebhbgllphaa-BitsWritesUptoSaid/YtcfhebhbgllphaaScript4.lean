/-
  A script (a slice of stemmalaw4.Op) among a law's arguments, as a walk is told of it.
-/
import Derived.Test.YtcfhebhbgllphaaArgs2
import Derived.Lib.SmallJoins
namespace Go.Proofs.Ytcfhebhbgllphaa.bits
open Go Go.RowKit Go.ChangeShapes Go.WideShapes Go.Proofs.Ytcfhebhbgllphaa.lib

/-- What a walk is told of a script. -/
def OpsArg (w : World) (a : Option Addr) (len cap N : Nat) : Prop :=
  len ≤ cap ∧ cap ≤ maxLen ∧ (len = 0 ∨ ∃ g o, a = some ⟨g, o, none⟩ ∧ ∀ i, i < len → ∃ (k n v : Int) (ad : Option Addr) (dl dc : Nat) (bs : List UInt8),
    w.cell? ⟨g, o + i * 4, none⟩ = some (.int .i64 k) ∧ w.cell? ⟨g, o + i * 4 + 1, none⟩ = some (.int .i64 n) ∧ w.cell? ⟨g, o + i * 4 + 2, none⟩ = some (.int .u32 v) ∧
    w.cell? ⟨g, o + i * 4 + 3, none⟩ = some (.slice ad dl dc) ∧ BytesArg w ad dl dc bs ∧ dl ≤ N ∧ 0 ≤ v ∧ v < 4294967296)

theorem cells4 : Try.prog.cellsOf 45 = 4 := by kernel_rfl
theorem cellsInt : Try.prog.cellsOf 3 = 1 := by kernel_rfl
theorem cellsU32 : Try.prog.cellsOf 29 = 1 := by kernel_rfl
theorem cellsU8s : Try.prog.cellsOf 24 = 1 := by kernel_rfl
theorem cellsU8 : Try.prog.cellsOf 5 = 1 := by kernel_rfl
theorem bytesU8 : Try.prog.bytesOf 5 = 1 := by kernel_rfl
theorem ops_arg {H : Type} {enc : TypeId × Value → H} {w : World} {a : Option Addr} {len cap : Nat} {d : DataW H} {p : List MemPlace}
    (h : DataW.Trod enc Try.prog w 0 (fun _ => true) true 40 (.slice a len cap) d p) (hL : Light Try.prog 40 d) : OpsArg w a len cap (Rows.uptoBulk d) := by
  obtain ⟨h1, h2, _, _, _, h3⟩ := slice_arg Try.underlying40 cells4 (by decide) h hL
  refine ⟨h1, h2, ?_⟩
  rcases h3 with h3 | ⟨g, o, rfl, h3⟩
  · exact .inl h3
  · refine .inr ⟨g, o, rfl, fun i hi => ?_⟩
    obtain ⟨cs, y, n, hl, hc, ht, hLy, hBy⟩ := h3 i hi
    match cs, hl with
    | [x0, x1, x2, x3], _ =>
      obtain ⟨y0, y1, y2, y3, m, rfl, _, t0, t1, t2, t3⟩ := Go.Joins.trod_struct4 Try.underlying45 ht
      simp only [cellsInt, cellsU32, cellsU8s, List.drop_zero, List.drop_succ_cons, List.take_succ_cons, List.take_zero] at t0 t1 t2 t3
      obtain ⟨k, e0, _, _⟩ := DataW.trod_int Try.underlying3 t0
      obtain ⟨n', e1, _, _⟩ := DataW.trod_int Try.underlying3 t1
      obtain ⟨v, e2, _, wv⟩ := DataW.trod_int Try.underlying29 t2
      have hL3 : Light Try.prog 24 y3.1 := light_struct Try.underlying45 hLy (j := 3) rfl rfl
      obtain ⟨ad, dl, dc, bs, e3, hB, hbk⟩ := bytes_cell Try.underlying24 Try.underlying5 cellsU8 bytesU8 t3 hL3
      simp only [List.cons.injEq, and_true] at e0 e1 e2 e3
      subst e0 e1 e2 e3
      have wv' := wf_u32 wv
      have hBy' : Rows.uptoBulk (DataW.agg [y0.1, y1.1, y2.1, y3.1]) ≤ Rows.uptoBulk d := hBy
      exact ⟨k, n', v, ad, dl, dc, bs, hc 0 _ rfl, hc 1 _ rfl, hc 2 _ rfl, hc 3 _ rfl, hB, by have := bulk_agg (d := y3.1) (parts := [y0.1, y1.1, y2.1, y3.1]) (by simp); omega, wv'.1, by omega⟩
end Go.Proofs.Ytcfhebhbgllphaa.bits
