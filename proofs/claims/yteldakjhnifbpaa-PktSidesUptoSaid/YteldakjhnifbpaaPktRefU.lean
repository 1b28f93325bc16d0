/-
  stemmaref17.Unside.
-/
import Derived.Test.YteldakjhnifbpaaPktRefS
import Derived.Test.YteldakjhnifbpaaPktUns
namespace Go.Proofs.Yteldakjhnifbpaa.pkt
open Go Go.RowKit Go.Proofs.Yteldakjhnifbpaa.lib Go.Proofs.Yteldakjhnifbpaa.bm

theorem put3 {wz : World} {R : Nat} {t : TypeId} {u0 u1 u2 : Value} (hb : wz.heap[R]? = some (.cells #[u0, u1, u2] t (0, 0))) (v0 v1 v2 : Value) :
    (((wz.setCell ⟨R, 0, none⟩ v0).setCell ⟨R, 1, none⟩ v1).setCell ⟨R, 2, none⟩ v2).heap[R]? = some (.cells #[v0, v1, v2] t (0, 0)) ∧
      Fr [R] wz (((wz.setCell ⟨R, 0, none⟩ v0).setCell ⟨R, 1, none⟩ v1).setCell ⟨R, 2, none⟩ v2) :=
  ⟨(setCell_of (setCell_of (setCell_of hb _) _) _).trans rfl, (((Fr.refl [R] wz).setCell (by simp) _).setCell (by simp) _).setCell (by simp) _⟩
theorem infoSided : (Try.prog.info? 46).map (·.size) = some 3 := by kernel_rfl
theorem results_sided {fn : Func} {p : Tmp} (h : fn.results = #[.cell p 46]) (tmps : Array Value) (w : World) (g : Nat) (cs : Array Value) (fr : Nat × Nat)
    (hp : tmps.getD p undef = .pointer (some ⟨g, 0, none⟩)) (hg : w.heap[g]? = some (.cells cs 46 fr)) (hs : cs.size = 3) : (results fn tmps).run Try.prog w = .ok (.agg cs) w :=
  results_cell_row h tmps w g 46 cs fr _ hp hg Try.underlying46 rfl (by rw [infoSided, hs])
def DUns (w : World) (l : List Ln) (e : Ending) (w' : World) : Prop :=
  e = .returned (.agg #[.string (str (unside l [] []).1), .string (str (unside l [] []).2.1), .int .i64 (unside l [] []).2.2]) ∧ Fr [] w w'
theorem duns_of {w w' : World} {l : List Ln} {D M : List UInt8} {x : Nat} (h : unside l [] [] = (D, M, x)) (f : Fr [] w w') : DUns w l (.returned (.agg #[.string (str D), .string (str M), .int .i64 x])) w' := by
  unfold DUns
  rw [h]
  exact ⟨rfl, f⟩
set_option maxRecDepth 100000 in
set_option maxHeartbeats 4000000 in
theorem duns_all (ao : Option Addr) (cap : Nat) (l : List Ln) (w : World) (hcs : Cs w ao (dcells l)) (hle : l.length ≤ cap) (hmax : cap ≤ maxLen) (hlim : tot l ≤ 2199023255552) :
    Calls Try.prog 15 #[.slice ao l.length cap] w (DUns w l) := by
  have hls : l.length ≤ 9223372036854775807 := by unfold maxLen at hmax; omega
  obtain ⟨N, hN⟩ : ∃ N, N = l.length := ⟨_, rfl⟩
  have HN := Lib.hid hN
  rw [← hN] at hls hle ⊢
  have f0 : Fr [] w (w.alloc (.cells #[.string ⟨#[]⟩, .string ⟨#[]⟩, .int .i64 0] 46)) := (Fr.refl [] w).alloc _
  have hb0 := alloc_at w (.cells #[.string ⟨#[]⟩, .string ⟨#[]⟩, .int .i64 0] 46)
  have hl0 : w.heap.size < (w.alloc (.cells #[.string ⟨#[]⟩, .string ⟨#[]⟩, .int .i64 0] 46)).heap.size := by rw [World.size_alloc]; omega
  have hc0 := hcs.fr f0 (by simp)
  have H0 := Lib.hid (And.intro f0 (And.intro hb0 (And.intro hl0 hc0)))
  clear hcs hN f0 hb0 hl0 hc0
  go_enter Try.func15, Try.ntmps15
  go_upto_block 0 with fail
  generalize (w.alloc (.cells #[.string ⟨#[]⟩, .string ⟨#[]⟩, .int .i64 0] 46)) = w0 at *
  generalize hR : w.heap.size = R at *
  have HRR := Lib.hid hR
  clear hR
  go_wp2
  go_loopg [3, 4, 5] N (fun k s3 s4 s5 wr => ∃ i a c D b c' M, i + k = N ∧ s5 = .int .i64 (i : Nat) ∧ s3 = .slice a D.length c ∧ s4 = .slice b M.length c' ∧ Un w0 wr l i a c D b c' M)
  case atStart => exact ⟨0, none, 0, [], none, 0, [], by omega, rfl, rfl, rfl, un_start w0 _⟩
  case round =>
    obtain ⟨i, a, c, D, b, c', M, hi, rfl, rfl, rfl, h⟩ := hrel
    have H := Lib.hid h
    have hfew := h.few
    have hbR := h.fr.blk H0.out.2.1 (by simp)
    have r0 := cell_of hbR 0
    have r1 := cell_of hbR 1
    have r2 := cell_of hbR 2
    have z0 := frozen_of hbR 0
    have z1 := frozen_of hbR 1
    have z2 := frozen_of hbR 2
    simp only [List.getElem?_toArray, List.getElem?_cons_zero, List.getElem?_cons_succ] at r0 r1 r2
    have HB := Lib.hid hbR
    clear h hbR
    by_cases hin : i < N
    · have hil : i < l.length := by have := HN.out; omega
      have hx : l[i]? = some l[i] := by simp [hil]
      obtain ⟨g, o, rfl, hc⟩ := H0.out.2.2.2.at (by rw [dcells_length]; omega)
      obtain ⟨x0, x1⟩ := dcells_at l i hil
      have c0 := H.out.fr.cell (hc _ _ x0) (by simp)
      have c1 := H.out.fr.cell (hc _ _ x1) (by simp)
      rw [← Nat.add_assoc] at c1
      generalize l[i] = x at *
      have hxl : D.length + M.length + (x.2.length + 4) ≤ tot l := by
        have e3 := H.out.few
        rw [drop_at hx] at e3
        simp only [tot] at e3
        omega
      obtain ⟨k, d⟩ := x
      simp only at c0 c1 hxl
      obtain ⟨z, hz⟩ : ∃ z, z = str d := ⟨_, rfl⟩
      rw [← hz] at c1
      have HX := Lib.hid (And.intro hx hz)
      clear hc x0 x1 hx
      by_cases hk : k = 1
      · subst hk
        cases d with
        | nil =>
          have hzl : z.toList = [] := by rw [hz, str_toList]
          have hu := H.out.bad HX.out.1 (.inr (.inl rfl))
          have HU := Lib.hid hu
          clear hu hz
          go_wp2
          obtain ⟨p1, p2⟩ := put3 HB.out (.string ⟨#[]⟩) (.string ⟨#[]⟩) (.int .i64 3)
          refine bodyPost_ret (results_sided rfl _ _ R _ (0, 0) rfl p1 rfl) rfl ?_
          exact duns_of HU.out ((H0.out.1.trans H.out.fr).step p2 fun y hy => .inr (by simp at hy; rw [hy, ← HRR.out]; exact Nat.le_refl _))
        | cons y t =>
          have hzl : z.toList.isEmpty = false := by rw [hz, str_toList]; rfl
          have hix : ∀ w, (Instr.index 9 (.string z) (.int .i64 0)).run Try.prog w = .ok (.int .u8 (y.toNat : Nat)) w := fun w => by rw [hz]; exact index_str (y :: t) 0 y rfl w
          obtain ⟨p, hp⟩ : ∃ p, p = str t := ⟨_, rfl⟩
          have hsl : ∀ w, (Instr.slice 9 (.string z) (some (.int .i64 1)) none none).run Try.prog w = .ok (.string p) w := fun w => by rw [hz, hp]; exact slice_str_from (y :: t) 1 1 rfl (by simp) w
          have HP := Lib.hid (And.intro hp hz)
          simp only [List.length_cons] at hxl
          obtain ⟨S, hS⟩ : ∃ S, S = blk a := ⟨_, rfl⟩
          have HS := Lib.hid hS
          obtain ⟨T, hT⟩ : ∃ T, T = blk b := ⟨_, rfl⟩
          have HT := Lib.hid hT
          clear hp hz hS hT
          by_cases hy1 : y = 1
          · subst hy1
            have hy0 : (((1 : UInt8).toNat : Nat) : Int) = 1 := rfl
            rw [hy0] at hix
            clear hy0
            go_wp2_with (refine wpList_append_str sliceU8 Try.underlying9 rfl _ _ rfl (.slice a D.length c) D.length (D.map bv) S rfl (by rw [own_blk, HS.out]) H.out.ownD t (by rw [← HP.out.1]; rfl) (by omega) (by unfold maxLen; omega) ?_; intro a2 c2 w2 A1; have HA := Lib.hid A1; clear A1)
            go_roundg (N - (i + 1))
            case measure => omega
            case rel =>
              have A1 := HA.out
              rw [HS.out] at A1
              have h := H.out.moreD HX.out.1 (n := D.length + t.length) rfl A1
              exact ⟨i + 1, a2, c2, D ++ t, b, c', M, by omega, by go_num, by rw [List.length_append], rfl, h⟩
          · by_cases hy2 : y = 2
            · subst hy2
              have hy0 : (((2 : UInt8).toNat : Nat) : Int) = 2 := rfl
              rw [hy0] at hix
              clear hy0 hy1
              go_wp2_with (refine wpList_append_str sliceU8 Try.underlying9 rfl _ _ rfl (.slice b M.length c') M.length (M.map bv) T rfl (by rw [own_blk, HT.out]) H.out.ownM t (by rw [← HP.out.1]; rfl) (by omega) (by unfold maxLen; omega) ?_; intro a2 c2 w2 A1; have HA := Lib.hid A1; clear A1)
              go_roundg (N - (i + 1))
              case measure => omega
              case rel =>
                have A1 := HA.out
                rw [HT.out] at A1
                have h := H.out.moreM HX.out.1 (n := M.length + t.length) rfl A1
                exact ⟨i + 1, a, c, D, a2, c2, M ++ t, by omega, by go_num, rfl, by rw [List.length_append], h⟩
            · by_cases hy3 : y = 3
              · subst hy3
                have hy0 : (((3 : UInt8).toNat : Nat) : Int) = 3 := rfl
                rw [hy0] at hix
                clear hy0 hy1 hy2
                go_wp2
                rw [HP.out.1]
                obtain ⟨p1, p2⟩ := put3 HB.out (.string ⟨#[]⟩) (.string (str t)) (.int .i64 80)
                refine bodyPost_ret (results_sided rfl _ _ R _ (0, 0) rfl p1 rfl) rfl ?_
                exact duns_of (D := []) (H.out.remote HX.out.1) ((H0.out.1.trans H.out.fr).step p2 fun y hy => .inr (by simp at hy; rw [hy, ← HRR.out]; exact Nat.le_refl _))
              · have hu := H.out.bad HX.out.1 (.inr (.inr ⟨y, t, rfl, hy1, hy2, hy3⟩))
                have HU := Lib.hid hu
                have z1 : ((y.toNat : Int) == 1) = false := by
                  have : y.toNat ≠ 1 := fun h => hy1 (UInt8.toNat_inj.1 h)
                  simp; omega
                have z2 : ((y.toNat : Int) == 2) = false := by
                  have : y.toNat ≠ 2 := fun h => hy2 (UInt8.toNat_inj.1 h)
                  simp; omega
                have z3 : ((y.toNat : Int) == 3) = false := by
                  have : y.toNat ≠ 3 := fun h => hy3 (UInt8.toNat_inj.1 h)
                  simp; omega
                generalize y.toNat = yn at *
                clear hu hy1 hy2 hy3
                go_wp2
                obtain ⟨p1, p2⟩ := put3 HB.out (.string ⟨#[]⟩) (.string ⟨#[]⟩) (.int .i64 3)
                refine bodyPost_ret (results_sided rfl _ _ R _ (0, 0) rfl p1 rfl) rfl ?_
                exact duns_of HU.out ((H0.out.1.trans H.out.fr).step p2 fun y hy => .inr (by simp at hy; rw [hy, ← HRR.out]; exact Nat.le_refl _))
      · have hk' : (k == 1) = false := by simpa using hk
        have hu := H.out.bad HX.out.1 (.inl hk)
        have HU := Lib.hid hu
        clear hu hz
        go_wp2
        obtain ⟨p1, p2⟩ := put3 HB.out (.string ⟨#[]⟩) (.string ⟨#[]⟩) (.int .i64 3)
        refine bodyPost_ret (results_sided rfl _ _ R _ (0, 0) rfl p1 rfl) rfl ?_
        exact duns_of HU.out ((H0.out.1.trans H.out.fr).step p2 fun y hy => .inr (by simp at hy; rw [hy, ← HRR.out]; exact Nat.le_refl _))
    · have hk : gk = 0 := by omega
      have hd := H.out.done (by rw [← HN.out]; omega)
      have HU := Lib.hid hd
      have cv1 := run_conv wr Try.underlying23 Try.underlying5 Try.underlying9 rfl (cs_of_owns H.out.ownD)
      have cv2 := run_conv wr Try.underlying23 Try.underlying5 Try.underlying9 rfl (cs_of_owns H.out.ownM)
      clear hd hin
      go_wp2
      obtain ⟨p1, p2⟩ := put3 HB.out (.string (str D)) (.string (str M)) (.int .i64 0)
      refine bodyPost_ret (results_sided rfl _ _ R _ (0, 0) rfl p1 rfl) rfl ?_
      exact duns_of HU.out ((H0.out.1.trans H.out.fr).step p2 fun y hy => .inr (by simp at hy; rw [hy, ← HRR.out]; exact Nat.le_refl _))
end Go.Proofs.Yteldakjhnifbpaa.pkt
