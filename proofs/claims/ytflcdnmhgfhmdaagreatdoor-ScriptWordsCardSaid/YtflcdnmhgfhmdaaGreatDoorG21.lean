/-
  Texts of this proof, one behind the other: WorldP.
-/
import Derived.Test.YtflcdnmhgfhmdaaGreatDoorG20
set_option linter.unusedVariables false
set_option linter.unusedSimpArgs false
/-
  world.New: the loop.
-/
namespace Go.Proofs.YtflcdnmhgfhmdaaGreatDoor.wd
open Go Go.RowKit Go.Proofs.YtflcdnmhgfhmdaaGreatDoor.lib Go.Proofs.YtflcdnmhgfhmdaaGreatDoor.pk Go.Proofs.YtflcdnmhgfhmdaaGreatDoor.fs

set_option maxRecDepth 100000
theorem alloc3 (w : World) (A B C : Obj) : (((w.alloc A).alloc B).alloc C).heap[w.heap.size + 2]? = some C := by
  have h := alloc_at ((w.alloc A).alloc B) C
  have e : ((w.alloc A).alloc B).heap.size = w.heap.size + 2 := by simp
  rw [e] at h
  exact h
theorem alloc2 (w : World) (A B : Obj) : ((w.alloc A).alloc B).heap[w.heap.size + 1]? = some B := by
  have h := alloc_at (w.alloc A) B
  have e : (w.alloc A).heap.size = w.heap.size + 1 := by simp
  rw [e] at h
  exact h
theorem alloc4 (w : World) (A B C D : Obj) : ((((w.alloc A).alloc B).alloc C).alloc D).heap[w.heap.size + 3]? = some D := by
  have h := alloc_at (((w.alloc A).alloc B).alloc C) D
  have e : (((w.alloc A).alloc B).alloc C).heap.size = w.heap.size + 3 := by simp
  rw [e] at h
  exact h
theorem sty_node : SliceTy Tryz.prog 51 62 (.pointer none) 1 8 := SliceTy.of Tryz.underlying51 (by kernel_rfl) rfl (by decide)
def ptrs (l : List Nat) : List Value := l.map fun N => .pointer (some ⟨N, 0, none⟩)
def Away (W Q : Nat) (ao : Option Addr) (x : Nat) : Prop := x ≠ W ∧ x ≠ Q ∧ x ∉ blk ao
/-- A world of n nodes at rest. -/
structure WoB (w : World) (W Q : Nat) (now : Int) (n : Nat) (ao : Option Addr) (cp : Nat) (ns : List Nat) : Prop where
  box : w.heap[W]? = some (.cells #[.pointer (some ⟨Q, 0, none⟩), .slice ao n cp, .int .i64 now, .int .i64 1] 53 (0, 0))
  net : NetB w Q
  own : w.ownsRow 0 62 1 (.slice ao n cp) n (ptrs ns)
  len : ns.length = n
  off : W ∉ blk ao ∧ Q ∉ blk ao
  nodes : ∀ i N, ns[i]? = some N → NodeB w (Away W Q ao) i N
theorem WoB.fr0 {w w' : World} {W Q n cp : Nat} {now : Int} {ao : Option Addr} {ns : List Nat} (h : WoB w W Q now n ao cp ns) (f : Fr [] w w') : WoB w' W Q now n ao cp ns :=
  ⟨f.blk h.box (by simp), f.blk h.net (by simp), ownsRow_fr h.own f (by simp), h.len, h.off, fun i N hN => (h.nodes i N hN).fr0 f⟩
theorem WoB.grow {w wX w4 : World} {W Q n cp cp2 N : Nat} {now : Int} {ao ao2 : Option Addr} {ns : List Nat} (h : WoB w W Q now n ao cp ns) (f : Fr [] w wX) (hN : NodeB wX (fun x => w.heap.size ≤ x) n N)
    (hap : Appended wX w4 62 1 (blk ao) ao2 (n + 1) cp2 (ptrs ns ++ [.pointer (some ⟨N, 0, none⟩)])) : WoB (w4.setCell ⟨W, 1, none⟩ (.slice ao2 (n + 1) cp2)) W Q now (n + 1) ao2 cp2 (ns ++ [N]) := by
  have hx := h.fr0 f
  have hWl := lt_of_block h.box
  have hQl := lt_of_block h.net
  have fw : Fr [W] w4 (w4.setCell ⟨W, 1, none⟩ (.slice ao2 (n + 1) cp2)) := (Fr.refl [W] w4).setCell (.inl (by simp)) _
  have hsz := f.size
  have hlt : ∀ x ∈ blk ao, x < w.heap.size := fun x k => owns_lt h.own (blk_own k)
  have hn2 : ∀ x, x < w.heap.size → x ∉ blk ao → x ∉ blk ao2 := by
    intro x h1 h2 h3
    rcases hap.at_ x h3 with h4 | h4
    · exact h2 h4
    · omega
  have hWQ : W ≠ Q := by
    intro e
    have h1 := h.box
    have h2 := h.net
    unfold NetB at h2
    rw [e, h2] at h1
    simp at h1
  refine ⟨setCell_of (hap.fr.blk hx.box h.off.1) _, fw.blk (hap.fr.blk hx.net h.off.2) (by simpa using fun e => hWQ e.symm), ?_, ?_, ⟨hn2 _ hWl h.off.1, hn2 _ hQl h.off.2⟩, ?_⟩
  · have := ownsRow_fr hap.own fw (fun k hk hm => by
      have e : k = W := by simpa using hm
      subst e
      exact hn2 _ hWl h.off.1 (by rw [← own_blk ao2 (n + 1) cp2, hk]; simp))
    simpa [ptrs] using this
  · simp [h.len]
  · intro i M hM
    by_cases hi : i < ns.length
    · rw [List.getElem?_append_left hi] at hM
      have k := (hx.nodes i M hM)
      have k0 := h.nodes i M hM
      have k1 : NodeB w (fun x => Away W Q ao x ∧ x < w.heap.size) i M := k0.mono (fun x a b => ⟨a, b⟩)
      have k2 := ((k1.fr0 f).fr hap.fr (fun x hm hA => hA.1.2.2 hm)).fr fw (fun x hm hA => hA.1.1 (by simpa using hm))
      exact k2.mono (fun x hA _ => ⟨hA.1.1, hA.1.2.1, hn2 x hA.2 hA.1.2.2⟩)
    · have hi2 : i = ns.length := by
        rcases Nat.lt_or_ge i (ns ++ [N]).length with h1 | h1
        · simp at h1; omega
        · rw [List.getElem?_eq_none h1] at hM; cases hM
      subst hi2
      have e : N = M := by simpa using hM
      subst e
      rw [h.len]
      have k1 : NodeB wX (fun x => w.heap.size ≤ x ∧ x < wX.heap.size) n N := hN.mono (fun x a b => ⟨a, b⟩)
      have k2 := (k1.fr hap.fr (fun x hm hA => by have := hlt x hm; omega)).fr fw (fun x hm hA => by have : x = W := by simpa using hm
                                                                                                     omega)
      refine k2.mono (fun x hA _ => ⟨by omega, by omega, fun hm => ?_⟩)
      rcases hap.at_ x hm with h4 | h4
      · have := hlt x h4; omega
      · omega
set_option maxHeartbeats 8000000 in
theorem world_new (m : Int) (w : World) (hm : w.cell? ⟨0, 0, none⟩ = some (.int .i64 m)) : Calls Tryz.prog 7 #[.int .i64 3, .int .i64 1048576, .bool true] w fun e w' => ∃ W Q ao cp ns, e = .returned (.tuple #[.pointer (some ⟨W, 0, none⟩), .int .i64 0]) ∧ WoB w' W Q 0 4 ao cp ns ∧ Fr [] w w' ∧ w.heap.size ≤ W := by
  go_enter Tryz.func7, Tryz.ntmps7
  go_wp2_with (first
    | (go_at_call 26; refine (net_new _).mono ?_; rintro e w1 ⟨Q, rfl, hQ, hQw, f1⟩; have hW := f1.blk (alloc_at w _) (by simp); have c0 := (cell_of hW 0).trans (show _ = some (Value.pointer none) from rfl); have z0 := frozen_of hW 0; have H1 := Lib.hid (And.intro hW (And.intro hQ (And.intro hQw f1))); clear hQ hQw f1 hW))
  obtain ⟨W, hWd⟩ : ∃ W, W = w.heap.size := ⟨_, rfl⟩
  rw [← hWd]
  go_loopg [31] 4 (fun k s31 wr => ∃ (i : Nat) (ao : Option Addr) (cp : Nat) (ns : List Nat), s31 = .int .i64 (i : Nat) ∧ i + k = 4 ∧ WoB wr W Q 0 i ao cp ns ∧ (∀ x ∈ blk ao, w.heap.size ≤ x) ∧ Fr [] w wr)
  case atStart =>
    obtain ⟨hW, hQ, hQw, f1⟩ := H1.out
    rw [← hWd] at hW
    have hs : w.heap.size + 1 ≤ Q := by simpa using hQw
    refine ⟨0, none, 0, [], rfl, rfl, ⟨setCell_of hW _, ?_, World.ownsRow_nil _ _ _ _, rfl, by simp [blk], by simp⟩, by simp [blk], ?_⟩
    · unfold NetB
      rw [setCell_other (by omega)]
      exact hQ
    · exact (((Fr.refl [] w).alloc _).trans f1).setCell (.inr (by show _ ≤ W; omega)) _
  case round =>
    obtain ⟨i, ao, cp, ns, rfl, hik, hWo, hnew, fr⟩ := hrel
    have HI := Lib.hid (And.intro hWo (And.intro fr hnew))
    clear hWo fr hnew
    have HM := Lib.hid hm
    have HD := Lib.hid hWd
    clear hWd hm
    by_cases hi : i < 4
    · obtain ⟨k, rfl⟩ : ∃ k, gk = k + 1 := ⟨gk - 1, by omega⟩
      by_cases h0 : i < 1
      · go_wp2_with (first
          | (go_at_call 27; refine (made_any m _ (HI.out.2.1.cell HM.out (by simp))).mono ?_; rintro e w2 ⟨F, rfl, f2, hF, hRo⟩; have H2 := Lib.hid (And.intro f2 (And.intro hF hRo)); clear f2 hF hRo)
          | (go_at_call 28; refine H2.out.2.2.mono ?_; rintro e w3 ⟨r, rfl, hd, f3⟩; have hWb := f3.blk HI.out.1.box (by simp); have c1 := (cell_of hWb 1).trans (show _ = some (Value.slice ao i cp) from rfl); have hn1 : ¬ W = w3.heap.size := (by have := lt_of_block hWb; omega); have hn2 : ¬ W = w3.heap.size + 1 := (by have := lt_of_block hWb; omega); have hl1 : W < w3.heap.size := lt_of_block hWb; have hn3 : ¬ W = w3.heap.size + 2 := (by omega); have hl2 : W < w3.heap.size + 1 := (by omega); have hl3 : W < w3.heap.size + 2 := (by omega); have H3 := Lib.hid (And.intro hd f3); clear hd f3 hWb)
          | (refine wpList_append sty_node rfl _ _ rfl (.slice ao i cp) i (ptrs ns) (blk ao) rfl (own_blk ao i cp) ((HI.out.1.fr0 (((((H3.out.2).alloc _).alloc _).alloc _).alloc _)).own) (some ⟨w3.heap.size + 3, 0, none⟩) 1 1 [.pointer (some ⟨w3.heap.size + 1, 0, none⟩)] (by first | rfl | simp) (Nat.le_refl _) (fun h => by cases h) (cs_one _ _ _ _ (alloc4 _ _ _ _ _)) rfl (by intro u hu; simp only [List.mem_singleton] at hu; rw [hu]; rfl) (by omega) (by unfold maxLen; omega) ?_; intro ao2 cp2 w4 hap; have hWb := hap.fr.blk (HI.out.1.fr0 (((((H3.out.2).alloc _).alloc _).alloc _).alloc _)).box HI.out.1.off.1; have d1 := (cell_of hWb 1).trans (show _ = some (Value.slice ao i cp) from rfl); have z1 := frozen_of hWb 1; have H4 := Lib.hid hap; clear hap hWb))
        go_roundg k
        case measure => omega
        case rel =>
          obtain ⟨hd, f3⟩ := H3.out
          have hF := H2.out.2.1
          have hsz := HI.out.2.1.size
          have hsz3 := f3.size
          have f4 := (((((Fr.refl [] w3).alloc (.cells #[.pointer none, .pointer none, .int .i64 0, .int .i64 0, .int .i64 0] 67)).alloc (.cells #[.int .i64 (i : Nat), .pointer (some ⟨F, 0, none⟩), .pointer (some ⟨r, 0, none⟩), .iface 73 (.pointer (some ⟨w3.heap.size + 1 + 1, 0, none⟩)), .slice none 0 0] 72)).alloc (.cells #[.bool true] 75)).alloc (.cells #[.pointer (some ⟨w3.heap.size + 1, 0, none⟩)] 62))
          refine ⟨i + 1, ao2, cp2, ns ++ [w3.heap.size + 1], by go_num, by omega, HI.out.1.grow (f3.trans f4) ⟨F, r, w3.heap.size + 1 + 1, ?_, f4.cell hd (by simp), fun h => absurd h (by omega), by omega, hF⟩ H4.out, ?_, ?_⟩
          · rw [show partT i = 73 by unfold partT; rw [if_pos (by omega)]]
            exact alloc_old _ (alloc_old _ (alloc2 _ _ _))
          · intro x hx
            rcases H4.out.at_ x hx with h | h
            · exact HI.out.2.2 x h
            · have := f4.size
              omega
          · exact ((HI.out.2.1.trans (f3.trans f4)).step H4.out.fr (fun x hx => .inr (HI.out.2.2 x hx))).setCell (.inr (by show _ ≤ W; have := HD.out; omega)) _
      · go_wp2_with (first
          | (go_at_call 27; refine (made_any m _ (HI.out.2.1.cell HM.out (by simp))).mono ?_; rintro e w2 ⟨F, rfl, f2, hF, hRo⟩; have H2 := Lib.hid (And.intro f2 (And.intro hF hRo)); clear f2 hF hRo)
          | (go_at_call 28; refine H2.out.2.2.mono ?_; rintro e w3 ⟨r, rfl, hd, f3⟩; have hWb := f3.blk HI.out.1.box (by simp); have c1 := (cell_of hWb 1).trans (show _ = some (Value.slice ao i cp) from rfl); have hn1 : ¬ W = w3.heap.size := (by have := lt_of_block hWb; omega); have hn2 : ¬ W = w3.heap.size + 1 := (by have := lt_of_block hWb; omega); have hl1 : W < w3.heap.size := lt_of_block hWb; have hl2 : W < w3.heap.size + 1 := (by omega); have hl3 : W < w3.heap.size + 2 := (by omega); have H3 := Lib.hid (And.intro hd f3); clear hd f3 hWb)
          | (refine wpList_append sty_node rfl _ _ rfl (.slice ao i cp) i (ptrs ns) (blk ao) rfl (own_blk ao i cp) ((HI.out.1.fr0 ((((H3.out.2).alloc _).alloc _).alloc _)).own) (some ⟨w3.heap.size + 2, 0, none⟩) 1 1 [.pointer (some ⟨w3.heap.size + 1, 0, none⟩)] (by first | rfl | simp) (Nat.le_refl _) (fun h => by cases h) (cs_one _ _ _ _ (alloc3 _ _ _ _)) rfl (by intro u hu; simp only [List.mem_singleton] at hu; rw [hu]; rfl) (by omega) (by unfold maxLen; omega) ?_; intro ao2 cp2 w4 hap; have hWb := hap.fr.blk (HI.out.1.fr0 ((((H3.out.2).alloc _).alloc _).alloc _)).box HI.out.1.off.1; have d1 := (cell_of hWb 1).trans (show _ = some (Value.slice ao i cp) from rfl); have z1 := frozen_of hWb 1; have H4 := Lib.hid hap; clear hap hWb))
        go_roundg k
        case measure => omega
        case rel =>
          obtain ⟨hd, f3⟩ := H3.out
          have hF := H2.out.2.1
          have hsz := HI.out.2.1.size
          have hsz3 := f3.size
          have eT : partT i = 63 := by unfold partT; rw [if_neg (by omega)]
          have f4 := ((((Fr.refl [] w3).alloc (.cells #[.pointer none, .pointer none, .int .i64 0, .int .i64 0, .int .i64 0] 67)).alloc (.cells #[.int .i64 (i : Nat), .pointer (some ⟨F, 0, none⟩), .pointer (some ⟨r, 0, none⟩), .iface 63 (.pointer (some ⟨w3.heap.size, 0, none⟩)), .slice none 0 0] 72)).alloc (.cells #[.pointer (some ⟨w3.heap.size + 1, 0, none⟩)] 62))
          refine ⟨i + 1, ao2, cp2, ns ++ [w3.heap.size + 1], by go_num, by omega, HI.out.1.grow (f3.trans f4) ⟨F, r, w3.heap.size, ?_, f4.cell hd (by simp), fun _ => ⟨?_, hsz3⟩, by omega, hF⟩ H4.out, ?_, ?_⟩
          · rw [eT]
            exact alloc_old _ (alloc2 _ _ _)
          · exact alloc_old _ (alloc_old _ (alloc_at _ _))
          · intro x hx
            rcases H4.out.at_ x hx with h | h
            · exact HI.out.2.2 x h
            · have := f4.size
              omega
          · exact ((HI.out.2.1.trans (f3.trans f4)).step H4.out.fr (fun x hx => .inr (HI.out.2.2 x hx))).setCell (.inr (by show _ ≤ W; have := HD.out; omega)) _
    · have h4 : i = 4 := by omega
      subst h4
      go_wp2
      go_ret2
      exact ⟨W, Q, ao, cp, ns, rfl, HI.out.1, HI.out.2.1, Nat.le_of_eq HD.out.symm⟩
end Go.Proofs.YtflcdnmhgfhmdaaGreatDoor.wd
