/-
  Texts of this proof, one behind the other: WorldT, WorldS, WorldU, Scope.
-/
import Derived.Test.YtflcdnmhgfhmdaaGreatDoorG1
import Derived.Test.YtflcdnmhgfhmdaaGreatDoorG20
import Derived.Test.YtflcdnmhgfhmdaaGreatDoorG21
import Derived.ScopeJumps
set_option linter.unusedVariables false
set_option linter.unusedSimpArgs false
/-
  A tick of a node at rest.
-/
namespace Go.Proofs.YtflcdnmhgfhmdaaGreatDoor.wd
open Go Go.RowKit Go.Proofs.YtflcdnmhgfhmdaaGreatDoor.lib Go.Proofs.YtflcdnmhgfhmdaaGreatDoor.pk Go.Proofs.YtflcdnmhgfhmdaaGreatDoor.fs

set_option maxRecDepth 100000
theorem dead_cell (w : World) (F : Nat) (h : w.cell? ⟨F, 5, none⟩ = some (.bool false)) : Calls Tryz.prog 37 #[.pointer (some ⟨F, 0, none⟩)] w fun e w' => e = .returned (.bool false) ∧ w' = w := by
  go_enter Tryz.func37, Tryz.ntmps37
  go_wp2
  go_ret
  exact ⟨rfl, rfl⟩
theorem off_any {A : Nat → Prop} {i N : Nat} {w : World} (h : NodeB w A i N) : Calls Tryz.prog 34 #[.pointer (some ⟨N, 0, none⟩)] w fun e w' => e = .returned (.bool false) ∧ w' = w := by
  obtain ⟨F, r, P, h1, h2, h3, h4, h5⟩ := h
  have c1 := (cell_of h1 1).trans (show _ = some (Value.pointer (some ⟨F, 0, none⟩)) from rfl)
  have c2 := (cell_of h1 2).trans (show _ = some (Value.pointer (some ⟨r, 0, none⟩)) from rfl)
  have H := Lib.hid h2
  clear h1 h2 h3 h4 h5
  go_enter Tryz.func34, Tryz.ntmps34
  go_wp2_with (go_at_call 37; refine (dead_cell _ F H.out).mono ?_; rintro e w' ⟨rfl, rfl⟩)
  go_ret
  exact ⟨rfl, rfl⟩
theorem send_any {A : Nat → Prop} {i N W : Nat} {w : World} (h : NodeB w A i N) : Calls Tryz.prog 49 #[.pointer (some ⟨W, 0, none⟩), .pointer (some ⟨N, 0, none⟩)] w fun e w' => e = .returned (.tuple #[]) ∧ w' = w := by
  have ho := off_any h
  obtain ⟨F, r, P, h1, h2, h3, h4, h5⟩ := h
  have c4 := (cell_of h1 4).trans (show _ = some (Value.slice none 0 0) from rfl)
  have H := Lib.hid ho
  clear h1 h2 h3 h4 h5 ho
  go_enter Tryz.func49, Tryz.ntmps49
  go_wp2_with (go_at_call 34; refine H.out.mono ?_; rintro e w' ⟨rfl, rfl⟩)
  go_loopg [15] 0 (fun k s15 wr => s15 = .int .i64 0 ∧ wr = w')
  case atStart => exact ⟨rfl, rfl⟩
  case round =>
    obtain ⟨rfl, rfl⟩ := hrel
    go_wp2
    exact bodyPost_end (results_none rfl _ _ _) rfl ⟨rfl, rfl⟩
theorem index_nil (w : World) (v : Value) : Calls Tryz.prog 232 #[.slice none 0 0, v] w fun e w' => e = .returned (.int .i64 (-1)) ∧ w' = w := by
  go_enter Tryz.func232, Tryz.ntmps232
  go_wp2
  go_loopg [8] 0 (fun k s8 wr => s8 = .int .i64 0 ∧ wr = w)
  case atStart => exact ⟨rfl, rfl⟩
  case round =>
    obtain ⟨rfl, rfl⟩ := hrel
    go_wp2
    go_ret
    exact ⟨rfl, rfl⟩
theorem delete_nil (w : World) (v : Value) : Calls Tryz.prog 149 #[.slice none 0 0, v] w fun e w' => e = .returned (.slice none 0 0) ∧ w' = w := by
  go_enter Tryz.func149, Tryz.ntmps149
  go_wp2_with (go_at_call 232; refine (index_nil _ _).mono ?_; rintro e w' ⟨rfl, rfl⟩)
  go_ret
  exact ⟨rfl, rfl⟩
theorem is_ask (P : Nat) (w : World) : (Instr.typeAssert (.iface 63 (.pointer (some ⟨P, 0, none⟩))) 69 63 true).run Tryz.prog w = .ok (.tuple #[.pointer (some ⟨P, 0, none⟩), .bool true]) w := by kernel_rfl
theorem is_serve (P : Nat) (w : World) : (Instr.typeAssert (.iface 73 (.pointer (some ⟨P, 0, none⟩))) 69 63 true).run Tryz.prog w = .ok (.tuple #[.pointer none, .bool false]) w := by kernel_rfl
/-- A store of what stands there. -/
theorem same_cell {w : World} {b o : Nat} {c : Array Value} {t : TypeId} {f : Nat × Nat} {v : Value} (h : w.heap[b]? = some (.cells c t f)) (hv : c.setIfInBounds o v = c) : Fr [] w (w.setCell ⟨b, o, none⟩ v) := by
  have k := (Fr.refl [b] w).setCell (p := ⟨b, o, none⟩) (.inl (by simp)) v
  refine ⟨k.os, k.tape, k.output, k.size, fun j hj _ => ?_⟩
  by_cases e : j = b
  · subst e
    rw [setCell_of h, hv, h]
  · exact setCell_other e v
theorem settle_any {A : Nat → Prop} {i N W : Nat} {w : World} (h : NodeB w A i N) : Calls Tryz.prog 93 #[.pointer (some ⟨W, 0, none⟩), .pointer (some ⟨N, 0, none⟩)] w fun e w' => e = .returned (.tuple #[]) ∧ Fr [] w w' := by
  obtain ⟨F, r, P, h1, h2, h3, h4, h5⟩ := h
  have c4 := (cell_of h1 4).trans (show _ = some (Value.slice none 0 0) from rfl)
  have z4 := frozen_of h1 4
  have H := Lib.hid h1
  by_cases hi : i = 0
  · have eT : partT i = 73 := by unfold partT; rw [if_pos hi]
    have c3 := (cell_of h1 3).trans (show _ = some (Value.iface 73 (.pointer (some ⟨P, 0, none⟩))) by rw [eT]; rfl)
    have hta := is_serve P
    clear h1 h2 h3 h4 h5 hi eT
    go_enter Tryz.func93, Tryz.ntmps93
    go_wp2_with (go_at_call 149; refine (delete_nil _ _).mono ?_; rintro e w' ⟨rfl, rfl⟩)
    go_loopg [63] 0 (fun k s63 wr => s63 = .int .i64 0 ∧ wr = w)
    case atStart => exact ⟨rfl, rfl⟩
    case round =>
      obtain ⟨rfl, rfl⟩ := hrel
      go_wp2_with (go_at_call 149; refine (delete_nil _ _).mono ?_; rintro e w' ⟨rfl, rfl⟩)
      exact bodyPost_end (results_none rfl _ _ _) rfl ⟨rfl, same_cell H.out rfl⟩
  · have eT : partT i = 63 := by unfold partT; rw [if_neg hi]
    have c3 := (cell_of h1 3).trans (show _ = some (Value.iface 63 (.pointer (some ⟨P, 0, none⟩))) by rw [eT]; rfl)
    have p0 := (cell_of (h3 hi).1 0).trans (show _ = some (Value.pointer none) from rfl)
    have hta := is_ask P
    clear h1 h2 h3 h4 h5 hi eT
    go_enter Tryz.func93, Tryz.ntmps93
    go_wp2_with (go_at_call 149; refine (delete_nil _ _).mono ?_; rintro e w' ⟨rfl, rfl⟩)
    go_loopg [63] 0 (fun k s63 wr => s63 = .int .i64 0 ∧ wr = w)
    case atStart => exact ⟨rfl, rfl⟩
    case round =>
      obtain ⟨rfl, rfl⟩ := hrel
      go_wp2_with (go_at_call 149; refine (delete_nil _ _).mono ?_; rintro e w' ⟨rfl, rfl⟩)
      exact bodyPost_end (results_none rfl _ _ _) rfl ⟨rfl, same_cell H.out rfl⟩
theorem tick_any {A : Nat → Prop} {i N W : Nat} {w : World} (h : NodeB w A i N) : Calls Tryz.prog 48 #[.pointer (some ⟨W, 0, none⟩), .pointer (some ⟨N, 0, none⟩)] w fun e w' => e = .returned (.tuple #[]) ∧ Fr [] w w' := by
  have H := Lib.hid h
  obtain ⟨F, r, P, h1, h2, h3, h4, h5⟩ := h
  by_cases hi : i = 0
  · have eT : partT i = 73 := by unfold partT; rw [if_pos hi]
    have c3 := (cell_of h1 3).trans (show _ = some (Value.iface 73 (.pointer (some ⟨P, 0, none⟩))) by rw [eT]; rfl)
    have hta := is_serve P
    clear h1 h2 h3 h4 h5 hi eT
    go_enter Tryz.func48, Tryz.ntmps48
    go_wp2
    go_region
    go_wp2_with (first
      | (go_at_call 93; refine (settle_any (H.out.fr0 (by first | exact Fr.drewN [] _ _ | exact Fr.drew1 [] _ | exact Fr.refl [] _))).mono ?_; rintro e w' ⟨rfl, f1⟩)
      | (go_at_call 49; refine (send_any ((H.out.fr0 (by first | exact Fr.drewN [] _ _ | exact Fr.drew1 [] _ | exact Fr.refl [] _)).fr0 f1)).mono ?_; rintro e w'' ⟨rfl, rfl⟩))
    exact bodyPost_end (results_none rfl _ _ _) rfl ⟨rfl, Fr.trans (by first | exact Fr.drewN [] _ _ | exact Fr.drew1 [] _ | exact Fr.refl [] _) f1⟩
  · have eT : partT i = 63 := by unfold partT; rw [if_neg hi]
    have c3 := (cell_of h1 3).trans (show _ = some (Value.iface 63 (.pointer (some ⟨P, 0, none⟩))) by rw [eT]; rfl)
    have p0 := (cell_of (h3 hi).1 0).trans (show _ = some (Value.pointer none) from rfl)
    have hta := is_ask P
    clear h1 h2 h3 h4 h5 hi eT
    go_enter Tryz.func48, Tryz.ntmps48
    go_wp2
    go_region
    go_wp2_with (first
      | (go_at_call 93; refine (settle_any (H.out.fr0 (by first | exact Fr.drewN [] _ _ | exact Fr.drew1 [] _ | exact Fr.refl [] _))).mono ?_; rintro e w' ⟨rfl, f1⟩)
      | (go_at_call 49; refine (send_any ((H.out.fr0 (by first | exact Fr.drewN [] _ _ | exact Fr.drew1 [] _ | exact Fr.refl [] _)).fr0 f1)).mono ?_; rintro e w'' ⟨rfl, rfl⟩))
    exact bodyPost_end (results_none rfl _ _ _) rfl ⟨rfl, Fr.trans (by first | exact Fr.drewN [] _ _ | exact Fr.drew1 [] _ | exact Fr.refl [] _) f1⟩
end Go.Proofs.YtflcdnmhgfhmdaaGreatDoor.wd
/-
  A world's step: a tick; a datagram that is not there.
-/
namespace Go.Proofs.YtflcdnmhgfhmdaaGreatDoor.wd
open Go Go.RowKit Go.Proofs.YtflcdnmhgfhmdaaGreatDoor.lib Go.Proofs.YtflcdnmhgfhmdaaGreatDoor.pk Go.Proofs.YtflcdnmhgfhmdaaGreatDoor.fs

set_option maxRecDepth 100000
theorem WoB.now {w : World} {W Q n cp : Nat} {now : Int} {ao : Option Addr} {ns : List Nat} (h : WoB w W Q now n ao cp ns) (k : Int) : WoB (w.setCell ⟨W, 2, none⟩ (.int .i64 k)) W Q k n ao cp ns := by
  have fw : Fr [W] w (w.setCell ⟨W, 2, none⟩ (.int .i64 k)) := (Fr.refl [W] w).setCell (.inl (by simp)) _
  have hWQ : W ≠ Q := by
    intro e
    have h1 := h.box
    have h2 := h.net
    unfold NetB at h2
    rw [e, h2] at h1
    simp at h1
  exact ⟨setCell_of h.box _, fw.blk h.net (by simpa using fun e => hWQ e.symm), ownsRow_fr h.own fw (fun x hx hm => by
      have e : x = W := by simpa using hm
      subst e
      exact h.off.1 (by rw [← own_blk ao n cp, hx]; simp)), h.len, h.off, fun i N hN => (h.nodes i N hN).fr fw (fun x hm hA => hA.1 (by simpa using hm))⟩
set_option maxHeartbeats 4000000 in
theorem step_tick {w : World} {W Q n cp : Nat} {now : Int} {ao : Option Addr} {ns : List Nat} (h : WoB w W Q now n ao cp ns) (hn : 0 ≤ now ∧ now < 1000000) (hn9 : n ≤ 9) (v : Int) : Calls Tryz.prog 16 #[.pointer (some ⟨W, 0, none⟩), .int .i64 4, .int .i64 v] w fun e w' => e = .returned (.int .i64 0) ∧ WoB w' W Q (now + 1) n ao cp ns ∧ Fr [W] w w' := by
  have c1 := (cell_of h.box 1).trans (show _ = some (Value.slice ao n cp) from rfl)
  have c2 := (cell_of h.box 2).trans (show _ = some (Value.int .i64 now) from rfl)
  have z2 := frozen_of h.box 2
  have H := Lib.hid h
  clear h
  go_enter Tryz.func16, Tryz.ntmps16
  go_wp2
  go_loopg [79] n (fun k s79 wr => ∃ j : Nat, s79 = .int .i64 (j : Nat) ∧ j + k = n ∧ WoB wr W Q (now + 1) n ao cp ns ∧ Fr [W] w wr)
  case atStart => exact ⟨0, rfl, by omega, H.out.now (now + 1), (Fr.refl [W] w).setCell (.inl (by simp)) _⟩
  case round =>
    obtain ⟨j, rfl, hj, hw, f⟩ := hrel
    by_cases hjn : j < n
    · obtain ⟨k, rfl⟩ : ∃ k, gk = k + 1 := ⟨gk - 1, by omega⟩
      have hl := hw.len
      obtain ⟨N, hN⟩ : ∃ N, ns[j]? = some N := ⟨ns[j], List.getElem?_eq_getElem (by omega)⟩
      have hnode := hw.nodes j N hN
      obtain ⟨g, o, rfl, hc⟩ := (cs_of_owns hw.own).at (by unfold ptrs; rw [List.length_map]; omega)
      have d := hc j _ (by unfold ptrs; rw [List.getElem?_map, hN]; rfl)
      have HT := Lib.hid (And.intro hw (And.intro f hnode))
      clear hw f hnode hc hl
      go_wp2_with (go_at_call 48; refine (tick_any HT.out.2.2).mono ?_; rintro e w' ⟨rfl, f1⟩)
      go_roundg k
      case measure => omega
      case rel => exact ⟨j + 1, by have := hn9; go_num, by omega, HT.out.1.fr0 f1, HT.out.2.1.trans (f1.mono (by simp))⟩
    · have e : gk = 0 := by omega
      subst e
      go_wp2
      go_ret
      exact ⟨rfl, hw, f⟩
theorem results_four {fn : Func} {t u v x : Tmp} (h : fn.results = #[.tmp t, .tmp u, .tmp v, .tmp x]) (tmps : Array Value) (P : Program) (w : World) :
    (results fn tmps).run P w = .ok (.tuple #[tmps.getD t undef, tmps.getD u undef, tmps.getD v undef, tmps.getD x undef]) w := by
  simp [results, h]
theorem at_none {w : World} {Q : Nat} (h : NetB w Q) (i : Int) (hi : 0 ≤ i ∧ i < 1000) : Calls Tryz.prog 82 #[.pointer (some ⟨Q, 0, none⟩), .int .i64 i] w fun e w' => e = .returned (.tuple #[.int .i64 0, .int .i64 0, .slice none 0 0, .bool false]) ∧ w' = w := by
  have c2 := (cell_of h 2).trans (show _ = some (Value.slice none 0 0) from rfl)
  clear h
  go_enter Tryz.func82, Tryz.ntmps82
  go_wp2
  refine bodyPost_ret (results_four rfl _ _ _) rfl ?_
  exact ⟨rfl, rfl⟩
theorem take_none {w : World} {Q : Nat} (h : NetB w Q) (i : Int) (hi : 0 ≤ i ∧ i < 1000) : Calls Tryz.prog 43 #[.pointer (some ⟨Q, 0, none⟩), .int .i64 i] w fun e w' => e = .returned (.tuple #[.int .i64 0, .int .i64 0, .slice none 0 0, .bool false]) ∧ w' = w := by
  have H := Lib.hid h
  clear h
  go_enter Tryz.func43, Tryz.ntmps43
  go_wp2_with (go_at_call 82; refine (at_none H.out _ hi).mono ?_; rintro e w' ⟨rfl, rfl⟩)
  refine bodyPost_ret (results_four rfl _ _ _) rfl ?_
  exact ⟨rfl, rfl⟩
/-- A step that asks for a datagram that is not there. -/
theorem step_none {w : World} {W Q n cp : Nat} {now : Int} {ao : Option Addr} {ns : List Nat} (h : WoB w W Q now n ao cp ns) (k i : Int) (hk : k = 1 ∨ k = 2) (hi : 0 ≤ i ∧ i < 1000) : Calls Tryz.prog 16 #[.pointer (some ⟨W, 0, none⟩), .int .i64 k, .int .i64 i] w fun e w' => e = .returned (.int .i64 1) ∧ w' = w := by
  have c0 := (cell_of h.box 0).trans (show _ = some (Value.pointer (some ⟨Q, 0, none⟩)) from rfl)
  have H := Lib.hid h.net
  clear h
  rcases hk with rfl | rfl
  · go_enter Tryz.func16, Tryz.ntmps16
    go_wp2_with (go_at_call 43; refine (take_none H.out _ hi).mono ?_; rintro e w' ⟨rfl, rfl⟩)
    go_ret
    exact ⟨rfl, rfl⟩
  · go_enter Tryz.func16, Tryz.ntmps16
    go_wp2_with (go_at_call 43; refine (take_none H.out _ hi).mono ?_; rintro e w' ⟨rfl, rfl⟩)
    go_ret
    exact ⟨rfl, rfl⟩
/-- The three that only look. -/
theorem now_any {w : World} {W Q n cp : Nat} {now : Int} {ao : Option Addr} {ns : List Nat} (h : WoB w W Q now n ao cp ns) : Calls Tryz.prog 19 #[.pointer (some ⟨W, 0, none⟩)] w fun e w' => e = .returned (.int .i64 now) ∧ w' = w := by
  have c2 := (cell_of h.box 2).trans (show _ = some (Value.int .i64 now) from rfl)
  clear h
  go_enter Tryz.func19, Tryz.ntmps19
  go_wp2
  go_ret
  exact ⟨rfl, rfl⟩
theorem len_none {w : World} {Q : Nat} (h : NetB w Q) : Calls Tryz.prog 46 #[.pointer (some ⟨Q, 0, none⟩)] w fun e w' => e = .returned (.int .i64 0) ∧ w' = w := by
  have c2 := (cell_of h 2).trans (show _ = some (Value.slice none 0 0) from rfl)
  clear h
  go_enter Tryz.func46, Tryz.ntmps46
  go_wp2
  go_ret
  exact ⟨rfl, rfl⟩
theorem way_any {w : World} {W Q n cp : Nat} {now : Int} {ao : Option Addr} {ns : List Nat} (h : WoB w W Q now n ao cp ns) : Calls Tryz.prog 18 #[.pointer (some ⟨W, 0, none⟩)] w fun e w' => e = .returned (.int .i64 0) ∧ w' = w := by
  have c0 := (cell_of h.box 0).trans (show _ = some (Value.pointer (some ⟨Q, 0, none⟩)) from rfl)
  have H := Lib.hid h.net
  clear h
  go_enter Tryz.func18, Tryz.ntmps18
  go_wp2_with (go_at_call 46; refine (len_none H.out).mono ?_; rintro e w' ⟨rfl, rfl⟩)
  go_ret
  exact ⟨rfl, rfl⟩
/-- A node that is not there. -/
theorem node_none {w : World} {W Q n cp : Nat} {now : Int} {ao : Option Addr} {ns : List Nat} (h : WoB w W Q now n ao cp ns) (i : Int) (hi : (n : Int) ≤ i ∧ i < 1000) : Calls Tryz.prog 44 #[.pointer (some ⟨W, 0, none⟩), .int .i64 i] w fun e w' => e = .returned (.pointer none) ∧ w' = w := by
  have c1 := (cell_of h.box 1).trans (show _ = some (Value.slice ao n cp) from rfl)
  clear h
  go_enter Tryz.func44, Tryz.ntmps44
  go_wp2
  go_ret
  exact ⟨rfl, rfl⟩
end Go.Proofs.YtflcdnmhgfhmdaaGreatDoor.wd
/-
  A world's State and Repo; script.New.
-/
namespace Go.Proofs.YtflcdnmhgfhmdaaGreatDoor.wd
open Go Go.RowKit Go.Proofs.YtflcdnmhgfhmdaaGreatDoor.lib Go.Proofs.YtflcdnmhgfhmdaaGreatDoor.pk Go.Proofs.YtflcdnmhgfhmdaaGreatDoor.fs

set_option maxRecDepth 100000
theorem repo_none {w : World} {W Q n cp : Nat} {now : Int} {ao : Option Addr} {ns : List Nat} (h : WoB w W Q now n ao cp ns) (i : Int) (hi : (n : Int) ≤ i ∧ i < 1000) : Calls Tryz.prog 55 #[.pointer (some ⟨W, 0, none⟩), .int .i64 i] w fun e w' => e = .returned (.pointer none) ∧ w' = w := by
  have H := Lib.hid h
  clear h
  go_enter Tryz.func55, Tryz.ntmps55
  go_wp2_with (go_at_call 44; refine (node_none H.out _ hi).mono ?_; rintro e w' ⟨rfl, rfl⟩)
  go_ret
  exact ⟨rfl, rfl⟩
theorem asker_none {w : World} {W Q n cp : Nat} {now : Int} {ao : Option Addr} {ns : List Nat} (h : WoB w W Q now n ao cp ns) (i : Int) (hi : (n : Int) ≤ i ∧ i < 1000) : Calls Tryz.prog 33 #[.pointer (some ⟨W, 0, none⟩), .int .i64 i] w fun e w' => e = .returned (.tuple #[.pointer none, .pointer none]) ∧ w' = w := by
  have H := Lib.hid h
  clear h
  go_enter Tryz.func33, Tryz.ntmps33
  go_wp2_with (go_at_call 44; refine (node_none H.out _ hi).mono ?_; rintro e w' ⟨rfl, rfl⟩)
  go_ret2
  exact ⟨rfl, rfl⟩
theorem state_none {w : World} {W Q n cp : Nat} {now : Int} {ao : Option Addr} {ns : List Nat} (h : WoB w W Q now n ao cp ns) (i : Int) (hi : (n : Int) ≤ i ∧ i < 1000) : Calls Tryz.prog 54 #[.pointer (some ⟨W, 0, none⟩), .int .i64 i] w fun e w' => e = .returned (.tuple #[.bool false, .int .i64 0, .int .i64 1]) ∧ w' = w := by
  have H := Lib.hid h
  clear h
  go_enter Tryz.func54, Tryz.ntmps54
  go_wp2_with (go_at_call 33; refine (asker_none H.out _ hi).mono ?_; rintro e w' ⟨rfl, rfl⟩)
  go_ret3
  exact ⟨rfl, rfl⟩
theorem node_at {w : World} {W Q n cp : Nat} {now : Int} {ao : Option Addr} {ns : List Nat} (h : WoB w W Q now n ao cp ns) (i N : Nat) (hN : ns[i]? = some N) (hn : n ≤ 9) : Calls Tryz.prog 44 #[.pointer (some ⟨W, 0, none⟩), .int .i64 i] w fun e w' => e = .returned (.pointer (some ⟨N, 0, none⟩)) ∧ w' = w := by
  have c1 := (cell_of h.box 1).trans (show _ = some (Value.slice ao n cp) from rfl)
  have hl := h.len
  have hi : i < n := by
    rcases Nat.lt_or_ge i ns.length with h1 | h1
    · omega
    · rw [List.getElem?_eq_none h1] at hN; cases hN
  obtain ⟨g, o, rfl, hc⟩ := (cs_of_owns h.own).at (by unfold ptrs; rw [List.length_map]; omega)
  have d := hc i _ (by unfold ptrs; rw [List.getElem?_map, hN]; rfl)
  clear h hc hl hN
  go_enter Tryz.func44, Tryz.ntmps44
  go_wp2
  go_ret
  exact ⟨rfl, rfl⟩
theorem asker_at {w : World} {W Q n cp : Nat} {now : Int} {ao : Option Addr} {ns : List Nat} (h : WoB w W Q now n ao cp ns) (i N : Nat) (hN : ns[i]? = some N) (hn : n ≤ 9) (hi : i ≠ 0) : Calls Tryz.prog 33 #[.pointer (some ⟨W, 0, none⟩), .int .i64 i] w fun e w' => ∃ P, e = .returned (.tuple #[.pointer (some ⟨N, 0, none⟩), .pointer (some ⟨P, 0, none⟩)]) ∧ w.heap[P]? = some (.cells #[.pointer none, .pointer none, .int .i64 0, .int .i64 0, .int .i64 0] 67 (0, 0)) ∧ w' = w := by
  have hno := node_at h i N hN hn
  obtain ⟨F, r, P, h1, h2, h3, h4, h5⟩ := h.nodes i N hN
  have eT : partT i = 63 := by unfold partT; rw [if_neg hi]
  have c3 := (cell_of h1 3).trans (show _ = some (Value.iface 63 (.pointer (some ⟨P, 0, none⟩))) by rw [eT]; rfl)
  have hta := is_ask P
  have H := Lib.hid (And.intro hno (h3 hi))
  clear hno h h1 h2 h3 h4 h5 eT hN hi
  go_enter Tryz.func33, Tryz.ntmps33
  go_wp2_with (go_at_call 44; refine H.out.1.mono ?_; rintro e w' ⟨rfl, rfl⟩)
  go_ret2
  exact ⟨P, rfl, H.out.2.1, rfl⟩
theorem state_at {w : World} {W Q n cp : Nat} {now : Int} {ao : Option Addr} {ns : List Nat} (h : WoB w W Q now n ao cp ns) (i N : Nat) (hN : ns[i]? = some N) (hn : n ≤ 9) (hi : i ≠ 0) : Calls Tryz.prog 54 #[.pointer (some ⟨W, 0, none⟩), .int .i64 i] w fun e w' => e = .returned (.tuple #[.bool false, .int .i64 0, .int .i64 0]) ∧ Fr [] w w' := by
  have H := Lib.hid (asker_at h i N hN hn hi)
  clear h hN hi
  go_enter Tryz.func54, Tryz.ntmps54
  go_wp2_with (go_at_call 33; refine H.out.mono ?_; rintro e w' ⟨P, rfl, hP, rfl⟩; have p0 := (cell_of hP 0).trans (show _ = some (Value.pointer none) from rfl); have p3 := (cell_of hP 3).trans (show _ = some (Value.int .i64 0) from rfl); have p4 := (cell_of hP 4).trans (show _ = some (Value.int .i64 0) from rfl); clear hP)
  go_region
  all_goals go_wp2
  go_ret3
  exact ⟨rfl, by first | exact Fr.drewN [] _ _ | exact Fr.drew1 [] _ | exact Fr.refl [] _⟩
/-- A desk. -/
structure DeskB (w : World) (D W Q : Nat) (now : Int) (n : Nat) (ao : Option Addr) (cp : Nat) (ns : List Nat) : Prop where
  desk : w.heap[D]? = some (.cells #[.pointer (some ⟨W, 0, none⟩)] 32 (0, 0))
  world : WoB w W Q now n ao cp ns
theorem script_new (m : Int) (w : World) (hm : w.cell? ⟨0, 0, none⟩ = some (.int .i64 m)) : Calls Tryz.prog 4 #[] w fun e w' => ∃ D W Q ao cp ns, e = .returned (.pointer (some ⟨D, 0, none⟩)) ∧ DeskB w' D W Q 0 4 ao cp ns ∧ Fr [] w w' ∧ w.heap.size ≤ W := by
  have H := Lib.hid (world_new m w hm)
  clear hm
  go_enter Tryz.func4, Tryz.ntmps4
  go_wp2_with (go_at_call 7; refine H.out.mono ?_; rintro e w' ⟨W, Q, ao, cp, ns, rfl, hW, f, hn⟩; have H1 := Lib.hid (And.intro hW (And.intro f hn)); clear hW f hn)
  go_ret
  obtain ⟨hW, f, hn⟩ := H1.out
  exact ⟨_, W, Q, ao, cp, ns, rfl, ⟨alloc_at _ _, hW.fr0 ((Fr.refl [] _).alloc _)⟩, f.alloc _, hn⟩
end Go.Proofs.YtflcdnmhgfhmdaaGreatDoor.wd
/-
  A scope in which the run jumps forward once.
-/
namespace Go.Proofs.YtflcdnmhgfhmdaaGreatDoor.lib
open Go Go.RowKit

theorem wp_scope_once {P : Program} {Q : Exit → Act → World → Prop} {a : Act} {w : World} {c c2 : Code} (l : Nat) (hf : findLabel c l = some (Code.seq Code.skip c2))
    (first : c.wp P (Exit.jump l (fun a w => c2.wp P (Exit.jump l (fun _ _ => False) Q) a w) Q) a w) : (Code.scope c).wp P Q a w :=
  wp_scope_jumps l _ (fun _ _ => 0) hf first fun a w h => wp_seq (wp_skip (Code.wp_mono (fun e a w q => by cases e <;> first | exact q | exact q.2.elim) h))
end Go.Proofs.YtflcdnmhgfhmdaaGreatDoor.lib
