/-
  Texts of this proof, one behind the other: ScriptS.
-/
import Derived.Test.YtflcdnmhgfhmdaaGreatDoorG9
import Derived.Test.YtflcdnmhgfhmdaaGreatDoorG22
set_option linter.unusedVariables false
set_option linter.unusedSimpArgs false
/-
  script: a desk with a world of four nodes at rest; state, check.
-/
namespace Go.Proofs.YtflcdnmhgfhmdaaGreatDoor.wd
open Go Go.RowKit Go.Proofs.YtflcdnmhgfhmdaaGreatDoor.lib Go.Proofs.YtflcdnmhgfhmdaaGreatDoor.pk Go.Proofs.YtflcdnmhgfhmdaaGreatDoor.fs

set_option maxRecDepth 100000
/-- A desk whose world is new since w0. -/
structure DS (w0 w : World) (m : Int) (D W Q : Nat) (now : Int) (ao : Option Addr) (cp : Nat) (ns : List Nat) : Prop where
  desk : DeskB w D W Q now 4 ao cp ns
  fr : Fr [] w0 w
  new : w0.heap.size ≤ W
  max : w0.cell? ⟨0, 0, none⟩ = some (.int .i64 m)
theorem DS.fr0 {w0 w w' : World} {m : Int} {D W Q : Nat} {now : Int} {ao : Option Addr} {cp : Nat} {ns : List Nat} (h : DS w0 w m D W Q now ao cp ns) (f : Fr [] w w') : DS w0 w' m D W Q now ao cp ns :=
  ⟨⟨f.blk h.desk.desk (by simp), h.desk.world.fr0 f⟩, h.fr.trans f, h.new, h.max⟩
theorem DS.tick {w0 w w' : World} {m : Int} {D W Q : Nat} {now : Int} {ao : Option Addr} {cp : Nat} {ns : List Nat} (h : DS w0 w m D W Q now ao cp ns) (hw : WoB w' W Q (now + 1) 4 ao cp ns) (f : Fr [W] w w') : DS w0 w' m D W Q (now + 1) ao cp ns := by
  have hne : D ≠ W := by
    intro e
    have h1 := h.desk.desk
    have h2 := h.desk.world.box
    rw [e, h2] at h1
    simp at h1
  exact ⟨⟨f.blk h.desk.desk (by simpa using hne), hw⟩, h.fr.step f (fun x hx => .inr (by have : x = W := by simpa using hx
                                                                                         rw [this]; exact h.new)), h.new, h.max⟩
theorem DS.cellMax {w0 w : World} {m : Int} {D W Q : Nat} {now : Int} {ao : Option Addr} {cp : Nat} {ns : List Nat} (h : DS w0 w m D W Q now ao cp ns) : w.cell? ⟨0, 0, none⟩ = some (.int .i64 m) := h.fr.cell h.max (by simp)
theorem desk_new (m : Int) (w : World) (hm : w.cell? ⟨0, 0, none⟩ = some (.int .i64 m)) : Calls Tryz.prog 4 #[] w fun e w' => ∃ D W Q ao cp ns, e = .returned (.pointer (some ⟨D, 0, none⟩)) ∧ DS w w' m D W Q 0 ao cp ns := by
  refine (script_new m w hm).mono ?_
  rintro e w' ⟨D, W, Q, ao, cp, ns, he, hd, f, hn⟩
  exact ⟨D, W, Q, ao, cp, ns, he, ⟨hd, f, hn, hm⟩⟩
section
variable {w0 w : World} {m : Int} {D W Q : Nat} {now : Int} {ao : Option Addr} {cp : Nat} {ns : List Nat}
theorem desk_state_none (h : DS w0 w m D W Q now ao cp ns) : Calls Tryz.prog 23 #[.pointer (some ⟨D, 0, none⟩), .int .i64 9] w fun e w' => e = .returned (.string errS) ∧ w' = w := by
  have c0 := (cell_of h.desk.desk 0).trans (show _ = some (Value.pointer (some ⟨W, 0, none⟩)) from rfl)
  have H := Lib.hid (state_none h.desk.world 9 (by decide))
  clear h
  go_enter Tryz.func23, Tryz.ntmps23
  go_wp2_with (first
    | (go_at_call 54; refine H.out.mono ?_; rintro e w' ⟨rfl, rfl⟩)
    | (go_at_call 12; refine (answer_err _).mono ?_; rintro e w' ⟨rfl, rfl⟩))
  go_ret
  exact ⟨rfl, rfl⟩
def idleS : ByteArray := ⟨#[111, 107, 32, 105, 100, 108, 101, 32, 48, 32, 48]⟩
theorem desk_state_one (h : DS w0 w m D W Q now ao cp ns) : Calls Tryz.prog 23 #[.pointer (some ⟨D, 0, none⟩), .int .i64 1] w fun e w' => e = .returned (.string idleS) ∧ Fr [] w w' := by
  have c0 := (cell_of h.desk.desk 0).trans (show _ = some (Value.pointer (some ⟨W, 0, none⟩)) from rfl)
  have hl := h.desk.world.len
  obtain ⟨N, hN⟩ : ∃ N, ns[1]? = some N := ⟨ns[1], List.getElem?_eq_getElem (by omega)⟩
  have H := Lib.hid (state_at h.desk.world 1 N hN (by decide) (by decide))
  clear h hN hl
  go_enter Tryz.func23, Tryz.ntmps23
  go_wp2_with (first
    | (go_at_call 54; refine H.out.mono ?_; rintro e w' ⟨rfl, f1⟩; have H1 := Lib.hid f1; clear f1)
    | (go_at_call 17; refine (itoa_0 _).mono ?_; rintro e w'' ⟨rfl, hw⟩; obtain rfl := hw.symm))
  go_ret
  exact ⟨rfl, H1.out⟩
theorem desk_check_none (h : DS w0 w m D W Q now ao cp ns) : Calls Tryz.prog 25 #[.pointer (some ⟨D, 0, none⟩), .int .i64 9] w fun e w' => e = .returned (.string errS) ∧ w' = w := by
  have c0 := (cell_of h.desk.desk 0).trans (show _ = some (Value.pointer (some ⟨W, 0, none⟩)) from rfl)
  have H := Lib.hid (repo_none h.desk.world 9 (by decide))
  clear h
  go_enter Tryz.func25, Tryz.ntmps25
  go_wp2_with (first
    | (go_at_call 55; refine H.out.mono ?_; rintro e w' ⟨rfl, rfl⟩)
    | (go_at_call 12; refine (answer_err _).mono ?_; rintro e w' ⟨rfl, rfl⟩))
  go_ret
  exact ⟨rfl, rfl⟩
end
end Go.Proofs.YtflcdnmhgfhmdaaGreatDoor.wd
