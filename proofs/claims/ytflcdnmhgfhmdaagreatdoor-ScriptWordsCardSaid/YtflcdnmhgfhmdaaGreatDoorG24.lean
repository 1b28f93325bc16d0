/-
  Texts of this proof, one behind the other: ScriptT.
-/
import Derived.Test.YtflcdnmhgfhmdaaGreatDoorG23
set_option linter.unusedVariables false
set_option linter.unusedSimpArgs false
/-
  script.Do, line by line (printed by gen_do.py).
-/
namespace Go.Proofs.YtflcdnmhgfhmdaaGreatDoor.wd
open Go Go.RowKit Go.Proofs.YtflcdnmhgfhmdaaGreatDoor.lib Go.Proofs.YtflcdnmhgfhmdaaGreatDoor.pk Go.Proofs.YtflcdnmhgfhmdaaGreatDoor.fs

set_option maxRecDepth 100000
theorem split_w {line : List UInt8} {ws : List (List UInt8)} (h : CutB line ws) (m : Int) (w : World) (hm : w.cell? ⟨0, 0, none⟩ = some (.int .i64 m)) :
    Calls Tryz.prog 8 #[.string (str line), .string ⟨#[32]⟩] w fun e w' => e = .returned (.slice (some ⟨w.heap.size, 0, none⟩) ws.length ws.length) ∧ w' = w.alloc (.cells ((ws.map str).map Value.string).toArray 9) := by
  have k := Tryz.strings_Split (str line) ⟨#[32]⟩ m w (by rw [str_size]; have := h.len; omega) hm (by decide)
  rw [h.count, h.split] at k
  exact k
theorem cs_tail {w : World} {g : Nat} {v : Value} {l : List Value} {t : TypeId} {f : Nat × Nat} (h : w.heap[g]? = some (.cells (v :: l).toArray t f)) : Cs w (some ⟨g, 1, none⟩) l :=
  .inr ⟨g, 1, rfl, fun j u hu => by rw [cell_of h, Nat.add_comm 1 j]; simpa using hu⟩
theorem contains_w {zs : List ByteArray} {w : World} {g n : Nat} {b : Bool} {f : Nat × Nat} (hn : n = zs.length) (h9 : zs.length ≤ 9) (hb : Lib.containsS zs ⟨#[]⟩ = b) (h : w.heap[g]? = some (.cells (zs.map Value.string).toArray 9 f)) :
    Calls Tryz.prog 10 #[.slice (some ⟨g, 0, none⟩) n n, .string ⟨#[]⟩] w fun e w' => e = .returned (.bool b) ∧ w' = w := by
  have k := Tryz.slices_Contains_string g 0 n n zs ⟨#[]⟩ w (by omega) (by omega) (fun j hj => by
    rw [cell_of h]
    simp [hj])
  rw [List.take_of_length_le (by omega), hb] at k
  exact k
theorem nums_none (n : Int) (hn : n = 1 ∨ n = 2) (ao : Option Addr) (c : Nat) (w : World) : Calls Tryz.prog 9 #[.slice ao 0 c, .int .i64 n] w fun e w' => ∃ bo cp, e = .returned (.tuple #[.slice bo 0 cp, .bool false]) ∧ Fr [] w w' := by
  refine (numbers_any .nil ao c 0 rfl (by decide) n (by omega) w (.inl rfl)).mono ?_
  rintro e w' ⟨bo, cp, he, hc, hl, f⟩
  refine ⟨bo, cp, ?_, f⟩
  rw [he]
  rcases hn with rfl | rfl <;> rfl
theorem nums_bad {l : List (List UInt8)} {os : List (Option Nat)} (hn : NumsAre l os) (hg : goodN os = none) (g L : Nat) (hL : L = l.length) (hl : l.length ≤ 9) (n : Int) (h9 : 0 ≤ n ∧ n ≤ 9) (w : World) (hc : Cs w (some ⟨g, 1, none⟩) (l.map fun s => Value.string (str s))) :
    Calls Tryz.prog 9 #[.slice (some ⟨g, 1, none⟩) L L, .int .i64 n] w fun e w' => e = .returned (.tuple #[.slice none 0 0, .bool false]) ∧ Fr [] w w' := by
  have k := numbers_any hn (some ⟨g, 1, none⟩) L L hL hl n h9 w hc
  rw [hg] at k
  exact k
theorem nums_one1 (d : Nat) (hd : d ≤ 9) (g : Nat) (w : World) (hc : Cs w (some ⟨g, 1, none⟩) [.string (str [(48 + d).toUInt8])]) :
    Calls Tryz.prog 9 #[.slice (some ⟨g, 1, none⟩) 1 1, .int .i64 1] w fun e w' => ∃ bo cp, e = .returned (.tuple #[.slice bo 1 cp, .bool true]) ∧ Cs w' bo [.int .i64 (d : Nat)] ∧ 1 ≤ cp ∧ Fr [] w w' :=
  (numbers_any (l := [[(48 + d).toUInt8]]) (os := [some d]) (.cons (.one d hd) .nil) (some ⟨g, 1, none⟩) 1 1 rfl (by simp) 1 (by decide) w hc).mono fun _ _ h => h
theorem nums_one2 (d : Nat) (hd : d ≤ 9) (g : Nat) (w : World) (hc : Cs w (some ⟨g, 1, none⟩) [.string (str [(48 + d).toUInt8])]) :
    Calls Tryz.prog 9 #[.slice (some ⟨g, 1, none⟩) 1 1, .int .i64 2] w fun e w' => ∃ bo cp, e = .returned (.tuple #[.slice bo 1 cp, .bool false]) ∧ Fr [] w w' :=
  (numbers_any (l := [[(48 + d).toUInt8]]) (os := [some d]) (.cons (.one d hd) .nil) (some ⟨g, 1, none⟩) 1 1 rfl (by simp) 2 (by decide) w hc).mono fun _ _ ⟨bo, cp, he, _, _, f⟩ => ⟨bo, cp, he, f⟩
section
variable {w0 w : World} {m : Int} {D W Q : Nat} {now : Int} {ao : Option Addr} {cp : Nat} {ns : List Nat}
theorem cut_tick : CutB [116, 105, 99, 107] [[116, 105, 99, 107]] := ⟨by decide, by kernel_rfl, by kernel_rfl⟩
set_option maxHeartbeats 8000000 in
theorem do_tick (h : DS w0 w m D W Q now ao cp ns) (hn : 0 ≤ now ∧ now < 1000000) : Calls Tryz.prog 6 #[.pointer (some ⟨D, 0, none⟩), .string ⟨#[116, 105, 99, 107]⟩] w fun e w' => e = .returned (.string okS) ∧ DS w0 w' m D W Q (now + 1) ao cp ns := by
  have hs : Calls Tryz.prog 8 #[.string ⟨#[116, 105, 99, 107]⟩, .string ⟨#[32]⟩] w fun e w' => e = .returned (.slice (some ⟨w.heap.size, 0, none⟩) 1 1) ∧ w' = w.alloc (.cells #[.string ⟨#[116, 105, 99, 107]⟩] 9) := split_w cut_tick m w h.cellMax
  have hnum : ∀ w, Calls Tryz.prog 11 #[.string ⟨#[116, 105, 99, 107]⟩] w fun e w' => e = .returned (.tuple #[.int .i64 0, .bool false]) ∧ Fr [] w w' := fun w => number_any (s := [116, 105, 99, 107]) (.bad _ (by decide) (by decide) (trim_first (by decide))) w
  have HS := Lib.hid (And.intro hs (And.intro h hnum))
  clear h hs hnum
  go_enter Tryz.func6, Tryz.ntmps6
  go_wp2
  refine wp_scope_once 0 rfl ?_
  go_upto_region 2 with (go_at_call 8; refine HS.out.1.mono ?_; rintro e w1 ⟨rfl, hw⟩; have H1 := Lib.hid hw; clear hw)
  obtain ⟨g, hg⟩ : ∃ g, g = w.heap.size := ⟨_, rfl⟩
  have hb : w1.heap[g]? = some (.cells #[.string ⟨#[116, 105, 99, 107]⟩] 9 (0, 0)) := by rw [H1.out, hg]; exact alloc_at w _
  have c0 : w1.cell? ⟨g, 0, none⟩ = some (.string ⟨#[116, 105, 99, 107]⟩) := cell_of hb 0
  have f1 : Fr [] w w1 := by rw [H1.out]; exact (Fr.refl [] w).alloc _
  have HF := Lib.hid (And.intro f1 hb)
  rw [← hg]
  clear hg f1 hb
  go_quiet (fail)
  have HX := Lib.hid (And.intro (HF.out.1.trans (Fr.drewN [] w1 nq)) ((Fr.drewN [] w1 nq).blk HF.out.2 (by simp)))
  clear c0
  generalize w1.drewN nq = w2 at *
  go_upto_region 4 with (go_at_call 9; refine (nums_none 1 (.inl rfl) _ _ _).mono ?_; rintro e w3 ⟨b3, c3, rfl, f3⟩; have H3 := Lib.hid f3; clear f3)
  go_upto_region 7 with (go_at_call 9; refine (nums_none 2 (.inr rfl) _ _ _).mono ?_; rintro e w4 ⟨b4, c4, rfl, f4⟩; have H4 := Lib.hid f4; clear f4)
  go_upto_region 8 with (go_at_call 10; refine (contains_w (zs := [⟨#[116, 105, 99, 107]⟩]) (b := false) (n := 1) rfl (g := g) (by decide) (by decide) ((H3.out.trans H4.out).blk HX.out.2 (by simp))).mono ?_; rintro e w5 ⟨rfl, hw⟩; obtain rfl := hw.symm)
  go_upto_region 9 with (go_at_call 11; refine (HS.out.2.2 _).mono ?_; rintro e w5 ⟨rfl, f5⟩; have H5 := Lib.hid f5; clear f5)
  have hD := HS.out.2.1.fr0 ((HX.out.1.trans (H3.out.trans H4.out)).trans H5.out)
  have cd := (cell_of hD.desk.desk 0).trans (show _ = some (Value.pointer (some ⟨W, 0, none⟩)) from rfl)
  have HD := Lib.hid hD
  clear hD
  go_wp2_with (first
    | (go_at_call 16; refine (step_tick HD.out.desk.world hn (by decide) 0).mono ?_; rintro e w6 ⟨rfl, hw6, f6⟩; have H6 := Lib.hid (And.intro hw6 f6); clear hw6 f6)
    | (go_at_call 12; refine (answer_ok _).mono ?_; rintro e w7 ⟨rfl, hw⟩; obtain rfl := hw.symm))
  simp only [Exit.jump]
  go_ret
  exact ⟨rfl, HD.out.tick H6.out.1 H6.out.2⟩

theorem cut_way : CutB [119, 97, 121] [[119, 97, 121]] := ⟨by decide, by kernel_rfl, by kernel_rfl⟩
set_option maxHeartbeats 8000000 in
theorem do_way (h : DS w0 w m D W Q now ao cp ns) : Calls Tryz.prog 6 #[.pointer (some ⟨D, 0, none⟩), .string ⟨#[119, 97, 121]⟩] w fun e w' => e = .returned (.string ⟨#[111, 107, 32, 48]⟩) ∧ DS w0 w' m D W Q now ao cp ns := by
  have hs : Calls Tryz.prog 8 #[.string ⟨#[119, 97, 121]⟩, .string ⟨#[32]⟩] w fun e w' => e = .returned (.slice (some ⟨w.heap.size, 0, none⟩) 1 1) ∧ w' = w.alloc (.cells #[.string ⟨#[119, 97, 121]⟩] 9) := split_w cut_way m w h.cellMax
  have hnum : ∀ w, Calls Tryz.prog 11 #[.string ⟨#[119, 97, 121]⟩] w fun e w' => e = .returned (.tuple #[.int .i64 0, .bool false]) ∧ Fr [] w w' := fun w => number_any (s := [119, 97, 121]) (.bad _ (by decide) (by decide) (trim_first (by decide))) w
  have HS := Lib.hid (And.intro hs (And.intro h hnum))
  clear h hs hnum
  go_enter Tryz.func6, Tryz.ntmps6
  go_wp2
  refine wp_scope_once 0 rfl ?_
  go_upto_region 2 with (go_at_call 8; refine HS.out.1.mono ?_; rintro e w1 ⟨rfl, hw⟩; have H1 := Lib.hid hw; clear hw)
  obtain ⟨g, hg⟩ : ∃ g, g = w.heap.size := ⟨_, rfl⟩
  have hb : w1.heap[g]? = some (.cells #[.string ⟨#[119, 97, 121]⟩] 9 (0, 0)) := by rw [H1.out, hg]; exact alloc_at w _
  have c0 : w1.cell? ⟨g, 0, none⟩ = some (.string ⟨#[119, 97, 121]⟩) := cell_of hb 0
  have f1 : Fr [] w w1 := by rw [H1.out]; exact (Fr.refl [] w).alloc _
  have HF := Lib.hid (And.intro f1 hb)
  rw [← hg]
  clear hg f1 hb
  go_quiet (fail)
  have HX := Lib.hid (And.intro (HF.out.1.trans (Fr.drewN [] w1 nq)) ((Fr.drewN [] w1 nq).blk HF.out.2 (by simp)))
  clear c0
  generalize w1.drewN nq = w2 at *
  go_upto_region 4 with (go_at_call 9; refine (nums_none 1 (.inl rfl) _ _ _).mono ?_; rintro e w3 ⟨b3, c3, rfl, f3⟩; have H3 := Lib.hid f3; clear f3)
  go_upto_region 7 with (go_at_call 9; refine (nums_none 2 (.inr rfl) _ _ _).mono ?_; rintro e w4 ⟨b4, c4, rfl, f4⟩; have H4 := Lib.hid f4; clear f4)
  go_upto_region 8 with (go_at_call 10; refine (contains_w (zs := [⟨#[119, 97, 121]⟩]) (b := false) (n := 1) rfl (g := g) (by decide) (by decide) ((H3.out.trans H4.out).blk HX.out.2 (by simp))).mono ?_; rintro e w5 ⟨rfl, hw⟩; obtain rfl := hw.symm)
  go_upto_region 9 with (go_at_call 11; refine (HS.out.2.2 _).mono ?_; rintro e w5 ⟨rfl, f5⟩; have H5 := Lib.hid f5; clear f5)
  have hD := HS.out.2.1.fr0 ((HX.out.1.trans (H3.out.trans H4.out)).trans H5.out)
  have cd := (cell_of hD.desk.desk 0).trans (show _ = some (Value.pointer (some ⟨W, 0, none⟩)) from rfl)
  have HD := Lib.hid hD
  clear hD
  go_wp2_with (first
    | (go_at_call 18; refine (way_any HD.out.desk.world).mono ?_; rintro e w6 ⟨rfl, hw⟩; obtain rfl := hw.symm)
    | (go_at_call 17; refine (itoa_0 _).mono ?_; rintro e w6 ⟨rfl, hw⟩; obtain rfl := hw.symm))
  simp only [Exit.jump]
  go_ret
  exact ⟨rfl, HD.out⟩

theorem cut_now : CutB [110, 111, 119] [[110, 111, 119]] := ⟨by decide, by kernel_rfl, by kernel_rfl⟩
set_option maxHeartbeats 8000000 in
theorem do_now (h : DS w0 w m D W Q 1 ao cp ns) : Calls Tryz.prog 6 #[.pointer (some ⟨D, 0, none⟩), .string ⟨#[110, 111, 119]⟩] w fun e w' => e = .returned (.string ⟨#[111, 107, 32, 49]⟩) ∧ DS w0 w' m D W Q 1 ao cp ns := by
  have hs : Calls Tryz.prog 8 #[.string ⟨#[110, 111, 119]⟩, .string ⟨#[32]⟩] w fun e w' => e = .returned (.slice (some ⟨w.heap.size, 0, none⟩) 1 1) ∧ w' = w.alloc (.cells #[.string ⟨#[110, 111, 119]⟩] 9) := split_w cut_now m w h.cellMax
  have hnum : ∀ w, Calls Tryz.prog 11 #[.string ⟨#[110, 111, 119]⟩] w fun e w' => e = .returned (.tuple #[.int .i64 0, .bool false]) ∧ Fr [] w w' := fun w => number_any (s := [110, 111, 119]) (.bad _ (by decide) (by decide) (trim_first (by decide))) w
  have HS := Lib.hid (And.intro hs (And.intro h hnum))
  clear h hs hnum
  go_enter Tryz.func6, Tryz.ntmps6
  go_wp2
  refine wp_scope_once 0 rfl ?_
  go_upto_region 2 with (go_at_call 8; refine HS.out.1.mono ?_; rintro e w1 ⟨rfl, hw⟩; have H1 := Lib.hid hw; clear hw)
  obtain ⟨g, hg⟩ : ∃ g, g = w.heap.size := ⟨_, rfl⟩
  have hb : w1.heap[g]? = some (.cells #[.string ⟨#[110, 111, 119]⟩] 9 (0, 0)) := by rw [H1.out, hg]; exact alloc_at w _
  have c0 : w1.cell? ⟨g, 0, none⟩ = some (.string ⟨#[110, 111, 119]⟩) := cell_of hb 0
  have f1 : Fr [] w w1 := by rw [H1.out]; exact (Fr.refl [] w).alloc _
  have HF := Lib.hid (And.intro f1 hb)
  rw [← hg]
  clear hg f1 hb
  go_quiet (fail)
  have HX := Lib.hid (And.intro (HF.out.1.trans (Fr.drewN [] w1 nq)) ((Fr.drewN [] w1 nq).blk HF.out.2 (by simp)))
  clear c0
  generalize w1.drewN nq = w2 at *
  go_upto_region 4 with (go_at_call 9; refine (nums_none 1 (.inl rfl) _ _ _).mono ?_; rintro e w3 ⟨b3, c3, rfl, f3⟩; have H3 := Lib.hid f3; clear f3)
  go_upto_region 7 with (go_at_call 9; refine (nums_none 2 (.inr rfl) _ _ _).mono ?_; rintro e w4 ⟨b4, c4, rfl, f4⟩; have H4 := Lib.hid f4; clear f4)
  go_upto_region 8 with (go_at_call 10; refine (contains_w (zs := [⟨#[110, 111, 119]⟩]) (b := false) (n := 1) rfl (g := g) (by decide) (by decide) ((H3.out.trans H4.out).blk HX.out.2 (by simp))).mono ?_; rintro e w5 ⟨rfl, hw⟩; obtain rfl := hw.symm)
  go_upto_region 9 with (go_at_call 11; refine (HS.out.2.2 _).mono ?_; rintro e w5 ⟨rfl, f5⟩; have H5 := Lib.hid f5; clear f5)
  have hD := HS.out.2.1.fr0 ((HX.out.1.trans (H3.out.trans H4.out)).trans H5.out)
  have cd := (cell_of hD.desk.desk 0).trans (show _ = some (Value.pointer (some ⟨W, 0, none⟩)) from rfl)
  have HD := Lib.hid hD
  clear hD
  go_wp2_with (first
    | (go_at_call 19; refine (now_any HD.out.desk.world).mono ?_; rintro e w6 ⟨rfl, hw⟩; obtain rfl := hw.symm)
    | (go_at_call 17; refine (itoa_1 _).mono ?_; rintro e w6 ⟨rfl, hw⟩; obtain rfl := hw.symm))
  simp only [Exit.jump]
  go_ret
  exact ⟨rfl, HD.out⟩

theorem cut_w0 : CutB [119, 111, 114, 108, 100, 32, 48, 32, 53, 32, 100, 101, 110, 121] [[119, 111, 114, 108, 100], [48], [53], [100, 101, 110, 121]] := ⟨by decide, by kernel_rfl, by kernel_rfl⟩
set_option maxHeartbeats 8000000 in
theorem do_w0 (h : DS w0 w m D W Q now ao cp ns) : Calls Tryz.prog 6 #[.pointer (some ⟨D, 0, none⟩), .string ⟨#[119, 111, 114, 108, 100, 32, 48, 32, 53, 32, 100, 101, 110, 121]⟩] w fun e w' => e = .returned (.string errS) ∧ DS w0 w' m D W Q now ao cp ns := by
  have hs : Calls Tryz.prog 8 #[.string ⟨#[119, 111, 114, 108, 100, 32, 48, 32, 53, 32, 100, 101, 110, 121]⟩, .string ⟨#[32]⟩] w fun e w' => e = .returned (.slice (some ⟨w.heap.size, 0, none⟩) 4 4) ∧ w' = w.alloc (.cells #[.string ⟨#[119, 111, 114, 108, 100]⟩, .string ⟨#[48]⟩, .string ⟨#[53]⟩, .string ⟨#[100, 101, 110, 121]⟩] 9) := split_w cut_w0 m w h.cellMax
  have hnum : ∀ w, Calls Tryz.prog 11 #[.string ⟨#[119, 111, 114, 108, 100]⟩] w fun e w' => e = .returned (.tuple #[.int .i64 0, .bool false]) ∧ Fr [] w w' := fun w => number_any (s := [119, 111, 114, 108, 100]) (.bad _ (by decide) (by decide) (trim_first (by decide))) w
  have HS := Lib.hid (And.intro hs (And.intro h hnum))
  clear h hs hnum
  go_enter Tryz.func6, Tryz.ntmps6
  go_wp2
  refine wp_scope_once 0 rfl ?_
  go_upto_region 2 with (go_at_call 8; refine HS.out.1.mono ?_; rintro e w1 ⟨rfl, hw⟩; have H1 := Lib.hid hw; clear hw)
  obtain ⟨g, hg⟩ : ∃ g, g = w.heap.size := ⟨_, rfl⟩
  have hb : w1.heap[g]? = some (.cells #[.string ⟨#[119, 111, 114, 108, 100]⟩, .string ⟨#[48]⟩, .string ⟨#[53]⟩, .string ⟨#[100, 101, 110, 121]⟩] 9 (0, 0)) := by rw [H1.out, hg]; exact alloc_at w _
  have c0 : w1.cell? ⟨g, 0, none⟩ = some (.string ⟨#[119, 111, 114, 108, 100]⟩) := cell_of hb 0
  have f1 : Fr [] w w1 := by rw [H1.out]; exact (Fr.refl [] w).alloc _
  have HF := Lib.hid (And.intro f1 hb)
  rw [← hg]
  clear hg f1 hb
  go_quiet (fail)
  have HX := Lib.hid (And.intro (HF.out.1.trans (Fr.drewN [] w1 nq)) ((Fr.drewN [] w1 nq).blk HF.out.2 (by simp)))
  clear c0
  generalize w1.drewN nq = w2 at *
  have hna : NumsAre [[48], [53], [100, 101, 110, 121]] [(some 0), (some 5), none] := (.cons (.one 0 (by decide)) (.cons (.one 5 (by decide)) (.cons (.bad _ (by decide) (by decide) (trim_first (by decide))) .nil)))
  go_upto_region 4 with (go_at_call 9; refine (nums_bad hna rfl g 3 rfl (by decide) 1 (by decide) w2 (cs_tail HX.out.2)).mono ?_; rintro e w3 ⟨rfl, f3⟩; have H3 := Lib.hid f3; clear f3)
  go_upto_region 7 with (go_at_call 9; refine (nums_bad hna rfl g 3 rfl (by decide) 2 (by decide) w3 (cs_tail (H3.out.blk HX.out.2 (by simp)))).mono ?_; rintro e w4 ⟨rfl, f4⟩; have H4 := Lib.hid f4; clear f4)
  go_upto_region 8 with (go_at_call 10; refine (contains_w (zs := [⟨#[119, 111, 114, 108, 100]⟩, ⟨#[48]⟩, ⟨#[53]⟩, ⟨#[100, 101, 110, 121]⟩]) (b := false) (n := 4) rfl (g := g) (by decide) (by decide) ((H3.out.trans H4.out).blk HX.out.2 (by simp))).mono ?_; rintro e w5 ⟨rfl, hw⟩; obtain rfl := hw.symm)
  go_upto_region 9 with (go_at_call 11; refine (HS.out.2.2 _).mono ?_; rintro e w5 ⟨rfl, f5⟩; have H5 := Lib.hid f5; clear f5)
  have hD := HS.out.2.1.fr0 ((HX.out.1.trans (H3.out.trans H4.out)).trans H5.out)
  have cd := (cell_of hD.desk.desk 0).trans (show _ = some (Value.pointer (some ⟨W, 0, none⟩)) from rfl)
  have HD := Lib.hid hD
  clear hD
  go_wp2_with (go_at_call 15; refine (made_zero D g _ (cs_tail ((H3.out.trans (H4.out.trans H5.out)).blk HX.out.2 (by simp)))).mono ?_; rintro e w6 ⟨rfl, f6⟩; have H6 := Lib.hid f6; clear f6)
  simp only [Exit.jump]
  go_ret
  exact ⟨rfl, HD.out.fr0 H6.out⟩

theorem cut_w01 : CutB [119, 111, 114, 108, 100, 32, 48, 49, 32, 53, 32, 100, 101, 110, 121] [[119, 111, 114, 108, 100], [48, 49], [53], [100, 101, 110, 121]] := ⟨by decide, by kernel_rfl, by kernel_rfl⟩
set_option maxHeartbeats 8000000 in
theorem do_w01 (h : DS w0 w m D W Q now ao cp ns) : Calls Tryz.prog 6 #[.pointer (some ⟨D, 0, none⟩), .string ⟨#[119, 111, 114, 108, 100, 32, 48, 49, 32, 53, 32, 100, 101, 110, 121]⟩] w fun e w' => e = .returned (.string errS) ∧ DS w0 w' m D W Q now ao cp ns := by
  have hs : Calls Tryz.prog 8 #[.string ⟨#[119, 111, 114, 108, 100, 32, 48, 49, 32, 53, 32, 100, 101, 110, 121]⟩, .string ⟨#[32]⟩] w fun e w' => e = .returned (.slice (some ⟨w.heap.size, 0, none⟩) 4 4) ∧ w' = w.alloc (.cells #[.string ⟨#[119, 111, 114, 108, 100]⟩, .string ⟨#[48, 49]⟩, .string ⟨#[53]⟩, .string ⟨#[100, 101, 110, 121]⟩] 9) := split_w cut_w01 m w h.cellMax
  have hnum : ∀ w, Calls Tryz.prog 11 #[.string ⟨#[119, 111, 114, 108, 100]⟩] w fun e w' => e = .returned (.tuple #[.int .i64 0, .bool false]) ∧ Fr [] w w' := fun w => number_any (s := [119, 111, 114, 108, 100]) (.bad _ (by decide) (by decide) (trim_first (by decide))) w
  have HS := Lib.hid (And.intro hs (And.intro h hnum))
  clear h hs hnum
  go_enter Tryz.func6, Tryz.ntmps6
  go_wp2
  refine wp_scope_once 0 rfl ?_
  go_upto_region 2 with (go_at_call 8; refine HS.out.1.mono ?_; rintro e w1 ⟨rfl, hw⟩; have H1 := Lib.hid hw; clear hw)
  obtain ⟨g, hg⟩ : ∃ g, g = w.heap.size := ⟨_, rfl⟩
  have hb : w1.heap[g]? = some (.cells #[.string ⟨#[119, 111, 114, 108, 100]⟩, .string ⟨#[48, 49]⟩, .string ⟨#[53]⟩, .string ⟨#[100, 101, 110, 121]⟩] 9 (0, 0)) := by rw [H1.out, hg]; exact alloc_at w _
  have c0 : w1.cell? ⟨g, 0, none⟩ = some (.string ⟨#[119, 111, 114, 108, 100]⟩) := cell_of hb 0
  have f1 : Fr [] w w1 := by rw [H1.out]; exact (Fr.refl [] w).alloc _
  have HF := Lib.hid (And.intro f1 hb)
  rw [← hg]
  clear hg f1 hb
  go_quiet (fail)
  have HX := Lib.hid (And.intro (HF.out.1.trans (Fr.drewN [] w1 nq)) ((Fr.drewN [] w1 nq).blk HF.out.2 (by simp)))
  clear c0
  generalize w1.drewN nq = w2 at *
  have hna : NumsAre [[48, 49], [53], [100, 101, 110, 121]] [none, (some 5), none] := (.cons (.zero 49) (.cons (.one 5 (by decide)) (.cons (.bad _ (by decide) (by decide) (trim_first (by decide))) .nil)))
  go_upto_region 4 with (go_at_call 9; refine (nums_bad hna rfl g 3 rfl (by decide) 1 (by decide) w2 (cs_tail HX.out.2)).mono ?_; rintro e w3 ⟨rfl, f3⟩; have H3 := Lib.hid f3; clear f3)
  go_upto_region 7 with (go_at_call 9; refine (nums_bad hna rfl g 3 rfl (by decide) 2 (by decide) w3 (cs_tail (H3.out.blk HX.out.2 (by simp)))).mono ?_; rintro e w4 ⟨rfl, f4⟩; have H4 := Lib.hid f4; clear f4)
  go_upto_region 8 with (go_at_call 10; refine (contains_w (zs := [⟨#[119, 111, 114, 108, 100]⟩, ⟨#[48, 49]⟩, ⟨#[53]⟩, ⟨#[100, 101, 110, 121]⟩]) (b := false) (n := 4) rfl (g := g) (by decide) (by decide) ((H3.out.trans H4.out).blk HX.out.2 (by simp))).mono ?_; rintro e w5 ⟨rfl, hw⟩; obtain rfl := hw.symm)
  go_upto_region 9 with (go_at_call 11; refine (HS.out.2.2 _).mono ?_; rintro e w5 ⟨rfl, f5⟩; have H5 := Lib.hid f5; clear f5)
  have hD := HS.out.2.1.fr0 ((HX.out.1.trans (H3.out.trans H4.out)).trans H5.out)
  have cd := (cell_of hD.desk.desk 0).trans (show _ = some (Value.pointer (some ⟨W, 0, none⟩)) from rfl)
  have HD := Lib.hid hD
  clear hD
  go_wp2_with (go_at_call 15; refine (made_bad D g [48, 49] [53] [none, (some 5)] (.cons (.zero 49) (.cons (.one 5 (by decide)) .nil)) rfl _ (cs_tail ((H3.out.trans (H4.out.trans H5.out)).blk HX.out.2 (by simp)))).mono ?_; rintro e w6 ⟨rfl, f6⟩; have H6 := Lib.hid f6; clear f6)
  simp only [Exit.jump]
  go_ret
  exact ⟨rfl, HD.out.fr0 H6.out⟩

theorem cut_wm : CutB [119, 111, 114, 108, 100, 32, 49, 32, 53, 32, 109, 97, 121, 98, 101] [[119, 111, 114, 108, 100], [49], [53], [109, 97, 121, 98, 101]] := ⟨by decide, by kernel_rfl, by kernel_rfl⟩
set_option maxHeartbeats 8000000 in
theorem do_wm (h : DS w0 w m D W Q now ao cp ns) : Calls Tryz.prog 6 #[.pointer (some ⟨D, 0, none⟩), .string ⟨#[119, 111, 114, 108, 100, 32, 49, 32, 53, 32, 109, 97, 121, 98, 101]⟩] w fun e w' => e = .returned (.string errS) ∧ DS w0 w' m D W Q now ao cp ns := by
  have hs : Calls Tryz.prog 8 #[.string ⟨#[119, 111, 114, 108, 100, 32, 49, 32, 53, 32, 109, 97, 121, 98, 101]⟩, .string ⟨#[32]⟩] w fun e w' => e = .returned (.slice (some ⟨w.heap.size, 0, none⟩) 4 4) ∧ w' = w.alloc (.cells #[.string ⟨#[119, 111, 114, 108, 100]⟩, .string ⟨#[49]⟩, .string ⟨#[53]⟩, .string ⟨#[109, 97, 121, 98, 101]⟩] 9) := split_w cut_wm m w h.cellMax
  have hnum : ∀ w, Calls Tryz.prog 11 #[.string ⟨#[119, 111, 114, 108, 100]⟩] w fun e w' => e = .returned (.tuple #[.int .i64 0, .bool false]) ∧ Fr [] w w' := fun w => number_any (s := [119, 111, 114, 108, 100]) (.bad _ (by decide) (by decide) (trim_first (by decide))) w
  have HS := Lib.hid (And.intro hs (And.intro h hnum))
  clear h hs hnum
  go_enter Tryz.func6, Tryz.ntmps6
  go_wp2
  refine wp_scope_once 0 rfl ?_
  go_upto_region 2 with (go_at_call 8; refine HS.out.1.mono ?_; rintro e w1 ⟨rfl, hw⟩; have H1 := Lib.hid hw; clear hw)
  obtain ⟨g, hg⟩ : ∃ g, g = w.heap.size := ⟨_, rfl⟩
  have hb : w1.heap[g]? = some (.cells #[.string ⟨#[119, 111, 114, 108, 100]⟩, .string ⟨#[49]⟩, .string ⟨#[53]⟩, .string ⟨#[109, 97, 121, 98, 101]⟩] 9 (0, 0)) := by rw [H1.out, hg]; exact alloc_at w _
  have c0 : w1.cell? ⟨g, 0, none⟩ = some (.string ⟨#[119, 111, 114, 108, 100]⟩) := cell_of hb 0
  have f1 : Fr [] w w1 := by rw [H1.out]; exact (Fr.refl [] w).alloc _
  have HF := Lib.hid (And.intro f1 hb)
  rw [← hg]
  clear hg f1 hb
  go_quiet (fail)
  have HX := Lib.hid (And.intro (HF.out.1.trans (Fr.drewN [] w1 nq)) ((Fr.drewN [] w1 nq).blk HF.out.2 (by simp)))
  clear c0
  generalize w1.drewN nq = w2 at *
  have hna : NumsAre [[49], [53], [109, 97, 121, 98, 101]] [(some 1), (some 5), none] := (.cons (.one 1 (by decide)) (.cons (.one 5 (by decide)) (.cons (.bad _ (by decide) (by decide) (trim_first (by decide))) .nil)))
  go_upto_region 4 with (go_at_call 9; refine (nums_bad hna rfl g 3 rfl (by decide) 1 (by decide) w2 (cs_tail HX.out.2)).mono ?_; rintro e w3 ⟨rfl, f3⟩; have H3 := Lib.hid f3; clear f3)
  go_upto_region 7 with (go_at_call 9; refine (nums_bad hna rfl g 3 rfl (by decide) 2 (by decide) w3 (cs_tail (H3.out.blk HX.out.2 (by simp)))).mono ?_; rintro e w4 ⟨rfl, f4⟩; have H4 := Lib.hid f4; clear f4)
  go_upto_region 8 with (go_at_call 10; refine (contains_w (zs := [⟨#[119, 111, 114, 108, 100]⟩, ⟨#[49]⟩, ⟨#[53]⟩, ⟨#[109, 97, 121, 98, 101]⟩]) (b := false) (n := 4) rfl (g := g) (by decide) (by decide) ((H3.out.trans H4.out).blk HX.out.2 (by simp))).mono ?_; rintro e w5 ⟨rfl, hw⟩; obtain rfl := hw.symm)
  go_upto_region 9 with (go_at_call 11; refine (HS.out.2.2 _).mono ?_; rintro e w5 ⟨rfl, f5⟩; have H5 := Lib.hid f5; clear f5)
  have hD := HS.out.2.1.fr0 ((HX.out.1.trans (H3.out.trans H4.out)).trans H5.out)
  have cd := (cell_of hD.desk.desk 0).trans (show _ = some (Value.pointer (some ⟨W, 0, none⟩)) from rfl)
  have HD := Lib.hid hD
  clear hD
  go_wp2_with (go_at_call 15; refine (made_maybe D g _ _ _ (cs_tail ((H3.out.trans (H4.out.trans H5.out)).blk HX.out.2 (by simp)))).mono ?_; rintro e w6 ⟨rfl, f6⟩; have H6 := Lib.hid f6; clear f6)
  simp only [Exit.jump]
  go_ret
  exact ⟨rfl, HD.out.fr0 H6.out⟩

theorem cut_deliver : CutB [100, 101, 108, 105, 118, 101, 114, 32, 48] [[100, 101, 108, 105, 118, 101, 114], [48]] := ⟨by decide, by kernel_rfl, by kernel_rfl⟩
set_option maxHeartbeats 8000000 in
theorem do_deliver (h : DS w0 w m D W Q now ao cp ns) : Calls Tryz.prog 6 #[.pointer (some ⟨D, 0, none⟩), .string ⟨#[100, 101, 108, 105, 118, 101, 114, 32, 48]⟩] w fun e w' => e = .returned (.string errS) ∧ DS w0 w' m D W Q now ao cp ns := by
  have hs : Calls Tryz.prog 8 #[.string ⟨#[100, 101, 108, 105, 118, 101, 114, 32, 48]⟩, .string ⟨#[32]⟩] w fun e w' => e = .returned (.slice (some ⟨w.heap.size, 0, none⟩) 2 2) ∧ w' = w.alloc (.cells #[.string ⟨#[100, 101, 108, 105, 118, 101, 114]⟩, .string ⟨#[48]⟩] 9) := split_w cut_deliver m w h.cellMax
  have hnum : ∀ w, Calls Tryz.prog 11 #[.string ⟨#[100, 101, 108, 105, 118, 101, 114]⟩] w fun e w' => e = .returned (.tuple #[.int .i64 0, .bool false]) ∧ Fr [] w w' := fun w => number_any (s := [100, 101, 108, 105, 118, 101, 114]) (.bad _ (by decide) (by decide) (trim_first (by decide))) w
  have HS := Lib.hid (And.intro hs (And.intro h hnum))
  clear h hs hnum
  go_enter Tryz.func6, Tryz.ntmps6
  go_wp2
  refine wp_scope_once 1 rfl ?_
  go_upto_region 2 with (go_at_call 8; refine HS.out.1.mono ?_; rintro e w1 ⟨rfl, hw⟩; have H1 := Lib.hid hw; clear hw)
  obtain ⟨g, hg⟩ : ∃ g, g = w.heap.size := ⟨_, rfl⟩
  have hb : w1.heap[g]? = some (.cells #[.string ⟨#[100, 101, 108, 105, 118, 101, 114]⟩, .string ⟨#[48]⟩] 9 (0, 0)) := by rw [H1.out, hg]; exact alloc_at w _
  have c0 : w1.cell? ⟨g, 0, none⟩ = some (.string ⟨#[100, 101, 108, 105, 118, 101, 114]⟩) := cell_of hb 0
  have f1 : Fr [] w w1 := by rw [H1.out]; exact (Fr.refl [] w).alloc _
  have HF := Lib.hid (And.intro f1 hb)
  rw [← hg]
  clear hg f1 hb
  go_quiet (fail)
  have HX := Lib.hid (And.intro (HF.out.1.trans (Fr.drewN [] w1 nq)) ((Fr.drewN [] w1 nq).blk HF.out.2 (by simp)))
  clear c0
  generalize w1.drewN nq = w2 at *
  go_upto_region 4 with (go_at_call 9; refine (nums_one1 0 (by decide) g w2 (cs_tail HX.out.2)).mono ?_; rintro e w3 ⟨b3, c3, rfl, k3, l3, f3⟩; have H3 := Lib.hid (And.intro k3 (And.intro l3 f3)); clear f3 k3 l3)
  go_upto_region 7 with (go_at_call 9; refine (nums_one2 0 (by decide) g w3 (cs_tail (H3.out.2.2.blk HX.out.2 (by simp)))).mono ?_; rintro e w4 ⟨b4, c4, rfl, f4⟩; have H4 := Lib.hid f4; clear f4)
  go_upto_region 8 with (go_at_call 10; refine (contains_w (zs := [⟨#[100, 101, 108, 105, 118, 101, 114]⟩, ⟨#[48]⟩]) (b := false) (n := 2) rfl (g := g) (by decide) (by decide) ((H3.out.2.2.trans H4.out).blk HX.out.2 (by simp))).mono ?_; rintro e w5 ⟨rfl, hw⟩; obtain rfl := hw.symm)
  go_upto_region 9 with (go_at_call 11; refine (HS.out.2.2 _).mono ?_; rintro e w5 ⟨rfl, f5⟩; have H5 := Lib.hid f5; clear f5)
  have hD := HS.out.2.1.fr0 ((HX.out.1.trans (H3.out.2.2.trans H4.out)).trans H5.out)
  have cd := (cell_of hD.desk.desk 0).trans (show _ = some (Value.pointer (some ⟨W, 0, none⟩)) from rfl)
  have HD := Lib.hid hD
  clear hD
  go_wp2
  refine wp_goto ⟨rfl, ?_⟩
  obtain ⟨q, o, hq, hk⟩ := H3.out.1.at (by simp)
  have ck : w5.cell? ⟨q, o, none⟩ = some (.int .i64 0) := (H4.out.trans H5.out).cell (hk 0 _ rfl) (by simp)
  have hl3 := H3.out.2.1
  subst hq
  clear hk
  go_upto_region 26 with fail
  have d0 : ∀ x, (sup [] w5.drew x).cell? ⟨q, o, none⟩ = some (.int .i64 0) := fun x => (sup_fr [] w5.drew x).cell (show w5.drew.cell? _ = _ from ck) (by simp)
  have d1 : ∀ x, (sup [] w5.drew x).cell? ⟨D, 0, none⟩ = some (.pointer (some ⟨W, 0, none⟩)) := fun x => (sup_fr [] w5.drew x).cell (show w5.drew.cell? _ = _ from cd) (by simp)
  clear ck cd
  refine region_mix 10 [(false, 0), (false, 1), (false, 2), (false, 3), (false, 4), (false, 5), (false, 6), (true, 7), (true, 8), (false, 9)] [] (by kernel_rfl) (by kernel_rfl) (fun _ _ d _ _ h => by cases d <;> exact h) ?_
  simp only [List.map_cons, List.map_nil, List.getD_cons_zero, List.getD_cons_succ, List.drop_succ_cons, List.drop_zero, List.drop_nil]
  refine mix_seg 7 rfl ?_
  simp only [List.take_succ_cons, List.take_zero, List.drop_succ_cons, List.drop_zero, List.map_cons, List.map_nil]
  repeat (go_big_quiet_step (fail))
  refine wpQuiet_nil ?_
  refine mix_eff rfl ?_
  intro K hK
  go_wp2_with (go_at_call 16; refine (step_none (HD.out.fr0 (Fr.drew1 [] _)).desk.world 1 0 (.inl rfl) (by decide)).mono ?_; rintro e w6 ⟨rfl, hw⟩; obtain rfl := hw.symm)
  refine hK.out _ _ (Fr.refl _ _) ?_
  clear hK K
  refine mix_eff rfl ?_
  intro K hK
  go_wp2_with (go_at_call 12; refine (answer_err _).mono ?_; rintro e w7 ⟨rfl, hw⟩; obtain rfl := hw.symm)
  refine hK.out _ _ (Fr.refl _ _) ?_
  clear hK K
  refine mix_seg 1 rfl ?_
  simp only [List.take_succ_cons, List.take_zero, List.drop_succ_cons, List.drop_zero, List.map_cons, List.map_nil]
  repeat (go_big_quiet_step (fail))
  refine wpQuiet_nil ?_
  refine mix_nil ?_
  go_wp2
  simp only [Exit.jump]
  go_ret
  exact ⟨rfl, HD.out.fr0 (Fr.drew1 [] _)⟩

theorem cut_drop : CutB [100, 114, 111, 112, 32, 48, 48] [[100, 114, 111, 112], [48, 48]] := ⟨by decide, by kernel_rfl, by kernel_rfl⟩
set_option maxHeartbeats 8000000 in
theorem do_drop (h : DS w0 w m D W Q now ao cp ns) : Calls Tryz.prog 6 #[.pointer (some ⟨D, 0, none⟩), .string ⟨#[100, 114, 111, 112, 32, 48, 48]⟩] w fun e w' => e = .returned (.string errS) ∧ DS w0 w' m D W Q now ao cp ns := by
  have hs : Calls Tryz.prog 8 #[.string ⟨#[100, 114, 111, 112, 32, 48, 48]⟩, .string ⟨#[32]⟩] w fun e w' => e = .returned (.slice (some ⟨w.heap.size, 0, none⟩) 2 2) ∧ w' = w.alloc (.cells #[.string ⟨#[100, 114, 111, 112]⟩, .string ⟨#[48, 48]⟩] 9) := split_w cut_drop m w h.cellMax
  have hnum : ∀ w, Calls Tryz.prog 11 #[.string ⟨#[100, 114, 111, 112]⟩] w fun e w' => e = .returned (.tuple #[.int .i64 0, .bool false]) ∧ Fr [] w w' := fun w => number_any (s := [100, 114, 111, 112]) (.bad _ (by decide) (by decide) (trim_first (by decide))) w
  have HS := Lib.hid (And.intro hs (And.intro h hnum))
  clear h hs hnum
  go_enter Tryz.func6, Tryz.ntmps6
  go_wp2
  refine wp_scope_once 0 rfl ?_
  go_upto_region 2 with (go_at_call 8; refine HS.out.1.mono ?_; rintro e w1 ⟨rfl, hw⟩; have H1 := Lib.hid hw; clear hw)
  obtain ⟨g, hg⟩ : ∃ g, g = w.heap.size := ⟨_, rfl⟩
  have hb : w1.heap[g]? = some (.cells #[.string ⟨#[100, 114, 111, 112]⟩, .string ⟨#[48, 48]⟩] 9 (0, 0)) := by rw [H1.out, hg]; exact alloc_at w _
  have c0 : w1.cell? ⟨g, 0, none⟩ = some (.string ⟨#[100, 114, 111, 112]⟩) := cell_of hb 0
  have f1 : Fr [] w w1 := by rw [H1.out]; exact (Fr.refl [] w).alloc _
  have HF := Lib.hid (And.intro f1 hb)
  rw [← hg]
  clear hg f1 hb
  go_quiet (fail)
  have HX := Lib.hid (And.intro (HF.out.1.trans (Fr.drewN [] w1 nq)) ((Fr.drewN [] w1 nq).blk HF.out.2 (by simp)))
  clear c0
  generalize w1.drewN nq = w2 at *
  have hna : NumsAre [[48, 48]] [none] := (.cons (.zero 48) .nil)
  go_upto_region 4 with (go_at_call 9; refine (nums_bad hna rfl g 1 rfl (by decide) 1 (by decide) w2 (cs_tail HX.out.2)).mono ?_; rintro e w3 ⟨rfl, f3⟩; have H3 := Lib.hid f3; clear f3)
  go_upto_region 7 with (go_at_call 9; refine (nums_bad hna rfl g 1 rfl (by decide) 2 (by decide) w3 (cs_tail (H3.out.blk HX.out.2 (by simp)))).mono ?_; rintro e w4 ⟨rfl, f4⟩; have H4 := Lib.hid f4; clear f4)
  go_upto_region 8 with (go_at_call 10; refine (contains_w (zs := [⟨#[100, 114, 111, 112]⟩, ⟨#[48, 48]⟩]) (b := false) (n := 2) rfl (g := g) (by decide) (by decide) ((H3.out.trans H4.out).blk HX.out.2 (by simp))).mono ?_; rintro e w5 ⟨rfl, hw⟩; obtain rfl := hw.symm)
  go_upto_region 9 with (go_at_call 11; refine (HS.out.2.2 _).mono ?_; rintro e w5 ⟨rfl, f5⟩; have H5 := Lib.hid f5; clear f5)
  have hD := HS.out.2.1.fr0 ((HX.out.1.trans (H3.out.trans H4.out)).trans H5.out)
  have cd := (cell_of hD.desk.desk 0).trans (show _ = some (Value.pointer (some ⟨W, 0, none⟩)) from rfl)
  have HD := Lib.hid hD
  clear hD
  go_wp2
  refine wp_goto ⟨rfl, ?_⟩
  go_wp2_with (go_at_call 12; refine (answer_err _).mono ?_; rintro e w9 ⟨rfl, hw⟩; obtain rfl := hw.symm)
  simp only [Exit.jump]
  go_ret
  exact ⟨rfl, HD.out⟩

theorem cut_state9 : CutB [115, 116, 97, 116, 101, 32, 57] [[115, 116, 97, 116, 101], [57]] := ⟨by decide, by kernel_rfl, by kernel_rfl⟩
set_option maxHeartbeats 8000000 in
theorem do_state9 (h : DS w0 w m D W Q now ao cp ns) : Calls Tryz.prog 6 #[.pointer (some ⟨D, 0, none⟩), .string ⟨#[115, 116, 97, 116, 101, 32, 57]⟩] w fun e w' => e = .returned (.string errS) ∧ DS w0 w' m D W Q now ao cp ns := by
  have hs : Calls Tryz.prog 8 #[.string ⟨#[115, 116, 97, 116, 101, 32, 57]⟩, .string ⟨#[32]⟩] w fun e w' => e = .returned (.slice (some ⟨w.heap.size, 0, none⟩) 2 2) ∧ w' = w.alloc (.cells #[.string ⟨#[115, 116, 97, 116, 101]⟩, .string ⟨#[57]⟩] 9) := split_w cut_state9 m w h.cellMax
  have hnum : ∀ w, Calls Tryz.prog 11 #[.string ⟨#[115, 116, 97, 116, 101]⟩] w fun e w' => e = .returned (.tuple #[.int .i64 0, .bool false]) ∧ Fr [] w w' := fun w => number_any (s := [115, 116, 97, 116, 101]) (.bad _ (by decide) (by decide) (trim_first (by decide))) w
  have HS := Lib.hid (And.intro hs (And.intro h hnum))
  clear h hs hnum
  go_enter Tryz.func6, Tryz.ntmps6
  go_wp2
  refine wp_scope_once 1 rfl ?_
  go_upto_region 2 with (go_at_call 8; refine HS.out.1.mono ?_; rintro e w1 ⟨rfl, hw⟩; have H1 := Lib.hid hw; clear hw)
  obtain ⟨g, hg⟩ : ∃ g, g = w.heap.size := ⟨_, rfl⟩
  have hb : w1.heap[g]? = some (.cells #[.string ⟨#[115, 116, 97, 116, 101]⟩, .string ⟨#[57]⟩] 9 (0, 0)) := by rw [H1.out, hg]; exact alloc_at w _
  have c0 : w1.cell? ⟨g, 0, none⟩ = some (.string ⟨#[115, 116, 97, 116, 101]⟩) := cell_of hb 0
  have f1 : Fr [] w w1 := by rw [H1.out]; exact (Fr.refl [] w).alloc _
  have HF := Lib.hid (And.intro f1 hb)
  rw [← hg]
  clear hg f1 hb
  go_quiet (fail)
  have HX := Lib.hid (And.intro (HF.out.1.trans (Fr.drewN [] w1 nq)) ((Fr.drewN [] w1 nq).blk HF.out.2 (by simp)))
  clear c0
  generalize w1.drewN nq = w2 at *
  go_upto_region 4 with (go_at_call 9; refine (nums_one1 9 (by decide) g w2 (cs_tail HX.out.2)).mono ?_; rintro e w3 ⟨b3, c3, rfl, k3, l3, f3⟩; have H3 := Lib.hid (And.intro k3 (And.intro l3 f3)); clear f3 k3 l3)
  go_upto_region 7 with (go_at_call 9; refine (nums_one2 9 (by decide) g w3 (cs_tail (H3.out.2.2.blk HX.out.2 (by simp)))).mono ?_; rintro e w4 ⟨b4, c4, rfl, f4⟩; have H4 := Lib.hid f4; clear f4)
  go_upto_region 8 with (go_at_call 10; refine (contains_w (zs := [⟨#[115, 116, 97, 116, 101]⟩, ⟨#[57]⟩]) (b := false) (n := 2) rfl (g := g) (by decide) (by decide) ((H3.out.2.2.trans H4.out).blk HX.out.2 (by simp))).mono ?_; rintro e w5 ⟨rfl, hw⟩; obtain rfl := hw.symm)
  go_upto_region 9 with (go_at_call 11; refine (HS.out.2.2 _).mono ?_; rintro e w5 ⟨rfl, f5⟩; have H5 := Lib.hid f5; clear f5)
  have hD := HS.out.2.1.fr0 ((HX.out.1.trans (H3.out.2.2.trans H4.out)).trans H5.out)
  have cd := (cell_of hD.desk.desk 0).trans (show _ = some (Value.pointer (some ⟨W, 0, none⟩)) from rfl)
  have HD := Lib.hid hD
  clear hD
  go_wp2
  refine wp_goto ⟨rfl, ?_⟩
  obtain ⟨q, o, hq, hk⟩ := H3.out.1.at (by simp)
  have ck : w5.cell? ⟨q, o, none⟩ = some (.int .i64 9) := (H4.out.trans H5.out).cell (hk 0 _ rfl) (by simp)
  have hl3 := H3.out.2.1
  subst hq
  clear hk
  go_wp2_with (go_at_call 23; refine (desk_state_none HD.out).mono ?_; rintro e w6 ⟨rfl, hw⟩; obtain rfl := hw.symm)
  simp only [Exit.jump]
  go_ret
  exact ⟨rfl, HD.out⟩

theorem cut_check9 : CutB [99, 104, 101, 99, 107, 32, 57] [[99, 104, 101, 99, 107], [57]] := ⟨by decide, by kernel_rfl, by kernel_rfl⟩
set_option maxHeartbeats 8000000 in
theorem do_check9 (h : DS w0 w m D W Q now ao cp ns) : Calls Tryz.prog 6 #[.pointer (some ⟨D, 0, none⟩), .string ⟨#[99, 104, 101, 99, 107, 32, 57]⟩] w fun e w' => e = .returned (.string errS) ∧ DS w0 w' m D W Q now ao cp ns := by
  have hs : Calls Tryz.prog 8 #[.string ⟨#[99, 104, 101, 99, 107, 32, 57]⟩, .string ⟨#[32]⟩] w fun e w' => e = .returned (.slice (some ⟨w.heap.size, 0, none⟩) 2 2) ∧ w' = w.alloc (.cells #[.string ⟨#[99, 104, 101, 99, 107]⟩, .string ⟨#[57]⟩] 9) := split_w cut_check9 m w h.cellMax
  have hnum : ∀ w, Calls Tryz.prog 11 #[.string ⟨#[99, 104, 101, 99, 107]⟩] w fun e w' => e = .returned (.tuple #[.int .i64 0, .bool false]) ∧ Fr [] w w' := fun w => number_any (s := [99, 104, 101, 99, 107]) (.bad _ (by decide) (by decide) (trim_first (by decide))) w
  have HS := Lib.hid (And.intro hs (And.intro h hnum))
  clear h hs hnum
  go_enter Tryz.func6, Tryz.ntmps6
  go_wp2
  refine wp_scope_once 1 rfl ?_
  go_upto_region 2 with (go_at_call 8; refine HS.out.1.mono ?_; rintro e w1 ⟨rfl, hw⟩; have H1 := Lib.hid hw; clear hw)
  obtain ⟨g, hg⟩ : ∃ g, g = w.heap.size := ⟨_, rfl⟩
  have hb : w1.heap[g]? = some (.cells #[.string ⟨#[99, 104, 101, 99, 107]⟩, .string ⟨#[57]⟩] 9 (0, 0)) := by rw [H1.out, hg]; exact alloc_at w _
  have c0 : w1.cell? ⟨g, 0, none⟩ = some (.string ⟨#[99, 104, 101, 99, 107]⟩) := cell_of hb 0
  have f1 : Fr [] w w1 := by rw [H1.out]; exact (Fr.refl [] w).alloc _
  have HF := Lib.hid (And.intro f1 hb)
  rw [← hg]
  clear hg f1 hb
  go_quiet (fail)
  have HX := Lib.hid (And.intro (HF.out.1.trans (Fr.drewN [] w1 nq)) ((Fr.drewN [] w1 nq).blk HF.out.2 (by simp)))
  clear c0
  generalize w1.drewN nq = w2 at *
  go_upto_region 4 with (go_at_call 9; refine (nums_one1 9 (by decide) g w2 (cs_tail HX.out.2)).mono ?_; rintro e w3 ⟨b3, c3, rfl, k3, l3, f3⟩; have H3 := Lib.hid (And.intro k3 (And.intro l3 f3)); clear f3 k3 l3)
  go_upto_region 7 with (go_at_call 9; refine (nums_one2 9 (by decide) g w3 (cs_tail (H3.out.2.2.blk HX.out.2 (by simp)))).mono ?_; rintro e w4 ⟨b4, c4, rfl, f4⟩; have H4 := Lib.hid f4; clear f4)
  go_upto_region 8 with (go_at_call 10; refine (contains_w (zs := [⟨#[99, 104, 101, 99, 107]⟩, ⟨#[57]⟩]) (b := false) (n := 2) rfl (g := g) (by decide) (by decide) ((H3.out.2.2.trans H4.out).blk HX.out.2 (by simp))).mono ?_; rintro e w5 ⟨rfl, hw⟩; obtain rfl := hw.symm)
  go_upto_region 9 with (go_at_call 11; refine (HS.out.2.2 _).mono ?_; rintro e w5 ⟨rfl, f5⟩; have H5 := Lib.hid f5; clear f5)
  have hD := HS.out.2.1.fr0 ((HX.out.1.trans (H3.out.2.2.trans H4.out)).trans H5.out)
  have cd := (cell_of hD.desk.desk 0).trans (show _ = some (Value.pointer (some ⟨W, 0, none⟩)) from rfl)
  have HD := Lib.hid hD
  clear hD
  go_wp2
  refine wp_goto ⟨rfl, ?_⟩
  obtain ⟨q, o, hq, hk⟩ := H3.out.1.at (by simp)
  have ck : w5.cell? ⟨q, o, none⟩ = some (.int .i64 9) := (H4.out.trans H5.out).cell (hk 0 _ rfl) (by simp)
  have hl3 := H3.out.2.1
  subst hq
  clear hk
  go_wp2_with (go_at_call 25; refine (desk_check_none HD.out).mono ?_; rintro e w6 ⟨rfl, hw⟩; obtain rfl := hw.symm)
  simp only [Exit.jump]
  go_ret
  exact ⟨rfl, HD.out⟩

theorem cut_tick1 : CutB [116, 105, 99, 107, 32, 49] [[116, 105, 99, 107], [49]] := ⟨by decide, by kernel_rfl, by kernel_rfl⟩
set_option maxHeartbeats 8000000 in
theorem do_tick1 (h : DS w0 w m D W Q now ao cp ns) : Calls Tryz.prog 6 #[.pointer (some ⟨D, 0, none⟩), .string ⟨#[116, 105, 99, 107, 32, 49]⟩] w fun e w' => e = .returned (.string errS) ∧ DS w0 w' m D W Q now ao cp ns := by
  have hs : Calls Tryz.prog 8 #[.string ⟨#[116, 105, 99, 107, 32, 49]⟩, .string ⟨#[32]⟩] w fun e w' => e = .returned (.slice (some ⟨w.heap.size, 0, none⟩) 2 2) ∧ w' = w.alloc (.cells #[.string ⟨#[116, 105, 99, 107]⟩, .string ⟨#[49]⟩] 9) := split_w cut_tick1 m w h.cellMax
  have hnum : ∀ w, Calls Tryz.prog 11 #[.string ⟨#[116, 105, 99, 107]⟩] w fun e w' => e = .returned (.tuple #[.int .i64 0, .bool false]) ∧ Fr [] w w' := fun w => number_any (s := [116, 105, 99, 107]) (.bad _ (by decide) (by decide) (trim_first (by decide))) w
  have HS := Lib.hid (And.intro hs (And.intro h hnum))
  clear h hs hnum
  go_enter Tryz.func6, Tryz.ntmps6
  go_wp2
  refine wp_scope_once 1 rfl ?_
  go_upto_region 2 with (go_at_call 8; refine HS.out.1.mono ?_; rintro e w1 ⟨rfl, hw⟩; have H1 := Lib.hid hw; clear hw)
  obtain ⟨g, hg⟩ : ∃ g, g = w.heap.size := ⟨_, rfl⟩
  have hb : w1.heap[g]? = some (.cells #[.string ⟨#[116, 105, 99, 107]⟩, .string ⟨#[49]⟩] 9 (0, 0)) := by rw [H1.out, hg]; exact alloc_at w _
  have c0 : w1.cell? ⟨g, 0, none⟩ = some (.string ⟨#[116, 105, 99, 107]⟩) := cell_of hb 0
  have f1 : Fr [] w w1 := by rw [H1.out]; exact (Fr.refl [] w).alloc _
  have HF := Lib.hid (And.intro f1 hb)
  rw [← hg]
  clear hg f1 hb
  go_quiet (fail)
  have HX := Lib.hid (And.intro (HF.out.1.trans (Fr.drewN [] w1 nq)) ((Fr.drewN [] w1 nq).blk HF.out.2 (by simp)))
  clear c0
  generalize w1.drewN nq = w2 at *
  go_upto_region 4 with (go_at_call 9; refine (nums_one1 1 (by decide) g w2 (cs_tail HX.out.2)).mono ?_; rintro e w3 ⟨b3, c3, rfl, k3, l3, f3⟩; have H3 := Lib.hid (And.intro k3 (And.intro l3 f3)); clear f3 k3 l3)
  go_upto_region 7 with (go_at_call 9; refine (nums_one2 1 (by decide) g w3 (cs_tail (H3.out.2.2.blk HX.out.2 (by simp)))).mono ?_; rintro e w4 ⟨b4, c4, rfl, f4⟩; have H4 := Lib.hid f4; clear f4)
  go_upto_region 8 with (go_at_call 10; refine (contains_w (zs := [⟨#[116, 105, 99, 107]⟩, ⟨#[49]⟩]) (b := false) (n := 2) rfl (g := g) (by decide) (by decide) ((H3.out.2.2.trans H4.out).blk HX.out.2 (by simp))).mono ?_; rintro e w5 ⟨rfl, hw⟩; obtain rfl := hw.symm)
  go_upto_region 9 with (go_at_call 11; refine (HS.out.2.2 _).mono ?_; rintro e w5 ⟨rfl, f5⟩; have H5 := Lib.hid f5; clear f5)
  have hD := HS.out.2.1.fr0 ((HX.out.1.trans (H3.out.2.2.trans H4.out)).trans H5.out)
  have cd := (cell_of hD.desk.desk 0).trans (show _ = some (Value.pointer (some ⟨W, 0, none⟩)) from rfl)
  have HD := Lib.hid hD
  clear hD
  go_wp2
  refine wp_goto ⟨rfl, ?_⟩
  go_wp2
  refine wp_label ?_
  go_wp2_with (go_at_call 12; refine (answer_err _).mono ?_; rintro e w7 ⟨rfl, hw⟩; obtain rfl := hw.symm)
  simp only [Exit.jump]
  go_ret
  exact ⟨rfl, HD.out⟩

theorem cut_commit : CutB [49, 32, 32, 99, 111, 109, 109, 105, 116, 32, 114, 101, 102, 115, 47, 104, 101, 97, 100, 115, 47, 97] [[49], [], [99, 111, 109, 109, 105, 116], [114, 101, 102, 115, 47, 104, 101, 97, 100, 115, 47, 97]] := ⟨by decide, by kernel_rfl, by kernel_rfl⟩
set_option maxHeartbeats 8000000 in
theorem do_commit (h : DS w0 w m D W Q now ao cp ns) : Calls Tryz.prog 6 #[.pointer (some ⟨D, 0, none⟩), .string ⟨#[49, 32, 32, 99, 111, 109, 109, 105, 116, 32, 114, 101, 102, 115, 47, 104, 101, 97, 100, 115, 47, 97]⟩] w fun e w' => e = .returned (.string errS) ∧ DS w0 w' m D W Q now ao cp ns := by
  have hs : Calls Tryz.prog 8 #[.string ⟨#[49, 32, 32, 99, 111, 109, 109, 105, 116, 32, 114, 101, 102, 115, 47, 104, 101, 97, 100, 115, 47, 97]⟩, .string ⟨#[32]⟩] w fun e w' => e = .returned (.slice (some ⟨w.heap.size, 0, none⟩) 4 4) ∧ w' = w.alloc (.cells #[.string ⟨#[49]⟩, .string ⟨#[]⟩, .string ⟨#[99, 111, 109, 109, 105, 116]⟩, .string ⟨#[114, 101, 102, 115, 47, 104, 101, 97, 100, 115, 47, 97]⟩] 9) := split_w cut_commit m w h.cellMax
  have HS := Lib.hid (And.intro hs h)
  clear h hs
  go_enter Tryz.func6, Tryz.ntmps6
  go_wp2
  refine wp_scope_once 0 rfl ?_
  go_upto_region 2 with (go_at_call 8; refine HS.out.1.mono ?_; rintro e w1 ⟨rfl, hw⟩; have H1 := Lib.hid hw; clear hw)
  obtain ⟨g, hg⟩ : ∃ g, g = w.heap.size := ⟨_, rfl⟩
  have hb : w1.heap[g]? = some (.cells #[.string ⟨#[49]⟩, .string ⟨#[]⟩, .string ⟨#[99, 111, 109, 109, 105, 116]⟩, .string ⟨#[114, 101, 102, 115, 47, 104, 101, 97, 100, 115, 47, 97]⟩] 9 (0, 0)) := by rw [H1.out, hg]; exact alloc_at w _
  have c0 : w1.cell? ⟨g, 0, none⟩ = some (.string ⟨#[49]⟩) := cell_of hb 0
  have f1 : Fr [] w w1 := by rw [H1.out]; exact (Fr.refl [] w).alloc _
  have HF := Lib.hid (And.intro f1 hb)
  rw [← hg]
  clear hg f1 hb
  go_quiet (fail)
  have HX := Lib.hid (And.intro (HF.out.1.trans (Fr.drewN [] w1 nq)) ((Fr.drewN [] w1 nq).blk HF.out.2 (by simp)))
  clear c0
  generalize w1.drewN nq = w2 at *
  have hna : NumsAre [[], [99, 111, 109, 109, 105, 116], [114, 101, 102, 115, 47, 104, 101, 97, 100, 115, 47, 97]] [none, none, none] := (.cons .empty (.cons (.bad _ (by decide) (by decide) (trim_first (by decide))) (.cons (.bad _ (by decide) (by decide) (trim_first (by decide))) .nil)))
  go_upto_region 4 with (go_at_call 9; refine (nums_bad hna rfl g 3 rfl (by decide) 1 (by decide) w2 (cs_tail HX.out.2)).mono ?_; rintro e w3 ⟨rfl, f3⟩; have H3 := Lib.hid f3; clear f3)
  go_upto_region 7 with (go_at_call 9; refine (nums_bad hna rfl g 3 rfl (by decide) 2 (by decide) w3 (cs_tail (H3.out.blk HX.out.2 (by simp)))).mono ?_; rintro e w4 ⟨rfl, f4⟩; have H4 := Lib.hid f4; clear f4)
  go_wp2_with (go_at_call 10; refine (contains_w (zs := [⟨#[49]⟩, ⟨#[]⟩, ⟨#[99, 111, 109, 109, 105, 116]⟩, ⟨#[114, 101, 102, 115, 47, 104, 101, 97, 100, 115, 47, 97]⟩]) (b := true) (n := 4) rfl (g := g) (by decide) (by decide) ((H3.out.trans H4.out).blk HX.out.2 (by simp))).mono ?_; rintro e w5 ⟨rfl, hw⟩; obtain rfl := hw.symm)
  refine wp_goto ⟨rfl, ?_⟩
  go_wp2_with (go_at_call 12; refine (answer_err _).mono ?_; rintro e w9 ⟨rfl, hw⟩; obtain rfl := hw.symm)
  simp only [Exit.jump]
  go_ret
  exact ⟨rfl, HS.out.2.fr0 (HX.out.1.trans (H3.out.trans H4.out))⟩

theorem cut_empty : CutB [] [[]] := ⟨by decide, by kernel_rfl, by kernel_rfl⟩
set_option maxHeartbeats 8000000 in
theorem do_empty (h : DS w0 w m D W Q now ao cp ns) : Calls Tryz.prog 6 #[.pointer (some ⟨D, 0, none⟩), .string ⟨#[]⟩] w fun e w' => e = .returned (.string ⟨#[]⟩) ∧ DS w0 w' m D W Q now ao cp ns := by
  have hs : Calls Tryz.prog 8 #[.string ⟨#[]⟩, .string ⟨#[32]⟩] w fun e w' => e = .returned (.slice (some ⟨w.heap.size, 0, none⟩) 1 1) ∧ w' = w.alloc (.cells #[.string ⟨#[]⟩] 9) := split_w cut_empty m w h.cellMax
  have HS := Lib.hid (And.intro hs h)
  clear h hs
  go_enter Tryz.func6, Tryz.ntmps6
  go_wp2
  refine wp_scope_once 0 rfl ?_
  go_upto_region 2 with (go_at_call 8; refine HS.out.1.mono ?_; rintro e w1 ⟨rfl, hw⟩; have H1 := Lib.hid hw; clear hw)
  obtain ⟨g, hg⟩ : ∃ g, g = w.heap.size := ⟨_, rfl⟩
  have hb : w1.heap[g]? = some (.cells #[.string ⟨#[]⟩] 9 (0, 0)) := by rw [H1.out, hg]; exact alloc_at w _
  have c0 : w1.cell? ⟨g, 0, none⟩ = some (.string ⟨#[]⟩) := cell_of hb 0
  have f1 : Fr [] w w1 := by rw [H1.out]; exact (Fr.refl [] w).alloc _
  have HF := Lib.hid (And.intro f1 hb)
  rw [← hg]
  clear hg f1 hb
  go_quiet (fail)
  have HX := Lib.hid (And.intro (HF.out.1.trans (Fr.drewN [] w1 nq)) ((Fr.drewN [] w1 nq).blk HF.out.2 (by simp)))
  clear c0
  generalize w1.drewN nq = w2 at *
  go_upto_region 4 with (go_at_call 9; refine (nums_none 1 (.inl rfl) _ _ _).mono ?_; rintro e w3 ⟨b3, c3, rfl, f3⟩; have H3 := Lib.hid f3; clear f3)
  go_wp2_with (go_at_call 9; refine (nums_none 2 (.inr rfl) _ _ _).mono ?_; rintro e w4 ⟨b4, c4, rfl, f4⟩; have H4 := Lib.hid f4; clear f4)
  simp only [Exit.jump]
  go_ret
  exact ⟨rfl, HS.out.2.fr0 (HX.out.1.trans (H3.out.trans H4.out))⟩

theorem cut_zz : CutB [122, 122] [[122, 122]] := ⟨by decide, by kernel_rfl, by kernel_rfl⟩
set_option maxHeartbeats 8000000 in
theorem do_zz (h : DS w0 w m D W Q now ao cp ns) : Calls Tryz.prog 6 #[.pointer (some ⟨D, 0, none⟩), .string ⟨#[122, 122]⟩] w fun e w' => e = .returned (.string errS) ∧ DS w0 w' m D W Q now ao cp ns := by
  have hs : Calls Tryz.prog 8 #[.string ⟨#[122, 122]⟩, .string ⟨#[32]⟩] w fun e w' => e = .returned (.slice (some ⟨w.heap.size, 0, none⟩) 1 1) ∧ w' = w.alloc (.cells #[.string ⟨#[122, 122]⟩] 9) := split_w cut_zz m w h.cellMax
  have hnum : ∀ w, Calls Tryz.prog 11 #[.string ⟨#[122, 122]⟩] w fun e w' => e = .returned (.tuple #[.int .i64 0, .bool false]) ∧ Fr [] w w' := fun w => number_any (s := [122, 122]) (.bad _ (by decide) (by decide) (trim_first (by decide))) w
  have HS := Lib.hid (And.intro hs (And.intro h hnum))
  clear h hs hnum
  go_enter Tryz.func6, Tryz.ntmps6
  go_wp2
  refine wp_scope_once 0 rfl ?_
  go_upto_region 2 with (go_at_call 8; refine HS.out.1.mono ?_; rintro e w1 ⟨rfl, hw⟩; have H1 := Lib.hid hw; clear hw)
  obtain ⟨g, hg⟩ : ∃ g, g = w.heap.size := ⟨_, rfl⟩
  have hb : w1.heap[g]? = some (.cells #[.string ⟨#[122, 122]⟩] 9 (0, 0)) := by rw [H1.out, hg]; exact alloc_at w _
  have c0 : w1.cell? ⟨g, 0, none⟩ = some (.string ⟨#[122, 122]⟩) := cell_of hb 0
  have f1 : Fr [] w w1 := by rw [H1.out]; exact (Fr.refl [] w).alloc _
  have HF := Lib.hid (And.intro f1 hb)
  rw [← hg]
  clear hg f1 hb
  go_quiet (fail)
  have HX := Lib.hid (And.intro (HF.out.1.trans (Fr.drewN [] w1 nq)) ((Fr.drewN [] w1 nq).blk HF.out.2 (by simp)))
  clear c0
  generalize w1.drewN nq = w2 at *
  go_upto_region 4 with (go_at_call 9; refine (nums_none 1 (.inl rfl) _ _ _).mono ?_; rintro e w3 ⟨b3, c3, rfl, f3⟩; have H3 := Lib.hid f3; clear f3)
  go_upto_region 7 with (go_at_call 9; refine (nums_none 2 (.inr rfl) _ _ _).mono ?_; rintro e w4 ⟨b4, c4, rfl, f4⟩; have H4 := Lib.hid f4; clear f4)
  go_upto_region 8 with (go_at_call 10; refine (contains_w (zs := [⟨#[122, 122]⟩]) (b := false) (n := 1) rfl (g := g) (by decide) (by decide) ((H3.out.trans H4.out).blk HX.out.2 (by simp))).mono ?_; rintro e w5 ⟨rfl, hw⟩; obtain rfl := hw.symm)
  go_upto_region 9 with (go_at_call 11; refine (HS.out.2.2 _).mono ?_; rintro e w5 ⟨rfl, f5⟩; have H5 := Lib.hid f5; clear f5)
  have hD := HS.out.2.1.fr0 ((HX.out.1.trans (H3.out.trans H4.out)).trans H5.out)
  have cd := (cell_of hD.desk.desk 0).trans (show _ = some (Value.pointer (some ⟨W, 0, none⟩)) from rfl)
  have HD := Lib.hid hD
  clear hD
  go_wp2
  refine wp_goto ⟨rfl, ?_⟩
  go_wp2_with (go_at_call 12; refine (answer_err _).mono ?_; rintro e w9 ⟨rfl, hw⟩; obtain rfl := hw.symm)
  simp only [Exit.jump]
  go_ret
  exact ⟨rfl, HD.out⟩

theorem cut_state1 : CutB [115, 116, 97, 116, 101, 32, 49] [[115, 116, 97, 116, 101], [49]] := ⟨by decide, by kernel_rfl, by kernel_rfl⟩
set_option maxHeartbeats 8000000 in
theorem do_state1 (h : DS w0 w m D W Q now ao cp ns) : Calls Tryz.prog 6 #[.pointer (some ⟨D, 0, none⟩), .string ⟨#[115, 116, 97, 116, 101, 32, 49]⟩] w fun e w' => e = .returned (.string idleS) ∧ DS w0 w' m D W Q now ao cp ns := by
  have hs : Calls Tryz.prog 8 #[.string ⟨#[115, 116, 97, 116, 101, 32, 49]⟩, .string ⟨#[32]⟩] w fun e w' => e = .returned (.slice (some ⟨w.heap.size, 0, none⟩) 2 2) ∧ w' = w.alloc (.cells #[.string ⟨#[115, 116, 97, 116, 101]⟩, .string ⟨#[49]⟩] 9) := split_w cut_state1 m w h.cellMax
  have hnum : ∀ w, Calls Tryz.prog 11 #[.string ⟨#[115, 116, 97, 116, 101]⟩] w fun e w' => e = .returned (.tuple #[.int .i64 0, .bool false]) ∧ Fr [] w w' := fun w => number_any (s := [115, 116, 97, 116, 101]) (.bad _ (by decide) (by decide) (trim_first (by decide))) w
  have HS := Lib.hid (And.intro hs (And.intro h hnum))
  clear h hs hnum
  go_enter Tryz.func6, Tryz.ntmps6
  go_wp2
  refine wp_scope_once 1 rfl ?_
  go_upto_region 2 with (go_at_call 8; refine HS.out.1.mono ?_; rintro e w1 ⟨rfl, hw⟩; have H1 := Lib.hid hw; clear hw)
  obtain ⟨g, hg⟩ : ∃ g, g = w.heap.size := ⟨_, rfl⟩
  have hb : w1.heap[g]? = some (.cells #[.string ⟨#[115, 116, 97, 116, 101]⟩, .string ⟨#[49]⟩] 9 (0, 0)) := by rw [H1.out, hg]; exact alloc_at w _
  have c0 : w1.cell? ⟨g, 0, none⟩ = some (.string ⟨#[115, 116, 97, 116, 101]⟩) := cell_of hb 0
  have f1 : Fr [] w w1 := by rw [H1.out]; exact (Fr.refl [] w).alloc _
  have HF := Lib.hid (And.intro f1 hb)
  rw [← hg]
  clear hg f1 hb
  go_quiet (fail)
  have HX := Lib.hid (And.intro (HF.out.1.trans (Fr.drewN [] w1 nq)) ((Fr.drewN [] w1 nq).blk HF.out.2 (by simp)))
  clear c0
  generalize w1.drewN nq = w2 at *
  go_upto_region 4 with (go_at_call 9; refine (nums_one1 1 (by decide) g w2 (cs_tail HX.out.2)).mono ?_; rintro e w3 ⟨b3, c3, rfl, k3, l3, f3⟩; have H3 := Lib.hid (And.intro k3 (And.intro l3 f3)); clear f3 k3 l3)
  go_upto_region 7 with (go_at_call 9; refine (nums_one2 1 (by decide) g w3 (cs_tail (H3.out.2.2.blk HX.out.2 (by simp)))).mono ?_; rintro e w4 ⟨b4, c4, rfl, f4⟩; have H4 := Lib.hid f4; clear f4)
  go_upto_region 8 with (go_at_call 10; refine (contains_w (zs := [⟨#[115, 116, 97, 116, 101]⟩, ⟨#[49]⟩]) (b := false) (n := 2) rfl (g := g) (by decide) (by decide) ((H3.out.2.2.trans H4.out).blk HX.out.2 (by simp))).mono ?_; rintro e w5 ⟨rfl, hw⟩; obtain rfl := hw.symm)
  go_upto_region 9 with (go_at_call 11; refine (HS.out.2.2 _).mono ?_; rintro e w5 ⟨rfl, f5⟩; have H5 := Lib.hid f5; clear f5)
  have hD := HS.out.2.1.fr0 ((HX.out.1.trans (H3.out.2.2.trans H4.out)).trans H5.out)
  have cd := (cell_of hD.desk.desk 0).trans (show _ = some (Value.pointer (some ⟨W, 0, none⟩)) from rfl)
  have HD := Lib.hid hD
  clear hD
  go_wp2
  refine wp_goto ⟨rfl, ?_⟩
  obtain ⟨q, o, hq, hk⟩ := H3.out.1.at (by simp)
  have ck : w5.cell? ⟨q, o, none⟩ = some (.int .i64 1) := (H4.out.trans H5.out).cell (hk 0 _ rfl) (by simp)
  have hl3 := H3.out.2.1
  subst hq
  clear hk
  go_wp2_with (go_at_call 23; refine (desk_state_one HD.out).mono ?_; rintro e w6 ⟨rfl, f6⟩; have H6 := Lib.hid f6; clear f6)
  simp only [Exit.jump]
  go_ret
  exact ⟨rfl, HD.out.fr0 H6.out⟩
end
end Go.Proofs.YtflcdnmhgfhmdaaGreatDoor.wd
