/-
  Texts of this proof, one behind the other: ScriptV, WordsIn.
-/
import Derived.Test.YtflcdnmhgfhmdaaGreatDoorG24
set_option linter.unusedVariables false
set_option linter.unusedSimpArgs false
/-
  script.Do of a word of great letters, alone or ahead of a number.
-/
namespace Go.Proofs.YtflcdnmhgfhmdaaGreatDoor.wd
open Go Go.RowKit Go.Proofs.YtflcdnmhgfhmdaaGreatDoor.lib Go.Proofs.YtflcdnmhgfhmdaaGreatDoor.pk Go.Proofs.YtflcdnmhgfhmdaaGreatDoor.fs

set_option maxRecDepth 100000
/-- A word of great letters. -/
structure Up (s : List UInt8) : Prop where
  ne : s ≠ []
  len : s.length ≤ 300
  up : ∀ c ∈ s, 65 ≤ c.toNat ∧ c.toNat ≤ 90
theorem Up.no {s : List UInt8} (h : Up s) : ∀ c ∈ s, c ≠ 32 := by
  intro c hc e
  have := h.up c hc
  rw [e] at this
  exact absurd this.1 (by decide)
theorem Up.unlike {s : List UInt8} (h : Up s) (b : UInt8) (l : List UInt8) (hb : 97 ≤ b.toNat) : (s == b :: l) = false := by
  rw [beq_eq_false_iff_ne]
  intro e
  have := h.up b (by rw [e]; simp)
  omega
theorem Up.num {s : List UInt8} (h : Up s) : NumIs s none := by
  cases s with
  | nil => exact absurd rfl h.ne
  | cons c l =>
    refine .bad _ h.ne (by have := h.len; omega) (trim_first ?_)
    have hc := h.up c (by simp)
    rw [Bool.eq_false_iff]
    intro e
    have : c ∈ digs := by simpa using e
    simp only [digs, List.mem_cons, List.mem_nil_iff, or_false] at this
    rcases this with rfl | rfl | rfl | rfl | rfl | rfl | rfl | rfl | rfl | rfl <;> exact absurd hc.1 (by decide)
section
variable {w0 w : World} {m : Int} {D W Q : Nat} {now : Int} {ao : Option Addr} {cp : Nat} {ns : List Nat}
set_option maxHeartbeats 8000000 in
theorem do_word {s : List UInt8} (hs : Up s) (h : DS w0 w m D W Q now ao cp ns) : Calls Tryz.prog 6 #[.pointer (some ⟨D, 0, none⟩), .string (str s)] w fun e w' => e = .returned (.string errS) ∧ DS w0 w' m D W Q now ao cp ns := by
  have hsp : Calls Tryz.prog 8 #[.string (str s), .string ⟨#[32]⟩] w fun e w' => e = .returned (.slice (some ⟨w.heap.size, 0, none⟩) 1 1) ∧ w' = w.alloc (.cells #[.string (str s)] 9) := split_w (cut_one s (by have := hs.len; omega) hs.no) m w h.cellMax
  have hnum : ∀ w, Calls Tryz.prog 11 #[.string (str s)] w fun e w' => e = .returned (.tuple #[.int .i64 0, .bool false]) ∧ Fr [] w w' := fun w => number_any hs.num w
  have hcon : Lib.containsS [str s] ⟨#[]⟩ = false := by
    rw [Bool.eq_false_iff]
    intro e
    have h1 : (⟨#[]⟩ : ByteArray) ∈ [str s] := (Lib.containsS_iff _ _).1 e
    have h2 : (⟨#[]⟩ : ByteArray) = str s := by simpa using h1
    have h3 : (str []).toList = s := by rw [show str [] = (⟨#[]⟩ : ByteArray) from rfl, h2, str_toList]
    rw [str_toList] at h3
    exact hs.ne h3.symm
  have he : (str s).toList.isEmpty = false := by
    rw [str_toList]
    cases s with
    | nil => exact absurd rfl hs.ne
    | cons _ _ => rfl
  have u1 : ((str s).toList == [119, 111, 114, 108, 100]) = false := by rw [str_toList]; exact hs.unlike _ _ (by decide)
  have u2 : ((str s).toList == [116, 105, 99, 107]) = false := by rw [str_toList]; exact hs.unlike _ _ (by decide)
  have u3 : ((str s).toList == [119, 97, 121]) = false := by rw [str_toList]; exact hs.unlike _ _ (by decide)
  have u4 : ((str s).toList == [110, 111, 119]) = false := by rw [str_toList]; exact hs.unlike _ _ (by decide)
  obtain ⟨z, hz⟩ : ∃ z, z = str s := ⟨_, rfl⟩
  rw [← hz] at hsp hnum hcon he u1 u2 u3 u4 ⊢
  have HS := Lib.hid (And.intro hsp (And.intro h (And.intro hnum hcon)))
  clear h hs hsp hnum hz hcon
  go_enter Tryz.func6, Tryz.ntmps6
  go_wp2
  refine wp_scope_once 0 rfl ?_
  go_upto_region 2 with (go_at_call 8; refine HS.out.1.mono ?_; rintro e w1 ⟨rfl, hw⟩; have H1 := Lib.hid hw; clear hw)
  obtain ⟨g, hg⟩ : ∃ g, g = w.heap.size := ⟨_, rfl⟩
  have hb : w1.heap[g]? = some (.cells #[.string z] 9 (0, 0)) := by rw [H1.out, hg]; exact alloc_at w _
  have c0 : w1.cell? ⟨g, 0, none⟩ = some (.string z) := cell_of hb 0
  have f1 : Fr [] w w1 := by rw [H1.out]; exact (Fr.refl [] w).alloc _
  have HF := Lib.hid (And.intro f1 hb)
  rw [← hg]
  clear hg f1 hb
  go_quiet (fail)
  have HX := Lib.hid (And.intro (HF.out.1.trans (Fr.drewN [] w1 nq)) ((Fr.drewN [] w1 nq).blk HF.out.2 (by simp)))
  clear c0
  generalize w1.drewN nq = w2 at *
  go_upto_region 4 with (go_at_call 9; refine (nums_none 1 (.inl rfl) _ _ _).mono ?_; rintro e w3 ⟨b3, c3, rfl, f3⟩; have H3 := Lib.hid f3; clear f3)
  go_upto_region 7 with (go_at_call 9; refine (nums_none 2 (.inr rfl) _ _ _).mono ?_; rintro e w4 ⟨b4, c4, rfl, f4⟩; have H4 := Lib.hid f4; clear f4)
  go_upto_region 8 with (go_at_call 10; refine (contains_w (zs := [z]) (b := false) (n := 1) rfl (g := g) (by simp) HS.out.2.2.2 ((H3.out.trans H4.out).blk HX.out.2 (by simp))).mono ?_; rintro e w5 ⟨rfl, hw⟩; obtain rfl := hw.symm)
  go_upto_region 9 with (go_at_call 11; refine (HS.out.2.2.1 _).mono ?_; rintro e w5 ⟨rfl, f5⟩; have H5 := Lib.hid f5; clear f5)
  have hD := HS.out.2.1.fr0 ((HX.out.1.trans (H3.out.trans H4.out)).trans H5.out)
  have HD := Lib.hid hD
  clear hD
  go_wp2
  refine wp_goto ⟨rfl, ?_⟩
  go_wp2_with (go_at_call 12; refine (answer_err _).mono ?_; rintro e w9 ⟨rfl, hw⟩; obtain rfl := hw.symm)
  simp only [Exit.jump]
  go_ret
  exact ⟨rfl, HD.out⟩
set_option maxHeartbeats 8000000 in
theorem do_word1 {s : List UInt8} (hs : Up s) (h : DS w0 w m D W Q now ao cp ns) : Calls Tryz.prog 6 #[.pointer (some ⟨D, 0, none⟩), .string (str (s ++ [32, 49]))] w fun e w' => e = .returned (.string errS) ∧ DS w0 w' m D W Q now ao cp ns := by
  have hsp : Calls Tryz.prog 8 #[.string (str (s ++ [32, 49])), .string ⟨#[32]⟩] w fun e w' => e = .returned (.slice (some ⟨w.heap.size, 0, none⟩) 2 2) ∧ w' = w.alloc (.cells #[.string (str s), .string ⟨#[49]⟩] 9) := split_w (cut_two s [49] (by have := hs.len; simp; omega) hs.no (by decide)) m w h.cellMax
  have hnum : ∀ w, Calls Tryz.prog 11 #[.string (str s)] w fun e w' => e = .returned (.tuple #[.int .i64 0, .bool false]) ∧ Fr [] w w' := fun w => number_any hs.num w
  have hcon : Lib.containsS [str s, ⟨#[49]⟩] ⟨#[]⟩ = false := by
    rw [Bool.eq_false_iff]
    intro e
    have h1 : (⟨#[]⟩ : ByteArray) ∈ [str s, ⟨#[49]⟩] := (Lib.containsS_iff _ _).1 e
    have h2 : (⟨#[]⟩ : ByteArray) = str s := by
      rcases List.mem_cons.1 h1 with h2 | h2
      · exact h2
      · exact absurd (List.mem_singleton.1 h2) (by decide)
    have h3 : (str []).toList = s := by rw [show str [] = (⟨#[]⟩ : ByteArray) from rfl, h2, str_toList]
    rw [str_toList] at h3
    exact hs.ne h3.symm
  have he : (str s).toList.isEmpty = false := by
    rw [str_toList]
    cases s with
    | nil => exact absurd rfl hs.ne
    | cons _ _ => rfl
  have u1 : ((str s).toList == [119, 111, 114, 108, 100]) = false := by rw [str_toList]; exact hs.unlike _ _ (by decide)
  have u2 : ((str s).toList == [116, 105, 99, 107]) = false := by rw [str_toList]; exact hs.unlike _ _ (by decide)
  have u3 : ((str s).toList == [119, 97, 121]) = false := by rw [str_toList]; exact hs.unlike _ _ (by decide)
  have u4 : ((str s).toList == [110, 111, 119]) = false := by rw [str_toList]; exact hs.unlike _ _ (by decide)
  have y1 : (str (s ++ [32, 49])).toList.isEmpty = false := by
    rw [str_toList]
    cases s with
    | nil => exact absurd rfl hs.ne
    | cons _ _ => rfl
  have u5 : ((str s).toList == [100, 101, 108, 105, 118, 101, 114]) = false := by rw [str_toList]; exact hs.unlike _ _ (by decide)
  have u6 : ((str s).toList == [100, 114, 111, 112]) = false := by rw [str_toList]; exact hs.unlike _ _ (by decide)
  have u7 : ((str s).toList == [116, 119, 105, 99, 101]) = false := by rw [str_toList]; exact hs.unlike _ _ (by decide)
  have u8 : ((str s).toList == [115, 101, 110, 100]) = false := by rw [str_toList]; exact hs.unlike _ _ (by decide)
  have u9 : ((str s).toList == [99, 97, 108, 109]) = false := by rw [str_toList]; exact hs.unlike _ _ (by decide)
  have u10 : ((str s).toList == [115, 116, 97, 116, 101]) = false := by rw [str_toList]; exact hs.unlike _ _ (by decide)
  have u11 : ((str s).toList == [114, 101, 102, 115]) = false := by rw [str_toList]; exact hs.unlike _ _ (by decide)
  have u12 : ((str s).toList == [99, 104, 101, 99, 107]) = false := by rw [str_toList]; exact hs.unlike _ _ (by decide)
  obtain ⟨z, hz⟩ : ∃ z, z = str s := ⟨_, rfl⟩
  obtain ⟨y, hy⟩ : ∃ y, y = str (s ++ [32, 49]) := ⟨_, rfl⟩
  rw [← hy] at hsp y1 ⊢
  rw [← hz] at hsp hnum hcon he u1 u2 u3 u4 u5 u6 u7 u8 u9 u10 u11 u12
  have HS := Lib.hid (And.intro hsp (And.intro h (And.intro hnum hcon)))
  clear h hs hsp hnum hz hy hcon
  go_enter Tryz.func6, Tryz.ntmps6
  go_wp2
  refine wp_scope_once 1 rfl ?_
  go_upto_region 2 with (go_at_call 8; refine HS.out.1.mono ?_; rintro e w1 ⟨rfl, hw⟩; have H1 := Lib.hid hw; clear hw)
  obtain ⟨g, hg⟩ : ∃ g, g = w.heap.size := ⟨_, rfl⟩
  have hb : w1.heap[g]? = some (.cells #[.string z, .string ⟨#[49]⟩] 9 (0, 0)) := by rw [H1.out, hg]; exact alloc_at w _
  have c0 : w1.cell? ⟨g, 0, none⟩ = some (.string z) := cell_of hb 0
  have f1 : Fr [] w w1 := by rw [H1.out]; exact (Fr.refl [] w).alloc _
  have HF := Lib.hid (And.intro f1 hb)
  rw [← hg]
  clear hg f1 hb
  go_quiet (fail)
  have HX := Lib.hid (And.intro (HF.out.1.trans (Fr.drewN [] w1 nq)) ((Fr.drewN [] w1 nq).blk HF.out.2 (by simp)))
  clear c0
  generalize w1.drewN nq = w2 at *
  go_upto_region 4 with (go_at_call 9; refine (nums_one1 1 (by decide) g w2 (cs_tail HX.out.2)).mono ?_; rintro e w3 ⟨b3, c3, rfl, k3, l3, f3⟩; have H3 := Lib.hid f3; clear f3 k3 l3)
  go_upto_region 7 with (go_at_call 9; refine (nums_one2 1 (by decide) g w3 (cs_tail (H3.out.blk HX.out.2 (by simp)))).mono ?_; rintro e w4 ⟨b4, c4, rfl, f4⟩; have H4 := Lib.hid f4; clear f4)
  go_upto_region 8 with (go_at_call 10; refine (contains_w (zs := [z, ⟨#[49]⟩]) (b := false) (n := 2) rfl (g := g) (by simp) HS.out.2.2.2 ((H3.out.trans H4.out).blk HX.out.2 (by simp))).mono ?_; rintro e w5 ⟨rfl, hw⟩; obtain rfl := hw.symm)
  go_upto_region 9 with (go_at_call 11; refine (HS.out.2.2.1 _).mono ?_; rintro e w5 ⟨rfl, f5⟩; have H5 := Lib.hid f5; clear f5)
  have hD := HS.out.2.1.fr0 ((HX.out.1.trans (H3.out.trans H4.out)).trans H5.out)
  have HD := Lib.hid hD
  clear hD
  go_wp2
  refine wp_goto ⟨rfl, ?_⟩
  go_wp2
  refine wp_label ?_
  go_wp2_with (go_at_call 12; refine (answer_err _).mono ?_; rintro e w9 ⟨rfl, hw⟩; obtain rfl := hw.symm)
  simp only [Exit.jump]
  go_ret
  exact ⟨rfl, HD.out⟩
end
end Go.Proofs.YtflcdnmhgfhmdaaGreatDoor.wd
/-
  stemmalaw24: awake, and the law ScriptWords walked.
-/
namespace Go.Proofs.YtflcdnmhgfhmdaaGreatDoor.wd
open Go Go.RowKit Go.Proofs.YtflcdnmhgfhmdaaGreatDoor.lib Go.Proofs.YtflcdnmhgfhmdaaGreatDoor.pk Go.Proofs.YtflcdnmhgfhmdaaGreatDoor.fs

set_option maxRecDepth 100000
theorem zero_ok : (0 : Int) ≤ 0 ∧ (0 : Int) < 1000000 := by decide
set_option maxHeartbeats 8000000 in
theorem awake_any (m : Int) (w : World) (hm : w.cell? ⟨0, 0, none⟩ = some (.int .i64 m)) : Calls Tryz.prog 5 #[] w fun e w' => e = .returned (.bool true) ∧ Fr [] w w' := by
  have HM := Lib.hid hm
  clear hm
  go_enter Tryz.func5, Tryz.ntmps5
  go_wp2_with (first
    | (go_at_call 4; refine (desk_new m _ HM.out).mono ?_; rintro e w9 ⟨D, W, Q, ao, cp, ns, rfl, hd⟩; have HD := Lib.hid hd; clear hd)
    | (go_at_call 6; (with_reducible refine (do_way HD.out).mono ?_); rintro e w9 ⟨he, hd⟩; obtain rfl : e = .returned (.string ⟨#[111, 107, 32, 48]⟩) := he; have HD := Lib.hid hd; clear hd)
    | (go_at_call 6; ((with_reducible refine (do_tick HD.out zero_ok).mono ?_); rintro e w9 ⟨he, hd⟩; obtain rfl : e = .returned (.string ⟨#[111, 107]⟩) := he; have hd2 : DS w w9 m D W Q 1 ao cp ns := hd; have HD := Lib.hid hd2; clear hd hd2))
    | (go_at_call 6; (with_reducible refine (do_now HD.out).mono ?_); rintro e w9 ⟨he, hd⟩; obtain rfl : e = .returned (.string ⟨#[111, 107, 32, 49]⟩) := he; have HD := Lib.hid hd; clear hd)
    | (go_at_call 6; (with_reducible refine (do_empty HD.out).mono ?_); rintro e w9 ⟨he, hd⟩; obtain rfl : e = .returned (.string ⟨#[]⟩) := he; have HD := Lib.hid hd; clear hd)
    | (go_at_call 6; (with_reducible refine (do_zz HD.out).mono ?_); rintro e w9 ⟨he, hd⟩; obtain rfl : e = .returned (.string ⟨#[101, 114, 114, 111, 114, 32, 49]⟩) := he; have HD := Lib.hid hd; clear hd)
    | (go_at_call 6; (with_reducible refine (do_state1 HD.out).mono ?_); rintro e w9 ⟨he, hd⟩; obtain rfl : e = .returned (.string ⟨#[111, 107, 32, 105, 100, 108, 101, 32, 48, 32, 48]⟩) := he; have HD := Lib.hid hd; clear hd))
  go_ret
  exact ⟨rfl, HD.out.fr⟩
set_option maxHeartbeats 16000000 in
theorem words_in (s : List UInt8) (hs : s.length ≤ 9223372036854775807) (m : Int) (w : World) (hm : w.cell? ⟨0, 0, none⟩ = some (.int .i64 m)) : Calls Tryz.prog 3 #[.string (str s)] w fun e w' => e = .returned (.bool true) ∧ Fr [] w w' := by
  have HM := Lib.hid hm
  clear hm
  have hx : ∀ (i : Nat) (hi : i < s.length) (w : World), (Instr.index 9 (.string (str s)) (.int .i64 (i : Nat))).run Tryz.prog w = .ok (.int .u8 (((s[i]'hi).toNat : Nat) : Int)) w := fun i hi w => Go.Proofs.YtflcdnmhgfhmdaaGreatDoor.crc.index_str s hi w
  have hsz : (str s).size = s.length := str_size s
  obtain ⟨z, hz⟩ : ∃ z, z = str s := ⟨_, rfl⟩
  obtain ⟨L, hL⟩ : ∃ L, L = s.length := ⟨_, rfl⟩
  rw [← hz] at hx hsz ⊢
  rw [← hL] at hsz hs
  have HZ := Lib.hid (And.intro hx (And.intro hz hL))
  clear hx hz hL
  by_cases h300 : 300 < L
  · have d1 : decide ((300 : Int) < (L : Int)) = true := by simp; omega
    go_enter Tryz.func3, Tryz.ntmps3
    go_wp2_with (first
      | (go_at_call 4; refine (desk_new m _ HM.out).mono ?_; rintro e w9 ⟨D, W, Q, ao, cp, ns, rfl, hd⟩; have HD := Lib.hid hd; clear hd)
      | (go_at_call 5; refine (awake_any m _ HD.out.cellMax).mono ?_; rintro e w9 ⟨rfl, f9⟩; have H9 := Lib.hid f9; clear f9))
    go_ret
    exact ⟨rfl, HD.out.fr.trans H9.out⟩
  · have d1 : decide ((300 : Int) < (L : Int)) = false := by simp; omega
    go_enter Tryz.func3, Tryz.ntmps3
    go_upto_region 8 with (first
      | (go_at_call 4; refine (desk_new m _ HM.out).mono ?_; rintro e w9 ⟨D, W, Q, ao, cp, ns, rfl, hd⟩; have HD := Lib.hid hd; clear hd)
      | (go_at_call 6; ((with_reducible refine (do_tick HD.out zero_ok).mono ?_); rintro e w9 ⟨he, hd⟩; obtain rfl : e = .returned (.string ⟨#[111, 107]⟩) := he; have hd2 : DS w w9 m D W Q 1 ao cp ns := hd; have HD := Lib.hid hd2; clear hd hd2))
      | (go_at_call 6; (with_reducible refine (do_w0 HD.out).mono ?_); rintro e w9 ⟨he, hd⟩; obtain rfl : e = .returned (.string ⟨#[101, 114, 114, 111, 114, 32, 49]⟩) := he; have HD := Lib.hid hd; clear hd)
      | (go_at_call 6; (with_reducible refine (do_w01 HD.out).mono ?_); rintro e w9 ⟨he, hd⟩; obtain rfl : e = .returned (.string ⟨#[101, 114, 114, 111, 114, 32, 49]⟩) := he; have HD := Lib.hid hd; clear hd)
      | (go_at_call 6; (with_reducible refine (do_wm HD.out).mono ?_); rintro e w9 ⟨he, hd⟩; obtain rfl : e = .returned (.string ⟨#[101, 114, 114, 111, 114, 32, 49]⟩) := he; have HD := Lib.hid hd; clear hd)
      | (go_at_call 6; (with_reducible refine (do_now HD.out).mono ?_); rintro e w9 ⟨he, hd⟩; obtain rfl : e = .returned (.string ⟨#[111, 107, 32, 49]⟩) := he; have HD := Lib.hid hd; clear hd)
      | (go_at_call 6; (with_reducible refine (do_deliver HD.out).mono ?_); rintro e w9 ⟨he, hd⟩; obtain rfl : e = .returned (.string ⟨#[101, 114, 114, 111, 114, 32, 49]⟩) := he; have HD := Lib.hid hd; clear hd)
      | (go_at_call 6; (with_reducible refine (do_drop HD.out).mono ?_); rintro e w9 ⟨he, hd⟩; obtain rfl : e = .returned (.string ⟨#[101, 114, 114, 111, 114, 32, 49]⟩) := he; have HD := Lib.hid hd; clear hd)
      | (go_at_call 6; (with_reducible refine (do_state9 HD.out).mono ?_); rintro e w9 ⟨he, hd⟩; obtain rfl : e = .returned (.string ⟨#[101, 114, 114, 111, 114, 32, 49]⟩) := he; have HD := Lib.hid hd; clear hd)
      | (go_at_call 6; (with_reducible refine (do_check9 HD.out).mono ?_); rintro e w9 ⟨he, hd⟩; obtain rfl : e = .returned (.string ⟨#[101, 114, 114, 111, 114, 32, 49]⟩) := he; have HD := Lib.hid hd; clear hd)
      | (go_at_call 6; (with_reducible refine (do_tick1 HD.out).mono ?_); rintro e w9 ⟨he, hd⟩; obtain rfl : e = .returned (.string ⟨#[101, 114, 114, 111, 114, 32, 49]⟩) := he; have HD := Lib.hid hd; clear hd)
      | (go_at_call 6; (with_reducible refine (do_commit HD.out).mono ?_); rintro e w9 ⟨he, hd⟩; obtain rfl : e = .returned (.string ⟨#[101, 114, 114, 111, 114, 32, 49]⟩) := he; have HD := Lib.hid hd; clear hd))
    go_wp2
    go_loopg [5] L (fun k s5 wr => ∃ i : Nat, s5 = .int .i64 (i : Nat) ∧ i + k = L ∧ DS w wr m D W Q 1 ao cp ns ∧ ∀ j, j < i → ∃ c, s[j]? = some c ∧ 65 ≤ c.toNat ∧ c.toNat ≤ 90)
    case atStart => exact ⟨0, rfl, by omega, HD.out, fun j hj => by omega⟩
    case round =>
      obtain ⟨i, rfl, hik, hd, hup⟩ := hrel
      have HD := Lib.hid hd
      have HU := Lib.hid hup
      clear hd hup
      by_cases hi : i < L
      · obtain ⟨k, rfl⟩ : ∃ k, gk = k + 1 := ⟨gk - 1, by omega⟩
        have hil : i < s.length := by rw [← HZ.out.2.2]; exact hi
        have hx := HZ.out.1 i hil
        have hsi : s[i]? = some (s[i]'hil) := List.getElem?_eq_getElem hil
        obtain ⟨c, hc⟩ : ∃ c, c = s[i]'hil := ⟨_, rfl⟩
        rw [← hc] at hx hsi
        obtain ⟨n, hn⟩ : ∃ n, n = c.toNat := ⟨_, rfl⟩
        rw [← hn] at hx
        have HN := Lib.hid (And.intro hn hsi)
        clear hc hn hsi hil
        by_cases h1 : n < 65
        · have e1 : decide ((n : Int) < 65) = true := by simp; omega
          go_wp2_with (go_at_call 5; refine (awake_any m _ HD.out.cellMax).mono ?_; rintro e w9 ⟨rfl, f9⟩; have H9 := Lib.hid f9; clear f9)
          go_ret
          exact ⟨rfl, HD.out.fr.trans H9.out⟩
        · have e1 : decide ((n : Int) < 65) = false := by simp; omega
          by_cases h2 : 90 < n
          · have e2 : decide ((90 : Int) < (n : Int)) = true := by simp; omega
            go_wp2_with (go_at_call 5; refine (awake_any m _ HD.out.cellMax).mono ?_; rintro e w9 ⟨rfl, f9⟩; have H9 := Lib.hid f9; clear f9)
            go_ret
            exact ⟨rfl, HD.out.fr.trans H9.out⟩
          · have e2 : decide ((90 : Int) < (n : Int)) = false := by simp; omega
            go_wp2
            go_roundg k
            case measure => omega
            case rel =>
              refine ⟨i + 1, by go_num, by omega, HD.out, fun j hj => ?_⟩
              by_cases e : j = i
              · rw [e]
                exact ⟨c, HN.out.2, by have := HN.out.1; omega, by have := HN.out.1; omega⟩
              · exact HU.out j (by omega)
      · have hiL : i = L := by omega
        have HI := Lib.hid hiL
        clear hi hik hiL
        by_cases hne : s = []
        · have he : z.toList.isEmpty = true := by rw [HZ.out.2.1, hne, str_toList]; rfl
          have hl : decide ((i : Int) < (L : Int)) = false := by simp; have := HI.out; omega
          have hl2 : decide (i < L) = false := by simp; have := HI.out; omega
          clear hne
          go_wp2_with (go_at_call 5; refine (awake_any m _ HD.out.cellMax).mono ?_; rintro e w9 ⟨rfl, f9⟩; have H9 := Lib.hid f9; clear f9)
          go_ret
          exact ⟨rfl, HD.out.fr.trans H9.out⟩
        · have hup : Up s := ⟨hne, by rw [← HZ.out.2.2]; omega, fun c hc => by
            obtain ⟨j, hj, hjc⟩ := List.getElem_of_mem hc
            obtain ⟨c2, h1, h2, h3⟩ := HU.out j (by rw [HI.out, HZ.out.2.2]; exact hj)
            rw [List.getElem?_eq_getElem hj, hjc] at h1
            cases h1
            exact ⟨h2, h3⟩⟩
          have he : z.toList.isEmpty = false := by
            rw [HZ.out.2.1, str_toList]
            cases s with
            | nil => exact absurd rfl hne
            | cons _ _ => rfl
          have hl : decide ((i : Int) < (L : Int)) = false := by simp; have := HI.out; omega
          have hl2 : decide (i < L) = false := by simp; have := HI.out; omega
          have ez : z ++ ⟨#[32, 49]⟩ = str (s ++ [32, 49]) := by
            rw [HZ.out.2.1]
            exact str_append s [32, 49]
          have w1 : ∀ w2, DS w w2 m D W Q 1 ao cp ns → Calls Tryz.prog 6 #[.pointer (some ⟨D, 0, none⟩), .string z] w2 fun e w' => e = .returned (.string ⟨#[101, 114, 114, 111, 114, 32, 49]⟩) ∧ DS w w' m D W Q 1 ao cp ns := fun w2 h => by
            rw [HZ.out.2.1]
            exact do_word hup h
          have w2 : ∀ w2, DS w w2 m D W Q 1 ao cp ns → Calls Tryz.prog 6 #[.pointer (some ⟨D, 0, none⟩), .string (z ++ ⟨#[32, 49]⟩)] w2 fun e w' => e = .returned (.string ⟨#[101, 114, 114, 111, 114, 32, 49]⟩) ∧ DS w w' m D W Q 1 ao cp ns := fun w2 h => by
            rw [ez]
            exact do_word1 hup h
          have HW := Lib.hid (And.intro w1 w2)
          clear w1 w2 ez hne hup
          go_wp2_with (first
            | (go_at_call 6; (with_reducible refine (HW.out.1 _ HD.out).mono ?_); rintro e w9 ⟨rfl, hd⟩; have HD := Lib.hid hd; clear hd)
            | (go_at_call 6; (with_reducible refine (HW.out.2 _ HD.out).mono ?_); rintro e w9 ⟨rfl, hd⟩; have HD := Lib.hid hd; clear hd)
            | (go_at_call 5; refine (awake_any m _ HD.out.cellMax).mono ?_; rintro e w9 ⟨rfl, f9⟩; have H9 := Lib.hid f9; clear f9))
          go_ret
          exact ⟨rfl, HD.out.fr.trans H9.out⟩
end Go.Proofs.YtflcdnmhgfhmdaaGreatDoor.wd
