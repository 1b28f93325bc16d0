/-
  Texts of this proof, one behind the other: FsM, FsN, LoSave, RefOp.
-/
import Derived.Test.YtflcdnmhgfhmdaaGreatDoorG5
import Derived.Test.YtflcdnmhgfhmdaaGreatDoorG16
set_option linter.unusedVariables false
set_option linter.unusedSimpArgs false
/-
  fs: List.
-/
namespace Go.Proofs.YtflcdnmhgfhmdaaGreatDoor.fs
open Go Go.RowKit Go.Proofs.YtflcdnmhgfhmdaaGreatDoor.lib Go.Proofs.YtflcdnmhgfhmdaaGreatDoor.pk

set_option maxRecDepth 100000
theorem sty_str : SliceTy Tryz.prog 33 9 (.string ⟨#[]⟩) 1 16 := SliceTy.of Tryz.underlying33 (by kernel_rfl) rfl (by decide)
theorem clip_s (ao : Option Addr) (len cap : Nat) (w : World) (hle : len ≤ cap) (hmax : cap ≤ maxLen) :
    Calls Tryz.prog 242 #[.slice ao len cap] w fun e w' => e = .returned (.slice ao len len) ∧ w' = w := by
  go_enter Tryz.func242, Tryz.ntmps242
  go_wp2
  all_goals go_ret
  all_goals exact ⟨by first | rfl | simp, rfl⟩
/-- New strings. -/
def StrsP (w w' : World) (v : Value) (l : List Nm) : Prop := ∃ a, v = .slice a l.length l.length ∧ lib.Cs w' a (l.map encStr) ∧ ∀ x ∈ blk a, w.heap.size ≤ x ∧ x < w'.heap.size
theorem filter_step {α : Type} (q : α → Bool) (l : List α) (i : Nat) (hi : i < l.length) : (l.take (i + 1)).filter q = (l.take i).filter q ++ (if q l[i] = true then [l[i]] else []) := by
  rw [List.take_succ_eq_append_getElem hi, List.filter_append]
  congr 1
  by_cases h : q l[i] = true
  · simp [h]
  · simp [h]
set_option maxHeartbeats 16000000 in
theorem list_any (F n M : Nat) (t : Nm → Option (List UInt8)) (lab : Nat → Option Lb) (p : Nm) (w : World) (h : Fs w F n M t lab) :
    Calls Tryz.prog 165 #[.pointer (some ⟨F, 0, none⟩), .string (str p)] w fun e w' => ∃ v ss, e = .returned v ∧ Lst t ss ∧ ss.length ≤ n ∧ StrsP w w' v (ss.filter fun s => Lib.hasPrefix s p) ∧ Fr [] w w' := by
  have hso := sorted_any F n M t lab w h
  have hfs : ∃ q B las chg, FsB w F q B las chg := by
    obtain ⟨⟨q, B, las, chg, m, vs, g, _, h1, _⟩, _⟩ := h
    exact ⟨q, B, las, chg, h1⟩
  obtain ⟨q, B, las, chg, hF⟩ := hfs
  have hn8 := h.few
  obtain ⟨pz, hpz⟩ : ∃ pz, pz = str p := ⟨_, rfl⟩
  rw [← hpz]
  have H := Lib.hid (And.intro hso (And.intro hF hpz))
  clear hso hF h hpz
  go_enter Tryz.func165, Tryz.ntmps165
  go_upto_block 0 with (go_at_call 97; refine H.out.1.mono ?_; rintro e w1 ⟨v, ss, rfl, hl, hn, ho, f1⟩; obtain ⟨a0, c0, rfl, hle, hmax⟩ := owns_shape ho; have H1 := Lib.hid (And.intro hl (And.intro ho f1)); clear hl ho f1)
  obtain ⟨N, hN⟩ : ∃ N, N = ss.length := ⟨_, rfl⟩
  rw [← hN] at hn hle ⊢
  have HN := Lib.hid hN
  clear hN
  obtain ⟨Q, hQ⟩ : ∃ Q : Nat → List Nm, Q = fun i => (ss.take i).filter fun s => Lib.hasPrefix s p := ⟨_, rfl⟩
  have hQ0 : Q 0 = [] := by rw [hQ]; simp
  have hQN : Q N = ss.filter fun s => Lib.hasPrefix s p := by rw [hQ, HN.out]; simp
  have hQs : ∀ i (hi : i < ss.length), Q (i + 1) = Q i ++ (if Lib.hasPrefix ss[i] p = true then [ss[i]] else []) := fun i hi => by rw [hQ]; exact filter_step _ ss i hi
  have hQl : ∀ i, (Q i).length ≤ i := fun i => by rw [hQ]; exact Nat.le_trans (List.length_filter_le _ _) (List.length_take_le _ _)
  have HQ := Lib.hid (And.intro hQN (And.intro hQs hQ0))
  have HQl := Lib.hid hQl
  clear hQ hQN hQs hQl
  go_wp2
  go_loopg [5, 11] N (fun k s5 s11 wr => ∃ (i : Nat) (a : Option Addr) (c : Nat), s11 = .int .i64 (i : Nat) ∧ i + k = N ∧ s5 = .slice a (Q i).length c ∧ wr.ownsRow 0 9 1 s5 (Q i).length ((Q i).map encStr) ∧ (∀ x ∈ blk a, w1.heap.size ≤ x) ∧ Fr [] w1 wr)
  case atStart =>
    refine ⟨0, none, 0, rfl, by omega, ?_, ?_, by simp [blk], Fr.refl _ _⟩
    · rw [hQ0]; rfl
    · rw [hQ0]; exact World.ownsRow_nil _ _ _ _
  case round =>
    obtain ⟨i, a, c, rfl, hik, rfl, ho, hbk, f⟩ := hrel
    have HR := Lib.hid (And.intro ho (And.intro hbk f))
    clear ho hbk f hQ0
    by_cases hi : i < N
    · obtain ⟨k, rfl⟩ : ∃ k, gk = k + 1 := ⟨gk - 1, by omega⟩
      have hil : i < ss.length := by rw [← HN.out]; exact hi
      have hst := HQ.out.2.1 i hil
      have hli := HQl.out i
      have hcs := (cs_of_owns H1.out.2.1).belowAll (below_of_fr HR.out.2.2)
      rcases hcs with hcs | ⟨g0, o0, hg0, hcs⟩
      · have := congrArg List.length hcs
        rw [List.length_map, List.length_nil] at this
        omega
      subst hg0
      have hci := hcs i (encStr ss[i]) (by rw [List.getElem?_map, List.getElem?_eq_getElem hil]; rfl)
      rw [str_enc] at hci
      obtain ⟨C, hC⟩ : ∃ C, C = wr.cell? ⟨g0, o0 + i, none⟩ := ⟨_, rfl⟩
      have hx := fun w' => Tryz.strings_HasPrefix (str ss[i]) pz w'
      rw [show (str ss[i]).data.toList = ss[i] from rfl, show pz.data.toList = p by rw [H.out.2.2]; rfl] at hx
      obtain ⟨M1, hM1⟩ : ∃ M1, M1 = (Q i).length := ⟨_, rfl⟩
      rw [← hM1] at hli ⊢
      have hF1 : FsB wr F q B las chg := HR.out.2.2.blk (H1.out.2.2.blk H.out.2.1 (by simp)) (by simp)
      have c5 : wr.cell? ⟨F, 5, none⟩ = some (.bool false) := by rw [cell_of hF1]; rfl
      obtain ⟨b, hb⟩ : ∃ b, b = Lib.hasPrefix ss[i] p := ⟨_, rfl⟩
      rw [← hb] at hx hst
      cases b with
      | true =>
        rw [if_pos rfl] at hst
        obtain ⟨z, hz⟩ : ∃ z, z = str ss[i] := ⟨_, rfl⟩
        rw [← hz] at hci hx
        have HX := Lib.hid (And.intro hx (And.intro hst (And.intro hM1 hz)))
        clear hx hst hM1 hz hb hF1 hC hcs
        go_wp2_with (first
          | (go_at_call 103; refine (HX.out.1 _).mono ?_; rintro e w2 ⟨rfl, hw⟩; obtain rfl := hw.symm)
          | (at_builtin; refine wpList_append sty_str rfl _ _ rfl (.slice a M1 c) M1 ((Q i).map encStr) (blk a) rfl (own_blk _ _ _) ((by rw [HX.out.2.2.1]; exact ownsRow_fr HR.out.1 ((Fr.refl [] wr).alloc _) (by simp))) (some ⟨wr.heap.size, 0, none⟩) 1 1 [.string z] rfl (Nat.le_refl _) (by simp) (cs_new wr _ _ _) rfl (by simp [Value.oneCell']) (by omega) (by unfold maxLen; omega) ?_; intro a3 q3 w3 A3; have H3 := Lib.hid A3; clear A3))
        go_roundg k
        case measure => omega
        case rel =>
          have A3 := H3.out
          have e3 : (Q (i + 1)).length = M1 + 1 := by rw [HX.out.2.1, List.length_append, ← HX.out.2.2.1]; rfl
          have e4 : (Q (i + 1)).map encStr = (Q i).map encStr ++ [.string z] := by rw [HX.out.2.1, List.map_append, HX.out.2.2.2]; rfl
          refine ⟨i + 1, a3, q3, by go_num, by omega, by rw [e3], ?_, fun x hx => ?_, ?_⟩
          · rw [e3, e4]; exact A3.own
          · rcases A3.at_ x hx with h | h
            · exact HR.out.2.1 x h
            · have := HR.out.2.2.size; have := (Fr.refl [] wr).alloc (.cells #[.string z] 9) |>.size; omega
          · exact HR.out.2.2.step (((Fr.refl [] wr).alloc _).mono (T := blk a) (by simp) |>.trans A3.fr) (fun y hy => .inr (HR.out.2.1 y hy))
      | false =>
        rw [if_neg (by simp), List.append_nil] at hst
        obtain ⟨z, hz⟩ : ∃ z, z = str ss[i] := ⟨_, rfl⟩
        rw [← hz] at hci hx
        have HX := Lib.hid (And.intro hx (And.intro hst (And.intro hM1 hz)))
        clear hx hst hM1 hz hb hF1 hC hcs
        go_wp2_with (go_at_call 103; refine (HX.out.1 _).mono ?_; rintro e w2 ⟨rfl, hw⟩; obtain rfl := hw.symm)
        go_roundg k
        case measure => omega
        case rel =>
          refine ⟨i + 1, a, c, by go_num, by omega, ?_, ?_, HR.out.2.1, HR.out.2.2⟩
          · rw [HX.out.2.1, ← HX.out.2.2.1]
          · rw [HX.out.2.1, HX.out.2.2.1]; exact HR.out.1
    · obtain rfl : i = N := by omega
      have hle2 := (owns_shape HR.out.1)
      obtain ⟨a2, c2, he2, hle2, hmax2⟩ := hle2
      obtain ⟨rfl, _, rfl⟩ := Value.slice.inj he2
      obtain ⟨R, hR⟩ : ∃ R, R = Q i := ⟨_, rfl⟩
      rw [← hR] at hle2 ⊢
      obtain ⟨M1, hM1⟩ : ∃ M1, M1 = R.length := ⟨_, rfl⟩
      rw [← hM1] at hle2 ⊢
      have HX := Lib.hid (And.intro hR hM1)
      clear hR hM1 he2
      go_wp2_with (go_at_call 242; refine (clip_s _ M1 _ _ hle2 hmax2).mono ?_; rintro e w4 ⟨rfl, hw⟩; obtain rfl := hw.symm)
      go_ret
      have ho := HR.out.1
      rw [← HX.out.1] at ho
      have f := H1.out.2.2.trans HR.out.2.2
      refine ⟨_, ss, rfl, H1.out.1, by rw [← HN.out]; exact hn, ⟨a, by rw [← HQ.out.1, ← HX.out.1, HX.out.2]; rfl, ?_, fun x hx => ⟨?_, owns_lt ho (blk_own hx)⟩⟩, f⟩
      · rw [← HQ.out.1, ← HX.out.1]; exact cs_of_owns ho
      · have := HR.out.2.1 x hx; have := H1.out.2.2.size; omega
end Go.Proofs.YtflcdnmhgfhmdaaGreatDoor.fs
/-
  fs: List where nothing is.
-/
namespace Go.Proofs.YtflcdnmhgfhmdaaGreatDoor.fs
open Go Go.RowKit Go.Proofs.YtflcdnmhgfhmdaaGreatDoor.lib Go.Proofs.YtflcdnmhgfhmdaaGreatDoor.pk

set_option maxRecDepth 100000
set_option maxHeartbeats 8000000 in
theorem list_empty (F n M : Nat) (t : Nm → Option (List UInt8)) (lab : Nat → Option Lb) (p : ByteArray) (w : World) (h : Fs w F n M t lab) (ht : ∀ x, t x = none) :
    Calls Tryz.prog 165 #[.pointer (some ⟨F, 0, none⟩), .string p] w fun e w' => e = .returned (.slice none 0 0) ∧ Fr [] w w' := by
  have hso : Calls Tryz.prog 97 #[.pointer (some ⟨F, 0, none⟩)] w fun e w' => ∃ a c, e = .returned (.slice a 0 c) ∧ Fr [] w w' := (sorted_any F n M t lab w h).mono fun e w' ⟨v, ss, he, hl, _, ho, f⟩ => by
    have h0 : ss = [] := List.eq_nil_iff_forall_not_mem.2 fun x hx => (hl.2.2 x).1 hx (ht x)
    subst h0
    obtain ⟨a, c, rfl, _⟩ := owns_shape ho
    exact ⟨a, c, he, f⟩
  have H := Lib.hid hso
  clear hso h ht
  go_enter Tryz.func165, Tryz.ntmps165
  go_upto_block 0 with (go_at_call 97; refine H.out.mono ?_; rintro e w1 ⟨a, c, rfl, f1⟩; have H1 := Lib.hid f1; clear f1)
  go_wp2
  go_loopg [5, 11] 0 (fun k s5 s11 wr => s5 = .slice none 0 0 ∧ s11 = .int .i64 0 ∧ wr = w1)
  case atStart => exact ⟨rfl, rfl, rfl⟩
  case round =>
  obtain ⟨rfl, rfl, rfl⟩ := hrel
  go_wp2_with (go_at_call 242; refine (clip_s none 0 0 _ (Nat.le_refl _) (Nat.zero_le _)).mono ?_; rintro e w4 ⟨rfl, hw⟩; obtain rfl := hw.symm)
  go_ret
  exact ⟨rfl, H1.out⟩
end Go.Proofs.YtflcdnmhgfhmdaaGreatDoor.fs
/-
  loose.Save.
-/
namespace Go.Proofs.YtflcdnmhgfhmdaaGreatDoor.fs
open Go Go.RowKit Go.Proofs.YtflcdnmhgfhmdaaGreatDoor.lib Go.Proofs.YtflcdnmhgfhmdaaGreatDoor.pk

set_option maxRecDepth 100000
theorem Stp.refl (w : World) (lab : Nat → Option Lb) {w' : World} (f : Fr [] w w') : Stp w lab w' lab := ⟨⟨[], f, by simp⟩, fun _ h => .inl h⟩
theorem Stp.trans {a b c : World} {la lb lc : Nat → Option Lb} (h : Stp a la b lb) (k : Stp b lb c lc) : Stp a la c lc := by
  obtain ⟨⟨T, f, hT⟩, hl⟩ := h
  obtain ⟨⟨U, g, hU⟩, kl⟩ := k
  refine ⟨⟨T ++ U.filter fun x => (la x).isSome, (f.mono (T := T ++ U.filter fun x => (la x).isSome) (fun x hx => .inl (List.mem_append_left _ hx))).step g (fun x hx => ?_), fun x hx => ?_⟩, fun x hx => ?_⟩
  · rcases hl x (hU x hx) with h | h
    · exact .inl (List.mem_append_right _ (List.mem_filter.2 ⟨hx, Option.isSome_iff_ne_none.2 h⟩))
    · exact .inr h
  · rcases List.mem_append.1 hx with h | h
    · exact hT x h
    · exact Option.isSome_iff_ne_none.1 (List.mem_filter.1 h).2
  · rcases kl x hx with h | h
    · exact hl x h
    · exact .inr (Nat.le_trans f.size h)
theorem Stp.size {a b : World} {la lb : Nat → Option Lb} (h : Stp a la b lb) : a.heap.size ≤ b.heap.size := by
  obtain ⟨⟨T, f, _⟩, _⟩ := h
  exact f.size
theorem Stp.rd {a b : World} {la lb : Nat → Option Lb} (h : Stp a la b lb) {ba : Option Addr} {bc : Nat} {nb : List UInt8} (hb : lib.Rd a ba bc nb) (hn : nb ≠ [] → ∀ x ∈ blk ba, la x = none) : lib.Rd b ba bc nb ∧ (nb ≠ [] → ∀ x ∈ blk ba, lb x = none) := by
  obtain ⟨⟨T, f, hT⟩, hl⟩ := h
  refine ⟨rd_frE hb f (fun hne x hx hm => hT x hm (hn hne x hx)), fun hne x hx => ?_⟩
  cases hlx : lb x with
  | none => rfl
  | some l =>
    rcases hl x (by rw [hlx]; exact Option.some_ne_none _) with h | h
    · exact absurd (hn hne x hx) h
    · have hlt := hb.cs.lt (by simpa using hne)
      cases ba with
      | none => simp [blk] at hx
      | some ad =>
        have h1 := hlt ad rfl
        simp only [blk, List.mem_singleton] at hx
        omega
set_option maxHeartbeats 8000000 in
theorem save_any (F n M M' : Nat) (t : Nm → Option (List UInt8)) (lab : Nat → Option Lb) (k1 k2 : Nm) (ba : Option Addr) (bc : Nat) (nb : List UInt8) (w : World) (h : Fs w F n M t lab) (hk1 : NOk k1) (hk2 : NOk k2) (hne : k1 ≠ k2) (ht : t k1 = none) (hb : lib.Rd w ba bc nb) (hbl : nb ≠ [] → ∀ x ∈ blk ba, lab x = none)
    (hM' : M ≤ M') (hM2 : nb.length ≤ M') (hM3 : M' ≤ 100000) (hroom : nb.length + (n + 1) * M ≤ 1048576) (hn : n < 880) :
    Calls Tryz.prog 276 #[.pointer (some ⟨F, 0, none⟩), .string (str k1), .string (str k2), .slice ba nb.length bc] w fun e w' => e = .returned (.int .i64 0) ∧ ∃ lab', Fs w' F (n + 2) M' (upd t k2 (some nb)) lab' ∧ Stp w lab w' lab' := by
  obtain ⟨z1, hz1⟩ : ∃ z1, z1 = str k1 := ⟨_, rfl⟩
  obtain ⟨z2, hz2⟩ : ∃ z2, z2 = str k2 := ⟨_, rfl⟩
  obtain ⟨L, hL⟩ : ∃ L, L = nb.length := ⟨_, rfl⟩
  have H := Lib.hid (And.intro h (And.intro hb (And.intro hbl (And.intro hz1 (And.intro hz2 hL)))))
  rw [← hz1, ← hz2, ← hL]
  clear h hb hbl hz1 hz2 hL
  go_enter Tryz.func276, Tryz.ntmps276
  have c0 := remove_none F n M t lab k1 w H.out.1 hk1 ht
  rw [← H.out.2.2.2.1] at c0
  have H0 := Lib.hid c0
  clear c0
  go_upto_region 4 with (go_at_call 177; refine H0.out.mono ?_; rintro e w1 ⟨rfl, f1⟩; have H1 := Lib.hid f1; clear f1)
  have c1 := create_any F n M t lab k1 w1 (H.out.1.fr H1.out (by simp)) hk1 ht (by omega)
  rw [← H.out.2.2.2.1] at c1
  have H2 := Lib.hid c1
  clear c1
  go_upto_region 6 with (go_at_call 352; refine H2.out.mono ?_; rintro e w2 ⟨rfl, lab2, h2, s2⟩; have H3 := Lib.hid (And.intro h2 s2); clear h2 s2)
  have s02 := (Stp.refl w lab H1.out).trans H3.out.2
  have rd2 := s02.rd H.out.2.1 H.out.2.2.1
  have c2 := append_any F (n + 1) M M' (upd t k1 (some [])) lab2 k1 [] ba bc nb w2 H3.out.1 hk1 (by unfold upd; rw [if_pos rfl]) rd2.1 rd2.2 hM' (by simpa using hM2) hM3 hroom
  rw [← H.out.2.2.2.1, ← H.out.2.2.2.2.2] at c2
  have H4 := Lib.hid (And.intro c2 s02)
  clear c2 s02 rd2
  go_upto_region 8 with (go_at_call 353; refine H4.out.1.mono ?_; rintro e w3 ⟨rfl, lab3, h3, s3⟩; have H5 := Lib.hid (And.intro h3 s3); clear h3 s3)
  have c3 := sync_any F (n + 1) M' _ lab3 k1 ([] ++ nb) w3 H5.out.1 hk1 (by unfold upd; rw [if_pos rfl])
  rw [← H.out.2.2.2.1] at c3
  have H6 := Lib.hid c3
  clear c3
  go_upto_region 10 with (go_at_call 354; refine H6.out.mono ?_; rintro e w4 ⟨rfl, h4, s4⟩; have H7 := Lib.hid (And.intro h4 s4); clear h4 s4)
  have c4 := rename_any F (n + 1) M' _ lab3 k1 k2 ([] ++ nb) w4 H7.out.1 hk1 hk2 hne (by unfold upd; rw [if_pos rfl]) (by omega)
  rw [← H.out.2.2.2.1, ← H.out.2.2.2.2.1] at c4
  have H8 := Lib.hid c4
  clear c4
  go_wp2_with (go_at_call 272; refine H8.out.mono ?_; rintro e w5 ⟨rfl, lab5, h5, s5⟩; have H9 := Lib.hid (And.intro h5 s5); clear h5 s5)
  go_ret
  have e5 : upd (upd (upd (upd t k1 (some [])) k1 (some ([] ++ nb))) k2 (some ([] ++ nb))) k1 none = upd t k2 (some nb) := by
    funext x
    unfold upd
    by_cases e1 : x = k1
    · rw [if_pos e1, if_neg (by rw [e1]; exact hne), e1, ht]
    · rw [if_neg e1]
      by_cases e2 : x = k2
      · rw [if_pos e2, if_pos e2]; rfl
      · rw [if_neg e2, if_neg e1, if_neg e1, if_neg e2]
  refine ⟨rfl, lab5, ?_, ((H4.out.2.trans H5.out.2).trans H7.out.2).trans H9.out.2⟩
  rw [← e5]
  exact H9.out.1
end Go.Proofs.YtflcdnmhgfhmdaaGreatDoor.fs
/-
  odb.Open, ref.sweep, ref.replace on file systems where little is.
-/
namespace Go.Proofs.YtflcdnmhgfhmdaaGreatDoor.fs
open Go Go.RowKit Go.Proofs.YtflcdnmhgfhmdaaGreatDoor.lib Go.Proofs.YtflcdnmhgfhmdaaGreatDoor.pk

set_option maxRecDepth 100000
set_option maxHeartbeats 8000000 in
theorem lsweep_empty (F n M : Nat) (t : Nm → Option (List UInt8)) (lab : Nat → Option Lb) (w : World) (h : Fs w F n M t lab) (ht : ∀ x, t x = none) :
    Calls Tryz.prog 107 #[.pointer (some ⟨F, 0, none⟩)] w fun e w' => e = .returned (.int .i64 0) ∧ Fr [] w w' := by
  have H := Lib.hid (list_empty F n M t lab ⟨#[116, 109, 112, 47]⟩ w h ht)
  clear h ht
  go_enter Tryz.func107, Tryz.ntmps107
  go_upto_block 0 with (go_at_call 165; refine H.out.mono ?_; rintro e w1 ⟨rfl, f1⟩; have H1 := Lib.hid f1; clear f1)
  go_wp2
  go_loopg [11] 0 (fun k s11 wr => s11 = .int .i64 0 ∧ wr = w1)
  case atStart => exact ⟨rfl, rfl⟩
  case round =>
  obtain ⟨rfl, rfl⟩ := hrel
  go_wp2
  go_ret
  exact ⟨rfl, H1.out⟩
set_option maxHeartbeats 8000000 in
theorem odb_open (F n M : Nat) (t : Nm → Option (List UInt8)) (lab : Nat → Option Lb) (w : World) (h : Fs w F n M t lab) (ht : ∀ x, t x = none) :
    Calls Tryz.prog 58 #[.pointer (some ⟨F, 0, none⟩)] w fun e w' => (∃ O m, e = .returned (.tuple #[.pointer (some ⟨O, 0, none⟩), .int .i64 0]) ∧ w'.heap[O]? = some (.cells #[.pointer (some ⟨F, 0, none⟩), .map (some m)] 201 (0, 0)) ∧ w.heap.size ≤ O) ∧ Fr [] w w' := by
  have H := Lib.hid (lsweep_empty F n M t lab w h ht)
  have hmm := fun w' => run_makeMap (P := Tryz.prog) 199 w'
  clear h ht
  go_enter Tryz.func58, Tryz.ntmps58
  go_wp2_with (go_at_call 107; refine H.out.mono ?_; rintro e w1 ⟨rfl, f1⟩; have H1 := Lib.hid f1; clear f1)
  go_ret2
  have hb := alloc_at (w1.alloc (.map #[] 0)) (.cells #[.pointer (some ⟨F, 0, none⟩), .map (some w1.heap.size)] 201)
  rw [World.size_alloc] at hb
  exact ⟨⟨_, _, rfl, hb, Nat.le_trans H1.out.size (Nat.le_succ _)⟩, (H1.out.alloc _).alloc _⟩
/-- The refs of a file system, in memory. -/
def RefB (w : World) (R F : Nat) : Prop := w.heap[R]? = some (.cells #[.pointer (some ⟨F, 0, none⟩)] 203 (0, 0))
set_option maxHeartbeats 8000000 in
theorem sweep_empty (R F n M : Nat) (t : Nm → Option (List UInt8)) (lab : Nat → Option Lb) (w : World) (hR : RefB w R F) (h : Fs w F n M t lab) (ht : ∀ x, t x = none) :
    Calls Tryz.prog 110 #[.pointer (some ⟨R, 0, none⟩)] w fun e w' => e = .returned (.int .i64 0) ∧ Fr [] w w' := by
  have c0 : w.cell? ⟨R, 0, none⟩ = some (.pointer (some ⟨F, 0, none⟩)) := by rw [cell_of hR]; rfl
  have hls := list_empty F n M t lab ⟨#[114, 101, 102, 115, 45]⟩ w h ht
  have hrm1 := fun w' (f : Fr [] w w') => remove_none F n M t lab [72, 69, 65, 68, 46, 108, 111, 99, 107] w' (h.fr f (by simp)) ⟨by decide, by decide, by decide⟩ (ht _)
  have hrm2 := fun w' (f : Fr [] w w') => remove_none F n M t lab [112, 97, 99, 107, 101, 100, 45, 114, 101, 102, 115, 46, 108, 111, 99, 107] w' (h.fr f (by simp)) ⟨by decide, by decide, by decide⟩ (ht _)
  have H := Lib.hid (And.intro hls (And.intro hrm1 (And.intro hrm2 hR)))
  clear hls hrm1 hrm2 h ht hR
  go_enter Tryz.func110, Tryz.ntmps110
  go_upto_block 0 with (first
    | (go_at_call 165; refine H.out.1.mono ?_; rintro e w1 ⟨rfl, f1⟩; have H1 := Lib.hid f1; clear f1)
    | (at_builtin; refine wpList_append sty_str rfl _ _ rfl (.slice none 0 0) 0 [] [] rfl rfl (World.ownsRow_nil _ _ _ _) (some ⟨w1.heap.size, 0, none⟩) 2 2 [.string ⟨#[72, 69, 65, 68, 46, 108, 111, 99, 107]⟩, .string ⟨#[112, 97, 99, 107, 101, 100, 45, 114, 101, 102, 115, 46, 108, 111, 99, 107]⟩] rfl (Nat.le_refl _) (by simp) (cs_new w1 _ _ _) rfl (by simp [Value.oneCell']) (by decide) (by decide) ?_; intro a3 q3 w3 A3; have H3 := Lib.hid A3; clear A3))
  have own3 := H3.out.own
  have own3 : w3.ownsRow 0 9 1 (.slice a3 2 q3) 2 [.string ⟨#[72, 69, 65, 68, 46, 108, 111, 99, 107]⟩, .string ⟨#[112, 97, 99, 107, 101, 100, 45, 114, 101, 102, 115, 46, 108, 111, 99, 107]⟩] := own3
  rcases cs_of_owns own3 with h0 | ⟨g, o, rfl, hcs⟩
  · cases h0
  have f3 : Fr [] w w3 := H1.out.trans (((Fr.refl [] w1).alloc _).trans H3.out.fr)
  have d0 : w3.cell? ⟨g, o, none⟩ = some (.string ⟨#[72, 69, 65, 68, 46, 108, 111, 99, 107]⟩) := hcs 0 _ rfl
  have d1 := hcs 1 _ rfl
  have hsf := fun (s : ByteArray) (hs : s.size ≤ 100) w' => Tryz.strings_HasSuffix s ⟨#[46, 108, 111, 99, 107]⟩ w' (by omega)
  have hs1 : ∀ w', Calls Tryz.prog 183 #[.string ⟨#[72, 69, 65, 68, 46, 108, 111, 99, 107]⟩, .string ⟨#[46, 108, 111, 99, 107]⟩] w' fun e w'' => e = .returned (.bool true) ∧ w'' = w' := fun w' => hsf ⟨#[72, 69, 65, 68, 46, 108, 111, 99, 107]⟩ (by decide) w'
  have hs2 : ∀ w', Calls Tryz.prog 183 #[.string ⟨#[112, 97, 99, 107, 101, 100, 45, 114, 101, 102, 115, 46, 108, 111, 99, 107]⟩, .string ⟨#[46, 108, 111, 99, 107]⟩] w' fun e w'' => e = .returned (.bool true) ∧ w'' = w' := fun w' => hsf ⟨#[112, 97, 99, 107, 101, 100, 45, 114, 101, 102, 115, 46, 108, 111, 99, 107]⟩ (by decide) w'
  have HS := Lib.hid (And.intro hs1 (And.intro hs2 f3))
  have HD := Lib.hid (And.intro d0 d1)
  clear hs1 hs2 f3 hsf own3 hcs d0 d1 c0
  go_wp2
  go_loopg [3, 15] 2 (fun k s3 s15 wr => ∃ i : Nat, s3 = .bool false ∧ s15 = .int .i64 (i : Nat) ∧ i + k = 2 ∧ Fr [] w3 wr)
  case atStart => exact ⟨0, rfl, rfl, rfl, Fr.refl _ _⟩
  case round =>
  obtain ⟨i, rfl, rfl, hik, fr⟩ := hrel
  have c0 : wr.cell? ⟨R, 0, none⟩ = some (.pointer (some ⟨F, 0, none⟩)) := by rw [cell_of ((HS.out.2.2.trans fr).blk H.out.2.2.2 (by simp))]; rfl
  have HR := Lib.hid fr
  rcases (show (i = 0 ∧ gk = 2) ∨ (i = 1 ∧ gk = 1) ∨ (i = 2 ∧ gk = 0) by omega) with ⟨rfl, rfl⟩ | ⟨rfl, rfl⟩ | ⟨rfl, rfl⟩
  ·
    have d0 := fr.cell HD.out.1 (by simp)
    clear fr
    go_wp2_with (first
      | (go_at_call 183; refine (HS.out.1 _).mono ?_; rintro e w2 ⟨rfl, hw⟩; obtain rfl := hw.symm)
      | (go_at_call 177; refine (H.out.2.1 _ (HS.out.2.2.trans HR.out)).mono ?_; rintro e w2 ⟨rfl, f2⟩; have H2 := Lib.hid f2; clear f2))
    go_roundg 1
    case measure => decide
    case rel => exact ⟨1, rfl, by rfl, rfl, HR.out.trans H2.out⟩
  ·
    have d0 := fr.cell HD.out.2 (by simp)
    clear fr
    go_wp2_with (first
      | (go_at_call 183; refine (HS.out.2.1 _).mono ?_; rintro e w2 ⟨rfl, hw⟩; obtain rfl := hw.symm)
      | (go_at_call 177; refine (H.out.2.2.1 _ (HS.out.2.2.trans HR.out)).mono ?_; rintro e w2 ⟨rfl, f2⟩; have H2 := Lib.hid f2; clear f2))
    go_roundg 0
    case measure => decide
    case rel => exact ⟨2, rfl, by rfl, rfl, HR.out.trans H2.out⟩
  ·
    clear fr
    go_wp2
    go_ret
    exact ⟨rfl, HS.out.2.2.trans HR.out⟩
end Go.Proofs.YtflcdnmhgfhmdaaGreatDoor.fs
