/-
  Texts of this proof, one behind the other: FsC, FsD.
-/
import Derived.Test.YtflcdnmhgfhmdaaGreatDoorG11
import Derived.Test.YtflcdnmhgfhmdaaGreatDoorG12
set_option linter.unusedVariables false
set_option linter.unusedSimpArgs false
/-
  fs: a create.
-/
namespace Go.Proofs.YtflcdnmhgfhmdaaGreatDoor.fs
open Go Go.RowKit Go.Proofs.YtflcdnmhgfhmdaaGreatDoor.lib Go.Proofs.YtflcdnmhgfhmdaaGreatDoor.pk

set_option maxRecDepth 100000
theorem create_apply (B n : Nat) (g : Nm → Option Nat) (k : Nm) (P : Nat) (w : World) (hN : Names w B n g) (hn : n < 1000) (hk : NOk k) :
    Calls Tryz.prog 623 #[.agg #[.string (str k), .pointer (some ⟨P, 0, none⟩)], .map (some B)] w fun e w' => e = .returned (.tuple #[]) ∧ Names w' B (n + 1) (set g k (some P)) ∧ Fr [B] w w' := by
  have f1 : Fr [] w (w.alloc (.cells #[.string (str k), .pointer (some ⟨P, 0, none⟩)] 566)) := (Fr.refl [] w).alloc _
  have hb := alloc_at w (.cells #[.string (str k), .pointer (some ⟨P, 0, none⟩)] 566)
  obtain ⟨X, hX⟩ : ∃ X, X = w.heap.size := ⟨_, rfl⟩
  obtain ⟨w1, hw1⟩ : ∃ w1, w1 = w.alloc (.cells #[.string (str k), .pointer (some ⟨P, 0, none⟩)] 566) := ⟨_, rfl⟩
  rw [← hw1, ← hX] at hb
  rw [← hw1] at f1
  have c0 : w1.cell? ⟨X, 0, none⟩ = some (.string (str k)) := by rw [cell_of hb]; rfl
  have c1 : w1.cell? ⟨X, 1, none⟩ = some (.pointer (some ⟨P, 0, none⟩)) := by rw [cell_of hb]; rfl
  obtain ⟨w2, hst, hN2, f2⟩ := (hN.fr f1 (by simp)).store hn k (by have := hk.2.1; omega) P
  have hst' : (Instr.mapUpdate 124 (.map (some B)) (.string (str k)) (.pointer (some ⟨P, 0, none⟩))).run Tryz.prog w1 = .ok () w2 := hst
  obtain ⟨z, hz⟩ : ∃ z, z = str k := ⟨_, rfl⟩
  rw [← hz] at c0 hst' hw1 ⊢
  have H := Lib.hid (And.intro hN2 (And.intro (f1.mono (T := [B]) (by simp) |>.trans f2) (And.intro hX hw1)))
  clear hst hN hN2 f1 f2 hb hX hw1 hz hk
  go_enter Tryz.func623, Tryz.ntmps623
  go_upto_region 1 with fail
  rw [← H.out.2.2.1, ← H.out.2.2.2]
  go_wp2
  exact bodyPost_end (results_none rfl _ _ _) rfl ⟨rfl, H.out.1, H.out.2.1⟩
/-- A method behind an interface value is no nil pointer's: the check is quiet. -/
theorem quiet_ahead {P : Program} {ops : Array Oper} {C : World → Prop} {Q : Act → Prop} {o : Oper} {rest : List Oper} {a : Act} (hg : Region.wanted o (yielded ops a.tmps) = true) (x : Operand) (ho : o.op = .nilCheck x) (nm : String) (t : TypeId) (v : Value) (caps : Array Value)
    (hx : a.eval x = .func (.method nm) #[.iface t v] caps) (hn : ∀ w, (nilAhead (P.types.size + Made.depth) t v nm).run P w = .ok (some false) w) (h : wpQuiet P ops C Q rest (a.put o.dst (.func (.method nm) #[.iface t v] caps))) : wpQuiet P ops C Q (o :: rest) a := by
  show if Region.wanted o (yielded ops a.tmps) then o.quiet P a C (wpQuiet P ops C Q rest) else wpQuiet P ops C Q rest (a.put o.dst undef)
  rw [if_pos hg]
  refine ⟨_, fun w _ => ?_, h⟩
  unfold Oper.quietAt
  simp [execOp, ho, hx, hn, Oper.quietUpon, Result.andThen]
theorem ahead_create (k : Nm) (P : Nat) (w : World) : (nilAhead (Tryz.prog.types.size + Made.depth) 566 (.agg #[.string (str k), .pointer (some ⟨P, 0, none⟩)]) "stemma/fs.apply").run Tryz.prog w = .ok (some false) w := by
  kernel_rfl
theorem meth_create (k : Nm) (P : Nat) (f : Nat) (w : World) : (method (f + 1) 566 (.agg #[.string (str k), .pointer (some ⟨P, 0, none⟩)]) "stemma/fs.apply").run Tryz.prog w = .ok (623, .agg #[.string (str k), .pointer (some ⟨P, 0, none⟩)]) w := by
  kernel_rfl
theorem call_create (B : Nat) (k : Nm) (P : Nat) (w : World) : (callFunc 623 #[.agg #[.string (str k), .pointer (some ⟨P, 0, none⟩)], .map (some B)]).run Tryz.prog w = .ok (.enter 623 #[.agg #[.string (str k), .pointer (some ⟨P, 0, none⟩)], .map (some B)]) w := by
  kernel_rfl
/-- A change was done. -/
def ChP (w : World) (F q B : Nat) (las chg : Value) (m n' : Nat) (g' : Nm → Option Nat) (e : Ending) (w' : World) : Prop :=
  e = .returned (.int .i64 0) ∧ ∃ chg' vs', FsB w' F q B las chg' ∧ Names w' B n' g' ∧ w'.ownsRow 0 185 1 chg' (m + 1) vs' ∧ Fr (F :: B :: chg.ownBlock.toList) w w' ∧ ∀ x, chg'.ownBlock = some x → chg.ownBlock = some x ∨ w.heap.size ≤ x
set_option maxHeartbeats 8000000 in
theorem change_any (F q B n n' m : Nat) (las chg : Value) (vs : List Value) (g g' : Nm → Option Nat) (ty : TypeId) (val : Value) (fid : FuncId) (w : World) (hF : FsB w F q B las chg) (hN : Names w B n g) (hc : w.ownsRow 0 185 1 chg m vs) (hm : m ≤ 1000) (hFB : F ≠ B) (hcF : ∀ x, chg.ownBlock = some x → x ≠ F ∧ x ≠ B)
    (hna : ∀ w, (nilAhead (Tryz.prog.types.size + Made.depth) ty val "stemma/fs.apply").run Tryz.prog w = .ok (some false) w) (hme : ∀ (f : Nat) w, (method (f + 1) ty val "stemma/fs.apply").run Tryz.prog w = .ok (fid, val) w)
    (hcf : ∀ w, (callFunc fid #[val, .map (some B)]).run Tryz.prog w = .ok (.enter fid #[val, .map (some B)]) w)
    (hap : ∀ w', Names w' B n g → Calls Tryz.prog fid #[val, .map (some B)] w' fun e w'' => e = .returned (.tuple #[]) ∧ Names w'' B n' g' ∧ Fr [B] w' w'') :
    Calls Tryz.prog 267 #[.pointer (some ⟨F, 0, none⟩), .iface ty val] w (ChP w F q B las chg m n' g') := by
  have hb := burn_ok F q B las chg w hF
  have H := Lib.hid (And.intro hb (And.intro hN (And.intro hc (And.intro hcF hap))))
  clear hb hF hN hc hcF hap
  go_enter Tryz.func267, Tryz.ntmps267
  go_upto_region 4 with (go_at_call 268; refine H.out.1.mono ?_; rintro e w1 ⟨rfl, b1, f1⟩; have H1 := Lib.hid (And.intro b1 f1); clear b1 f1)
  have c1 : w1.drew.cell? ⟨F, 1, none⟩ = some (.map (some B)) := (show w1.cell? _ = _ by rw [cell_of H1.out.1]; rfl)
  have s1 : ∀ x, (sup [B] w1.drew x).cell? ⟨F, 1, none⟩ = some (.map (some B)) := fun x => (sup_fr [B] w1.drew x).cell c1 (by simpa using hFB)
  refine region_mix 9 [(false, 0), (false, 1), (false, 2), (false, 3), (false, 4), (true, 5), (false, 6), (false, 7), (true, 8)] [B] (by kernel_rfl) (by kernel_rfl) (fun _ _ d _ _ h => by cases d <;> exact h) ?_
  simp only [List.map_cons, List.map_nil, List.getD_cons_zero, List.getD_cons_succ, List.drop_succ_cons, List.drop_zero, List.drop_nil]
  refine mix_seg 5 rfl ?_
  simp only [List.take_succ_cons, List.take_zero, List.drop_succ_cons, List.drop_zero, List.map_cons, List.map_nil]
  repeat (go_big_quiet_step (fail))
  refine wpQuiet_nil ?_
  refine mix_eff rfl ?_
  intro XX hXX
  go_wp2_with fail
  refine hXX.out _ _ (Fr.refl _ _) ?_
  clear hXX XX
  refine mix_seg 2 rfl ?_
  simp only [List.take_succ_cons, List.take_zero, List.drop_succ_cons, List.drop_zero, List.map_cons, List.map_nil]
  refine quiet_ahead rfl _ rfl _ _ _ _ rfl hna ?_
  simp only [Act.put, List.setIfInBounds_toArray, List.set_cons_succ, List.set_cons_zero]
  repeat (go_big_quiet_step (fail))
  refine wpQuiet_nil ?_
  refine mix_eff rfl ?_
  intro XX hXX
  have hap := H.out.2.2.2.2 w1.drew ((H.out.2.1.fr H1.out.2 (by simp; exact fun e => hFB e.symm)).fr (Fr.drew1 [] w1) (by simp))
  go_wp2_with fail
  refine hap.mono ?_
  rintro e w2 ⟨rfl, hN2, f2⟩
  refine hXX.out _ _ f2 ?_
  clear hXX XX hap
  refine mix_nil ?_
  have b2 : FsB w2 F q B las chg := f2.blk (show w1.drew.heap[F]? = _ from H1.out.1) (by simpa using hFB)
  have c3 : w2.cell? ⟨F, 3, none⟩ = some chg := by rw [cell_of b2]; rfl
  have fa : Fr [] w2 (w2.alloc (.cells #[.iface ty val] 185)) := (Fr.refl [] w2).alloc _
  have fc : ∀ x, chg.ownBlock = some x → x ∉ [F] ∧ x ∉ [B] := fun x hx => by have := H.out.2.2.2.1 x hx; simpa using this
  have own2 := ownsRow_fr (ownsRow_fr (ownsRow_fr (ownsRow_fr H.out.2.2.1 H1.out.2 (fun x hx => (fc x hx).1)) (Fr.drew1 [] w1) (by simp)) f2 (fun x hx => (fc x hx).2)) fa (by simp)
  have H2 := Lib.hid (And.intro b2 (And.intro hN2 (And.intro f2 (And.intro fa own2))))
  clear b2 hN2 f2 fa own2 fc c1 s1
  go_wp2_with (at_builtin; refine wpList_append sliceChg rfl _ _ rfl chg m vs chg.ownBlock.toList rfl rfl H2.out.2.2.2.2 (some ⟨w2.heap.size, 0, none⟩) 1 1 [.iface ty val] rfl (Nat.le_refl _) (by simp) (cs_new w2 _ _ _) rfl (by simp [Value.oneCell']) (by omega) (by unfold maxLen; omega) ?_; intro a3 q3 w3 A3; have b3 : FsB w3 F q B las chg := A3.fr.blk (H2.out.2.2.2.1.blk H2.out.1 (by simp)) (fun hx => by have e := H.out.2.2.2.1 F (by simpa using hx); exact e.1 rfl); have d3 : w3.cell? ⟨F, 3, none⟩ = some chg := (by rw [cell_of b3]; rfl); have z3 := frozen_of b3 3; have H3 := Lib.hid (And.intro A3 b3); clear A3 b3)
  go_ret
  obtain ⟨b2, hN2, f2, fa, own2⟩ := H2.out
  obtain ⟨A3, b3⟩ := H3.out
  have hcF := H.out.2.2.2.1
  have f4 : Fr [F] w3 (w3.setCell ⟨F, 3, none⟩ (.slice a3 (m + 1) q3)) := (Fr.refl [F] w3).setCell (by simp) _
  have s12 : w.heap.size ≤ w2.heap.size := Nat.le_trans H1.out.2.size f2.size
  have hat : ∀ x, (Value.slice a3 (m + 1) q3).ownBlock = some x → chg.ownBlock = some x ∨ w2.heap.size ≤ x := fun x hx => by
    have hx2 : x ∈ blk a3 := by rw [← own_blk a3 (m + 1) q3, hx]; simp
    rcases A3.at_ x hx2 with h | h
    · exact .inl (by simpa using h)
    · right; rw [h]; exact fa.size
  have hF2 := lt_of_block b2
  have hBc : B ∉ chg.ownBlock.toList := fun hx => (hcF B (by simpa using hx)).2 rfl
  have hT : ∀ y, y ∈ [F] ∨ y ∈ [B] ∨ y ∈ chg.ownBlock.toList → y ∈ F :: B :: chg.ownBlock.toList := fun y hy => by
    simp only [List.mem_cons, List.not_mem_nil, or_false] at hy ⊢
    exact hy
  refine ⟨rfl, .slice a3 (m + 1) q3, vs ++ [.iface ty val], (setCell_of (o := 3) b3 _).trans rfl, ((hN2.fr fa (by simp)).fr A3.fr hBc).fr f4 (by simpa using fun e => hFB e.symm), ownsRow_fr A3.own f4 (fun x hx hm => ?_), ?_, fun x hx => ?_⟩
  · simp only [List.mem_singleton] at hm
    subst hm
    rcases hat x hx with h | h
    · exact (hcF x h).1 rfl
    · omega
  · exact ((((H1.out.2.mono (T := F :: B :: chg.ownBlock.toList) (fun y hy => .inl (hT y (.inl hy)))).trans ((Fr.drew1 _ w1))).trans (f2.mono (T := F :: B :: chg.ownBlock.toList) (fun y hy => .inl (hT y (.inr (.inl hy)))))).trans ((fa.mono (by simp)).trans (A3.fr.mono (T := F :: B :: chg.ownBlock.toList) (fun y hy => .inl (hT y (.inr (.inr hy))))))).trans (f4.mono (T := F :: B :: chg.ownBlock.toList) (fun y hy => .inl (hT y (.inl hy))))
  · rcases hat x hx with h | h
    · exact .inl h
    · exact .inr (by omega)
end Go.Proofs.YtflcdnmhgfhmdaaGreatDoor.fs
/-
  fs: a new file.
-/
namespace Go.Proofs.YtflcdnmhgfhmdaaGreatDoor.fs
open Go Go.RowKit Go.Proofs.YtflcdnmhgfhmdaaGreatDoor.lib Go.Proofs.YtflcdnmhgfhmdaaGreatDoor.pk

set_option maxRecDepth 100000
def upd (t : Nm → Option (List UInt8)) (k : Nm) (v : Option (List UInt8)) : Nm → Option (List UInt8) := fun x => if x = k then v else t x
set_option maxHeartbeats 8000000 in
theorem create_raw (F q B n m : Nat) (las chg : Value) (vs : List Value) (g : Nm → Option Nat) (k : Nm) (w : World) (hF : FsB w F q B las chg) (hN : Names w B n g) (hn : n < 1000) (hc : w.ownsRow 0 185 1 chg m vs) (hm : m ≤ 1000) (hFB : F ≠ B) (hcF : ∀ x, chg.ownBlock = some x → x ≠ F ∧ x ≠ B) (hk : NOk k) (hg : g k = none) :
    Calls Tryz.prog 352 #[.pointer (some ⟨F, 0, none⟩), .string (str k)] w fun e w' => ∃ w1 P, Fr [] w w1 ∧ w1.heap[P]? = some (.cells #[.slice none 0 0, .int .i64 0] 189 (0, 0)) ∧ w.heap.size ≤ P ∧ ChP w1 F q B las chg m (n + 1) (set g k (some P)) e w' := by
  have f1 : Fr [] w (w.alloc (.cells #[.string (str k)] 9)) := (Fr.refl [] w).alloc _
  have hb := alloc_at w (.cells #[.string (str k)] 9)
  obtain ⟨w1, hw1⟩ : ∃ w1, w1 = w.alloc (.cells #[.string (str k)] 9) := ⟨_, rfl⟩
  rw [← hw1] at f1 hb
  obtain ⟨X, hX⟩ : ∃ X, X = w.heap.size := ⟨_, rfl⟩
  rw [← hX] at hb
  have hnm := named_ok F q B las chg X 1 [k] w1 (f1.blk hF (by simp)) (fun i x hi => by
    match i, hi with
    | 0, hi =>
      obtain rfl := Option.some.inj hi
      rw [cell_of hb]
      rfl) (fun x hx => by simp only [List.mem_singleton] at hx; rw [hx]; exact hk) (by show (1 : Nat) ≤ 2; decide)
  rw [show [k].length = 1 from rfl] at hnm
  have c1 : w1.cell? ⟨F, 1, none⟩ = some (.map (some B)) := by rw [cell_of (f1.blk hF (by simp))]; rfl
  have hlk := (hN.fr f1 (by simp)).look k (by have := hk.2.1; omega)
  rw [hg] at hlk
  have hlk' : (Instr.lookup 124 (.map (some B)) (.string (str k)) false).run Tryz.prog w1 = .ok (.pointer none) w1 := hlk
  have f2 : Fr [] w1 (w1.alloc (.cells #[.slice none 0 0, .int .i64 0] 189)) := (Fr.refl [] w1).alloc _
  have hb2 := alloc_at w1 (.cells #[.slice none 0 0, .int .i64 0] 189)
  obtain ⟨P, hP⟩ : ∃ P, P = w1.heap.size := ⟨_, rfl⟩
  obtain ⟨w2, hw2⟩ : ∃ w2, w2 = w1.alloc (.cells #[.slice none 0 0, .int .i64 0] 189) := ⟨_, rfl⟩
  rw [← hw2] at f2 hb2
  rw [← hP] at hb2
  have f12 := f1.trans f2
  have hch := change_any F q B n (n + 1) m las chg vs g (set g k (some P)) 566 (.agg #[.string (str k), .pointer (some ⟨P, 0, none⟩)]) 623 w2 (f12.blk hF (by simp)) (hN.fr f12 (by simp)) (ownsRow_fr hc f12 (by simp)) hm hFB hcF (fun w => ahead_create k P w) (fun f w => meth_create k P f w) (fun w => call_create B k P w) (fun w' h => create_apply B n g k P w' h hn hk)
  obtain ⟨z, hz⟩ : ∃ z, z = str k := ⟨_, rfl⟩
  rw [← hz] at hlk' hw1 hch ⊢
  have H := Lib.hid (And.intro hnm (And.intro hch (And.intro f12 (And.intro hb2 (by rw [hP]; exact f1.size : w.heap.size ≤ P)))))
  have HW := Lib.hid (And.intro hX (And.intro hw1 (And.intro hP hw2)))
  clear hnm hch f1 f2 f12 hb hb2 hF hN hk hz hX hw1 hlk hP hw2 hc hg hcF
  go_enter Tryz.func352, Tryz.ntmps352
  go_upto_region 2 with (go_at_call 269; rw [← HW.out.1, ← HW.out.2.1]; refine H.out.1.mono ?_; rintro e w3 ⟨rfl, hw⟩; obtain rfl := hw.symm)
  go_wp2_with (go_at_call 267; rw [← HW.out.2.2.1, ← HW.out.2.2.2]; refine H.out.2.1.mono ?_; rintro e w4 h4; obtain ⟨rfl, h5⟩ := h4; have H5 := Lib.hid h5; clear h5)
  go_ret
  exact ⟨w2, P, H.out.2.2.1, H.out.2.2.2.1, H.out.2.2.2.2, rfl, H5.out⟩
theorem row_lt {w : World} {e : TypeId} {v : Value} {n : Nat} {xs : List Value} (h : w.ownsRow 0 e 1 v n xs) {x : Nat} (hx : v.ownBlock = some x) : x < w.heap.size := by
  rcases h.2 with ⟨h1, h2⟩ | ⟨g, cap, cur, h1, hb, hg, _⟩
  · rw [h1] at hx
    cases hx
  · rw [h1] at hx
    obtain rfl := Option.some.inj hx
    exact lt_of_block hg
/-- A new, empty file. -/
theorem create_any (F n M : Nat) (t : Nm → Option (List UInt8)) (lab : Nat → Option Lb) (k : Nm) (w : World) (h : Fs w F n M t lab) (hk : NOk k) (ht : t k = none) (hn : n < 890) :
    Calls Tryz.prog 352 #[.pointer (some ⟨F, 0, none⟩), .string (str k)] w fun e w' => e = .returned (.int .i64 0) ∧ ∃ lab', Fs w' F (n + 1) M (upd t k (some [])) lab' ∧ Stp w lab w' lab' := by
  obtain ⟨⟨q, B, las, chg, m, vs, g, hq, h1, h2, h3, h4, h5, h6, h7, h8, h9, h10⟩, hn8, hM, hlow⟩ := h
  have hFB : F ≠ B := by
    rintro rfl
    rw [h5] at h6
    cases h6
  have hcF : ∀ x, chg.ownBlock = some x → x ≠ F ∧ x ≠ B := fun x hx => by
    have := h7 x hx
    constructor
    · rintro rfl
      rw [h5] at this
      cases this
    · rintro rfl
      rw [h6] at this
      cases this
  refine (create_raw F q B n m las chg vs g k w h1 h2 (by omega) h3 (by omega) hFB hcF hk (h8 k ht)).mono ?_
  rintro e w' ⟨w1, P, f1, hP, hPw, he, chg', vs', k1, k2, k3, f2, k4⟩
  have hP1 := lt_of_block hP
  have hPno : lab P = none := by
    cases hl : lab P with
    | none => rfl
    | some l => have := hlow P (by rw [hl]; exact Option.some_ne_none l); omega
  have hPt : P ∉ F :: B :: chg.ownBlock.toList := fun hm => by
    have hl : lab P ≠ none := by
      simp only [List.mem_cons, Option.mem_toList] at hm
      rcases hm with rfl | rfl | hm
      · rw [h5]; exact Option.some_ne_none _
      · rw [h6]; exact Option.some_ne_none _
      · rw [h7 P hm]; exact Option.some_ne_none _
    exact hl hPno
  have hTl : ∀ x ∈ F :: B :: chg.ownBlock.toList, ∃ l, lab x = some l ∧ (l = .fs ∨ l = .names ∨ l = .chg) := fun x hm => by
    simp only [List.mem_cons, Option.mem_toList] at hm
    rcases hm with rfl | rfl | hm
    · exact ⟨_, h5, .inl rfl⟩
    · exact ⟨_, h6, .inr (.inl rfl)⟩
    · exact ⟨_, h7 x hm, .inr (.inr rfl)⟩
  have hold : ∀ x l, lab x = some l → x ≠ P ∧ (chg'.ownBlock = some x → l = .chg) := fun x l hl => by
    have hx := hlow x (by rw [hl]; exact Option.some_ne_none l)
    refine ⟨by omega, fun hc => ?_⟩
    rcases k4 x hc with hc | hc
    · have := h7 x hc
      rw [hl] at this
      exact Option.some.inj this
    · have := f1.size
      omega
  obtain ⟨lab', hlab⟩ : ∃ lab' : Nat → Option Lb, lab' = fun x => if x = P then some .file else if chg'.ownBlock = some x then some .chg else lab x := ⟨_, rfl⟩
  have hkeep : ∀ x l, lab x = some l → lab' x = some l := fun x l hl => by
    obtain ⟨a1, a2⟩ := hold x l hl
    rw [hlab]
    simp only [if_neg a1]
    split
    · next hc => rw [a2 hc]
    · exact hl
  have hnew : ∀ x, lab' x ≠ none → lab x ≠ none ∨ w.heap.size ≤ x := fun x hx => by
    rw [hlab] at hx
    simp only at hx
    by_cases e1 : x = P
    · right; omega
    · rw [if_neg e1] at hx
      by_cases e2 : chg'.ownBlock = some x
      · rcases k4 x e2 with hc | hc
        · left; rw [h7 x hc]; exact Option.some_ne_none _
        · right; have := f1.size; omega
      · rw [if_neg e2] at hx
        exact .inl hx
  have f12 : Fr (F :: B :: chg.ownBlock.toList) w w' := (f1.mono (T := F :: B :: chg.ownBlock.toList) (by simp)).trans f2
  refine ⟨he, lab', ⟨⟨q, B, las, chg', m + 1, vs', set g k (some P), hq, k1, k2, k3, by omega, hkeep _ _ h5, hkeep _ _ h6, fun x hx => ?_, fun x hx => ?_, fun x bs hx => ?_, fun x y p hx hy => ?_⟩, by omega, hM, fun x hx => ?_⟩, ⟨_, f12, fun x hx => ?_⟩, hnew⟩
  · rw [hlab]
    have hxP : x ≠ P := by
      rintro rfl
      rcases k4 x hx with hc | hc
      · exact hPt (by simp [hc])
      · omega
    simp only [if_neg hxP, if_pos hx]
  · unfold upd at hx
    unfold set
    by_cases e : x = k
    · rw [if_pos e] at hx; cases hx
    · rw [if_neg e] at hx ⊢; exact h8 x hx
  · unfold upd at hx
    unfold set
    by_cases e : x = k
    · rw [if_pos e] at hx ⊢
      obtain rfl := Option.some.inj hx
      exact ⟨by simp, P, none, 0, 0, rfl, ⟨f2.blk hP hPt, .inl ⟨rfl, rfl, rfl⟩⟩, by rw [hlab]; simp, by simp [blk]⟩
    · rw [if_neg e] at hx ⊢
      obtain ⟨b1, p, a, c, syn, b2, b3, b4, b5⟩ := h9 x bs hx
      have hpT : p ∉ F :: B :: chg.ownBlock.toList := fun hm => by
        obtain ⟨l, hl, hl2⟩ := hTl p hm
        rw [b4] at hl
        obtain rfl := Option.some.inj hl
        rcases hl2 with h | h | h <;> cases h
      refine ⟨b1, p, a, c, syn, b2, ⟨f12.blk b3.1 hpT, b3.2.fr f12 (fun y hy hm => ?_)⟩, hkeep _ _ b4, fun y hy => hkeep _ _ (b5 y hy)⟩
      obtain ⟨l, hl, hl2⟩ := hTl y hm
      rw [b5 y hy] at hl
      obtain rfl := Option.some.inj hl
      rcases hl2 with h | h | h <;> cases h
  · unfold set at hx hy
    have gP : ∀ z, g z ≠ some P := fun z hz => by
      cases htz : t z with
      | none => rw [h8 z htz] at hz; cases hz
      | some bs =>
        obtain ⟨_, p, a, c, syn, b2, _, b4, _⟩ := h9 z bs htz
        rw [b2] at hz
        obtain rfl := Option.some.inj hz
        rw [hPno] at b4
        cases b4
    by_cases e1 : x = k
    · rw [if_pos e1] at hx
      obtain rfl := Option.some.inj hx
      by_cases e2 : y = k
      · rw [e1, e2]
      · rw [if_neg e2] at hy
        exact absurd hy (gP y)
    · rw [if_neg e1] at hx
      by_cases e2 : y = k
      · rw [if_pos e2] at hy
        obtain rfl := Option.some.inj hy
        exact absurd hx (gP x)
      · rw [if_neg e2] at hy
        exact h10 x y p hx hy
  · rw [hlab] at hx
    simp only at hx
    by_cases e1 : x = P
    · have := f2.size; omega
    · rw [if_neg e1] at hx
      by_cases e2 : chg'.ownBlock = some x
      · exact row_lt k3 e2
      · rw [if_neg e2] at hx
        exact Nat.lt_of_lt_of_le (hlow x hx) f12.size
  · obtain ⟨l, hl, _⟩ := hTl x hx
    rw [hl]
    exact Option.some_ne_none _
end Go.Proofs.YtflcdnmhgfhmdaaGreatDoor.fs
