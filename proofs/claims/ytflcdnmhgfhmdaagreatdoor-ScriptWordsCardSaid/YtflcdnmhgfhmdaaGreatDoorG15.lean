/-
  Texts of this proof, one behind the other: FsG, CloneB, FsH, FsI, FsJ.
-/
import Derived.Test.YtflcdnmhgfhmdaaGreatDoorG14
import Derived.Lib.SliceRun
set_option linter.unusedVariables false
set_option linter.unusedSimpArgs false
/-
  fs: Append keeps a file system.
-/
namespace Go.Proofs.YtflcdnmhgfhmdaaGreatDoor.fs
open Go Go.RowKit Go.Proofs.YtflcdnmhgfhmdaaGreatDoor.lib Go.Proofs.YtflcdnmhgfhmdaaGreatDoor.pk

set_option maxRecDepth 100000
theorem append_any (F n M M' : Nat) (t : Nm → Option (List UInt8)) (lab : Nat → Option Lb) (k : Nm) (bs : List UInt8) (ba : Option Addr) (bc : Nat) (nb : List UInt8) (w : World) (h : Fs w F n M t lab) (hk : NOk k) (ht : t k = some bs) (hb : lib.Rd w ba bc nb) (hbl : nb ≠ [] → ∀ x ∈ blk ba, lab x = none)
    (hM' : M ≤ M') (hM2 : bs.length + nb.length ≤ M') (hM3 : M' ≤ 100000) (hroom : nb.length + n * M ≤ 1048576) :
    Calls Tryz.prog 353 #[.pointer (some ⟨F, 0, none⟩), .string (str k), .slice ba nb.length bc] w fun e w' => e = .returned (.int .i64 0) ∧ ∃ lab', Fs w' F n M' (upd t k (some (bs ++ nb))) lab' ∧ Stp w lab w' lab' := by
  have hus : ∀ w', Fr [] w w' → Calls Tryz.prog 422 #[.pointer (some ⟨F, 0, none⟩)] w' fun e w'' => (∃ u : Nat, u ≤ n * M ∧ e = .returned (.int .i64 (u : Nat))) ∧ Fr [] w' w'' := fun w' f => used_any F n M t lab w' (h.fr f (by simp))
  obtain ⟨⟨q, B, las, chg, m, vs, g, hq, h1, h2, h3, h4, h5, h6, h7, h8, h9, h10⟩, hn8, hM, hlow⟩ := h
  obtain ⟨b1, p, a, c, syn, b2, b3, b4, b5⟩ := h9 k bs ht
  have ne : ∀ {x y : Nat} {l l' : Lb}, lab x = some l → lab y = some l' → l ≠ l' → x ≠ y := fun hx hy hl e => by
    rw [e, hy] at hx
    exact hl (Option.some.inj hx).symm
  refine (append_raw F q B n (n * M) las chg g k p a c syn bs ba bc nb w h1 h2 hk b2 b3 hb hus (by omega) hq.2 (by omega) (ne b4 h5 (by intro e; cases e)) (fun x hx => ⟨ne (b5 x hx) h5 (by intro e; cases e), ne (b5 x hx) b4 (by intro e; cases e)⟩) (fun hnb x hx e => by rw [e] at hx; have := hbl hnb F hx; rw [h5] at this; cases this)).mono ?_
  rintro e w' ⟨he, a', c', f1, f2, k1, k4⟩
  have hTl : ∀ x ∈ F :: p :: blk a, ∃ l, lab x = some l ∧ (l = .fs ∨ l = .file ∨ l = .data p) ∧ (l = .file → x = p) := fun x hm => by
    simp only [List.mem_cons] at hm
    rcases hm with rfl | rfl | hm
    · exact ⟨_, h5, .inl rfl, by intro e; cases e⟩
    · exact ⟨_, b4, .inr (.inl rfl), fun _ => rfl⟩
    · exact ⟨_, b5 x hm, .inr (.inr rfl), by intro e; cases e⟩
  obtain ⟨lab', hlab⟩ : ∃ lab' : Nat → Option Lb, lab' = fun x => if x ∈ blk a' then some (.data p) else lab x := ⟨_, rfl⟩
  have hkeep : ∀ x l, lab x = some l → lab' x = some l := fun x l hl => by
    rw [hlab]
    simp only
    split
    · next hm =>
      rcases k4 x hm with hc | hc
      · rw [b5 x hc] at hl; exact hl
      · have := hlow x (by rw [hl]; exact Option.some_ne_none l)
        omega
    · exact hl
  have off : ∀ x l, lab x = some l → l ≠ .fs → l ≠ .data p → x ≠ p → x ∉ F :: p :: blk a := fun x l hl n1 n2 n3 hm => by
    obtain ⟨l', hl', hc, hf⟩ := hTl x hm
    rw [hl] at hl'
    obtain rfl := Option.some.inj hl'
    rcases hc with e | e | e
    · exact n1 e
    · exact n3 (hf e)
    · exact n2 e
  refine ⟨he, lab', ⟨⟨q, B, las, chg, m, vs, g, hq, k1, h2.fr f2 (off _ _ h6 (by intro e; cases e) (by intro e; cases e) (ne h6 b4 (by intro e; cases e))), ownsRow_fr h3 f2 (fun x hx => off _ _ (h7 x hx) (by intro e; cases e) (by intro e; cases e) (ne (h7 x hx) b4 (by intro e; cases e))), h4, hkeep _ _ h5, hkeep _ _ h6, fun x hx => hkeep _ _ (h7 x hx), fun x hx => ?_, fun x bs' hx => ?_, h10⟩, hn8, hM3, fun x hx => ?_⟩, ⟨_, f2, fun x hx => ?_⟩, fun x hx => ?_⟩
  · unfold upd at hx
    by_cases e : x = k
    · rw [if_pos e] at hx; cases hx
    · rw [if_neg e] at hx; exact h8 x hx
  · unfold upd at hx
    by_cases e : x = k
    · rw [if_pos e] at hx
      obtain rfl := Option.some.inj hx
      exact ⟨by rw [List.length_append]; omega, p, a', c', syn, by rw [e]; exact b2, f1, hkeep _ _ b4, fun y hy => by rw [hlab]; simp only [if_pos hy]⟩
    · rw [if_neg e] at hx
      obtain ⟨d1, p', a2, c2, syn2, d2, d3, d4, d5⟩ := h9 x bs' hx
      have hpp : p' ≠ p := fun hp => e (h10 x k p (by rw [← hp]; exact d2) b2)
      exact ⟨by omega, p', a2, c2, syn2, d2, ⟨f2.blk d3.1 (off _ _ d4 (by intro e; cases e) (by intro e; cases e) hpp), d3.2.fr f2 (fun y hy => off _ _ (d5 y hy) (by intro e; cases e) (by intro e; cases e; exact hpp rfl) (ne (d5 y hy) b4 (by intro e; cases e)))⟩, hkeep _ _ d4, fun y hy => hkeep _ _ (d5 y hy)⟩
  · rw [hlab] at hx
    simp only at hx
    by_cases e1 : x ∈ blk a'
    · exact f1.2.lt x e1
    · rw [if_neg e1] at hx
      exact Nat.lt_of_lt_of_le (hlow x hx) f2.size
  · obtain ⟨l, hl, _⟩ := hTl x hx
    rw [hl]
    exact Option.some_ne_none _
  · rw [hlab] at hx
    simp only at hx
    by_cases e1 : x ∈ blk a'
    · rcases k4 x e1 with hc | hc
      · left; rw [b5 x hc]; exact Option.some_ne_none _
      · exact .inr hc
    · rw [if_neg e1] at hx
      exact .inl hx
end Go.Proofs.YtflcdnmhgfhmdaaGreatDoor.fs
/-
  slices.Clip and slices.Clone of bytes, told by what the copy holds.
-/
namespace Go.Proofs.YtflcdnmhgfhmdaaGreatDoor.pk
open Go Go.RowKit Go.Proofs.YtflcdnmhgfhmdaaGreatDoor.lib Go.Proofs.YtflcdnmhgfhmdaaGreatDoor.bm

theorem clip_b (ao : Option Addr) (len cap : Nat) (w : World) (hle : len ≤ cap) (hmax : cap ≤ maxLen) :
    Calls Tryz.prog 98 #[.slice ao len cap] w fun e w' => e = .returned (.slice ao len len) ∧ w' = w := by
  go_enter Tryz.func98, Tryz.ntmps98
  go_wp2
  all_goals go_ret
  all_goals exact ⟨by first | rfl | simp, rfl⟩
/-- A new copy of bytes. -/
def Copied (w : World) (bs : List UInt8) (e : Ending) (w' : World) : Prop :=
  ∃ ao cap, e = .returned (.slice ao bs.length cap) ∧ lib.Rd w' ao cap bs ∧ bs.length ≤ cap ∧ cap ≤ maxLen ∧ (∀ x ∈ blk ao, w.heap.size ≤ x ∧ x < w'.heap.size) ∧ Fr [] w w'
set_option maxHeartbeats 1000000 in
theorem clone_b (ao : Option Addr) (cap : Nat) (bs : List UInt8) (w : World) (h : lib.Rd w ao cap bs) (hlim : bs.length ≤ 140737488355328) :
    Calls Tryz.prog 139 #[.slice ao bs.length cap] w (Copied w bs) := by
  have qT : ∀ (w : World) (a : Option Addr) (n c n' c' : Nat), (binOp .eql 93 (.slice a n c) (.slice none n' c')).run Tryz.prog w = .ok (.bool a.isNone) w := fun w a n c n' c' => Lib.run_eql_slice_nil w _ _ a n c n' c' Tryz.underlying93
  have hcs := h.cs
  have hle := h.le
  have hnone := h.nil
  have hlt := h
  cases ao with
  | none =>
    have h0 := hnone rfl
    obtain rfl : bs = [] := List.eq_nil_of_length_eq_zero (by omega)
    go_enter Tryz.func139, Tryz.ntmps139
    go_wp2
    go_ret
    exact ⟨none, 0, rfl, ⟨.inl rfl, by simp, by decide, fun _ => rfl⟩, by simp, by decide, by simp [blk], Fr.refl _ _⟩
  | some a =>
    go_enter Tryz.func139, Tryz.ntmps139
    go_wp2_with (refine wpList_append sliceU8 rfl _ _ rfl (.slice (some ⟨w.heap.size, 0, none⟩) 0 0) 0 [] [w.heap.size] rfl rfl ⟨rfl, .inr ⟨w.heap.size, 0, #[], rfl, Nat.zero_le _, alloc_at _ _, Nat.le_refl _, Nat.zero_le _, rfl, rfl⟩⟩ (some a) bs.length cap (bs.map bv) rfl hle hnone (hcs.fr ((Fr.refl [] w).alloc _) (by simp)) (by simp) (bv_one bs) (by omega) (by unfold maxLen; omega) ?_; intro ao1 cap1 w1 A1; simp only [Nat.zero_add, List.nil_append] at A1)
    go_ret
    have fr2 : Fr [] w w1 := ((Fr.refl [] w).alloc _).step A1.fr (by simp)
    have hb : ∀ x ∈ blk ao1, w.heap.size ≤ x ∧ x < w1.heap.size := fun x hx => ⟨by have := A1.at_ x hx; simp at this; omega, A1.lt x hx⟩
    exact ⟨ao1, cap1, rfl, ⟨cs_of_owns A1.own, A1.le, A1.max, A1.nil⟩, A1.le, A1.max, hb, fr2⟩
end Go.Proofs.YtflcdnmhgfhmdaaGreatDoor.pk
/-
  fs: a file's bytes read.
-/
namespace Go.Proofs.YtflcdnmhgfhmdaaGreatDoor.fs
open Go Go.RowKit Go.Proofs.YtflcdnmhgfhmdaaGreatDoor.lib Go.Proofs.YtflcdnmhgfhmdaaGreatDoor.pk

set_option maxRecDepth 100000
/-- A file's bytes, or what is wrong. -/
def ReadP (w : World) (q : Option (List UInt8)) (e : Ending) (w' : World) : Prop := (match q with
  | none => e = .returned (.tuple #[.slice none 0 0, .int .i64 61])
  | some bs => ∃ a, e = .returned (.tuple #[.slice a bs.length bs.length, .int .i64 0]) ∧ lib.Rd w' a bs.length bs ∧ ∀ x ∈ blk a, w.heap.size ≤ x ∧ x < w'.heap.size) ∧ Fr [] w w'
set_option maxHeartbeats 8000000 in
theorem read_any (F n M : Nat) (t : Nm → Option (List UInt8)) (lab : Nat → Option Lb) (k : Nm) (w : World) (h : Fs w F n M t lab) (hk : NOk k) :
    Calls Tryz.prog 108 #[.pointer (some ⟨F, 0, none⟩), .string (str k)] w (ReadP w (t k)) := by
  have hM := h.most
  obtain ⟨⟨q, B, las, chg, m, vs, g, hq, h1, h2, h3, h4, h5, h6, h7, h8, h9, h10⟩, _, _, hlow⟩ := h
  have hof := of_any F q B n las chg g k w h1 h2 hk
  obtain ⟨z, hz⟩ : ∃ z, z = str k := ⟨_, rfl⟩
  rw [← hz] at hof ⊢
  cases ht : t k with
  | none =>
    rw [h8 k ht] at hof
    unfold OfP at hof
    have H := Lib.hid hof
    clear hof h1 h2 h3 h4 h5 h6 h7 h8 h9 h10 hlow hz ht
    go_enter Tryz.func108, Tryz.ntmps108
    go_wp2_with (go_at_call 179; refine H.out.mono ?_; rintro e w1 ⟨rfl, f1⟩; have H1 := Lib.hid f1; clear f1)
    go_ret2
    exact ⟨rfl, H1.out⟩
  | some bs =>
    obtain ⟨b1, p, a, c, syn, b2, b3, b4, b5⟩ := h9 k bs ht
    rw [b2] at hof
    unfold OfP at hof
    obtain ⟨L, hL⟩ : ∃ L, L = bs.length := ⟨_, rfl⟩
    have H := Lib.hid (And.intro hof (And.intro b3 hL))
    rw [← hL] at b1
    clear hof h1 h2 h3 h4 h5 h6 h7 h8 h9 h10 hlow hz ht b2 b3 b4 b5 hL
    go_enter Tryz.func108, Tryz.ntmps108
    go_upto_region 4 with (go_at_call 179; refine H.out.1.mono ?_; rintro e w1 ⟨rfl, f1⟩; have H1 := Lib.hid f1; clear f1)
    have p1 := H1.out.blk H.out.2.1.1 (by simp)
    have c0 : w1.cell? ⟨p, 0, none⟩ = some (.slice a L c) := by rw [cell_of p1, H.out.2.2]; rfl
    have hcl := clone_b a c bs w1 (H.out.2.1.2.fr H1.out (by simp)).rd (by rw [← H.out.2.2]; omega)
    rw [← H.out.2.2] at hcl
    have H2 := Lib.hid hcl
    clear p1 hcl
    go_wp2_with (first
      | (go_at_call 139; refine H2.out.mono ?_; rintro e w3 ⟨a3, c3, rfl, r3, l3, m3, n3, f3⟩; rw [← H.out.2.2]; rw [← H.out.2.2] at l3; have H3 := Lib.hid (And.intro r3 (And.intro l3 (And.intro m3 (And.intro n3 f3)))); clear r3 l3 m3 n3 f3)
      | (go_at_call 98; refine (clip_b a3 L c3 w3 H3.out.2.1 H3.out.2.2.1).mono ?_; rintro e w4 ⟨rfl, hw⟩; obtain rfl := hw.symm))
    go_ret2
    refine ⟨⟨a3, by rw [← H.out.2.2]; rfl, ?_, fun x hx => ?_⟩, H1.out.trans H3.out.2.2.2.2⟩
    · have r3 := H3.out.1
      exact ⟨r3.cs, Nat.le_refl _, Nat.le_trans r3.le r3.max, fun e => by have h1 := r3.nil e; have h2 := r3.le; omega⟩
    · have h1 := H3.out.2.2.2.1 x hx
      have h2 := H1.out.size
      omega
end Go.Proofs.YtflcdnmhgfhmdaaGreatDoor.fs
/-
  fs: a rename.
-/
namespace Go.Proofs.YtflcdnmhgfhmdaaGreatDoor.fs
open Go Go.RowKit Go.Proofs.YtflcdnmhgfhmdaaGreatDoor.lib Go.Proofs.YtflcdnmhgfhmdaaGreatDoor.pk

set_option maxRecDepth 100000
theorem rename_apply (B n : Nat) (g : Nm → Option Nat) (k k2 : Nm) (P : Nat) (w : World) (hN : Names w B n g) (hn : n < 1000) (hk : NOk k) (hk2 : NOk k2) (hg : g k = some P) :
    Calls Tryz.prog 618 #[.agg #[.string (str k), .string (str k2)], .map (some B)] w fun e w' => e = .returned (.tuple #[]) ∧ Names w' B (n + 1) (set (set g k2 (some P)) k none) ∧ Fr [B] w w' := by
  have f1 : Fr [] w (w.alloc (.cells #[.string (str k), .string (str k2)] 480)) := (Fr.refl [] w).alloc _
  have hb := alloc_at w (.cells #[.string (str k), .string (str k2)] 480)
  obtain ⟨X, hX⟩ : ∃ X, X = w.heap.size := ⟨_, rfl⟩
  obtain ⟨w1, hw1⟩ : ∃ w1, w1 = w.alloc (.cells #[.string (str k), .string (str k2)] 480) := ⟨_, rfl⟩
  rw [← hw1, ← hX] at hb
  rw [← hw1] at f1
  have hN1 := hN.fr f1 (by simp)
  have hXB : X ≠ B := hN1.at_.ne hb
  have c0 : w1.cell? ⟨X, 0, none⟩ = some (.string (str k)) := by rw [cell_of hb]; rfl
  have c1 : w1.cell? ⟨X, 1, none⟩ = some (.string (str k2)) := by rw [cell_of hb]; rfl
  have hlk := hN1.look k (by have := hk.2.1; omega)
  rw [hg] at hlk
  have hlk' : (Instr.lookup 124 (.map (some B)) (.string (str k)) false).run Tryz.prog w1 = .ok (.pointer (some ⟨P, 0, none⟩)) w1 := hlk
  obtain ⟨w2, hst, hN2, f2⟩ := hN1.store hn k2 (by have := hk2.2.1; omega) P
  have hst' : (Instr.mapUpdate 124 (.map (some B)) (.string (str k2)) (.pointer (some ⟨P, 0, none⟩))).run Tryz.prog w1 = .ok () w2 := hst
  have d0 : w2.cell? ⟨X, 0, none⟩ = some (.string (str k)) := by rw [cell_of (f2.blk hb (by simpa using hXB))]; rfl
  obtain ⟨w3, hdel, hN3, f3⟩ := hN2.drop k (by have := hk.2.1; omega) 0
  obtain ⟨z, hz⟩ : ∃ z, z = str k := ⟨_, rfl⟩
  obtain ⟨y, hy⟩ : ∃ y, y = str k2 := ⟨_, rfl⟩
  rw [← hz] at c0 hlk' hw1 d0 hdel ⊢
  rw [← hy] at c1 hst' hw1 ⊢
  have H := Lib.hid (And.intro hN3 (And.intro (((f1.mono (T := [B]) (by simp)).trans f2).trans f3) (And.intro hX hw1)))
  clear hst hN hN1 hN2 hN3 f1 f2 f3 hb hX hw1 hz hy hk hk2 hg hlk hXB
  go_enter Tryz.func618, Tryz.ntmps618
  go_upto_region 1 with fail
  rw [← H.out.2.2.1, ← H.out.2.2.2]
  go_wp2
  exact bodyPost_end (results_none rfl _ _ _) rfl ⟨rfl, H.out.1, H.out.2.1⟩
theorem ahead_rename (k k2 : Nm) (w : World) : (nilAhead (Tryz.prog.types.size + Made.depth) 480 (.agg #[.string (str k), .string (str k2)]) "stemma/fs.apply").run Tryz.prog w = .ok (some false) w := by
  kernel_rfl
theorem meth_rename (k k2 : Nm) (f : Nat) (w : World) : (method (f + 1) 480 (.agg #[.string (str k), .string (str k2)]) "stemma/fs.apply").run Tryz.prog w = .ok (618, .agg #[.string (str k), .string (str k2)]) w := by
  kernel_rfl
theorem call_rename (B : Nat) (k k2 : Nm) (w : World) : (callFunc 618 #[.agg #[.string (str k), .string (str k2)], .map (some B)]).run Tryz.prog w = .ok (.enter 618 #[.agg #[.string (str k), .string (str k2)], .map (some B)]) w := by
  kernel_rfl
set_option maxHeartbeats 8000000 in
theorem rename_raw (F q B n m : Nat) (las chg : Value) (vs : List Value) (g : Nm → Option Nat) (k k2 : Nm) (P : Nat) (w : World) (hF : FsB w F q B las chg) (hN : Names w B n g) (hn : n < 1000) (hc : w.ownsRow 0 185 1 chg m vs) (hm : m ≤ 1000) (hFB : F ≠ B) (hcF : ∀ x, chg.ownBlock = some x → x ≠ F ∧ x ≠ B) (hk : NOk k) (hk2 : NOk k2) (hne : k ≠ k2) (hg : g k = some P) :
    Calls Tryz.prog 272 #[.pointer (some ⟨F, 0, none⟩), .string (str k), .string (str k2)] w fun e w' => ∃ w1, Fr [] w w1 ∧ ChP w1 F q B las chg m (n + 1) (set (set g k2 (some P)) k none) e w' := by
  have f1 : Fr [] w (w.alloc (.cells #[.string (str k), .string (str k2)] 9)) := (Fr.refl [] w).alloc _
  have hb := alloc_at w (.cells #[.string (str k), .string (str k2)] 9)
  obtain ⟨w1, hw1⟩ : ∃ w1, w1 = w.alloc (.cells #[.string (str k), .string (str k2)] 9) := ⟨_, rfl⟩
  rw [← hw1] at f1 hb
  obtain ⟨X, hX⟩ : ∃ X, X = w.heap.size := ⟨_, rfl⟩
  rw [← hX] at hb
  have hnm := named_ok F q B las chg X 2 [k, k2] w1 (f1.blk hF (by simp)) (fun i x hi => by
    match i, hi with
    | 0, hi =>
      obtain rfl := Option.some.inj hi
      rw [cell_of hb]
      rfl
    | 1, hi =>
      obtain rfl := Option.some.inj hi
      rw [cell_of hb]
      rfl) (fun x hx => by simp only [List.mem_cons, List.not_mem_nil, or_false] at hx; rcases hx with rfl | rfl; exact hk; exact hk2) (by show (2 : Nat) ≤ 2; decide)
  rw [show [k, k2].length = 2 from rfl] at hnm
  have c1 : w1.cell? ⟨F, 1, none⟩ = some (.map (some B)) := by rw [cell_of (f1.blk hF (by simp))]; rfl
  have hlk := (hN.fr f1 (by simp)).look k (by have := hk.2.1; omega)
  rw [hg] at hlk
  have hlk' : (Instr.lookup 124 (.map (some B)) (.string (str k)) false).run Tryz.prog w1 = .ok (.pointer (some ⟨P, 0, none⟩)) w1 := hlk
  have hch := change_any F q B n (n + 1) m las chg vs g (set (set g k2 (some P)) k none) 480 (.agg #[.string (str k), .string (str k2)]) 618 w1 (f1.blk hF (by simp)) (hN.fr f1 (by simp)) (ownsRow_fr hc f1 (by simp)) hm hFB hcF (fun w => ahead_rename k k2 w) (fun f w => meth_rename k k2 f w) (fun w => call_rename B k k2 w) (fun w' h => rename_apply B n g k k2 P w' h hn hk hk2 hg)
  have hzy : ((str k).toList == (str k2).toList) = false := by rw [str_toList, str_toList]; simpa using hne
  obtain ⟨z, hz⟩ : ∃ z, z = str k := ⟨_, rfl⟩
  obtain ⟨y, hy⟩ : ∃ y, y = str k2 := ⟨_, rfl⟩
  rw [← hz] at hlk' hw1 hch hzy ⊢
  rw [← hy] at hw1 hch hzy ⊢
  have H := Lib.hid (And.intro hnm (And.intro hch f1))
  have HW := Lib.hid (And.intro hX hw1)
  clear hnm hch f1 hb hF hN hk hk2 hz hy hX hw1 hlk hc hg hcF hne
  go_enter Tryz.func272, Tryz.ntmps272
  go_wp2_with (first
    | (go_at_call 269; rw [← HW.out.1, ← HW.out.2]; refine H.out.1.mono ?_; rintro e w3 ⟨rfl, hw⟩; obtain rfl := hw.symm)
    | (go_at_call 267; refine H.out.2.1.mono ?_; rintro e w4 h4; obtain ⟨rfl, h5⟩ := h4; have H5 := Lib.hid h5; clear h5))
  go_ret
  exact ⟨w1, H.out.2.2, rfl, H5.out⟩
end Go.Proofs.YtflcdnmhgfhmdaaGreatDoor.fs
/-
  fs: Rename keeps a file system.
-/
namespace Go.Proofs.YtflcdnmhgfhmdaaGreatDoor.fs
open Go Go.RowKit Go.Proofs.YtflcdnmhgfhmdaaGreatDoor.lib Go.Proofs.YtflcdnmhgfhmdaaGreatDoor.pk

set_option maxRecDepth 100000
theorem rename_any (F n M : Nat) (t : Nm → Option (List UInt8)) (lab : Nat → Option Lb) (k k2 : Nm) (bs : List UInt8) (w : World) (h : Fs w F n M t lab) (hk : NOk k) (hk2 : NOk k2) (hne : k ≠ k2) (ht : t k = some bs) (hn : n < 890) :
    Calls Tryz.prog 272 #[.pointer (some ⟨F, 0, none⟩), .string (str k), .string (str k2)] w fun e w' => e = .returned (.int .i64 0) ∧ ∃ lab', Fs w' F (n + 1) M (upd (upd t k2 (some bs)) k none) lab' ∧ Stp w lab w' lab' := by
  obtain ⟨⟨q, B, las, chg, m, vs, g, hq, h1, h2, h3, h4, h5, h6, h7, h8, h9, h10⟩, hn8, hM, hlow⟩ := h
  obtain ⟨b1, P, a, c, syn, b2, b3, b4, b5⟩ := h9 k bs ht
  have ne : ∀ {x y : Nat} {l l' : Lb}, lab x = some l → lab y = some l' → l ≠ l' → x ≠ y := fun hx hy hl e => by
    rw [e, hy] at hx
    exact hl (Option.some.inj hx).symm
  have hFB : F ≠ B := ne h5 h6 (by intro e; cases e)
  have hcF : ∀ x, chg.ownBlock = some x → x ≠ F ∧ x ≠ B := fun x hx => ⟨ne (h7 x hx) h5 (by intro e; cases e), ne (h7 x hx) h6 (by intro e; cases e)⟩
  refine (rename_raw F q B n m las chg vs g k k2 P w h1 h2 (by omega) h3 (by omega) hFB hcF hk hk2 hne b2).mono ?_
  rintro e w' ⟨w1, f1, he, chg', vs', k1, k3, k5, f2, k4⟩
  have hTl : ∀ x ∈ F :: B :: chg.ownBlock.toList, ∃ l, lab x = some l ∧ (l = .fs ∨ l = .names ∨ l = .chg) := fun x hm => by
    simp only [List.mem_cons, Option.mem_toList] at hm
    rcases hm with rfl | rfl | hm
    · exact ⟨_, h5, .inl rfl⟩
    · exact ⟨_, h6, .inr (.inl rfl)⟩
    · exact ⟨_, h7 x hm, .inr (.inr rfl)⟩
  have f12 : Fr (F :: B :: chg.ownBlock.toList) w w' := (f1.mono (T := F :: B :: chg.ownBlock.toList) (by simp)).trans f2
  obtain ⟨lab', hlab⟩ : ∃ lab' : Nat → Option Lb, lab' = fun x => if chg'.ownBlock = some x then some .chg else lab x := ⟨_, rfl⟩
  have hkeep : ∀ x l, lab x = some l → lab' x = some l := fun x l hl => by
    rw [hlab]
    simp only
    split
    · next hc =>
      rcases k4 x hc with hc | hc
      · rw [h7 x hc] at hl; exact hl
      · have := hlow x (by rw [hl]; exact Option.some_ne_none l)
        have := f1.size
        omega
    · exact hl
  have off : ∀ x l, lab x = some l → l ≠ .fs → l ≠ .names → l ≠ .chg → x ∉ F :: B :: chg.ownBlock.toList := fun x l hl n1 n2 n3 hm => by
    obtain ⟨l', hl', hc⟩ := hTl x hm
    rw [hl] at hl'
    obtain rfl := Option.some.inj hl'
    rcases hc with e | e | e
    · exact n1 e
    · exact n2 e
    · exact n3 e
  have keepF : ∀ x bs', t x = some bs' → bs'.length ≤ M ∧ ∃ p a c syn, g x = some p ∧ FileB w' p a c syn bs' ∧ lab' p = some .file ∧ ∀ y ∈ blk a, lab' y = some (.data p) := fun x bs' hx => by
    obtain ⟨d1, p', a2, c2, syn2, d2, d3, d4, d5⟩ := h9 x bs' hx
    exact ⟨d1, p', a2, c2, syn2, d2, ⟨f12.blk d3.1 (off _ _ d4 (by intro e; cases e) (by intro e; cases e) (by intro e; cases e)), d3.2.fr f12 (fun y hy => off _ _ (d5 y hy) (by intro e; cases e) (by intro e; cases e) (by intro e; cases e))⟩, hkeep _ _ d4, fun y hy => hkeep _ _ (d5 y hy)⟩
  have gk : ∀ x p, set (set g k2 (some P)) k none x = some p → x ≠ k ∧ ((x = k2 ∧ p = P) ∨ (x ≠ k2 ∧ g x = some p)) := fun x p hx => by
    unfold set at hx
    by_cases e1 : x = k
    · rw [if_pos e1] at hx; cases hx
    · rw [if_neg e1] at hx
      by_cases e2 : x = k2
      · rw [if_pos e2] at hx
        exact ⟨e1, .inl ⟨e2, (Option.some.inj hx).symm⟩⟩
      · rw [if_neg e2] at hx
        exact ⟨e1, .inr ⟨e2, hx⟩⟩
  refine ⟨he, lab', ⟨⟨q, B, las, chg', m + 1, vs', _, hq, k1, k3, k5, by omega, hkeep _ _ h5, hkeep _ _ h6, fun x hx => by rw [hlab]; simp only [if_pos hx], fun x hx => ?_, fun x bs' hx => ?_, fun x y p hx hy => ?_⟩, by omega, hM, fun x hx => ?_⟩, ⟨_, f12, fun x hx => ?_⟩, fun x hx => ?_⟩
  · unfold upd at hx
    unfold set
    by_cases e1 : x = k
    · rw [if_pos e1]
    · rw [if_neg e1] at hx ⊢
      by_cases e2 : x = k2
      · rw [if_pos e2] at hx; cases hx
      · rw [if_neg e2] at hx ⊢; exact h8 x hx
  · unfold upd at hx
    unfold set
    by_cases e1 : x = k
    · rw [if_pos e1] at hx; cases hx
    · rw [if_neg e1] at hx ⊢
      by_cases e2 : x = k2
      · rw [if_pos e2] at hx ⊢
        obtain rfl := Option.some.inj hx
        have := keepF k bs ht
        rw [b2] at this
        exact this
      · rw [if_neg e2] at hx ⊢; exact keepF x bs' hx
  · obtain ⟨x1, hx⟩ := gk x p hx
    obtain ⟨y1, hy⟩ := gk y p hy
    rcases hx with ⟨x2, x3⟩ | ⟨x2, x3⟩
    · rcases hy with ⟨y2, y3⟩ | ⟨y2, y3⟩
      · rw [x2, y2]
      · rw [x3] at y3
        exact absurd (h10 y k P y3 b2) y1
    · rcases hy with ⟨y2, y3⟩ | ⟨y2, y3⟩
      · rw [y3] at x3
        exact absurd (h10 x k P x3 b2) x1
      · exact h10 x y p x3 y3
  · rw [hlab] at hx
    simp only at hx
    by_cases e1 : chg'.ownBlock = some x
    · exact row_lt k5 e1
    · rw [if_neg e1] at hx
      exact Nat.lt_of_lt_of_le (hlow x hx) f12.size
  · obtain ⟨l, hl, _⟩ := hTl x hx
    rw [hl]
    exact Option.some_ne_none _
  · rw [hlab] at hx
    simp only at hx
    by_cases e1 : chg'.ownBlock = some x
    · rcases k4 x e1 with hc | hc
      · left; rw [h7 x hc]; exact Option.some_ne_none _
      · right; have := f1.size; omega
    · rw [if_neg e1] at hx
      exact .inl hx
end Go.Proofs.YtflcdnmhgfhmdaaGreatDoor.fs
