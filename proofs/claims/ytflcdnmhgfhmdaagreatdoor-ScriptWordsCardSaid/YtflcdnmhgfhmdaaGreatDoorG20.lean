/-
  Texts of this proof, one behind the other: RepoOp, WorldN.
-/
import Derived.Test.YtflcdnmhgfhmdaaGreatDoorG19
set_option linter.unusedVariables false
set_option linter.unusedSimpArgs false
/-
  ref.replace, SetHead; ref.Open and repo.Open on an empty file system.
-/
namespace Go.Proofs.YtflcdnmhgfhmdaaGreatDoor.fs
open Go Go.RowKit Go.Proofs.YtflcdnmhgfhmdaaGreatDoor.lib Go.Proofs.YtflcdnmhgfhmdaaGreatDoor.pk

set_option maxRecDepth 100000
def lockL : Nm := [46, 108, 111, 99, 107]
theorem lock_str (k : Nm) : (str k ++ (⟨#[46, 108, 111, 99, 107]⟩ : ByteArray)) = str (k ++ lockL) := by
  rw [← str_append]
  rfl
set_option maxHeartbeats 8000000 in
theorem replace_any (R F n M M' : Nat) (t : Nm → Option (List UInt8)) (lab : Nat → Option Lb) (k : Nm) (ba : Option Addr) (bc : Nat) (nb : List UInt8) (w : World) (hR : RefB w R F) (hlR : lab R = none) (h : Fs w F n M t lab) (hk1 : NOk (k ++ lockL)) (hk2 : NOk k) (ht : t (k ++ lockL) = none) (hb : lib.Rd w ba bc nb) (hbl : nb ≠ [] → ∀ x ∈ blk ba, lab x = none)
    (hM' : M ≤ M') (hM2 : nb.length ≤ M') (hM3 : M' ≤ 100000) (hroom : nb.length + (n + 1) * M ≤ 1048576) (hn : n < 880) :
    Calls Tryz.prog 186 #[.pointer (some ⟨R, 0, none⟩), .string (str k), .slice ba nb.length bc] w fun e w' => e = .returned (.int .i64 0) ∧ ∃ lab', Fs w' F (n + 2) M' (upd t k (some nb)) lab' ∧ Stp w lab w' lab' := by
  have c0 : w.cell? ⟨R, 0, none⟩ = some (.pointer (some ⟨F, 0, none⟩)) := by rw [cell_of hR]; rfl
  have hne : k ++ lockL ≠ k := fun e => by have := congrArg List.length e; simp [lockL] at this
  have hsv := save_any F n M M' t lab (k ++ lockL) k ba bc nb w h hk1 hk2 hne ht hb hbl hM' hM2 hM3 hroom hn
  have hcat := lock_str k
  have hzs : (str k).size ≤ 200 := by rw [str_size]; exact hk2.2.1
  obtain ⟨z, hz⟩ : ∃ z, z = str k := ⟨_, rfl⟩
  obtain ⟨y, hy⟩ : ∃ y, y = str (k ++ lockL) := ⟨_, rfl⟩
  rw [← hz] at hsv hcat hzs ⊢
  rw [← hy] at hsv hcat
  obtain ⟨L, hL⟩ : ∃ L, L = nb.length := ⟨_, rfl⟩
  rw [← hL] at hsv ⊢
  have H := Lib.hid (And.intro hsv (And.intro hcat (And.intro hR hlR)))
  clear hsv hcat hR hz hy hL h hb hbl ht hlR hk1 hk2 hne
  go_enter Tryz.func186, Tryz.ntmps186
  go_upto_region 5 with (rw [H.out.2.1]; go_at_call 276; refine H.out.1.mono ?_; rintro e w1 ⟨rfl, lab1, h1, s1⟩; have H1 := Lib.hid (And.intro h1 s1); clear h1 s1)
  have c1 : w1.cell? ⟨R, 0, none⟩ = some (.pointer (some ⟨F, 0, none⟩)) := by
    obtain ⟨⟨T, f, hT⟩, _⟩ := H1.out.2
    rw [cell_of (f.blk H.out.2.2.1 (fun hm => hT R hm H.out.2.2.2))]
    rfl
  have HS := Lib.hid (sync_names F _ _ _ lab1 w1 H1.out.1)
  go_wp2_with (go_at_call 178; refine HS.out.mono ?_; rintro e w2 ⟨rfl, h2, s2⟩; have H2 := Lib.hid (And.intro h2 s2); clear h2 s2)
  go_ret
  exact ⟨rfl, lab1, H2.out.1, H1.out.2.trans H2.out.2⟩
def headN : Nm := [72, 69, 65, 68]
def mainN : Nm := [114, 101, 102, 115, 47, 104, 101, 97, 100, 115, 47, 109, 97, 105, 110]
def headT (s : Nm) : List UInt8 := [114, 101, 102, 58, 32] ++ s ++ [10]
theorem main_ok : NmOk mainN [[114, 101, 102, 115], [104, 101, 97, 100, 115], [109, 97, 105, 110]] :=
  ⟨by decide, by decide, by decide, by rfl, by rfl, by decide, by decide, by decide, by decide, by decide⟩
set_option maxHeartbeats 8000000 in
theorem sethead_any (R F n M M' : Nat) (t : Nm → Option (List UInt8)) (lab : Nat → Option Lb) (s : Nm) (pls : List Nm) (hs : NmOk s pls) (m : Int) (w : World) (hR : RefB w R F) (hlR : lab R = none) (h : Fs w F n M t lab) (ht : t (headN ++ lockL) = none)
    (hM' : M ≤ M') (hM2 : 30 ≤ M') (hM3 : M' ≤ 100000) (hroom : 30 + (n + 1) * M ≤ 1048576) (hn : n < 880) (hm : w.cell? ⟨0, 0, none⟩ = some (.int .i64 m)) :
    Calls Tryz.prog 112 #[.pointer (some ⟨R, 0, none⟩), .string (str s)] w fun e w' => e = .returned (.int .i64 0) ∧ ∃ lab', Fs w' F (n + 2) M' (upd t headN (some (headT s))) lab' ∧ Stp w lab w' lab' := by
  have hv := valid_any s pls hs m w hm
  have hlen : (headT s).length ≤ 30 := by have := hs.len; simp [headT]; omega
  have hcat : ((⟨#[114, 101, 102, 58, 32]⟩ : ByteArray) ++ str s ++ (⟨#[10]⟩ : ByteArray)) = str (headT s) := by
    unfold headT
    rw [← str_append, ← str_append]
    rfl
  have hsz : (str s).size ≤ 17 := by rw [str_size]; exact hs.len
  obtain ⟨z, hz⟩ : ∃ z, z = str s := ⟨_, rfl⟩
  rw [← hz] at hv hcat hsz ⊢
  have H := Lib.hid (And.intro hv (And.intro hcat (And.intro hR (And.intro hlR (And.intro h ht)))))
  have HL := Lib.hid hlen
  clear hv hcat hR hlR h ht hz hs hlen hm
  go_enter Tryz.func112, Tryz.ntmps112
  go_wp2_with (first
    | (go_at_call 125; refine H.out.1.mono ?_; rintro e w1 ⟨rfl, f1⟩; have H1 := Lib.hid f1; clear f1)
    | (refine wpList_bytes_own (e := 5) Tryz.underlying9 Tryz.underlying93 Tryz.underlying5 rfl _ rfl (headT _) (by exact congrArg Value.string H.out.2.1) (by have := HL.out; unfold maxLen; omega) ?_; intro cap w3 hc3 ho3 f3 hl3; have H3 := Lib.hid (And.intro ho3 (And.intro f3 (replace_any R F n M M' _ lab headN _ cap (headT s) w3 ((H1.out.trans f3).blk H.out.2.2.1 (by simp)) H.out.2.2.2.1 (H.out.2.2.2.2.1.fr (H1.out.trans f3) (by simp)) ⟨by decide, by decide, by decide⟩ ⟨by decide, by decide, by decide⟩ H.out.2.2.2.2.2 ho3.rd (fun _ x hx => by
        simp only [blk, List.mem_singleton] at hx
        cases hlx : lab x with
        | none => rfl
        | some l =>
          have h1 := H.out.2.2.2.2.1.low x (by rw [hlx]; exact Option.some_ne_none _)
          have h2 := H1.out.size
          omega) hM' (by have := HL.out; omega) hM3 (by have := HL.out; omega) hn))); clear ho3 f3 hl3)
    | (go_at_call 186; refine H3.out.2.2.mono ?_; rintro e w4 ⟨rfl, lab4, h4, s4⟩; have H4 := Lib.hid (And.intro h4 s4); clear h4 s4))
  go_ret
  exact ⟨rfl, lab4, H4.out.1, (Stp.refl w lab (H1.out.trans H3.out.2.1)).trans H4.out.2⟩
theorem off_stp {w w' : World} {lab lab' : Nat → Option Lb} (h : Stp w lab w' lab') {x : Nat} (hx : lab x = none) (hl : x < w.heap.size) : lab' x = none := by
  cases hlx : lab' x with
  | none => rfl
  | some l =>
    rcases h.2 x (by rw [hlx]; exact Option.some_ne_none _) with h1 | h1
    · exact absurd hx h1
    · omega
theorem off_low {w : World} {F n M : Nat} {t : Nm → Option (List UInt8)} {lab : Nat → Option Lb} (h : Fs w F n M t lab) {x : Nat} (hx : w.heap.size ≤ x) : lab x = none := by
  cases hlx : lab x with
  | none => rfl
  | some l =>
    have := h.low x (by rw [hlx]; exact Option.some_ne_none _)
    omega
theorem stp_blk {w w' : World} {lab lab' : Nat → Option Lb} (h : Stp w lab w' lab') {x : Nat} {o : Obj} (hx : lab x = none) (hb : w.heap[x]? = some o) : w'.heap[x]? = some o := by
  obtain ⟨⟨T, f, hT⟩, _⟩ := h
  exact f.blk hb (fun hm => hT x hm hx)
set_option maxHeartbeats 8000000 in
theorem ref_open (F n M : Nat) (t : Nm → Option (List UInt8)) (lab : Nat → Option Lb) (m : Int) (w : World) (h : Fs w F n M t lab) (ht : ∀ x, t x = none) (hM : 30 ≤ M) (hroom : 30 + (n + 1) * M ≤ 1048576) (hn : n < 880) (hm : w.cell? ⟨0, 0, none⟩ = some (.int .i64 m)) :
    Calls Tryz.prog 59 #[.pointer (some ⟨F, 0, none⟩)] w fun e w' => ∃ R lab', e = .returned (.tuple #[.pointer (some ⟨R, 0, none⟩), .int .i64 0]) ∧ RefB w' R F ∧ w.heap.size ≤ R ∧ lab' R = none ∧ Fs w' F (n + 2) M (upd t headN (some (headT mainN))) lab' ∧ Stp w lab w' lab' := by
  have f0 : Fr [] w (w.alloc (.cells #[.pointer (some ⟨F, 0, none⟩)] 203)) := (Fr.refl [] w).alloc _
  have hb0 := alloc_at w (.cells #[.pointer (some ⟨F, 0, none⟩)] 203)
  obtain ⟨R, hR⟩ : ∃ R, R = w.heap.size := ⟨_, rfl⟩
  obtain ⟨w0, hw0⟩ : ∃ w0, w0 = w.alloc (.cells #[.pointer (some ⟨F, 0, none⟩)] 203) := ⟨_, rfl⟩
  rw [← hw0] at f0 hb0
  rw [← hR] at hb0
  have rd : ∀ (k : Nm), NOk k → ∀ w', Fr [] w w' → Calls Tryz.prog 108 #[.pointer (some ⟨F, 0, none⟩), .string (str k)] w' fun e w'' => e = .returned (.tuple #[.slice none 0 0, .int .i64 61]) ∧ Fr [] w' w'' := fun k hk w' f => by
    have := read_any F n M t lab k w' (h.fr f (by simp)) hk
    rw [ht] at this
    exact this
  have rd1 := rd [114, 101, 102, 115, 45, 112, 108, 97, 110, 46, 108, 111, 99, 107] ⟨by decide, by decide, by decide⟩
  have rd2 := rd [112, 97, 99, 107, 101, 100, 45, 114, 101, 102, 115] ⟨by decide, by decide, by decide⟩
  have rd3 := rd [72, 69, 65, 68] ⟨by decide, by decide, by decide⟩
  have hsw := fun w' (f : Fr [] w0 w') => sweep_empty R F n M t lab w' (f.blk hb0 (by simp)) (h.fr (f0.trans f) (by simp)) ht
  have hsh := fun w' (f : Fr [] w0 w') => sethead_any R F n M M t lab mainN _ main_ok m w' (f.blk hb0 (by simp)) (off_low h (by rw [hR]; exact Nat.le_refl _)) (h.fr (f0.trans f) (by simp)) (ht _) (Nat.le_refl _) hM h.most hroom hn ((f0.trans f).cell hm (by simp))
  have H := Lib.hid (And.intro rd1 (And.intro rd2 (And.intro rd3 (And.intro hsw hsh))))
  have HW := Lib.hid (And.intro hR (And.intro hw0 (And.intro f0 (And.intro hb0 (off_low h (x := R) (by rw [hR]; exact Nat.le_refl _))))))
  clear rd rd1 rd2 rd3 hsw hsh hR hw0 f0 hb0 h ht hm
  go_enter Tryz.func59, Tryz.ntmps59
  go_upto_region 4 with fail
  rw [← HW.out.2.1, ← HW.out.1]
  go_upto_region 8 with (go_at_call 108; refine (H.out.1 _ HW.out.2.2.1).mono ?_; rintro e w1 ⟨rfl, f1⟩; have H1 := Lib.hid f1; clear f1)
  go_upto_region 11 with (go_at_call 110; refine (H.out.2.2.2.1 _ H1.out).mono ?_; rintro e w2 ⟨rfl, f2⟩; have H2 := Lib.hid (H1.out.trans f2); clear f2)
  go_upto_region 16 with (go_at_call 108; refine (H.out.2.1 _ (HW.out.2.2.1.trans H2.out)).mono ?_; rintro e w3 ⟨rfl, f3⟩; have H3 := Lib.hid (H2.out.trans f3); clear f3)
  go_wp2_with (first
    | (go_at_call 108; refine (H.out.2.2.1 _ (HW.out.2.2.1.trans H3.out)).mono ?_; rintro e w4 ⟨rfl, f4⟩; have H4 := Lib.hid (H3.out.trans f4); clear f4)
    | (go_at_call 112; refine (H.out.2.2.2.2 _ H4.out).mono ?_; rintro e w5 ⟨rfl, lab5, h5, s5⟩; have H5 := Lib.hid (And.intro h5 s5); clear h5 s5))
  go_ret2
  have hR4 := H4.out.blk HW.out.2.2.2.1 (by simp)
  exact ⟨R, lab5, rfl, stp_blk H5.out.2 HW.out.2.2.2.2 hR4, by rw [HW.out.1]; exact Nat.le_refl _, off_stp H5.out.2 HW.out.2.2.2.2 (lt_of_block hR4), H5.out.1, (Stp.refl w lab (HW.out.2.2.1.trans H4.out)).trans H5.out.2⟩
theorem Fs.more {w : World} {F n M M' : Nat} {t : Nm → Option (List UInt8)} {lab : Nat → Option Lb} (h : Fs w F n M t lab) (hM : M ≤ M') (h2 : M' ≤ 100000) : Fs w F n M' t lab := by
  obtain ⟨⟨q, B, las, chg, m, vs, g, hq, h1, h2', h3, h4, h5, h6, h7, h8, h9, h10⟩, hn8, hM', hlow⟩ := h
  exact ⟨⟨q, B, las, chg, m, vs, g, hq, h1, h2', h3, h4, h5, h6, h7, h8, fun k bs hk => ⟨Nat.le_trans (h9 k bs hk).1 hM, (h9 k bs hk).2⟩, h10⟩, hn8, h2, hlow⟩
/-- A repository in memory. -/
structure RepoB (w : World) (r O R F : Nat) : Prop where
  box : w.heap[r]? = some (.cells #[.pointer (some ⟨O, 0, none⟩), .pointer (some ⟨R, 0, none⟩), .pointer (some ⟨F, 0, none⟩)] 116 (0, 0))
  refs : RefB w R F
  store : ∃ m, w.heap[O]? = some (.cells #[.pointer (some ⟨F, 0, none⟩), .map (some m)] 201 (0, 0))
set_option maxHeartbeats 8000000 in
theorem repo_open (F n M : Nat) (t : Nm → Option (List UInt8)) (lab : Nat → Option Lb) (m : Int) (w : World) (h : Fs w F n M t lab) (ht : ∀ x, t x = none) (hM : 30 ≤ M) (hroom : 30 + (n + 1) * M ≤ 1048576) (hn : n < 880) (hm : w.cell? ⟨0, 0, none⟩ = some (.int .i64 m)) :
    Calls Tryz.prog 28 #[.pointer (some ⟨F, 0, none⟩)] w fun e w' => ∃ r O R lab', e = .returned (.tuple #[.pointer (some ⟨r, 0, none⟩), .int .i64 0]) ∧ RepoB w' r O R F ∧ (w.heap.size ≤ r ∧ w.heap.size ≤ O ∧ w.heap.size ≤ R) ∧ (lab' r = none ∧ lab' O = none ∧ lab' R = none) ∧ Fs w' F (n + 2) M (upd t headN (some (headT mainN))) lab' ∧ Stp w lab w' lab' := by
  have ho := (odb_open F n M t lab w h ht)
  have hr := fun w' (f : Fr [] w w') => ref_open F n M t lab m w' (h.fr f (by simp)) ht hM hroom hn (f.cell hm (by simp))
  have H := Lib.hid (And.intro ho (And.intro hr h))
  clear ho hr h ht hm
  go_enter Tryz.func28, Tryz.ntmps28
  go_wp2_with (first
    | (go_at_call 58; refine H.out.1.mono ?_; rintro e w1 ⟨⟨O, mo, rfl, hO, hOw⟩, f1⟩; have H1 := Lib.hid (And.intro hO (And.intro f1 hOw)); clear hO f1 hOw)
    | (go_at_call 59; refine (H.out.2.1 _ H1.out.2.1).mono ?_; rintro e w2 ⟨R, lab2, rfl, b2, l2, n2, h2, s2⟩; have H2 := Lib.hid (And.intro b2 (And.intro l2 (And.intro n2 (And.intro h2 s2)))); clear b2 l2 n2 h2 s2))
  go_ret2
  obtain ⟨hO, f1, hOw⟩ := H1.out
  obtain ⟨b2, l2, n2, h2, s2⟩ := H2.out
  have f3 : Fr [] w2 (w2.alloc (.cells #[.pointer (some ⟨O, 0, none⟩), .pointer (some ⟨R, 0, none⟩), .pointer (some ⟨F, 0, none⟩)] 116)) := (Fr.refl [] w2).alloc _
  have hlO := off_low H.out.2.2 hOw
  have hO2 := stp_blk s2 hlO hO
  exact ⟨_, O, R, lab2, rfl, ⟨alloc_at w2 _, f3.blk b2 (by simp), mo, f3.blk hO2 (by simp)⟩, ⟨Nat.le_trans f1.size s2.size, hOw, Nat.le_trans f1.size l2⟩, ⟨off_low h2 (Nat.le_refl _), off_stp s2 hlO (lt_of_block hO), n2⟩, h2.fr f3 (by simp), ((Stp.refl w lab f1).trans s2).trans (Stp.refl _ _ f3)⟩
end Go.Proofs.YtflcdnmhgfhmdaaGreatDoor.fs
/-
  world.New: a server and three clients, at rest.
-/
namespace Go.Proofs.YtflcdnmhgfhmdaaGreatDoor.wd
open Go Go.RowKit Go.Proofs.YtflcdnmhgfhmdaaGreatDoor.lib Go.Proofs.YtflcdnmhgfhmdaaGreatDoor.pk Go.Proofs.YtflcdnmhgfhmdaaGreatDoor.fs

set_option maxRecDepth 100000
def partT (i : Nat) : TypeId := if i = 0 then 73 else 63
/-- A node at rest; the blocks that it leans on are of A. -/
def NodeB (w : World) (A : Nat → Prop) (i N : Nat) : Prop := ∃ F r P : Nat, w.heap[N]? = some (.cells #[.int .i64 (i : Nat), .pointer (some ⟨F, 0, none⟩), .pointer (some ⟨r, 0, none⟩), .iface (partT i) (.pointer (some ⟨P, 0, none⟩)), .slice none 0 0] 72 (0, 0)) ∧
  w.cell? ⟨F, 5, none⟩ = some (.bool false) ∧ (i ≠ 0 → w.heap[P]? = some (.cells #[.pointer none, .pointer none, .int .i64 0, .int .i64 0, .int .i64 0] 67 (0, 0)) ∧ A P) ∧ A N ∧ A F
theorem NodeB.fr {A : Nat → Prop} {T : List Nat} {w w' : World} {i N : Nat} (h : NodeB w A i N) (f : Fr T w w') (hT : ∀ x ∈ T, ¬ A x) : NodeB w' A i N := by
  obtain ⟨F, r, P, h1, h2, h3, h4, h5⟩ := h
  exact ⟨F, r, P, f.blk h1 (fun m => hT _ m h4), f.cell h2 (fun m => hT _ m h5), fun hi => ⟨f.blk (h3 hi).1 (fun m => hT _ m (h3 hi).2), (h3 hi).2⟩, h4, h5⟩
theorem NodeB.fr0 {A : Nat → Prop} {w w' : World} {i N : Nat} (h : NodeB w A i N) (f : Fr [] w w') : NodeB w' A i N := h.fr f (by simp)
theorem NodeB.mono {A B : Nat → Prop} {w : World} {i N : Nat} (h : NodeB w A i N) (hAB : ∀ x, A x → x < w.heap.size → B x) : NodeB w B i N := by
  obtain ⟨F, r, P, h1, h2, h3, h4, h5⟩ := h
  have hF : F < w.heap.size := by
    rcases Nat.lt_or_ge F w.heap.size with h | h
    · exact h
    · rw [World.cell?, show w.heap[(⟨F, 5, none⟩ : Addr).block]? = none from Array.getElem?_eq_none h] at h2
      simp at h2
  exact ⟨F, r, P, h1, h2, fun hi => ⟨(h3 hi).1, hAB _ (h3 hi).2 (lt_of_block (h3 hi).1)⟩, hAB _ h4 (lt_of_block h1), hAB _ h5 hF⟩
/-- A net on which nothing is. -/
def NetB (w : World) (Q : Nat) : Prop := w.heap[Q]? = some (.cells #[.int .i64 1500, .int .i64 200, .slice none 0 0, .int .i64 0] 123 (0, 0))
theorem net_new (w : World) : Calls Tryz.prog 26 #[.int .i64 1500, .int .i64 200] w fun e w' => ∃ Q, e = .returned (.tuple #[.pointer (some ⟨Q, 0, none⟩), .int .i64 0]) ∧ NetB w' Q ∧ w.heap.size ≤ Q ∧ Fr [] w w' := by
  go_enter Tryz.func26, Tryz.ntmps26
  go_wp2
  go_ret2
  exact ⟨_, rfl, alloc_at w _, Nat.le_refl _, (Fr.refl [] w).alloc _⟩
/-- A file system and a repository on it, made anew; it lives. -/
theorem made_any (m : Int) (w : World) (hm : w.cell? ⟨0, 0, none⟩ = some (.int .i64 m)) : Calls Tryz.prog 27 #[.int .i64 1048576] w fun e w' => ∃ F, e = .returned (.tuple #[.pointer (some ⟨F, 0, none⟩), .int .i64 0]) ∧ Fr [] w w' ∧ w.heap.size ≤ F ∧
    Calls Tryz.prog 28 #[.pointer (some ⟨F, 0, none⟩)] w' fun e w'' => ∃ r, e = .returned (.tuple #[.pointer (some ⟨r, 0, none⟩), .int .i64 0]) ∧ w''.cell? ⟨F, 5, none⟩ = some (.bool false) ∧ Fr [] w w'' := by
  refine (new_any w).mono ?_
  rintro e w' ⟨F, lab, he, h1, hl, f1⟩
  have h2 := h1.more (M' := 40) (Nat.zero_le _) (by decide)
  have hF : w.heap.size ≤ F := by
    obtain ⟨⟨q, B, las, chg, m', vs, g, hq, k1, k2, k3, k4, k5, _⟩, _⟩ := h1
    exact hl F (by rw [k5]; exact Option.some_ne_none _)
  refine ⟨F, he, f1, hF, ?_⟩
  refine (repo_open F 0 40 _ lab m w' h2 (fun _ => rfl) (by decide) (by decide) (by decide) (f1.cell hm (by simp))).mono ?_
  rintro e w'' ⟨r, O, R, lab', he, _, _, _, h3, s⟩
  refine ⟨r, he, ?_, ?_⟩
  · obtain ⟨⟨q, B, las, chg, m', vs, g, hq, k1, _⟩, _⟩ := h3
    rw [cell_of k1]
    rfl
  · obtain ⟨⟨T, f, hT⟩, _⟩ := s
    exact f1.step f (fun x hx => .inr (hl x (hT x hx)))
end Go.Proofs.YtflcdnmhgfhmdaaGreatDoor.wd
