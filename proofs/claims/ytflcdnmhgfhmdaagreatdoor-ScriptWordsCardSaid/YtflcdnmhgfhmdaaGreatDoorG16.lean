/-
  Texts of this proof, one behind the other: FsK, IterS, FsL.
-/
import Derived.Test.YtflcdnmhgfhmdaaGreatDoorG5
import Derived.Test.YtflcdnmhgfhmdaaGreatDoorG15
import Derived.Shelf.SlIter.Nil
import Derived.Shelf.SlMaps.Clone
import Derived.Ground.GgzProg
import Derived.Ground.SlmcProg
import Derived.Sort.OwnSorted
import Derived.Sort.KeysCollected
set_option linter.unusedVariables false
set_option linter.unusedSimpArgs false
/-
  fs: Remove of no file; Sync.
-/
namespace Go.Proofs.YtflcdnmhgfhmdaaGreatDoor.fs
open Go Go.RowKit Go.Proofs.YtflcdnmhgfhmdaaGreatDoor.lib Go.Proofs.YtflcdnmhgfhmdaaGreatDoor.pk

set_option maxRecDepth 100000
theorem remove_none (F n M : Nat) (t : Nm → Option (List UInt8)) (lab : Nat → Option Lb) (k : Nm) (w : World) (h : Fs w F n M t lab) (hk : NOk k) (ht : t k = none) :
    Calls Tryz.prog 177 #[.pointer (some ⟨F, 0, none⟩), .string (str k)] w fun e w' => e = .returned (.int .i64 61) ∧ Fr [] w w' := by
  obtain ⟨⟨q, B, las, chg, m, vs, g, hq, h1, h2, h3, h4, h5, h6, h7, h8, h9, h10⟩, _, _, hlow⟩ := h
  have hof := of_any F q B n las chg g k w h1 h2 hk
  rw [h8 k ht] at hof
  unfold OfP at hof
  obtain ⟨z, hz⟩ : ∃ z, z = str k := ⟨_, rfl⟩
  rw [← hz] at hof ⊢
  have H := Lib.hid hof
  clear hof h1 h2 h3 h4 h5 h6 h7 h8 h9 h10 hlow hz ht
  go_enter Tryz.func177, Tryz.ntmps177
  go_wp2_with (go_at_call 179; refine H.out.mono ?_; rintro e w1 ⟨rfl, f1⟩; have H1 := Lib.hid f1; clear f1)
  go_ret
  exact ⟨rfl, H1.out⟩
set_option maxHeartbeats 8000000 in
theorem sync_any (F n M : Nat) (t : Nm → Option (List UInt8)) (lab : Nat → Option Lb) (k : Nm) (bs : List UInt8) (w : World) (h : Fs w F n M t lab) (hk : NOk k) (ht : t k = some bs) :
    Calls Tryz.prog 354 #[.pointer (some ⟨F, 0, none⟩), .string (str k)] w fun e w' => e = .returned (.int .i64 0) ∧ Fs w' F n M t lab ∧ Stp w lab w' lab := by
  obtain ⟨⟨q, B, las, chg, m, vs, g, hq, h1, h2, h3, h4, h5, h6, h7, h8, h9, h10⟩, hn8, hM, hlow⟩ := h
  obtain ⟨b1, p, a, c, syn, b2, b3, b4, b5⟩ := h9 k bs ht
  have ne : ∀ {x y : Nat} {l l' : Lb}, lab x = some l → lab y = some l' → l ≠ l' → x ≠ y := fun hx hy hl e => by
    rw [e, hy] at hx
    exact hl (Option.some.inj hx).symm
  have hpF : p ≠ F := ne b4 h5 (by intro e; cases e)
  have hof := of_any F q B n las chg g k w h1 h2 hk
  rw [b2] at hof
  unfold OfP at hof
  have hraw : Calls Tryz.prog 354 #[.pointer (some ⟨F, 0, none⟩), .string (str k)] w fun e w' => e = .returned (.int .i64 0) ∧ FileB w' p a c (bs.length : Nat) bs ∧ FsB w' F q B las chg ∧ Fr [F, p] w w' := by
    obtain ⟨z, hz⟩ : ∃ z, z = str k := ⟨_, rfl⟩
    rw [← hz] at hof ⊢
    have haF : ∀ x ∈ blk a, x ≠ F ∧ x ≠ p := fun x hx => ⟨ne (b5 x hx) h5 (by intro e; cases e), ne (b5 x hx) b4 (by intro e; cases e)⟩
    obtain ⟨L, hL⟩ : ∃ L, L = bs.length := ⟨_, rfl⟩
    have H := Lib.hid (And.intro hof (And.intro h1 (And.intro b3 (And.intro haF hL))))
    clear hof h1 h2 h3 h4 h5 h6 h7 h8 h9 h10 hlow hz ht b2 b3 b4 b5 haF ne
    rw [← hL] at b1 ⊢
    clear hL
    go_enter Tryz.func354, Tryz.ntmps354
    go_upto_region 3 with (go_at_call 179; refine H.out.1.mono ?_; rintro e w1 ⟨rfl, f1⟩; have H1 := Lib.hid f1; clear f1)
    have hbn := burn_ok F q B las chg w1 (H1.out.blk H.out.2.1 (by simp))
    have HB := Lib.hid hbn
    clear hbn
    go_upto_region 5 with (go_at_call 268; refine HB.out.mono ?_; rintro e w3 ⟨rfl, b3, f3⟩; have H3 := Lib.hid (And.intro b3 f3); clear b3 f3)
    have f13 : Fr [F] w w3 := (H1.out.mono (T := [F]) (by simp)).trans H3.out.2
    have p3 := f13.blk H.out.2.2.1.1 (by simpa using hpF)
    have c0 : w3.cell? ⟨p, 0, none⟩ = some (.slice a L c) := by rw [cell_of p3, H.out.2.2.2.2]; rfl
    have c1 : w3.cell? ⟨p, 1, none⟩ = some (.int .i64 syn) := by rw [cell_of p3]; rfl
    have z1 := frozen_of p3 1
    have H4 := Lib.hid (And.intro f13 p3)
    clear f13 p3
    go_wp2
    go_ret
    obtain ⟨f13, p3⟩ := H4.out
    have f5 : Fr [p] w3 (w3.setCell ⟨p, 1, none⟩ (.int .i64 (L : Nat))) := (Fr.refl [p] w3).setCell (by simp) _
    have hT : Fr [F, p] w (w3.setCell ⟨p, 1, none⟩ (.int .i64 (L : Nat))) := (f13.mono (T := [F, p]) (fun y hy => .inl (by simp at hy ⊢; exact .inl hy))).trans (f5.mono (T := [F, p]) (fun y hy => .inl (by simp at hy ⊢; exact .inr hy)))
    refine ⟨rfl, ⟨(setCell_of (o := 1) p3 _).trans rfl, H.out.2.2.1.2.fr hT (fun x hx => by have := H.out.2.2.2.1 x hx; simpa using this)⟩, f5.blk H3.out.1 (by simpa using fun e => hpF e.symm), hT⟩
  refine hraw.mono ?_
  rintro e w' ⟨he, k1, k2, f⟩
  have off : ∀ x l, lab x = some l → l ≠ .fs → x ≠ p → x ∉ [F, p] := fun x l hl n1 n2 hm => by
    simp only [List.mem_cons, List.not_mem_nil, or_false] at hm
    rcases hm with rfl | rfl
    · rw [h5] at hl; exact n1 (Option.some.inj hl).symm
    · exact n2 rfl
  refine ⟨he, ⟨⟨q, B, las, chg, m, vs, g, hq, k2, h2.fr f (off _ _ h6 (by intro e; cases e) (ne h6 b4 (by intro e; cases e))), ownsRow_fr h3 f (fun x hx => off _ _ (h7 x hx) (by intro e; cases e) (ne (h7 x hx) b4 (by intro e; cases e))), h4, h5, h6, h7, h8, fun x bs' hx => ?_, h10⟩, hn8, hM, fun x hx => Nat.lt_of_lt_of_le (hlow x hx) f.size⟩, ⟨_, f, fun x hx => ?_⟩, fun x hx => .inl hx⟩
  · by_cases e : x = k
    · subst e
      rw [ht] at hx
      obtain rfl := Option.some.inj hx
      exact ⟨b1, p, a, c, _, b2, k1, b4, b5⟩
    · obtain ⟨d1, p', a2, c2, syn2, d2, d3, d4, d5⟩ := h9 x bs' hx
      have hpp : p' ≠ p := fun hp => e (h10 x k p (by rw [← hp]; exact d2) b2)
      exact ⟨d1, p', a2, c2, syn2, d2, ⟨f.blk d3.1 (off _ _ d4 (by intro e; cases e) hpp), d3.2.fr f (fun y hy => off _ _ (d5 y hy) (by intro e; cases e) (ne (d5 y hy) b4 (by intro e; cases e)))⟩, d4, d5⟩
  · simp only [List.mem_cons, List.not_mem_nil, or_false] at hx
    rcases hx with rfl | rfl
    · rw [h5]; exact Option.some_ne_none _
    · rw [b4]; exact Option.some_ne_none _
end Go.Proofs.YtflcdnmhgfhmdaaGreatDoor.fs
/-
  The library's maps.Keys, slices.Sorted and maps.Clone, off the shelf (printed by lay-plain.mjs and byname.py).
-/
namespace Go.Proofs
open Go.Shelf
def Tryz.keysI_ren : Go.Shelf.Ren := ⟨fun | 7 => 163 | 10 => 241 | n => n, fun | 23 => 124 | 26 => 9 | 3 => 183 | 28 => 267 | 0 => 0 | 27 => 266 | 33 => 26 | 4 => 4 | n => n, fun | n => n⟩
theorem Tryz.keysI : Go.Proofs.SlLaysZ.n7 Tryz.prog Tryz.keysI_ren := {
  mixed := by kernel_rfl
  f7 := ⟨Tryz.f163.name, by decide, Tryz.func163.trans (congrArg some (by kernel_rfl))⟩
  f10 := ⟨Tryz.f241.name, by decide, Tryz.func241.trans (congrArg some (by kernel_rfl))⟩
  t0 := Tryz.underlying0
  a0 := Tryz.isAgg0
  z0 := Tryz.sizeOf0
  v0 := Tryz.zeroValue0
  t4 := Tryz.underlying4
  a4 := Tryz.isAgg4
  z4 := Tryz.sizeOf4
  v4 := Tryz.zeroValue4
  t23 := Tryz.underlying124
  a23 := Tryz.isAgg124
  z23 := Tryz.sizeOf124
  v23 := Tryz.zeroValue124
  t26 := Tryz.underlying9
  a26 := Tryz.isAgg9
  z26 := Tryz.sizeOf9
  v26 := Tryz.zeroValue9
  t27 := Tryz.underlying266
  a27 := Tryz.isAgg266
  z27 := Tryz.sizeOf266
  v27 := Tryz.zeroValue266
  t28 := Tryz.underlying267
  a28 := Tryz.isAgg267
  z28 := Tryz.sizeOf267
  v28 := Tryz.zeroValue267
  t33 := Tryz.underlying26
  a33 := Tryz.isAgg26
  z33 := Tryz.sizeOf26
  v33 := Tryz.zeroValue26 }
def Tryz.sortedI_ren : Go.Shelf.Ren := ⟨fun | 6 => 162 | 8 => 239 | 9 => 240 | 11 => 320 | 13 => 322 | 12 => 321 | 23 => 401 | 24 => 235 | 14 => 392 | 15 => 393 | 16 => 394 | 17 => 395 | 18 => 396 | 19 => 397 | 20 => 398 | 21 => 399 | 22 => 400 | 25 => 451 | 26 => 452 | 27 => 453 | 28 => 454 | 29 => 455 | 30 => 456 | 31 => 486 | n => n, fun | 26 => 9 | 28 => 267 | 24 => 33 | 0 => 0 | 3 => 3 | 37 => 244 | 48 => 152 | 50 => 259 | 4 => 4 | 40 => 533 | 39 => 532 | 45 => 39 | 5 => 5 | 9 => 9 | 51 => 592 | 55 => 596 | 57 => 631 | 58 => 632 | 33 => 26 | n => n, fun | n => n⟩
theorem Tryz.sortedI : Go.Proofs.SlLaysZ.n6 Tryz.prog Tryz.sortedI_ren := {
  mixed := by kernel_rfl
  f6 := ⟨Tryz.f162.name, by decide, Tryz.func162.trans (congrArg some (by kernel_rfl))⟩
  f8 := ⟨Tryz.f239.name, by decide, Tryz.func239.trans (congrArg some (by kernel_rfl))⟩
  f11 := ⟨Tryz.f320.name, by decide, Tryz.func320.trans (congrArg some (by kernel_rfl))⟩
  t0 := Tryz.underlying0
  a0 := Tryz.isAgg0
  z0 := Tryz.sizeOf0
  v0 := Tryz.zeroValue0
  t24 := Tryz.underlying33
  a24 := Tryz.isAgg33
  z24 := Tryz.sizeOf33
  v24 := Tryz.zeroValue33
  t26 := Tryz.underlying9
  a26 := Tryz.isAgg9
  z26 := Tryz.sizeOf9
  v26 := Tryz.zeroValue9
  t28 := Tryz.underlying267
  a28 := Tryz.isAgg267
  z28 := Tryz.sizeOf267
  v28 := Tryz.zeroValue267
  i26 := by kernel_rfl }
def Tryz.cloneI_ren : Go.Shelf.Ren := ⟨fun | 5 => 96 | 7 => 161 | n => n, fun | 23 => 124 | 25 => 9 | 3 => 183 | 4 => 4 | 20 => 20 | n => n, fun | n => n⟩
theorem Tryz.cloneI : Go.Proofs.SlLaysW.n5 Tryz.prog Tryz.cloneI_ren := {
  mixed := by kernel_rfl
  f5 := ⟨Tryz.f96.name, by decide, Tryz.func96.trans (congrArg some (by kernel_rfl))⟩
  f7 := Tryz.func161.trans (congrArg some (by kernel_rfl))
  t4 := Tryz.underlying4
  a4 := Tryz.isAgg4
  z4 := Tryz.sizeOf4
  v4 := Tryz.zeroValue4
  t20 := Tryz.underlying20
  a20 := Tryz.isAgg20
  z20 := Tryz.sizeOf20
  v20 := Tryz.zeroValue20
  t23 := Tryz.underlying124
  a23 := Tryz.isAgg124
  z23 := Tryz.sizeOf124
  v23 := Tryz.zeroValue124 }
/-- slices.Sort's two contracts, at the fence that asks nothing. -/
theorem Tryz.sortsI (m : Nat) : AnyZ.SortsIn Tryz.prog Tryz.sortedI_ren Fence.wide m :=
  ⟨fun blk off cap ss W hH hblk hsz => callsIn_wide.2 (Tryz.slices_Sort_string blk off cap ss W hH hblk hsz),
   fun p cap W => callsIn_wide.2 (Any.slices_Sort_string_none Tryz.lays190 p cap W)⟩
end Go.Proofs
/-
  fs: SyncNames; the names, sorted.
-/
namespace Go.Proofs.YtflcdnmhgfhmdaaGreatDoor.fs
open Go Go.RowKit Go.Proofs.YtflcdnmhgfhmdaaGreatDoor.lib Go.Proofs.YtflcdnmhgfhmdaaGreatDoor.pk

set_option maxRecDepth 100000
set_option maxHeartbeats 8000000 in
theorem sync_names (F n M : Nat) (t : Nm → Option (List UInt8)) (lab : Nat → Option Lb) (w : World) (h : Fs w F n M t lab) :
    Calls Tryz.prog 178 #[.pointer (some ⟨F, 0, none⟩)] w fun e w' => e = .returned (.int .i64 0) ∧ Fs w' F n M t lab ∧ Stp w lab w' lab := by
  obtain ⟨⟨q, B, las, chg, m, vs, g, hq, h1, h2, h3, h4, h5, h6, h7, h8, h9, h10⟩, hn8, hM, hlow⟩ := h
  have hFB : F ≠ B := by rintro rfl; rw [h5] at h6; cases h6
  have hraw : Calls Tryz.prog 178 #[.pointer (some ⟨F, 0, none⟩)] w fun e w' => e = .returned (.int .i64 0) ∧ ∃ las', FsB w' F q B las' (.slice none 0 0) ∧ Fr [F] w w' := by
    have hbn := burn_ok F q B las chg w h1
    have c5 : w.cell? ⟨F, 5, none⟩ = some (.bool false) := by rw [cell_of h1]; rfl
    have H := Lib.hid (And.intro hbn (And.intro h2.at_ hFB))
    clear hbn h1 h2 h3 h4 h5 h6 h7 h8 h9 h10 hlow hFB
    go_enter Tryz.func178, Tryz.ntmps178
    go_upto_region 6 with (go_at_call 268; refine H.out.1.mono ?_; rintro e w1 ⟨rfl, b1, f1⟩; have H1 := Lib.hid (And.intro b1 f1); clear b1 f1)
    have c1 : w1.cell? ⟨F, 1, none⟩ = some (.map (some B)) := by rw [cell_of H1.out.1]; rfl
    obtain ⟨es, clock, hm⟩ := H.out.2.1
    have hm := H1.out.2.blk hm (by simpa using fun e => H.out.2.2 e.symm)
    have hcl : Calls Tryz.prog 96 #[.map (some B)] w1 fun e w' => ∃ x, e = .returned (.map (some x)) ∧ FsB w' F q B las chg ∧ Fr [] w1 w' := (AnyW.maps_Clone Tryz.cloneI B es clock w1 hm).mono fun e w' ⟨he, hw⟩ => ⟨_, he, by rw [hw]; exact ((Fr.refl [] w1).alloc _).blk H1.out.1 (by simp), by rw [hw]; exact (Fr.refl [] w1).alloc _⟩
    have HC := Lib.hid hcl
    clear hcl hm c5
    go_wp2_with (go_at_call 96; refine HC.out.mono ?_; rintro e w2 ⟨x, rfl, b2, f2⟩; have z2 := frozen_of b2 2; have z3 := frozen_of b2 3; have d2 : w2.cell? ⟨F, 2, none⟩ = some las := (by rw [cell_of b2]; rfl); have d3 : w2.cell? ⟨F, 3, none⟩ = some chg := (by rw [cell_of b2]; rfl); have H2 := Lib.hid (And.intro b2 f2); clear b2 f2)
    go_ret
    obtain ⟨b2, f2⟩ := H2.out
    refine ⟨rfl, _, (setCell_of (o := 3) (setCell_of (o := 2) b2 _) _).trans rfl, ?_⟩
    exact (((H1.out.2.trans (f2.mono (by simp))).setCell (by simp) _).setCell (by simp) _)
  refine hraw.mono ?_
  rintro e w' ⟨he, las', k1, f⟩
  have off : ∀ x l, lab x = some l → l ≠ .fs → x ∉ [F] := fun x l hl n1 hm => by
    simp only [List.mem_singleton] at hm
    rw [hm, h5] at hl
    exact n1 (Option.some.inj hl).symm
  refine ⟨he, ⟨⟨q, B, las', .slice none 0 0, 0, [], g, hq, k1, h2.fr f (off _ _ h6 (by intro e; cases e)), World.ownsRow_nil _ _ _ _, Nat.zero_le _, h5, h6, (fun x hx => by cases hx), h8, fun x bs' hx => ?_, h10⟩, hn8, hM, fun x hx => Nat.lt_of_lt_of_le (hlow x hx) f.size⟩, ⟨_, f, fun x hx => ?_⟩, fun x hx => .inl hx⟩
  · obtain ⟨d1, p', a2, c2, syn2, d2, d3, d4, d5⟩ := h9 x bs' hx
    exact ⟨d1, p', a2, c2, syn2, d2, ⟨f.blk d3.1 (off _ _ d4 (by intro e; cases e)), d3.2.fr f (fun y hy => off _ _ (d5 y hy) (by intro e; cases e))⟩, d4, d5⟩
  · simp only [List.mem_singleton] at hx
    rw [hx, h5]
    exact Option.some_ne_none _
/-- A table's names: each once, rising. -/
def Lst (t : Nm → Option (List UInt8)) (ss : List Nm) : Prop := ss.Nodup ∧ ss.Pairwise (· ≤ ·) ∧ ∀ x, x ∈ ss ↔ t x ≠ none
theorem str_enc (x : Nm) : encStr x = .string (str x) := rfl
theorem sorted_lst {n : Nat} {t : Nm → Option (List UInt8)} {g : Nm → Option Nat} {w : World} {B : Nat} {D : DataW Unit} (hD : w.ownsMap Tryz.prog 9 pR B n D) (hV : MView D g) (hg : ∀ x, t x ≠ none ↔ g x ≠ none) {ss : List Nm} (hp : ss.Perm (strKeys D)) :
    Lst t (ss.mergeSort fun x y => decide (x ≤ y)) ∧ (ss.mergeSort fun x y => decide (x ≤ y)).length = ss.length ∧ ss.length ≤ n := by
  obtain ⟨es, hD1, hpw, _⟩ := hD.entries str_keyed
  obtain ⟨es', hD', hko⟩ := hD.keysOf
  have hsz := hD.size_le
  obtain rfl : es = es' := by rw [hD1] at hD'; simpa using hD'
  subst hD1
  have hk : ∀ p ∈ es, ∃ x, p.1 = .string x := fun p hp => by obtain ⟨v, hv⟩ := hko p hp; obtain ⟨x, _, hx, _⟩ := Maps.keyOf_str Tryz.underlying9 hv; exact ⟨x, hx⟩
  have hnd : (strKeys (.map es)).Nodup := by
    show (es.map fun p => strOf p.1).Nodup
    refine List.pairwise_map.2 (hpw.imp_of_mem fun {p q} hp' hq' hne e => hne ?_)
    obtain ⟨a, ha⟩ := hk p hp'
    obtain ⟨b, hb⟩ := hk q hq'
    rw [ha, hb] at e ⊢
    exact congrArg _ e
  have hm : ∀ x, x ∈ strKeys (.map es) ↔ Maps.has (.map es) (.string x) = true := fun x => by
    rw [Maps.has_eq, List.any_eq_true]
    show x ∈ es.map (fun p => strOf p.1) ↔ _
    rw [List.mem_map]
    constructor
    · rintro ⟨p, hp', rfl⟩
      obtain ⟨a, ha⟩ := hk p hp'
      exact ⟨p, hp', by rw [ha]; simp [Lit.sameKey, strOf]⟩
    · rintro ⟨p, hp', hs⟩
      obtain ⟨a, ha⟩ := hk p hp'
      rw [ha] at hs
      exact ⟨p, hp', by rw [ha]; simpa [Lit.sameKey, strOf] using hs⟩
  have pm := List.mergeSort_perm ss fun x y => decide (x ≤ y)
  have pm2 := pm.trans hp
  have tr : ∀ a b c : List UInt8, decide (a ≤ b) = true → decide (b ≤ c) = true → decide (a ≤ c) = true := fun a b c h1 h2 => by simp only [decide_eq_true_eq] at *; exact List.le_trans h1 h2
  have tt : ∀ a b : List UInt8, (decide (a ≤ b) || decide (b ≤ a)) = true := fun a b => by simp only [Bool.or_eq_true, decide_eq_true_eq]; exact List.le_total a b
  refine ⟨⟨pm2.nodup_iff.2 hnd, (List.pairwise_mergeSort tr tt ss).imp (fun h => of_decide_eq_true h), fun x => ?_⟩, pm.length_eq, ?_⟩
  · rw [pm2.mem_iff, hm x, hg x]
    obtain ⟨v1, v2⟩ := hV x
    cases hgx : g x with
    | none => rw [v1 hgx]; simp
    | some p => rw [(v2 p hgx).1]; simp
  · rw [hp.length_eq]
    show (es.map fun p => strOf p.1).length ≤ n
    rw [List.length_map]
    exact hsz
theorem names_iff {t : Nm → Option (List UInt8)} {g : Nm → Option Nat} (h8 : ∀ k, t k = none → g k = none) (h9 : ∀ k bs, t k = some bs → ∃ p, g k = some p) (x : Nm) : t x ≠ none ↔ g x ≠ none := by
  cases htx : t x with
  | none => rw [h8 x htx]; simp
  | some bs =>
    obtain ⟨p, hp⟩ := h9 x bs htx
    rw [hp]
    simp
set_option maxHeartbeats 8000000 in
theorem sorted_any (F n M : Nat) (t : Nm → Option (List UInt8)) (lab : Nat → Option Lb) (w : World) (h : Fs w F n M t lab) :
    Calls Tryz.prog 97 #[.pointer (some ⟨F, 0, none⟩)] w fun e w' => ∃ v ss, e = .returned v ∧ Lst t ss ∧ ss.length ≤ n ∧ w'.ownsRow w.heap.size 9 1 v ss.length (ss.map encStr) ∧ Fr [] w w' := by
  obtain ⟨⟨q, B, las, chg, m, vs, g, hq, h1, ⟨D, hD, hV⟩, h3, h4, h5, h6, h7, h8, h9, h10⟩, hn8, hM, hlow⟩ := h
  have c1 : w.cell? ⟨F, 1, none⟩ = some (.map (some B)) := by rw [cell_of h1]; rfl
  have hg := names_iff h8 (fun k bs hk => by obtain ⟨_, p, _, _, _, hp, _⟩ := h9 k bs hk; exact ⟨p, hp⟩)
  have hsz := hD.size_le
  have H := Lib.hid (And.intro hD (And.intro hV (And.intro hg hsz)))
  clear h1 hD hV h3 h4 h5 h6 h7 h8 h9 h10 hlow hg hsz
  have hbl := H.out.1.lt
  have hseq : SeqGives Fence.wide 2 Tryz.prog 241 #[.pointer (some ⟨w.heap.size, 0, none⟩)] encStr (fun ss => ss.Perm (strKeys D)) (Maps.size D) (w.alloc (.cells #[.map (some B)] 124)) :=
    AnyZ.keys_gives (ρ := Tryz.keysI_ren) { Tryz.keysI with } Fence.wide _ trivial rfl (by omega) w.heap.size B n D _ (by simp) (by simp) (by
      obtain ⟨es, clock, hb, Ft, hs, hD⟩ := H.out.1
      exact ⟨es, clock, (Below.heap_alloc _ _ B hbl).trans hb, Ft, hs, hD⟩)
  have hso := AnyZ.sorted_in Tryz.sortedI Fence.wide 5 trivial trivial trivial trivial rfl (by omega) (Tryz.sortsI _) (enters_of Tryz.func240 (by kernel_rfl) rfl) 241 #[.pointer (some ⟨w.heap.size, 0, none⟩)] trivial (enters_of Tryz.func241 (by kernel_rfl) rfl) _ _ (by unfold maxLen; have := H.out.2.2.2; omega) (by have := H.out.2.2.2; omega) _ hseq
  have hke : CallsIn Fence.wide 5 Tryz.prog 163 #[.map (some B)] w fun e w' => e = .returned (.func (.func 241) #[] #[.pointer (some ⟨w.heap.size, 0, none⟩)]) ∧ w' = w.alloc (.cells #[.map (some B)] 124) := AnyZ.keys_in Tryz.keysI Fence.wide 5 trivial rfl (some B) w
  have hso : CallsIn Fence.wide 5 Tryz.prog 162 #[.func (.func 241) #[] #[.pointer (some ⟨w.heap.size, 0, none⟩)]] (w.alloc (.cells #[.map (some B)] 124)) fun e w' => ∃ (v : Value) (ss : List (List UInt8)), e = .returned v ∧ ss.Perm (strKeys D) ∧
      w'.ownsRow (w.alloc (.cells #[.map (some B)] 124)).heap.size 9 1 v ss.length ((ss.mergeSort (fun x y => decide (x ≤ y))).map encStr) ∧ (v = .slice none 0 0 ↔ ss = []) ∧ Below (w.alloc (.cells #[.map (some B)] 124)).heap.size (w.alloc (.cells #[.map (some B)] 124)) w' := hso
  have HS := Lib.hid (And.intro hke hso)
  clear hso hke hseq hbl
  refine (callsIn_wide (n := 6)).1 ?_
  have hfK : Fence.wide.fn 163 := trivial
  have hfS : Fence.wide.fn 162 := trivial
  refine callsIn_of_wp Tryz.func97 rfl trivial ?_ rfl
  simp only [Tryz.ntmps97, List.size_toArray, List.length_cons, List.length_nil, Nat.reduceAdd, Nat.reduceSub, Array.replicate_succ, Array.replicate_zero, List.push_toArray, List.append_toArray, List.nil_append, List.cons_append]
  gi_wp2_with (first
    | (gi_at_call 163; refine HS.out.1.mono ?_; rintro e w' ⟨rfl, rfl⟩)
    | (gi_at_call 162; refine HS.out.2.mono ?_; rintro e w' ⟨v, ss, rfl, hS, hrow, hnil, hb⟩))
  go_ret
  have hl := sorted_lst H.out.1 H.out.2.1 H.out.2.2.1 hS
  exact ⟨v, _, rfl, hl.1, by rw [hl.2.1]; exact hl.2.2, by rw [hl.2.1]; exact ownsRow_base_a hrow (by simp), ((Fr.refl [] w).alloc _).trans (Fr.of_below hb [])⟩
end Go.Proofs.YtflcdnmhgfhmdaaGreatDoor.fs
