/-
  Texts of this proof, one behind the other: TripC, PlainLen, HuffM, HuffR, InfA, HuffW, HuffX, InfB, InfC, InfD, InfJ, BitsInt, InfE, InfF.
-/
import Derived.Test.YtolkoidbkaidkaaGreatG6
import Derived.WalkMore
set_option linter.unusedVariables false
set_option linter.unusedSimpArgs false
/-
  What deflate writes inflate reads (plain): fixed and dynamic blocks; Raw's bytes.
-/
namespace Go.Proofs.YtolkoidbkaidkaaGreat.trip
open Go Go.Proofs.YtolkoidbkaidkaaGreat.lib Go.Proofs.YtolkoidbkaidkaaGreat.bm Go.Proofs.YtolkoidbkaidkaaGreat.bl Go.Proofs.YtolkoidbkaidkaaGreat.huf Go.Proofs.YtolkoidbkaidkaaGreat.inf Go.Proofs.YtolkoidbkaidkaaGreat.defl Go.Proofs.YtolkoidbkaidkaaGreat.mat

/-! ### lengths without their noughts at the end -/
theorem drop_zeros {ls : List Nat} {n : Nat} (h : ∀ i, n ≤ i → i < ls.length → lenAt ls i = 0) : ∀ x ∈ ls.drop n, x = 0 := by
  intro x hx
  obtain ⟨i, hi⟩ := List.getElem?_of_mem hx
  rw [List.getElem?_drop] at hi
  have hl : n + i < ls.length := by
    rcases Nat.lt_or_ge (n + i) ls.length with k | k
    · exact k
    · rw [List.getElem?_eq_none k] at hi; cases hi
  have := h (n + i) (by omega) hl
  unfold lenAt at this
  rw [hi] at this
  exact this
theorem lenAt_take {ls : List Nat} {n : Nat} (h : ∀ i, n ≤ i → i < ls.length → lenAt ls i = 0) (i : Nat) : lenAt (ls.take n) i = lenAt ls i := by
  by_cases hi : i < n
  · unfold lenAt; rw [List.getElem?_take_of_lt hi]
  · have e : lenAt (ls.take n) i = 0 := by unfold lenAt; rw [List.getElem?_eq_none (by rw [List.length_take]; omega)]; rfl
    rw [e]
    by_cases hl : i < ls.length
    · exact (h i (by omega) hl).symm
    · unfold lenAt; rw [List.getElem?_eq_none (by omega)]; rfl
theorem count_zeros {l : List Nat} (h : ∀ x ∈ l, x = 0) {c : Nat} (hc : c ≠ 0) : l.count c = 0 :=
  List.count_eq_zero.2 fun hm => hc (h c hm)
theorem count_take {ls : List Nat} {n : Nat} (h : ∀ i, n ≤ i → i < ls.length → lenAt ls i = 0) {c : Nat} (hc : c ≠ 0) : (ls.take n).count c = ls.count c := by
  conv => rhs; rw [← List.take_append_drop n ls, List.count_append, count_zeros (drop_zeros h) hc]
  rfl
theorem nxt_take {ls : List Nat} {n : Nat} (h : ∀ i, n ≤ i → i < ls.length → lenAt ls i = 0) : ∀ l, nxt (ls.take n) l = nxt ls l
  | 0 => rfl
  | l + 1 => by
    rw [nxt, nxt, nxt_take h l]
    by_cases h0 : l = 0
    · rw [if_pos h0, if_pos h0]
    · rw [if_neg h0, if_neg h0, count_take h h0]
theorem sbits_take {ls : List Nat} {n : Nat} (h : ∀ i, n ≤ i → i < ls.length → lenAt ls i = 0) : sbits (ls.take n) = sbits ls := by
  funext s
  unfold sbits
  rw [lenAt_take h]
  by_cases h0 : lenAt ls s = 0
  · rw [h0]; unfold codeAt; rw [lenAt_take h, if_pos h0, if_pos h0]
  · have hs : s < n := by
      rcases Nat.lt_or_ge s n with k | k
      · exact k
      · exact absurd (h s k (lenAt_lt (by omega))) h0
    unfold codeAt
    rw [lenAt_take h, if_neg h0, if_neg h0]
    unfold code
    rw [lenAt_take h, nxt_take h, List.take_take, Nat.min_eq_left (by omega)]
theorem weight_append : ∀ a b : List Nat, weight (a ++ b) = weight a + weight b
  | [], b => by simp [weight]
  | x :: a, b => by rw [List.cons_append, weight, weight, weight_append a b]; omega
theorem weight_zeros : ∀ {l : List Nat}, (∀ x ∈ l, x = 0) → weight l = 0
  | [], _ => rfl
  | x :: l, h => by
    rw [weight, weight_zeros fun y hy => h y (List.mem_cons_of_mem _ hy), if_pos (h x List.mem_cons_self)]
theorem weight_take {ls : List Nat} {n : Nat} (h : ∀ i, n ≤ i → i < ls.length → lenAt ls i = 0) : weight (ls.take n) = weight ls := by
  conv => rhs; rw [← List.take_append_drop n ls, weight_append, weight_zeros (drop_zeros h)]
  rfl
/-! ### the fixed codes -/
theorem fixed_alw : fixed 288 = alw 288 := by decide +kernel
theorem five_bits : ∀ s, s < 30 → sbits (List.replicate 32 5) s = sbits (List.replicate 30 5) s := by decide +kernel
theorem five_len : ∀ s, s < 30 → 0 < lenAt (List.replicate 32 5) s := by decide +kernel
theorem alw_pos : ∀ s, s < 286 → 0 < lenAt (alw 288) s := by decide +kernel
theorem five32 : weight (List.replicate 32 5) = 32768 := by decide +kernel
theorem toks_sym {b : List UInt8} {r : Nat} (hr : r ≤ 32768) {l : List Mt} (hch : Chain b r 0 l) : ∀ x ∈ toks b 0 l, tsym x < 286 ∧ tsym x ≠ 256 ∧ ∀ s, dsym x = some s → s < 30 := by
  intro x hx
  cases x with
  | lit c =>
    have : c.toNat < 256 := c.toNat_lt
    exact ⟨by show c.toNat < 286; omega, by show c.toNat ≠ 256; omega, fun s h => by cases h⟩
  | mat n d =>
    obtain ⟨k1, k2, k3, k4⟩ := toks_ok hr (b.length - 0) 0 l rfl hch _ hx n d rfl
    have h1 := lcode_lt k1 k2
    have h2 := dcode_lt k3 k4
    refine ⟨h1.2.1, by show (lcode n).1 ≠ 256; omega, fun s h => ?_⟩
    have : (dcode d).1 = s := by simpa [dsym] using h
    omega
theorem flat_congr {α β : Type} {f g : α → List β} : ∀ {l : List α}, (∀ x ∈ l, f x = g x) → l.flatMap f = l.flatMap g
  | [], _ => rfl
  | x :: l, h => by rw [List.flatMap_cons, List.flatMap_cons, h x List.mem_cons_self, flat_congr fun y hy => h y (List.mem_cons_of_mem _ hy)]
theorem tsbits_congr {ll dl ll' dl' : List Nat} {T : List Tok} (h1 : ∀ x ∈ T, sbits ll (tsym x) = sbits ll' (tsym x)) (h2 : ∀ x ∈ T, ∀ s, dsym x = some s → sbits dl s = sbits dl' s) : tsbits ll dl T = tsbits ll' dl' T := by
  unfold tsbits
  refine flat_congr fun x hx => ?_
  cases x with
  | lit c => exact h1 _ hx
  | mat n d =>
    have k1 := h1 _ hx
    have k2 := h2 _ hx _ rfl
    simp only [tbits]
    rw [show tsym (.mat n d) = (lcode n).1 from rfl] at k1
    rw [k1, k2]
theorem toks_le_bits {ll dl : List Nat} : ∀ {T : List Tok}, (∀ x ∈ T, 0 < lenAt ll (tsym x)) → T.length ≤ (tsbits ll dl T).length
  | [], _ => Nat.zero_le _
  | x :: T, h => by
    have ih := toks_le_bits (dl := dl) (T := T) fun y hy => h y (List.mem_cons_of_mem _ hy)
    have h0 := h x List.mem_cons_self
    have e : tsbits ll dl (x :: T) = tbits ll dl x ++ tsbits ll dl T := rfl
    have h1 : 1 ≤ (tbits ll dl x).length := by
      cases x with
      | lit c => rw [tbits, sbits_length]; exact h0
      | mat n d =>
        have : 0 < lenAt ll (lcode n).1 := h0
        simp only [tbits, List.length_append, sbits_length]
        omega
    rw [e, List.length_append, List.length_cons]
    omega
theorem syms_at {bs : List UInt8} {ll dl : List Nat} {m r a : Nat} {b : List UInt8} {l : List Mt} (hr : r ≤ 32768) (hch : Chain b r 0 l) (hm : b.length ≤ m) (hle1 : ∀ l ∈ ll, l ≤ 15) (hle2 : ∀ l ∈ dl, l ≤ 15) (hw1 : weight ll ≤ 32768) (hw2 : weight dl ≤ 32768)
    (h256 : 0 < lenAt ll 256) (h1 : ∀ x ∈ toks b 0 l, 0 < lenAt ll (tsym x)) (h2 : ∀ x ∈ toks b 0 l, ∀ s, dsym x = some s → 0 < lenAt dl s) (hat : At bs a (tsbits ll dl (toks b 0 l) ++ sbits ll 256)) :
    isyms bs m ll dl (fuel bs) [] a = .ok (b, a + (tsbits ll dl (toks b 0 l) ++ sbits ll 256).length) := by
  have hf : (toks b 0 l).length < fuel bs := by
    have k1 := hat.le
    have k2 := toks_le_bits (dl := dl) h1
    rw [List.length_append, sbits_length] at k1
    unfold fuel
    omega
  have := toks_at (b := b) hr hm hle1 hle2 hw1 hw2 h256 (b.length - 0) 0 l (fuel bs) a rfl (Nat.zero_le _) hch h1 h2 hf hat
  rw [List.take_zero] at this
  rw [this, List.length_append, sbits_length, Nat.add_assoc]
theorem coded_trip {bs : List UInt8} {m : Nat} {b : List UInt8} {h : Nat} {body : List Bool} (hh : h < 3) (hat : At bs 0 ([true] ++ lsb 2 h ++ body)) (hf : 0 < fuel bs)
    (hb : iblock bs m h [] 3 = .ok (b, 3 + body.length)) : irawF bs m (fuel bs) [] 0 = .ok (b, ([true] ++ lsb 2 h ++ body).length) := by
  obtain ⟨f, hf'⟩ : ∃ f, fuel bs = f + 1 := ⟨fuel bs - 1, by omega⟩
  have k1 : itake bs 0 1 = .ok (1, 1) := take_at (n := 1) (v := 1) hat.left.left (by decide)
  have k2 : itake bs 1 2 = .ok (h, 3) := take_at (n := 2) (v := h) hat.left.right (by omega)
  rw [hf', irawF, k1]
  dsimp only
  rw [k2]
  dsimp only
  rw [if_neg (by omega), hb]
  dsimp only
  rw [if_neg (by decide)]
  simp only [List.length_append, List.length_cons, List.length_nil, lsb_length]
theorem fuel_pos (bs : List UInt8) : 0 < fuel bs := by unfold fuel; omega
theorem iraw_of {bs : List UInt8} {m : Nat} {b : List UInt8} {bb : List Bool} (h : irawF bs m (fuel bs) [] 0 = .ok (b, bb.length)) : iraw bs m = .ok (b, (bytesOf bb).length) := by
  unfold iraw
  rw [h, bytesOf_length]
theorem fixed_trip {b : List UInt8} {bf : List Bool} (h : FixedB b bf) (ext : List UInt8) (m : Nat) (hm : b.length ≤ m) : iraw (bytesOf bf ++ ext) m = .ok (b, (bytesOf bf).length) := by
  obtain ⟨hd, e, h0, _⟩ := h
  rw [h0 rfl] at e
  have hch : Chain b 32768 0 (matches_ b 32768) := by simpa using matches_chain b 32768
  have hts := toks_sym (Nat.le_refl _) hch
  have e2 : bf = [true] ++ lsb 2 1 ++ (tsbits (alw 288) (List.replicate 32 5) (toksOf b) ++ sbits (alw 288) 256) := by
    rw [e]
    simp only [Bool.false_eq_true, if_false, List.append_nil, List.append_assoc]
    rw [tsbits_congr (T := toksOf b) (fun _ _ => rfl) fun x hx s hs => (five_bits s ((hts x hx).2.2 s hs)).symm]
  obtain ⟨bs, hbs⟩ : ∃ bs, bs = bytesOf bf ++ ext := ⟨_, rfl⟩
  have hat : At bs 0 bf := by rw [hbs]; exact bits_ext bf ext
  rw [← hbs]
  refine iraw_of ?_
  rw [e2] at hat ⊢
  refine coded_trip (by decide) hat (fuel_pos bs) ?_
  unfold iblock
  rw [if_neg (by decide), if_pos rfl]
  unfold ifixed
  rw [fixed_alw]
  have a3 := hat.right
  exact syms_at (Nat.le_refl _) hch hm alw_le (fun x hx => by rw [List.eq_of_mem_replicate hx]; decide) (by rw [alw_weight]; exact Nat.le_refl _) (by rw [five32]; exact Nat.le_refl _) (alw_pos 256 (by decide)) (fun x hx => alw_pos _ (hts x hx).1) (fun x hx s hs => five_len s ((hts x hx).2.2 s hs)) a3
/-! ### the dynamic codes -/
theorem lenAt_le {ls : List Nat} {c : Nat} (h : ∀ l ∈ ls, l ≤ c) (i : Nat) : lenAt ls i ≤ c := by
  unfold lenAt
  cases e : ls[i]? with
  | none => simp
  | some x => simpa using h x (List.mem_of_getElem? e)
theorem first_at {bs : List UInt8} {cl : List Nat} (hle : ∀ l ∈ cl, l ≤ 7) : ∀ (ps fs : List Nat) (a : Nat), At bs a (ps.flatMap fun i => lsb 3 (lenAt cl i)) →
    ifirst bs ps fs a = .ok (ps.foldl (fun fs i => fs.set i (lenAt cl i)) fs, a + (ps.flatMap fun i => lsb 3 (lenAt cl i)).length)
  | [], fs, a, _ => rfl
  | i :: t, fs, a, h => by
    rw [List.flatMap_cons] at h ⊢
    have k := take_at h.left (show lenAt cl i < 2 ^ 3 by have := lenAt_le hle i; omega)
    have h2 := h.right
    rw [lsb_length] at h2
    rw [ifirst, k]
    dsimp only
    rw [first_at hle t _ _ h2, List.foldl_cons, List.length_append, lsb_length, Nat.add_assoc]
theorem foldl_get {cl : List Nat} : ∀ (ps fs : List Nat) (j : Nat), (ps.foldl (fun fs i => fs.set i (lenAt cl i)) fs)[j]? = if j ∈ ps ∧ j < fs.length then some (lenAt cl j) else fs[j]?
  | [], fs, j => by simp
  | p :: ps, fs, j => by
    rw [List.foldl_cons, foldl_get ps, List.length_set]
    by_cases h1 : j ∈ ps ∧ j < fs.length
    · rw [if_pos h1, if_pos ⟨List.mem_cons_of_mem _ h1.1, h1.2⟩]
    · rw [if_neg h1, List.getElem?_set]
      by_cases h2 : p = j
      · subst h2
        by_cases h3 : p < fs.length
        · rw [if_pos rfl, if_pos h3, if_pos ⟨List.mem_cons_self, h3⟩]
        · rw [if_pos rfl, if_neg h3, if_neg (fun h => h3 h.2), List.getElem?_eq_none (by omega)]
      · rw [if_neg h2, if_neg]
        rintro ⟨h3, h4⟩
        rcases List.mem_cons.1 h3 with e | e
        · exact h2 e.symm
        · exact h1 ⟨e, h4⟩
theorem places_take : ∀ n, n ≤ 19 → places.take n = (List.range n).map ord := by decide +kernel
theorem ord_all : ∀ j, j < 19 → ∃ i, i < 19 ∧ ord i = j := by decide +kernel
theorem first_all {cl : List Nat} {nc : Nat} (hl : cl.length = 19) (hn : nc ≤ 19) (hz : ∀ i, nc ≤ i → i < 19 → lenAt cl (ord i) = 0) :
    (places.take nc).foldl (fun fs i => fs.set i (lenAt cl i)) (List.replicate 19 0) = cl := by
  refine List.ext_getElem? fun j => ?_
  rw [foldl_get, List.length_replicate]
  by_cases hj : j < 19
  · have hc : cl[j]? = some (lenAt cl j) := by unfold lenAt; rw [List.getElem?_eq_getElem (by omega)]; rfl
    rw [hc]
    by_cases hm : j ∈ places.take nc
    · rw [if_pos ⟨hm, hj⟩]
    · rw [if_neg fun h => hm h.1]
      obtain ⟨i, hi, he⟩ := ord_all j hj
      have hi2 : nc ≤ i := by
        rcases Nat.lt_or_ge i nc with k | k
        · refine absurd ?_ hm
          rw [places_take nc hn, ← he]
          exact List.mem_map_of_mem (List.mem_range.2 k)
        · exact k
      have := hz i hi2 hi
      rw [he] at this
      rw [this, List.getElem?_replicate, if_pos hj]
  · rw [if_neg fun h => hj h.2, List.getElem?_eq_none (by rw [List.length_replicate]; omega), List.getElem?_eq_none (by omega)]
theorem lens_at {bs : List UInt8} {cl : List Nat} {n : Nat} (hle : ∀ l ∈ cl, l ≤ 15) (hw : weight cl ≤ 32768) : ∀ (rs : List Rn) (out fin : List Nat) (f a : Nat), RunsOk out rs fin → fin.length = n → (∀ r ∈ rs, 0 < lenAt cl r.1) → rs.length < f →
    At bs a (rs.flatMap (rbits cl)) → ilens bs cl n f out a = .ok (fin, a + (rs.flatMap (rbits cl)).length)
  | [], out, fin, f, a, h, hn, _, hf, _ => by
    obtain ⟨f, rfl⟩ : ∃ g, f = g + 1 := ⟨f - 1, by omega⟩
    obtain rfl : out = fin := h
    rw [ilens, if_pos (by omega)]
    rfl
  | r :: rs, out, fin, f, a, h, hn, hu, hf, hat => by
    obtain ⟨f, rfl⟩ : ∃ g, f = g + 1 := ⟨f - 1, by omega⟩
    have hlen := RunsOk.len h
    have hlen2 := RunsOk.len h.2
    simp only [List.length_cons] at hlen hf
    rw [List.flatMap_cons] at hat ⊢
    have h1 := hat.left
    unfold rbits at h1
    have hs := sym_at h1.left hle hw (hu r List.mem_cons_self)
    have h2 := h1.right
    rw [sbits_length] at h2
    have h3 := hat.right
    have ih := lens_at (n := n) hle hw rs (exp1 out r) fin f _ h.2 hn (fun x hx => hu x (List.mem_cons_of_mem _ hx)) (by omega) h3
    have e : (rbits cl r).length = lenAt cl r.1 + r.2.2 := by unfold rbits; rw [List.length_append, sbits_length, lsb_length]
    rw [e] at ih
    rw [ilens, if_neg (by omega), hs]
    dsimp only
    rw [List.length_append, e]
    rcases h.1 with ⟨c1, c2, c3⟩ | ⟨c1, c2, c3, c4⟩ | ⟨c1, c2, c3⟩ | ⟨c1, c2, c3⟩
    · rw [if_pos (by omega)]
      unfold exp1 at ih
      rw [if_pos (by omega), c3, Nat.add_zero] at ih
      rw [ih, c3]
      congr 2
      omega
    · rw [c3] at h2 ih
      have hv := take_at h2 (show r.2.1 < 2 ^ 2 by omega)
      unfold exp1 at ih hlen2
      rw [if_neg (by omega), if_pos c1] at ih hlen2
      rw [List.length_append, List.length_replicate] at hlen2
      have w1 : wide 16 = 2 := rfl
      have l1 : least 16 = 3 := rfl
      rw [c1] at hs hv ih ⊢
      rw [if_neg (by decide), w1, hv]
      dsimp only
      rw [l1, if_neg (fun h => h.elim (fun k => c4 k.2) (fun k => by omega)), if_pos rfl]
      rw [show a + lenAt cl 16 + 2 = a + (lenAt cl 16 + 2) from by omega, ih, c3]
      congr 2
      omega
    · rw [c3] at h2 ih
      have hv := take_at h2 (show r.2.1 < 2 ^ 3 by omega)
      unfold exp1 at ih hlen2
      rw [if_neg (by omega), if_neg (by omega), if_pos c1] at ih hlen2
      rw [List.length_append, List.length_replicate] at hlen2
      have w1 : wide 17 = 3 := rfl
      have l1 : least 17 = 3 := rfl
      rw [c1] at hs hv ih ⊢
      rw [if_neg (by decide), w1, hv]
      dsimp only
      rw [l1, if_neg (by rintro (⟨k, _⟩ | k) <;> omega), if_neg (by decide)]
      rw [show a + lenAt cl 17 + 3 = a + (lenAt cl 17 + 3) from by omega, ih, c3]
      congr 2
      omega
    · rw [c3] at h2 ih
      have hv := take_at h2 (show r.2.1 < 2 ^ 7 by omega)
      unfold exp1 at ih hlen2
      rw [if_neg (by omega), if_neg (by omega), if_neg (by omega)] at ih hlen2
      rw [List.length_append, List.length_replicate] at hlen2
      have w1 : wide 18 = 7 := rfl
      have l1 : least 18 = 11 := rfl
      rw [c1] at hs hv ih ⊢
      rw [if_neg (by decide), w1, hv]
      dsimp only
      rw [l1, if_neg (by rintro (⟨k, _⟩ | k) <;> omega), if_neg (by decide)]
      rw [show a + lenAt cl 18 + 7 = a + (lenAt cl 18 + 7) from by omega, ih, c3]
      congr 2
      omega
theorem lenAt_map {n : Nat} (g : Nat → Nat) {s : Nat} (h : s < n) : lenAt ((List.range n).map g) s = g s := by
  unfold lenAt
  rw [List.getElem?_map, List.getElem?_range h]
  rfl
theorem toks_ne {b : List UInt8} {l : List Mt} (h : 0 < b.length) : toks b 0 l ≠ [] := by
  unfold toks
  rw [dif_pos h]
  match l with
  | [] => simp
  | (a, n, d) :: t => dsimp only; split <;> simp
theorem two_of {l : List Nat} {x y : Nat} (hx : x ∈ l) (hy : y ∈ l) (h : x ≠ y) : 2 ≤ l.length := by
  match l with
  | [] => cases hx
  | [z] => simp at hx hy; omega
  | _ :: _ :: _ => simp
theorem some_syms {cs ls : List Nat} {L : Nat} (h : LensOk L cs ls) : some_ ls = (symsTo cs cs.length).length := by
  have hm : ls = (List.range cs.length).map (lenAt ls) := by
    rw [← h.len]
    refine List.ext_getElem? fun i => ?_
    rw [List.getElem?_map]
    by_cases hi : i < ls.length
    · rw [List.getElem?_range hi, List.getElem?_eq_getElem hi]
      simp [lenAt, hi]
    · rw [List.getElem?_eq_none (by omega), List.getElem?_eq_none (by simp; omega)]; rfl
  unfold some_ symsTo
  conv => lhs; rw [hm]
  rw [List.filter_map, List.length_map]
  congr 1
  refine List.filter_congr fun s _ => ?_
  show decide (0 < lenAt ls s) = decide (0 < lenAt cs s)
  by_cases hp : 0 < lenAt cs s
  · rw [decide_eq_true hp, decide_eq_true (h.pos s hp)]
  · rw [decide_eq_false hp, decide_eq_false (by rw [h.zero s (by omega)]; omega)]
theorem dyn_trip {b : List UInt8} {bd : List Bool} (h : DynB b bd) (ext : List UInt8) (m : Nat) (hm : b.length ≤ m) : iraw (bytesOf bd ++ ext) m = .ok (b, (bytesOf bd).length) := by
  obtain ⟨ll, dl, o1, o2, hd, e, _, ht⟩ := h
  obtain ⟨nl, nd, nc, cl, rs, T⟩ := ht rfl
  have hch : Chain b 32768 0 (matches_ b 32768) := by simpa using matches_chain b 32768
  have hts := toks_sym (Nat.le_refl _) hch
  have ll286 : ll.length = 286 := by rw [o1.len]; simp [litCs]
  have dl30 : dl.length = 30 := by rw [o2.len]; simp [distCs]
  have zl : ∀ i, nl ≤ i → i < ll.length → lenAt ll i = 0 := fun i h1 h2 => cutN_zero ll 257 ll.length i (by rw [← T.enl]; exact h1) h2
  have zd : ∀ i, nd ≤ i → i < dl.length → lenAt dl i = 0 := fun i h1 h2 => cutN_zero dl 1 dl.length i (by rw [← T.ennd]; exact h1) h2
  have nl1 : 257 ≤ nl := by rw [T.enl]; exact cutN_ge _ _ _ (by omega)
  have nl2 : nl ≤ 286 := by rw [T.enl, ← ll286]; exact cutN_le _ _ _
  have nd1 : 1 ≤ nd := by rw [T.ennd]; exact cutN_ge _ _ _ (by omega)
  have nd2 : nd ≤ 30 := by rw [T.ennd, ← dl30]; exact cutN_le _ _ _
  have lit : ∀ s, s < 286 → 0 < litc b (toksOf b) s → 0 < lenAt ll s := fun s hs h => o1.pos s (by unfold litCs; rw [lenAt_map _ hs]; exact h)
  have hpos : ∀ x ∈ toksOf b, 0 < litc b (toksOf b) (tsym x) := fun x hx => by
    have : 0 < lcnt (toksOf b) (tsym x) := List.count_pos_iff.2 (List.mem_map_of_mem hx)
    unfold litc
    omega
  have h256c : 0 < litc b (toksOf b) 256 := by unfold litc; rw [if_pos rfl]; omega
  have h256 : 0 < lenAt ll 256 := lit 256 (by decide) h256c
  have hl1 : ∀ x ∈ toksOf b, 0 < lenAt ll (tsym x) := fun x hx => lit _ (hts x hx).1 (hpos x hx)
  have hl2 : ∀ x ∈ toksOf b, ∀ s, dsym x = some s → 0 < lenAt dl s := fun x hx s hs => o2.pos s (by
    unfold distCs
    rw [lenAt_map _ ((hts x hx).2.2 s hs)]
    exact List.count_pos_iff.2 (List.mem_filterMap.2 ⟨x, hx, hs⟩))
  have hsy : ∀ s, s < 286 → 0 < litc b (toksOf b) s → s ∈ symsTo (litCs b) (litCs b).length := fun s hs h => mem_symsTo.2 ⟨by simpa [litCs] using hs, by unfold litCs; rw [lenAt_map _ hs]; exact h⟩
  have hw1 : weight ll = 32768 := by
    refine o1.full ?_
    by_cases h0 : b.length = 0
    · exact two_of (hsy 256 (by decide) h256c) (hsy 0 (by decide) (by unfold litc; rw [if_pos (show b.length = 0 ∧ 0 = 0 from ⟨h0, rfl⟩)]; omega)) (by decide)
    · obtain ⟨x, t, hx⟩ := List.exists_cons_of_ne_nil (toks_ne (l := matches_ b 32768) (show 0 < b.length by omega))
      have hxm : x ∈ toksOf b := by unfold toksOf; rw [hx]; exact List.mem_cons_self
      exact two_of (hsy 256 (by decide) h256c) (hsy (tsym x) (hts x hxm).1 (hpos x hxm)) (Ne.symm (hts x hxm).2.1)
  have hw2 := lens_weight o2
  have wh1 : iwhole (ll.take nl) false = true := by
    unfold iwhole
    rw [weight_take zl, hw1]
    rfl
  have wh2 : iwhole (dl.take nd) true = true := by
    unfold iwhole
    rw [weight_take zd, decide_eq_true hw2]
    by_cases h2 : 2 ≤ (symsTo (distCs b) (distCs b).length).length
    · rw [o2.full h2]; rfl
    · have h3 : some_ (dl.take nd) < 2 := by
        have h4 : some_ (dl.take nd) ≤ some_ dl := ((List.take_sublist nd dl).filter _).length_le
        rw [some_syms o2] at h4
        omega
      have h5 : ones (dl.take nd) = true := List.all_eq_true.2 fun x hx => by simpa using o2.few (by omega) x (List.mem_of_mem_take hx)
      rw [decide_eq_true h3, h5]
      simp
  have wh3 : iwhole cl false = true := by unfold iwhole; rw [T.full]; rfl
  obtain ⟨bs, hbs⟩ : ∃ bs, bs = bytesOf bd ++ ext := ⟨_, rfl⟩
  have hat : At bs 0 bd := by rw [hbs]; exact bits_ext bd ext
  rw [← hbs]
  refine iraw_of ?_
  have e2 : bd = [true] ++ lsb 2 2 ++ (lsb 5 (nl - 257) ++ (lsb 5 (nd - 1) ++ (lsb 4 (nc - 4) ++ (((places.take nc).flatMap fun i => lsb 3 (lenAt cl i)) ++ (rs.flatMap (rbits cl) ++ (tsbits (ll.take nl) (dl.take nd) (toksOf b) ++ sbits (ll.take nl) 256)))))) := by
    rw [e, T.bits, tsbits_congr (ll := ll.take nl) (dl := dl.take nd) (ll' := ll) (dl' := dl) (fun x _ => by rw [sbits_take zl]) (fun x _ s _ => by rw [sbits_take zd]), sbits_take zl, places_take nc T.nc19, List.flatMap_map]
    simp only [if_true, List.append_assoc]
  have hle1 : ∀ l ∈ ll.take nl, l ≤ 15 := fun x hx => o1.le x (List.mem_of_mem_take hx)
  have hle2 : ∀ l ∈ dl.take nd, l ≤ 15 := fun x hx => o2.le x (List.mem_of_mem_take hx)
  rw [e2] at hat ⊢
  refine coded_trip (by decide) hat (fuel_pos bs) ?_
  unfold iblock
  rw [if_neg (by decide), if_neg (by decide)]
  have a1 : At bs 3 _ := hat.right
  have a2 := a1.right
  have a3 := a2.right
  have a4 := a3.right
  have a5 := a4.right
  have a6 := a5.right
  have k1 := take_at a1.left (show nl - 257 < 2 ^ 5 by omega)
  have k2 := take_at a2.left (show nd - 1 < 2 ^ 5 by omega)
  have n1 := T.nc4
  have n2 := T.nc19
  have k3 := take_at a3.left (show nc - 4 < 2 ^ 4 by omega)
  have k4 := first_at T.cle _ (List.replicate 19 0) _ a4.left
  rw [first_all T.clen T.nc19 T.rest] at k4
  have rl := RunsOk.len T.runs
  have k5 := lens_at (n := nl - 257 + 257 + (nd - 1) + 1) (fun x hx => Nat.le_trans (T.cle x hx) (by decide)) (by rw [T.full]; exact Nat.le_refl _) rs [] _ (nl - 257 + 257 + (nd - 1) + 1 + 1) _ T.runs
    (by rw [List.length_append, List.length_take, List.length_take]; omega) T.used (by rw [List.length_append, List.length_take, List.length_take] at rl; simp only [List.length_nil] at rl; omega) a5.left
  have k6 := syms_at (Nat.le_refl _) hch hm hle1 hle2 (by rw [weight_take zl, hw1]; exact Nat.le_refl _) (by rw [weight_take zd]; exact hw2) (by rw [lenAt_take zl]; exact h256) (fun x hx => by rw [lenAt_take zl]; exact hl1 x hx) (fun x hx s hs => by rw [lenAt_take zd]; exact hl2 x hx s hs) a6
  simp only [lsb_length] at k2 k3 k4 k5 k6
  unfold idyn
  rw [k1]
  dsimp only
  rw [if_neg (by omega), k2]
  dsimp only
  rw [if_neg (by omega), k3]
  dsimp only
  unfold idyn2
  have hn4 : nc - 4 + 4 = nc := by omega
  have hn : nl - 257 + 257 = nl := by omega
  rw [hn4, k4]
  dsimp only
  rw [wh3, if_neg (by decide)]
  unfold idyn3
  rw [k5]
  dsimp only
  rw [hn]
  have t1 : (ll.take nl ++ dl.take nd).take nl = ll.take nl := by rw [List.take_append_of_le_length (by rw [List.length_take]; omega), List.take_take, Nat.min_self]
  have t2 : (ll.take nl ++ dl.take nd).drop nl = dl.take nd := by
    have : (ll.take nl).length = nl := by rw [List.length_take]; omega
    exact List.drop_left' this
  have t3 : lenAt (ll.take nl ++ dl.take nd) 256 = lenAt ll 256 := by
    unfold lenAt
    rw [List.getElem?_append_left (by rw [List.length_take]; omega), List.getElem?_take_of_lt (by omega)]
  rw [t1, t2, t3, if_neg (by omega), wh1, if_neg (by decide), wh2, if_neg (by decide), k6]
  simp only [List.length_append, lsb_length, Nat.add_assoc, toksOf]
/-- What Raw makes is read as it was, whatever stands behind. -/
theorem raw_trip {b r : List UInt8} {level : Int} (h : RawRes b level r) (hl : 1 ≤ level) (ext : List UInt8) (m : Nat) (hm : b.length ≤ m) : iraw (r ++ ext) m = .ok (b, r.length) := by
  obtain ⟨bf, h1, h2, h3⟩ := h
  by_cases h0 : level = 1
  · rw [h2 h0]; exact fixed_trip h1 ext m hm
  · rcases (h3 (by omega)).1 with e | e | ⟨bd, hd, e⟩
    · rw [e]; exact fixed_trip h1 ext m hm
    · rw [e]; exact plain_trip b ext m hm
    · rw [e]; exact dyn_trip hd ext m hm
end Go.Proofs.YtolkoidbkaidkaaGreat.trip
/-
  How long stored blocks are (plain).
-/
namespace Go.Proofs.YtolkoidbkaidkaaGreat.trip
open Go Go.Proofs.YtolkoidbkaidkaaGreat.lib Go.Proofs.YtolkoidbkaidkaaGreat.bm Go.Proofs.YtolkoidbkaidkaaGreat.bl Go.Proofs.YtolkoidbkaidkaaGreat.huf Go.Proofs.YtolkoidbkaidkaaGreat.inf Go.Proofs.YtolkoidbkaidkaaGreat.defl Go.Proofs.YtolkoidbkaidkaaGreat.mat

theorem storedAll_length : ∀ (cs : List (List UInt8)) (l : List Bool), l.length % 8 = 0 → (storedAll l cs).length = l.length + 40 * cs.length + 8 * cs.flatten.length
  | [], l, _ => by simp [storedAll]
  | b :: t, l, h => by
    have e := storedBits_length l t.isEmpty b
    rw [storedAll, storedAll_length t _ (by rw [e]; omega), e, List.flatten_cons, List.length_append, List.length_cons]
    omega
theorem chunks_length : ∀ (f : Nat) (b : List UInt8), (chunks f b).length ≤ b.length / 65535 + 1
  | 0, b => by simp [chunks]
  | f + 1, b => by
    rw [chunks]
    split
    · have := chunks_length f (b.drop 65535)
      rw [List.length_drop] at this
      rw [List.length_cons]
      omega
    · simp
theorem plain_length (b : List UInt8) : (plainBytes b).length = b.length + 5 * (chunks b.length b).length := by
  unfold plainBytes plainBits
  rw [bytesOf_length, storedAll_length _ _ rfl, chunks_flatten, List.length_nil]
  omega
theorem plain_le (b : List UInt8) : (plainBytes b).length ≤ b.length + 5 * (b.length / 65535 + 1) := by
  rw [plain_length]
  have := chunks_length b.length b
  omega
theorem chain_order {b : List UInt8} {r : Nat} : ∀ {l : List Mt} {e : Nat}, Chain b r e l → ∀ i x y, l[i]? = some x → l[i + 1]? = some y → x.1 + x.2.1 ≤ y.1
  | [], _, _, i, x, y, h, _ => by simp at h
  | (a, n, d) :: t, e, hc, 0, x, y, h1, h2 => by
    obtain ⟨_, _, _, _, _, _, _, _, h9⟩ := hc
    simp only [List.getElem?_cons_zero, Option.some.injEq] at h1
    rw [Nat.zero_add, List.getElem?_cons_succ] at h2
    subst h1
    match t, h9, h2 with
    | (a', n', d') :: t', h9, h2 =>
      simp only [List.getElem?_cons_zero, Option.some.injEq] at h2
      subst h2
      exact h9.1
  | (a, n, d) :: t, e, hc, i + 1, x, y, h1, h2 => chain_order hc.2.2.2.2.2.2.2.2 i x y (by simpa using h1) (by simpa using h2)
end Go.Proofs.YtolkoidbkaidkaaGreat.trip
/-
  huff: a code's table in the heap, and (*Code).more.
-/
namespace Go.Proofs.YtolkoidbkaidkaaGreat.huf
open Go Go.RowKit Go.Proofs.YtolkoidbkaidkaaGreat.lib Go.Proofs.YtolkoidbkaidkaaGreat.bm Go.Proofs.YtolkoidbkaidkaaGreat.bl Go.Proofs.YtolkoidbkaidkaaGreat.bits

/-- How many symbols a length has in the table (none at nought). -/
def symn (ls : List Nat) (l : Nat) : Nat := if l = 0 then 0 else (syms ls l ls.length).length
/-- The table. -/
structure Tab (w : World) (P D : Nat) (ls : List Nat) (first : Nat → Nat) (sa : Nat → Option Addr) (sc : Nat → Nat) : Prop where
  box : ∃ A, w.heap[P]? = some (.cells A 140 (0, 0)) ∧ A.size = 33 ∧ (∀ l, l < 16 → A[l]? = some (.int .u32 (first l : Nat))) ∧ (∀ l, l < 16 → A[16 + l]? = some (.slice (sa l) (symn ls l) (sc l))) ∧ A[32]? = some (.int .i64 (D : Nat))
  fst : ∀ l, 0 < symn ls l → first l = nxt ls l
  top : ∀ s, s < ls.length → lenAt ls s ≤ D
  low : D ≤ 15
  low' : ∀ l, first l ≤ 32768
  syms : ∀ l, l < 16 → 0 < l → Ri w (sa l) (sc l) (syms ls l ls.length)
  len : ls.length ≤ 400
theorem Tab.cells {w : World} {P D : Nat} {ls : List Nat} {first : Nat → Nat} {sa : Nat → Option Addr} {sc : Nat → Nat} (h : Tab w P D ls first sa sc) :
    (∀ l, l < 16 → w.cell? ⟨P, l, none⟩ = some (.int .u32 (first l : Nat))) ∧ (∀ l, l < 16 → w.cell? ⟨P, 16 + l, none⟩ = some (.slice (sa l) (symn ls l) (sc l))) ∧ w.cell? ⟨P, 32, none⟩ = some (.int .i64 (D : Nat)) := by
  obtain ⟨A, hA, _, h1, h2, h3⟩ := h.box
  exact ⟨fun l hl => by rw [cell_of hA]; exact h1 l hl, fun l hl => by rw [cell_of hA]; exact h2 l hl, by rw [cell_of hA]; exact h3⟩
theorem Tab.fr {w w' : World} {P D : Nat} {ls : List Nat} {first : Nat → Nat} {sa : Nat → Option Addr} {sc : Nat → Nat} (h : Tab w P D ls first sa sc) (f : Fr [] w w') : Tab w' P D ls first sa sc := by
  obtain ⟨A, hA, h1⟩ := h.box
  exact ⟨⟨A, f.blk hA (by simp), h1⟩, h.fst, h.top, h.low, h.low', fun l h1 h2 => (h.syms l h1 h2).fr f, h.len⟩
theorem symn_le (ls : List Nat) (l : Nat) : symn ls l ≤ ls.length := by
  unfold symn
  split
  · omega
  · have := List.length_filter_le (fun s => lenAt ls s == l) (List.range ls.length); rw [List.length_range] at this; exact this
theorem meets_symn {ls : List Nat} {n v l : Nat} (h : 0 < l) : meets ls n v l = (decide (0 < symn ls l) && (decide (nxt ls l < (v + 1) * 2 ^ (l - n)) && decide (v * 2 ^ (l - n) < nxt ls l + symn ls l))) := by
  unfold meets symn
  rw [if_neg (by omega)]
set_option maxRecDepth 100000 in
set_option maxHeartbeats 2000000 in
theorem more_any (P D : Nat) (ls : List Nat) (first : Nat → Nat) (sa : Nat → Option Addr) (sc : Nat → Nat) (v n : Nat) (w : World) (h : Tab w P D ls first sa sc) (hn : n ≤ 15) (hv : v < 2 ^ n) :
    Calls Tryz.prog 87 #[.pointer (some ⟨P, 0, none⟩), .int .u32 (v : Nat), .int .i64 (n : Nat)] w fun e w' => e = .returned (.bool (hmore ls n v)) ∧ Fr [] w w' := by
  have H := Lib.hid (And.intro h hv)
  have hD := h.low
  have hlen := h.len
  clear h hv
  go_enter Tryz.func87, Tryz.ntmps87
  go_upto_block 0 with fail
  go_wp2
  go_loopg [7, 8, 9, 10] 16 (fun k s7 s8 s9 s10 wr => ∃ (l : Nat), s7 = .int .i64 (l : Nat) ∧ l + k = 17 + n ∧ n < l ∧ Fr [] w wr ∧ ∀ m, n < m → m < l → meets ls n v m = false)
  case atStart => exact ⟨n + 1, by go_num, by omega, by omega, Fr.refl [] w, fun m h1 h2 => by omega⟩
  case round =>
    obtain ⟨l, rfl, hlk, hnl, hf, hno⟩ := hrel
    obtain ⟨hc1, hc2, hc3⟩ := (H.out.1.fr hf).cells
    have HF := Lib.hid hf
    clear hf
    by_cases hl : l ≤ D
    · obtain ⟨k, rfl⟩ : ∃ k, gk = k + 1 := ⟨gk - 1, by omega⟩
      have hm := meets_symn (ls := ls) (n := n) (v := v) (l := l) (by omega)
      have hpl : (v + 1) * 2 ^ (l - n) ≤ 32768 := by
        have h1 : (v + 1) * 2 ^ (l - n) ≤ 2 ^ n * 2 ^ (l - n) := Nat.mul_le_mul_right _ H.out.2
        rw [← Nat.pow_add, show n + (l - n) = l by omega] at h1
        exact Nat.le_trans h1 (Nat.le_trans (Nat.pow_le_pow_right (by decide) (show l ≤ 15 by omega)) (by decide))
      have c1 := hc1 l (by omega)
      have c2 := hc2 l (by omega)
      obtain ⟨f1, hf1⟩ : ∃ f1, f1 = first l := ⟨_, rfl⟩
      obtain ⟨m1, hm1⟩ : ∃ m1, m1 = symn ls l := ⟨_, rfl⟩
      obtain ⟨x1, hx1⟩ : ∃ x1, x1 = (v + 1) * 2 ^ (l - n) := ⟨_, rfl⟩
      obtain ⟨x0, hx0⟩ : ∃ x0, x0 = v * 2 ^ (l - n) := ⟨_, rfl⟩
      have hf1l : f1 ≤ 32768 := by rw [hf1]; exact H.out.1.low' l
      have hm1l : m1 ≤ 400 := by rw [hm1]; have := symn_le ls l; omega
      rw [← hx1, ← hx0, ← hm1] at hm
      rw [← hf1] at c1
      rw [← hm1] at c2
      rw [← hx1] at hpl
      have hx01 : x0 ≤ x1 := by rw [hx0, hx1]; exact Nat.mul_le_mul_right _ (by omega)
      have hfn : 0 < m1 → f1 = nxt ls l := fun h0 => by rw [hf1]; exact H.out.1.fst l (by omega)
      have HI := Lib.hid (And.intro hno (And.intro hm (And.intro hfn (And.intro hx1 (And.intro hx0 (And.intro hf1 hm1))))))
      clear hno hm hfn hf1 hm1 hc1 hc2
      have hln : (n : Int) ≤ l := by omega
      go_upto_region 5 with fail
      have e0 : (v : Int) * 2 ^ (l - n) % 4294967296 = (x0 : Nat) := by
        have : ((v : Int) * 2 ^ (l - n)) = (x0 : Nat) := by rw [hx0]; push_cast; rfl
        rw [this]; omega
      have hv1 : v + 1 ≤ 32768 := Nat.le_trans H.out.2 (Nat.le_trans (Nat.pow_le_pow_right (by decide) hn) (by decide))
      have e1 : ((v : Int) + 1) * 2 ^ (l - n) % 4294967296 = (x1 : Nat) := by
        have : (((v : Int) + 1) * 2 ^ (l - n)) = (x1 : Nat) := by rw [hx1]; push_cast; rfl
        rw [this]; omega
      clear hx0 hx1
      go_quiet (fail)
      rw [e0, e1]
      clear e0 e1
      have b0 : decide ((0 : Int) < (m1 : Int)) = decide (0 < m1) := by simp
      have b1 : decide ((f1 : Int) < (x1 : Int)) = decide (f1 < x1) := by simp
      have b2 : decide ((x0 : Int) < (f1 : Int) + m1) = decide (x0 < f1 + m1) := by
        rw [decide_eq_decide]; omega
      have next : (meets ls n v l = false) → ∀ m, n < m → m < l + 1 → meets ls n v m = false := fun h m h1 h2 => by
        rcases Nat.lt_succ_iff_lt_or_eq.1 h2 with h3 | h3
        · exact HI.out.1 m h1 h3
        · rw [h3]; exact h
      have HN := Lib.hid next
      clear next
      by_cases p0 : 0 < m1
      · have p0' := decide_eq_true p0
        rw [p0'] at b0
        by_cases p1 : f1 < x1
        · rw [decide_eq_true p1] at b1
          by_cases p2 : x0 < f1 + m1
          · rw [decide_eq_true p2] at b2
            go_wp2
            go_ret
            refine ⟨?_, ?_⟩
            · rw [meets_true hnl (by rw [HI.out.2.1, ← HI.out.2.2.1 p0]; simp [p0, p1, p2])]; rfl
            · exact HF.out.trans (Fr.drewN [] _ _)
          · rw [decide_eq_false p2] at b2
            go_wp2
            go_roundg k
            case measure => omega
            case rel => exact ⟨l + 1, by go_num, by omega, by omega, HF.out.trans (Fr.drewN [] _ _), HN.out (by rw [HI.out.2.1, ← HI.out.2.2.1 p0]; simp [p2])⟩
        · rw [decide_eq_false p1] at b1
          go_wp2
          go_roundg k
          case measure => omega
          case rel => exact ⟨l + 1, by go_num, by omega, by omega, HF.out.trans (Fr.drewN [] _ _), HN.out (by rw [HI.out.2.1, ← HI.out.2.2.1 p0]; simp [p1])⟩
      · rw [decide_eq_false p0] at b0
        go_wp2
        go_roundg k
        case measure => omega
        case rel => exact ⟨l + 1, by go_num, by omega, by omega, HF.out.trans (Fr.drewN [] _ _), HN.out (by rw [HI.out.2.1]; simp [p0])⟩
    · have d0 : decide ((l : Int) ≤ D) = false := by simp; omega
      go_wp2
      go_ret
      exact ⟨by rw [meets_false H.out.1.top fun m h1 h2 => hno m h1 (by omega)]; rfl, HF.out⟩
end Go.Proofs.YtolkoidbkaidkaaGreat.huf
/-
  huff: (*Code).Read.
-/
namespace Go.Proofs.YtolkoidbkaidkaaGreat.huf
open Go Go.RowKit Go.Proofs.YtolkoidbkaidkaaGreat.lib Go.Proofs.YtolkoidbkaidkaaGreat.bm Go.Proofs.YtolkoidbkaidkaaGreat.bl

theorem Tab.frS {S : List Nat} {w w' : World} {P D : Nat} {ls : List Nat} {first : Nat → Nat} {sa : Nat → Option Addr} {sc : Nat → Nat} (h : Tab w P D ls first sa sc) (f : Fr S w w') (hP : P ∉ S) (hs : ∀ l, l < 16 → 0 < l → ∀ x ∈ blk (sa l), x ∉ S) : Tab w' P D ls first sa sc := by
  obtain ⟨A, hA, h1⟩ := h.box
  exact ⟨⟨A, f.blk hA hP, h1⟩, h.fst, h.top, h.low, h.low', fun l h1 h2 => ⟨(h.syms l h1 h2).cs.fr f (hs l h1 h2), (h.syms l h1 h2).le, (h.syms l h1 h2).max, (h.syms l h1 h2).nil⟩, h.len⟩
theorem sym_none {ls : List Nat} {first : Nat → Nat} {n v : Nat} (hf : 0 < symn ls n → first n = nxt ls n) (h : ¬ (0 < n ∧ first n ≤ v ∧ v - first n < symn ls n)) : hsym ls n v = none := by
  refine hsym_none ?_
  by_cases h0 : n = 0
  · exact .inl h0
  · right
    by_cases hs : 0 < symn ls n
    · have := hf hs
      unfold symn at h hs
      rw [if_neg h0] at h hs
      omega
    · unfold symn at hs
      rw [if_neg h0] at hs
      omega
theorem b2n_lt (b : Bool) : b2n b < 2 := by cases b <;> decide
theorem or_bit (v : Nat) (b : Bool) (hv : v < 65536) : bits .or .u32 ((v : Int) * 2) (b2n b : Nat) = ((2 * v + b2n b : Nat) : Int) := by
  have hb : b2n b < 2 := by cases b <;> decide
  have e : (v : Int) * 2 = ((v * 2 : Nat) : Int) := by omega
  have h1 := or_add (b2n b) v 1 (by simpa using hb)
  rw [e, u32_or_nat (v * 2) (b2n b) (by omega) (by omega), Nat.or_comm, show v * 2 = v * 2 ^ 1 from rfl, h1]
  congr 1
  omega
set_option maxRecDepth 100000 in
set_option maxHeartbeats 4000000 in
theorem read_any (P D : Nat) (ls : List Nat) (first : Nat → Nat) (sa : Nat → Option Addr) (sc : Nat → Nat) (p : Nat) (F : List Nat) (bs : List UInt8) (at_ : Nat) (w : World) (h : Tab w P D ls first sa sc) (hr : bits.Rd w p F bs at_)
    (hP : P ≠ p) (hs : ∀ l, l < 16 → 0 < l → ∀ x ∈ blk (sa l), x ≠ p) (s m c : Nat) (hres : hread ls 15 0 0 ((bytesBits bs).drop at_) = (s, m, c)) :
    Calls Tryz.prog 77 #[.pointer (some ⟨P, 0, none⟩), .pointer (some ⟨p, 0, none⟩)] w fun e w' => e = .returned (.tuple #[.int .i64 (s : Nat), .int .i64 (c : Nat)]) ∧ bits.Rd w' p F bs (at_ + m) ∧ Fr [p] w w' := by
  have hlen := h.len
  have H := Lib.hid (And.intro h (And.intro hr (And.intro hP (And.intro hs hres))))
  clear h hr hP hs hres
  go_enter Tryz.func77, Tryz.ntmps77
  go_upto_block 0 with fail
  go_wp2
  go_loopg [6, 7, 8, 9, 10] 16 (fun k s6 s7 s8 s9 s10 wr => ∃ (n v : Nat), s6 = .int .u32 (v : Nat) ∧ s7 = .int .i64 (n : Nat) ∧ n + k = 16 ∧ 0 < k ∧ v < 2 ^ n ∧ bits.Rd wr p F bs (at_ + n) ∧ Fr [p] w wr ∧ hread ls (15 - n) n v ((bytesBits bs).drop (at_ + n)) = (s, m, c))
  case atStart => exact ⟨0, 0, rfl, rfl, by omega, by omega, by decide, H.out.2.1, Fr.refl [p] w, H.out.2.2.2.2⟩
  case round =>
    obtain ⟨n, v, rfl, rfl, hnk, hk0, hv, hrd, hf, hres⟩ := hrel
    obtain ⟨k, rfl⟩ : ∃ k, gk = k + 1 := ⟨gk - 1, by omega⟩
    have hT := H.out.1.frS hf (by simpa using H.out.2.2.1) (fun l h1 h2 x hx => by simpa using H.out.2.2.2.1 l h1 h2 x hx)
    obtain ⟨hc1, hc2, hc3⟩ := hT.cells
    have c1 := hc1 n (by omega)
    have c2 := hc2 n (by omega)
    have hvb : v < 65536 := Nat.lt_of_lt_of_le hv (Nat.le_trans (Nat.pow_le_pow_right (by decide) (show n ≤ 15 by omega)) (by decide))
    obtain ⟨f1, hf1⟩ : ∃ f1, f1 = first n := ⟨_, rfl⟩
    obtain ⟨m1, hm1⟩ : ∃ m1, m1 = symn ls n := ⟨_, rfl⟩
    have hf1l : f1 ≤ 32768 := by rw [hf1]; exact hT.low' n
    have hm1l : m1 ≤ 400 := by rw [hm1]; have := symn_le ls n; omega
    have hfs := hT.fst n
    rw [← hf1, ← hm1] at hfs
    rw [← hf1] at c1
    rw [← hm1] at c2
    have HR := Lib.hid (And.intro hv (And.intro hrd (And.intro hf (And.intro hres (And.intro hT (And.intro hfs (And.intro hf1 hm1)))))))
    clear hv hrd hf hres hT hfs hf1 hm1 hc1 hc2 hc3
    by_cases hit : 0 < n ∧ f1 ≤ v ∧ v - f1 < m1
    · obtain ⟨i0, i1, i2⟩ := hit
      obtain ⟨y, rfl⟩ : ∃ y, v = f1 + y := ⟨v - f1, by omega⟩
      have hy : y < m1 := by omega
      have hnz : n ≠ 0 := by omega
      have hm2 : (syms ls n ls.length).length = m1 := by rw [HR.out.2.2.2.2.2.2.2]; unfold symn; rw [if_neg hnz]
      obtain ⟨g, o, ha, hcl⟩ := (HR.out.2.2.2.2.1.syms n (by omega) i0).at (i := y) (by omega)
      obtain ⟨z, hz⟩ : ∃ z, z = (syms ls n ls.length)[y]'(by omega) := ⟨_, rfl⟩
      rw [← hz] at hcl
      rw [ha] at c2
      have hh : hsym ls n (f1 + y) = some z := by
        have e := HR.out.2.2.2.2.2.1 (by omega)
        refine hsym_some i0 (by omega) ?_
        rw [show f1 + y - nxt ls n = y by omega, List.getElem?_eq_getElem (by omega), hz]
      have hres := HR.out.2.2.2.1
      rw [hread_hit hh] at hres
      obtain ⟨rfl, rfl, rfl⟩ : z = s ∧ n = m ∧ 0 = c := by simpa using hres
      have b0 : decide ((0 : Int) < n) = true := by simpa using i0
      have b1 : decide ((f1 : Int) ≤ (f1 : Int) + y) = true := by simp; omega
      have b2 : decide ((y : Int) < m1) = true := by simp; omega
      have b3 : (f1 : Int) + y - f1 = y := by omega
      clear i0 i1 i2 hm2 hz hh hres ha
      go_upto_region 6 with fail
      go_quiet (fail)
      go_wp2
      go_ret2
      exact ⟨rfl, bits.rd_fr HR.out.2.1 (Fr.drewN [] _ _) (by simp), HR.out.2.2.1.trans (Fr.drewN [p] _ _)⟩
    · have hn0 : hsym ls n v = none := sym_none (first := first) (by rw [← HR.out.2.2.2.2.2.2.1, ← HR.out.2.2.2.2.2.2.2]; exact HR.out.2.2.2.2.2.1) (by rw [← HR.out.2.2.2.2.2.2.1, ← HR.out.2.2.2.2.2.2.2]; exact hit)
      have HM := Lib.hid hn0
      clear hn0
      go_upto_region 5 with fail
      go_cut [44] from 21 to 44 (fun s44 wc => s44 = .bool false ∧ wr = wc)
      case first =>
        by_cases i0 : 0 < n
        · have b0 : decide ((0 : Int) < n) = true := by simpa using i0
          by_cases i1 : f1 ≤ v
          · have b1 : decide ((f1 : Int) ≤ v) = true := by simpa using i1
            have b2 : decide ((v : Int) - f1 < m1) = false := by simp; omega
            clear hit
            go_wp2
            go_meet
            case rel => exact ⟨rfl, rfl⟩
          · have b1 : decide ((f1 : Int) ≤ v) = false := by simpa using i1
            clear hit
            go_wp2
            go_meet
            case rel => exact ⟨rfl, rfl⟩
        · have b0 : decide ((0 : Int) < n) = false := by simpa using i0
          clear hit
          go_wp2
          go_meet
          case rel => exact ⟨rfl, rfl⟩
      case rest =>
        obtain ⟨rfl, rfl⟩ := hcut
        have HMore := Lib.hid (more_any P D ls first sa sc v n wr HR.out.2.2.2.2.1 (by omega) HR.out.1)
        go_upto_region 7 with fail
        go_cut [69] from 61 to 69 (fun s69 wc => s69 = .bool (n == 15 || !hmore ls n v) ∧ Fr [] wr wc)
        case first =>
          by_cases i0 : n = 15
          · have b0 : ((n : Int) == 15) = true := by simp; omega
            have b1 : (n == 15 || !hmore ls n v) = true := by simp [i0]
            clear hit
            go_wp2
            go_meet
            case rel => exact ⟨by rw [b1], Fr.refl [] _⟩
          · have b0 : ((n : Int) == 15) = false := by simp; omega
            have b1 : (n == 15 || !hmore ls n v) = !hmore ls n v := by simp [i0]
            clear hit
            go_wp2_with (go_at_call 87; refine HMore.out.mono ?_; rintro e w2 ⟨rfl, f2⟩; have H2 := Lib.hid f2; clear f2)
            go_meet
            case rel => exact ⟨by rw [b1], H2.out⟩
        case rest =>
          obtain ⟨rfl, f2⟩ := hcut
          have H2 := Lib.hid f2
          clear f2
          have h2 : Fr [p] w wc := HR.out.2.2.1.trans (H2.out.mono (by simp))
          have r2 : bits.Rd wc p F bs (at_ + n) := bits.rd_fr HR.out.2.1 H2.out (by simp)
          have H3 := Lib.hid (And.intro h2 r2)
          clear h2 r2
          by_cases e1 : (n == 15 || !hmore ls n v) = true
          · have hres : hread ls (15 - n) n v ((bytesBits bs).drop (at_ + n)) = (0, n, 3) := by
              by_cases h15 : n = 15
              · subst h15; exact hread_end HM.out
              · refine hread_form HM.out ?_
                simpa [h15] using e1
            rw [HR.out.2.2.2.1] at hres
            obtain ⟨rfl, rfl, rfl⟩ : s = 0 ∧ m = n ∧ c = 3 := by simpa using hres
            rw [e1]
            clear hit hres
            go_wp2
            go_ret2
            exact ⟨rfl, H3.out.2, H3.out.1⟩
          · have e1' : (n == 15 || !hmore ls n v) = false := by simpa using e1
            have h15 : n ≠ 15 := by intro h; simp [h] at e1
            have hmr : hmore ls n v = true := by simp at e1; exact e1.2
            rw [e1']
            by_cases hq : at_ + n + 1 ≤ 8 * bs.length
            · have htk := take_b p F bs (at_ + n) 1 wc H3.out.2 (by decide) hq
              have hlb : (bytesBits bs).length = 8 * bs.length := by simp [bytesBits_length]
              obtain ⟨b, t, hbt⟩ : ∃ b t, (bytesBits bs).drop (at_ + n) = b :: t := by
                cases hd : (bytesBits bs).drop (at_ + n) with
                | nil => have := congrArg List.length hd; rw [List.length_drop, hlb] at this; simp at this; omega
                | cons b t => exact ⟨b, t, rfl⟩
              have ht : (bytesBits bs).drop (at_ + (n + 1)) = t := by
                rw [← Nat.add_assoc, ← List.drop_drop, hbt]; rfl
              have hbv : bval (((bytesBits bs).drop (at_ + n)).take 1) = b2n b := by rw [hbt]; cases b <;> rfl
              rw [hbv] at htk
              have hres := HR.out.2.2.2.1
              rw [show 15 - n = (15 - (n + 1)) + 1 by omega, hbt, hread_step HM.out hmr, ← ht] at hres
              have HK := Lib.hid (And.intro htk hres)
              clear htk hlb hbt ht hbv hres hit
              go_upto_region 10 with (go_at_call 40; refine HK.out.1.mono ?_; rintro e w5 ⟨rfl, r5, f5⟩; have H5 := Lib.hid (And.intro r5 f5); clear r5 f5)
              go_wp2
              have hor := or_bit v b hvb
              rw [hor]
              go_roundg k
              case measure => omega
              case rel => exact ⟨n + 1, 2 * v + b2n b, rfl, by go_num, by omega, by omega, by rw [Nat.pow_succ]; have := HR.out.1; have := b2n_lt b; omega, H5.out.1, H3.out.1.trans H5.out.2, HK.out.2⟩
            · have htk := bits.take_bad p F bs (at_ + n) 1 wc H3.out.2 (by omega)
              have hd : (bytesBits bs).drop (at_ + n) = [] := List.drop_eq_nil_of_le (by rw [bytesBits_length]; omega)
              have hres := HR.out.2.2.2.1
              rw [show 15 - n = (14 - n) + 1 by omega, hd, hread_torn HM.out hmr] at hres
              obtain ⟨rfl, rfl, rfl⟩ : 0 = s ∧ n = m ∧ 4 = c := by simpa using hres
              have HK := Lib.hid htk
              clear htk hd hres hit
              go_upto_region 10 with (go_at_call 40; refine HK.out.mono ?_; rintro e w5 ⟨rfl, r5, f5⟩; have H5 := Lib.hid (And.intro r5 f5); clear r5 f5)
              go_wp2
              go_ret2
              exact ⟨rfl, H5.out.1, H3.out.1.trans (H5.out.2.mono (by simp))⟩
end Go.Proofs.YtolkoidbkaidkaaGreat.huf
/-
  inflate: the reader's state in the heap; take and put.
-/
namespace Go.Proofs.YtolkoidbkaidkaaGreat.inf
open Go Go.RowKit Go.Proofs.YtolkoidbkaidkaaGreat.lib Go.Proofs.YtolkoidbkaidkaaGreat.bm Go.Proofs.YtolkoidbkaidkaaGreat.bl Go.Proofs.YtolkoidbkaidkaaGreat.huf

/-- The reader: its bits, what it made, how much it may. -/
structure St (w : World) (R p : Nat) (F : List Nat) (bs : List UInt8) (at_ : Nat) (out : List UInt8) (oa : Option Addr) (oc most : Nat) : Prop where
  box : w.heap[R]? = some (.cells #[.pointer (some ⟨p, 0, none⟩), .slice oa out.length oc, .int .i64 (most : Nat)] 48 (0, 0))
  rd : bits.Rd w p F bs at_
  own : w.ownsRow 0 5 1 (.slice oa out.length oc) out.length (out.map bv)
  r1 : R ∉ F
  r2 : R ∉ blk oa
  r3 : ∀ x ∈ blk oa, x ∉ F
  low : ∀ x ∈ F, x < w.heap.size
  sm : most ≤ 100000000
  sb : bs.length ≤ 100000000
  om : out.length ≤ most
/-- What a step may turn. -/
structure Way (w : World) (R p : Nat) (oa : Option Addr) (w' : World) (oa' : Option Addr) : Prop where
  fr : Fr (R :: p :: blk oa) w w'
  new : ∀ x ∈ blk oa', x ∈ blk oa ∨ w.heap.size ≤ x
theorem Way.refl (w : World) (R p : Nat) (oa : Option Addr) : Way w R p oa w oa := ⟨.refl _ w, fun _ h => .inl h⟩
theorem Way.trans {w w1 w2 : World} {R p : Nat} {oa oa1 oa2 : Option Addr} (h : Way w R p oa w1 oa1) (k : Way w1 R p oa1 w2 oa2) : Way w R p oa w2 oa2 :=
  ⟨h.fr.step k.fr fun x hx => by
    simp only [List.mem_cons] at hx ⊢
    rcases hx with rfl | rfl | hx
    · exact .inl (.inl rfl)
    · exact .inl (.inr (.inl rfl))
    · rcases h.new x hx with h1 | h1
      · exact .inl (.inr (.inr h1))
      · exact .inr h1, fun x hx => by
    rcases k.new x hx with h1 | h1
    · exact h.new x h1
    · exact .inr (Nat.le_trans h.fr.size h1)⟩
theorem Way.frW {w w1 w2 : World} {R p : Nat} {oa oa1 : Option Addr} (h : Way w R p oa w1 oa1) (f : Fr (R :: p :: blk oa1) w1 w2) : Fr (R :: p :: blk oa) w w2 :=
  h.fr.step f fun x hx => by
    simp only [List.mem_cons] at hx ⊢
    rcases hx with rfl | rfl | hx
    · exact .inl (.inl rfl)
    · exact .inl (.inr (.inl rfl))
    · rcases h.new x hx with h1 | h1
      · exact .inl (.inr (.inr h1))
      · exact .inr h1
theorem Way.of (w w' : World) (R p : Nat) (oa : Option Addr) (f : Fr [p] w w') : Way w R p oa w' oa := ⟨f.mono (by simp), fun _ h => .inl h⟩
theorem Way.of0 (w w' : World) (R p : Nat) (oa : Option Addr) (f : Fr [] w w') : Way w R p oa w' oa := ⟨f.mono (by simp), fun _ h => .inl h⟩
/-- An old block that is none of the reader's lies as it lay. -/
theorem Way.old {w w' : World} {R p : Nat} {oa oa' : Option Addr} (h : Way w R p oa w' oa') {x : Nat} (hx : x < w.heap.size) (hn : x ∉ R :: p :: blk oa) : x ∉ R :: p :: blk oa' := by
  simp only [List.mem_cons, not_or] at hn ⊢
  refine ⟨hn.1, hn.2.1, fun h1 => ?_⟩
  rcases h.new x h1 with h2 | h2
  · exact hn.2.2 h2
  · omega
theorem St.fr {w w' : World} {R p : Nat} {F S : List Nat} {bs out : List UInt8} {at_ oc most : Nat} {oa : Option Addr} (h : St w R p F bs at_ out oa oc most) (f : Fr S w w') (hR : R ∉ S) (hF : ∀ x ∈ F, x ∉ S) (ho : ∀ x ∈ blk oa, x ∉ S) : St w' R p F bs at_ out oa oc most :=
  ⟨f.blk h.box hR, bits.rd_fr h.rd f hF, ownsRow_fr h.own f (fun k hk => ho k (by rw [← own_blk oa out.length oc, hk]; simp)), h.r1, h.r2, h.r3, fun x hx => Nat.lt_of_lt_of_le (h.low x hx) f.size, h.sm, h.sb, h.om⟩
theorem St.fr0 {w w' : World} {R p : Nat} {F : List Nat} {bs out : List UInt8} {at_ oc most : Nat} {oa : Option Addr} (h : St w R p F bs at_ out oa oc most) (f : Fr [] w w') : St w' R p F bs at_ out oa oc most := h.fr f (by simp) (by simp) (by simp)
theorem St.pF {w : World} {R p : Nat} {F : List Nat} {bs out : List UInt8} {at_ oc most : Nat} {oa : Option Addr} (h : St w R p F bs at_ out oa oc most) : p ∈ F ∧ at_ ≤ 8 * bs.length := by
  obtain ⟨ao, cap, hr, hcs, rfl, hpb, hlen, hat, hcap, hmax⟩ := h.rd
  exact ⟨by simp, hat⟩
/-- The reader's bits have moved. -/
theorem St.take {w w' : World} {R p : Nat} {F : List Nat} {bs out : List UInt8} {at_ a' oc most : Nat} {oa : Option Addr} (h : St w R p F bs at_ out oa oc most) (f : Fr [p] w w') (hr : bits.Rd w' p F bs a') : St w' R p F bs a' out oa oc most := by
  have hp := h.pF.1
  refine ⟨f.blk h.box (by simp; rintro rfl; exact h.r1 hp), hr, ownsRow_fr h.own f (fun k hk => ?_), h.r1, h.r2, h.r3, fun x hx => Nat.lt_of_lt_of_le (h.low x hx) f.size, h.sm, h.sb, h.om⟩
  have hk2 : k ∈ blk oa := by rw [← own_blk oa out.length oc, hk]; simp
  simp
  rintro rfl
  exact h.r3 _ hk2 hp
theorem St.put {w1 w2 : World} {R p n : Nat} {F : List Nat} {bs out : List UInt8} {at_ oc most cp2 : Nat} {oa ao2 : Option Addr} {c : UInt8} {o : Obj} (h : St w1 R p F bs at_ out oa oc most) (hn : n = out.length) (hl : n < most)
    (A : Appended (w1.alloc o) w2 5 1 (blk oa) ao2 (n + 1) cp2 (out.map bv ++ [bv c])) :
    St (w2.setCell ⟨R, 1, none⟩ (.slice ao2 (n + 1) cp2)) R p F bs at_ (out ++ [c]) ao2 cp2 most ∧ Way w1 R p oa (w2.setCell ⟨R, 1, none⟩ (.slice ao2 (n + 1) cp2)) ao2 := by
  have f2 : Fr (blk oa) w1 w2 := ((Fr.refl _ w1).alloc _).trans A.fr
  have fR : Fr [R] w2 (w2.setCell ⟨R, 1, none⟩ (.slice ao2 (n + 1) cp2)) := (Fr.refl [R] w2).setCell (by simp) _
  have b2 := f2.blk h.box h.r2
  have hRw : R < w1.heap.size := lt_of_block h.box
  have hR2 : R ∉ blk ao2 := fun hx => by
    rcases A.at_ R hx with k | k
    · exact h.r2 k
    · rw [World.size_alloc] at k; omega
  have e : (out ++ [c]).length = n + 1 := by rw [hn]; simp
  have hpF := h.pF.1
  refine ⟨⟨?_, ?_, ?_, h.r1, hR2, fun x hx hF => ?_, fun x hx => Nat.lt_of_lt_of_le (h.low x hx) (Nat.le_trans f2.size fR.size), h.sm, h.sb, by rw [e]; omega⟩, ⟨?_, fun x hx => ?_⟩⟩
  · rw [setCell_of b2, e]; rfl
  · exact bits.rd_fr (bits.rd_fr h.rd f2 (fun x hx hb => h.r3 x hb hx)) fR (fun x hx hb => by simp at hb; rw [hb] at hx; exact h.r1 hx)
  · rw [e, List.map_append]
    exact ownsRow_fr A.own fR (fun k hk => by
      have hk2 : k ∈ blk ao2 := by rw [← own_blk ao2 (n + 1) cp2, hk]; simp
      simp
      rintro rfl
      exact hR2 hk2)
  · rcases A.at_ x hx with k | k
    · exact h.r3 x k hF
    · rw [World.size_alloc] at k
      have := h.low x hF
      omega
  · exact (f2.mono (fun x hx => .inl (by simp [hx]))).trans (fR.mono (by simp))
  · rcases A.at_ x hx with k | k
    · exact .inl k
    · rw [World.size_alloc] at k; exact .inr (by omega)
/-- What a function gives back that makes something: an error, or the state behind it. -/
def Ret (w : World) (R p : Nat) (F : List Nat) (bs : List UInt8) (oa : Option Addr) (most : Nat) (m : Except Nat (List UInt8 × Nat)) (e : Ending) (w' : World) : Prop :=
  (∃ c, m = .error c ∧ 0 < c ∧ c < 100 ∧ e = .returned (.int .i64 (c : Nat)) ∧ Fr (R :: p :: blk oa) w w') ∨
  (∃ out a oa' oc', m = .ok (out, a) ∧ e = .returned (.int .i64 0) ∧ St w' R p F bs a out oa' oc' most ∧ Way w R p oa w' oa')
/-- .. that reads a number. -/
def RetV (w : World) (R p : Nat) (F : List Nat) (bs out : List UInt8) (oa : Option Addr) (oc most : Nat) (m : Except Nat (Nat × Nat)) (e : Ending) (w' : World) : Prop :=
  (∃ (v : Int) (c : Nat), m = .error c ∧ 0 < c ∧ c < 100 ∧ e = .returned (.tuple #[.int .i64 v, .int .i64 (c : Nat)]) ∧ Fr (R :: p :: blk oa) w w') ∨
  (∃ v a, m = .ok (v, a) ∧ e = .returned (.tuple #[.int .i64 (v : Nat), .int .i64 0]) ∧ St w' R p F bs a out oa oc most ∧ Fr [p] w w')
set_option maxHeartbeats 1000000 in
theorem take_any (R p : Nat) (F : List Nat) (bs out : List UInt8) (at_ oc most n : Nat) (oa : Option Addr) (w : World) (h : St w R p F bs at_ out oa oc most) (hn : n ≤ 31) :
    Calls Tryz.prog 17 #[.pointer (some ⟨R, 0, none⟩), .int .i64 (n : Nat)] w (RetV w R p F bs out oa oc most (itake bs at_ n)) := by
  have c0 := cell_of h.box 0
  simp only [List.getElem?_toArray, List.getElem?_cons_zero, List.getElem?_cons_succ] at c0
  have H := Lib.hid h
  clear h
  by_cases hl : at_ + n ≤ 8 * bs.length
  · have hv : bval (((bytesBits bs).drop at_).take n) < 4294967296 := Nat.lt_of_lt_of_le (bval_take_lt _ _) (Nat.le_trans (Nat.pow_le_pow_right (by decide) (show n ≤ 32 by omega)) (by decide))
    obtain ⟨v, hv2⟩ : ∃ v, v = bval (((bytesBits bs).drop at_).take n) := ⟨_, rfl⟩
    have ht := take_b p F bs at_ n w H.out.rd (by omega) hl
    have e : itake bs at_ n = .ok (v, at_ + n) := by unfold itake; rw [if_pos hl, hv2]
    rw [e]
    rw [← hv2] at ht hv
    have HT := Lib.hid ht
    clear ht hv2 e
    go_enter Tryz.func17, Tryz.ntmps17
    go_wp2_with (go_at_call 40; refine HT.out.mono ?_; rintro e w1 ⟨rfl, hr, f1⟩)
    go_ret2
    exact .inr ⟨v, at_ + n, rfl, rfl, H.out.take f1 hr, f1⟩
  · have ht := bits.take_bad p F bs at_ n w H.out.rd (.inr (.inr (by omega)))
    have e : itake bs at_ n = .error 4 := by unfold itake; rw [if_neg hl]
    rw [e]
    have HT := Lib.hid ht
    clear ht e
    go_enter Tryz.func17, Tryz.ntmps17
    go_wp2_with (go_at_call 40; refine HT.out.mono ?_; rintro e w1 ⟨rfl, hr, f1⟩)
    go_ret2
    exact .inl ⟨_, 4, rfl, by decide, by decide, rfl, f1.mono (by simp)⟩
set_option maxHeartbeats 1000000 in
theorem put_any (R p : Nat) (F : List Nat) (bs out : List UInt8) (at_ oc most : Nat) (oa : Option Addr) (c : UInt8) (w : World) (h : St w R p F bs at_ out oa oc most) :
    Calls Tryz.prog 58 #[.pointer (some ⟨R, 0, none⟩), .int .u8 (c.toNat : Nat)] w (Ret w R p F bs oa most ((iput most out c).map fun o => (o, at_))) := by
  have c1 := cell_of h.box 1
  have c2 := cell_of h.box 2
  simp only [List.getElem?_toArray, List.getElem?_cons_zero, List.getElem?_cons_succ] at c1 c2
  obtain ⟨n, hn⟩ : ∃ n, n = out.length := ⟨_, rfl⟩
  have hs := h.sm
  rw [← hn] at c1
  have H := Lib.hid (And.intro h hn)
  clear h
  by_cases hl : most ≤ n
  · have e : iput most out c = .error 5 := by unfold iput; rw [if_pos (by omega)]
    rw [e]
    clear e hn
    go_enter Tryz.func58, Tryz.ntmps58
    go_upto_region 1 with fail
    go_quiet (fail)
    go_wp2
    go_ret
    exact .inl ⟨5, rfl, by decide, by decide, rfl, .drewN _ _ _⟩
  · have e : iput most out c = .ok (out ++ [c]) := by unfold iput; rw [if_neg (by omega)]
    rw [e]
    clear e hn
    go_enter Tryz.func58, Tryz.ntmps58
    go_upto_region 1 with fail
    go_quiet (fail)
    obtain ⟨w1, hw1⟩ : ∃ w1, w1 = w.drewN nq := ⟨_, rfl⟩
    have f1 : Fr [] w w1 := by rw [hw1]; exact .drewN _ _ _
    have S1 := H.out.1.fr0 f1
    have c1' := f1.cell c1 (by simp)
    rw [← hw1]
    clear hw1 c1 c2
    have HS := Lib.hid (And.intro f1 S1)
    clear f1 S1
    go_wp2_with (at_builtin; go_loud (refine wpList_append bits.sliceU8 rfl _ _ rfl (.slice oa n oc) n (out.map bv) (blk oa) rfl (own_blk oa n oc) (by rw [H.out.2]; exact ownsRow_fr HS.out.2.own ((Fr.refl [] w1).alloc _) (by simp)) (some ⟨w1.heap.size, 0, none⟩) 1 1 [bv c] (by first | rfl | simp) (Nat.le_refl _) (fun h => by cases h) (cs_one _ _ _ _ (alloc_at _ _)) rfl (by intro u hu; simp only [List.mem_singleton] at hu; rw [hu]; rfl) (by omega) (by unfold maxLen; omega) ?_); intro ao2 cp2 w2 A2; have f2 : Fr (blk oa) w1 w2 := (Fr.refl _ w1).trans (((Fr.refl _ w1).alloc _).trans A2.fr); have b2 := f2.blk HS.out.2.box H.out.1.r2; have z1 := frozen_of b2 1; have d1 := cell_of b2 1; rw [← H.out.2] at d1; simp only [List.getElem?_toArray, List.getElem?_cons_zero, List.getElem?_cons_succ] at d1; have HA := Lib.hid (And.intro A2 (And.intro f2 b2)); clear A2 f2 b2 c1')
    go_ret
    have hP := HS.out.2.put H.out.2 (by omega) HA.out.1
    exact .inr ⟨_, _, ao2, cp2, rfl, rfl, hP.1, (Way.of0 _ _ _ _ _ HS.out.1).trans hP.2⟩
end Go.Proofs.YtolkoidbkaidkaaGreat.inf
/-
  huff.New: the table of the first i lengths (plain side; the walk is still to be done).
-/
namespace Go.Proofs.YtolkoidbkaidkaaGreat.huf
open Go Go.RowKit Go.Proofs.YtolkoidbkaidkaaGreat.lib Go.Proofs.YtolkoidbkaidkaaGreat.bm Go.Proofs.YtolkoidbkaidkaaGreat.bl

/-- The symbols of a length among the first i (none of length nought). -/
def symi (ls : List Nat) (l i : Nat) : List Nat := if l = 0 then [] else syms ls l i
theorem symi_succ (ls : List Nat) (l i : Nat) : symi ls l (i + 1) = symi ls l i ++ if lenAt ls i = l ∧ l ≠ 0 then [i] else [] := by
  unfold symi
  by_cases h : l = 0
  · simp [h]
  · simp [h, syms_succ]
theorem symi_length (ls : List Nat) (l : Nat) : (symi ls l ls.length).length = symn ls l := by
  unfold symi symn
  split <;> simp
theorem symi_le (ls : List Nat) (l i : Nat) : (symi ls l i).length ≤ i := by
  unfold symi
  split
  · simp
  · have := List.length_filter_le (fun s => lenAt ls s == l) (List.range i); rw [List.length_range] at this; exact this
/-- The first of a length: its code is the first code. -/
theorem first_code {ls : List Nat} {i l : Nat} (hi : i < ls.length) (hl : lenAt ls i = l) (h0 : l ≠ 0) (he : (symi ls l i).length = 0) : code ls i = nxt ls l := by
  unfold symi at he
  rw [if_neg h0, syms_length ls l i (by omega)] at he
  unfold code
  rw [hl, he, Nat.add_zero]
/-- The table of the first i lengths. -/
structure TabI (w0 w : World) (P D : Nat) (ls : List Nat) (i : Nat) (first : Nat → Nat) (sa : Nat → Option Addr) (sc : Nat → Nat) : Prop where
  box : ∃ A, w.heap[P]? = some (.cells A 140 (0, 0)) ∧ A.size = 33 ∧ (∀ l, l < 16 → A[l]? = some (.int .u32 (first l : Nat))) ∧ (∀ l, l < 16 → A[16 + l]? = some (.slice (sa l) (symi ls l i).length (sc l))) ∧ A[32]? = some (.int .i64 (D : Nat))
  fst : ∀ l, 0 < (symi ls l i).length → first l = nxt ls l
  top : ∀ s, s < i → lenAt ls s ≤ D
  low : D ≤ 15
  low' : ∀ l, first l ≤ 32768
  rows : ∀ l, l < 16 → Made w0 w 3 1 (sa l) (symi ls l i).length (sc l) (ints (symi ls l i))
  sep : ∀ l m, l < 16 → m < 16 → l ≠ m → ∀ x ∈ blk (sa l), x ∉ blk (sa m)
  off : ∀ l, l < 16 → P ∉ blk (sa l)
  new : w0.heap.size ≤ P
theorem TabI.tab {w0 w : World} {P D : Nat} {ls : List Nat} {first : Nat → Nat} {sa : Nat → Option Addr} {sc : Nat → Nat} (h : TabI w0 w P D ls ls.length first sa sc) (hlen : ls.length ≤ 400) : Tab w P D ls first sa sc := by
  obtain ⟨A, hA, h1, h2, h3, h4⟩ := h.box
  refine ⟨⟨A, hA, h1, h2, fun l hl => by rw [h3 l hl, symi_length], h4⟩, fun l hl => h.fst l (by rw [symi_length]; exact hl), h.top, h.low, h.low', fun l hl h0 => ?_, hlen⟩
  have hr := h.rows l hl
  have e : symi ls l ls.length = syms ls l ls.length := by unfold symi; rw [if_neg (by omega)]
  rw [e] at hr
  exact defl.ri_made hr rfl
def zeroT : Array Value := #[.int .u32 0, .int .u32 0, .int .u32 0, .int .u32 0, .int .u32 0, .int .u32 0, .int .u32 0, .int .u32 0, .int .u32 0, .int .u32 0, .int .u32 0, .int .u32 0, .int .u32 0, .int .u32 0, .int .u32 0, .int .u32 0, .slice none 0 0, .slice none 0 0, .slice none 0 0, .slice none 0 0, .slice none 0 0, .slice none 0 0, .slice none 0 0, .slice none 0 0, .slice none 0 0, .slice none 0 0, .slice none 0 0, .slice none 0 0, .slice none 0 0, .slice none 0 0, .slice none 0 0, .slice none 0 0, .int .i64 0]
theorem zero_lo : ∀ l, l < 16 → zeroT[l]? = some (.int .u32 (0 : Nat))
  | 0, _ => rfl
  | 1, _ => rfl
  | 2, _ => rfl
  | 3, _ => rfl
  | 4, _ => rfl
  | 5, _ => rfl
  | 6, _ => rfl
  | 7, _ => rfl
  | 8, _ => rfl
  | 9, _ => rfl
  | 10, _ => rfl
  | 11, _ => rfl
  | 12, _ => rfl
  | 13, _ => rfl
  | 14, _ => rfl
  | 15, _ => rfl
  | _ + 16, h => absurd h (by omega)
theorem zero_hi : ∀ l, l < 16 → zeroT[16 + l]? = some (.slice none 0 0)
  | 0, _ => rfl
  | 1, _ => rfl
  | 2, _ => rfl
  | 3, _ => rfl
  | 4, _ => rfl
  | 5, _ => rfl
  | 6, _ => rfl
  | 7, _ => rfl
  | 8, _ => rfl
  | 9, _ => rfl
  | 10, _ => rfl
  | 11, _ => rfl
  | 12, _ => rfl
  | 13, _ => rfl
  | 14, _ => rfl
  | 15, _ => rfl
  | _ + 16, h => absurd h (by omega)
theorem symi_zero (ls : List Nat) (l : Nat) : symi ls l 0 = [] := by unfold symi; split <;> simp [syms_zero]
theorem TabI.start (ls : List Nat) {w0 w1 : World} (f : Fr [] w0 w1) : TabI w0 (w1.alloc (.cells zeroT 140 (0, 0))) w1.heap.size 0 ls 0 (fun _ => 0) (fun _ => none) (fun _ => 0) := by
  have f2 : Fr [] w0 (w1.alloc (.cells zeroT 140 (0, 0))) := f.trans ((Fr.refl [] w1).alloc _)
  refine ⟨⟨zeroT, alloc_at w1 _, rfl, zero_lo, fun l hl => by rw [symi_zero]; exact zero_hi l hl, rfl⟩, fun l h => by rw [symi_zero] at h; simp at h, fun s hs => by omega, by omega, fun _ => by omega, fun l hl => ?_, fun l m _ _ _ x hx => by simp [blk] at hx, fun l _ => by simp [blk], f.size⟩
  rw [symi_zero]
  exact (Made.none w0 _ _).fr2 f2
theorem TabI.skip {w0 w : World} {P D i : Nat} {ls : List Nat} {first : Nat → Nat} {sa : Nat → Option Addr} {sc : Nat → Nat} (h : TabI w0 w P D ls i first sa sc) (h0 : lenAt ls i = 0) : TabI w0 w P D ls (i + 1) first sa sc := by
  have e : ∀ l, symi ls l (i + 1) = symi ls l i := fun l => by rw [symi_succ, if_neg (by omega), List.append_nil]
  obtain ⟨A, hA, h1, h2, h3, h4⟩ := h.box
  refine ⟨⟨A, hA, h1, h2, fun l hl => by rw [e]; exact h3 l hl, h4⟩, fun l hl => h.fst l (by rw [e] at hl; exact hl), fun s hs => ?_, h.low, h.low', fun l hl => by rw [e]; exact h.rows l hl, h.sep, h.off, h.new⟩
  rcases Nat.lt_succ_iff_lt_or_eq.1 hs with h5 | h5
  · exact h.top s h5
  · rw [h5, h0]; exact Nat.zero_le _
theorem TabI.fr {w0 w w' : World} {P D i : Nat} {ls : List Nat} {first : Nat → Nat} {sa : Nat → Option Addr} {sc : Nat → Nat} (h : TabI w0 w P D ls i first sa sc) (f : Fr [] w w') : TabI w0 w' P D ls i first sa sc := by
  obtain ⟨A, hA, h1⟩ := h.box
  exact ⟨⟨A, f.blk hA (by simp), h1⟩, h.fst, h.top, h.low, h.low', fun l hl => (h.rows l hl).fr2 f, h.sep, h.off, h.new⟩
theorem TabI.setFirst {w0 w : World} {P D i x : Nat} {ls : List Nat} {first : Nat → Nat} {sa : Nat → Option Addr} {sc : Nat → Nat} (h : TabI w0 w P D ls i first sa sc) (hx : x < 16) (hn : nxt ls x ≤ 32768) :
    TabI w0 (w.setCell ⟨P, x, none⟩ (.int .u32 (nxt ls x : Nat))) P D ls i (fun l => if l = x then nxt ls x else first l) sa sc := by
  obtain ⟨A, hA, h1, h2, h3, h4⟩ := h.box
  have f : Fr [P] w (w.setCell ⟨P, x, none⟩ (.int .u32 (nxt ls x : Nat))) := (Fr.refl [P] w).setCell (by simp) _
  refine ⟨⟨_, setCell_of hA _, by simp [h1], fun l hl => ?_, fun l hl => ?_, ?_⟩, fun l hl => ?_, h.top, h.low, fun l => ?_, fun l hl => ?_, h.sep, h.off, h.new⟩
  · by_cases e : l = x
    · subst e; rw [if_pos rfl, Array.getElem?_setIfInBounds_self_of_lt (by omega)]
    · rw [if_neg e, Array.getElem?_setIfInBounds_ne (by omega)]; exact h2 l hl
  · rw [Array.getElem?_setIfInBounds_ne (by omega)]; exact h3 l hl
  · rw [Array.getElem?_setIfInBounds_ne (by omega)]; exact h4
  · show (if l = x then nxt ls x else first l) = nxt ls l
    split
    · rename_i e; rw [e]
    · exact h.fst l hl
  · show (if l = x then nxt ls x else first l) ≤ 32768
    split
    · exact hn
    · exact h.low' l
  · have m := h.rows l hl
    exact ⟨ownsRow_fr m.own f (fun y hy hm => h.off l hl (by simp at hm; rw [← hm]; have e := own_blk (sa l) (symi ls l i).length (sc l); rw [← e, hy]; simp)), m.fr.step f (fun z hz => .inr (by simp at hz; rw [hz]; exact h.new)), m.new, m.le, m.max, m.nil⟩
theorem Made.frS {w0 w w' : World} {S : List Nat} {e : TypeId} {size : Nat} {ao : Option Addr} {n cap : Nat} {xs : List Value} (h : Made w0 w e size ao n cap xs) (f : Fr S w w') (hn : ∀ y ∈ blk ao, y ∉ S) (hS : ∀ z ∈ S, w0.heap.size ≤ z) : Made w0 w' e size ao n cap xs :=
  ⟨ownsRow_fr h.own f (fun y hy => hn y (by rw [← own_blk ao n cap, hy]; simp)), h.fr.step f (fun z hz => .inr (hS z hz)), h.new, h.le, h.max, h.nil⟩
theorem TabI.push {w0 w w2 w3 w4 w6 : World} {P D i x q cp : Nat} {ls : List Nat} {first : Nat → Nat} {sa : Nat → Option Addr} {sc : Nat → Nat} {ao : Option Addr} (h0 : TabI w0 w P D ls i first sa sc) (hfx : first x = nxt ls x) (hx : x < 16) (hx0 : x ≠ 0) (hl : lenAt ls i = x) (hq : q = (symi ls x i).length)
    (f1 : Fr [] w w2) (h2 : Appended w2 w3 3 1 (blk (sa x)) ao (q + 1) cp (ints (symi ls x i) ++ [.int .i64 (i : Nat)])) (f3 : Fr [] w3 w4) (f5 : Fr [] (w4.setCell ⟨P, 16 + x, none⟩ (.slice ao (q + 1) cp)) w6) :
    TabI w0 (w6.setCell ⟨P, 32, none⟩ (.int .i64 (max D x : Nat))) P (max D x) ls (i + 1) first (fun l => if l = x then ao else sa l) (fun l => if l = x then cp else sc l) := by
  have h := h0.fr f1
  obtain ⟨A, hA, h1, hlo, hhi, htop⟩ := h.box
  have hPS : P ∉ blk (sa x) := h.off x hx
  have hPw : P < w2.heap.size := lt_of_block hA
  have hPao : P ∉ blk ao := fun hP => by
    rcases h2.at_ P hP with k | k
    · exact hPS k
    · omega
  have hA4 := f3.blk (h2.fr.blk hA hPS) (by simp)
  have hA6 := f5.blk (setCell_of hA4 (o := 16 + x) (.slice ao (q + 1) cp)) (by simp)
  have g1 : Fr [P] w4 (w4.setCell ⟨P, 16 + x, none⟩ (.slice ao (q + 1) cp)) := (Fr.refl [P] _).setCell (by simp) _
  have g2 : Fr [P] w6 (w6.setCell ⟨P, 32, none⟩ (.int .i64 (max D x : Nat))) := (Fr.refl [P] _).setCell (by simp) _
  have hnew : ∀ z ∈ [P], w0.heap.size ≤ z := fun z hz => by simp at hz; rw [hz]; exact h.new
  have up : ∀ {ao' : Option Addr} {n' c' : Nat} {xs' : List Value}, Made w0 w3 3 1 ao' n' c' xs' → P ∉ blk ao' → Made w0 (w6.setCell ⟨P, 32, none⟩ (.int .i64 (max D x : Nat))) 3 1 ao' n' c' xs' := fun m hP =>
    (((m.fr2 f3).frS g1 (fun y hy => by simp; rintro rfl; exact hP hy) hnew).fr2 f5).frS g2 (fun y hy => by simp; rintro rfl; exact hP hy) hnew
  have es : ∀ l, l ≠ x → symi ls l (i + 1) = symi ls l i := fun l hlx => by rw [symi_succ, if_neg (by omega), List.append_nil]
  have ex : symi ls x (i + 1) = symi ls x i ++ [i] := by rw [symi_succ, if_pos ⟨hl, hx0⟩]
  have exl : (symi ls x (i + 1)).length = q + 1 := by rw [ex, hq]; simp
  have hnw : ∀ m, m < 16 → m ≠ x → ∀ y ∈ blk ao, y ∉ blk (sa m) := fun m hm hne y hy hym => by
    rcases h2.at_ y hy with k | k
    · exact h.sep x m hx hm (fun e => hne e.symm) y k hym
    · have := (h.rows m hm).lt y hym; omega
  refine ⟨⟨_, setCell_of hA6 _, by simp [h1], fun l hl16 => ?_, fun l hl16 => ?_, ?_⟩, fun l hl0 => ?_, fun s hs => ?_, ?_, h.low', fun l hl16 => ?_, fun l m hl16 hm16 hne y hy => ?_, fun l hl16 => ?_, h.new⟩
  · rw [Array.getElem?_setIfInBounds_ne (by omega), Array.getElem?_setIfInBounds_ne (by omega)]; exact hlo l hl16
  · rw [Array.getElem?_setIfInBounds_ne (by omega)]
    by_cases e : l = x
    · subst e
      rw [Array.getElem?_setIfInBounds_self_of_lt (by omega), exl]
      simp
    · rw [Array.getElem?_setIfInBounds_ne (by omega), es l e]
      simp only [if_neg e]
      exact hhi l hl16
  · rw [Array.getElem?_setIfInBounds_self_of_lt (by simp [h1])]
  · by_cases e : l = x
    · rw [e]; exact hfx
    · rw [es l e] at hl0; exact h.fst l hl0
  · rcases Nat.lt_succ_iff_lt_or_eq.1 hs with h5 | h5
    · have := h.top s h5; omega
    · rw [h5, hl]; omega
  · have := h.low; omega
  · by_cases e : l = x
    · subst e
      simp only [if_pos]
      rw [exl, ex]
      have m := (h.rows l hx).app h2
      have e2 : ints (symi ls l i ++ [i]) = ints (symi ls l i) ++ [.int .i64 (i : Nat)] := by simp [ints]
      rw [e2]
      exact up m hPao
    · simp only [if_neg e]
      rw [es l e]
      exact up ((h.rows l hl16).frS h2.fr (fun y hy hyx => h.sep l x hl16 hx e y hy hyx) (fun z hz => (h.rows x hx).new z hz)) (h.off l hl16)
  · by_cases e : l = x
    · have e2 : m ≠ x := fun hm => hne (e.trans hm.symm)
      simp only [if_pos e] at hy
      simp only [if_neg e2]
      exact hnw m hm16 e2 y hy
    · simp only [if_neg e] at hy
      by_cases e2 : m = x
      · simp only [if_pos e2]
        intro hym
        exact hnw l hl16 e y hym hy
      · simp only [if_neg e2]
        exact h.sep l m hl16 hm16 hne y hy
  · by_cases e : l = x
    · simp only [if_pos e]; exact hPao
    · simp only [if_neg e]; exact h.off l hl16
theorem TabI.pre {w0 w1 w : World} {P D i : Nat} {ls : List Nat} {first : Nat → Nat} {sa : Nat → Option Addr} {sc : Nat → Nat} (h : TabI w1 w P D ls i first sa sc) (f : Fr [] w0 w1) : TabI w0 w P D ls i first sa sc :=
  ⟨h.box, h.fst, h.top, h.low, h.low', fun l hl => (h.rows l hl).pre f, h.sep, h.off, Nat.le_trans f.size h.new⟩
def NewGood (w : World) (ls : List Nat) (e : Ending) (w' : World) : Prop :=
  ∃ P D first sa sc, e = .returned (.tuple #[.pointer (some ⟨P, 0, none⟩), .int .i64 0]) ∧ TabI w w' P D ls ls.length first sa sc ∧ Fr [] w w'
set_option maxRecDepth 100000 in
set_option maxHeartbeats 4000000 in
theorem new_any (a : Option Addr) (cap : Nat) (ls : List Nat) (w : World) (h : Ri w a cap ls) (hle : ∀ l ∈ ls, l ≤ 15) (hlen : ls.length ≤ 400) (hw : weight ls ≤ 32768) :
    Calls Tryz.prog 59 #[.slice a ls.length cap] w (NewGood w ls) := by
  obtain ⟨N, hN⟩ : ∃ N, N = ls.length := ⟨_, rfl⟩
  have hc := codes_any a cap ls w h hle hlen hw
  unfold CodesGood at hc
  rw [← hN] at hlen hc ⊢
  have H := Lib.hid (And.intro h (And.intro hle (And.intro hN (And.intro hc hw))))
  clear h hle hN hc hw
  go_enter Tryz.func59, Tryz.ntmps59
  go_upto_block 0 with (go_at_call 76; refine H.out.2.2.2.1.mono ?_; rintro e w1 ⟨g, rfl, cg, ng, lg, f1⟩; have H1 := Lib.hid (And.intro cg (And.intro ng (And.intro lg f1))); clear cg ng lg f1)
  obtain ⟨P, hP⟩ : ∃ P, P = w1.heap.size := ⟨_, rfl⟩
  obtain ⟨w2, hw2⟩ : ∃ w2, w2 = w1.alloc (.cells zeroT 140 (0, 0)) := ⟨_, rfl⟩
  have T0 : TabI w1 w2 P 0 ls 0 (fun _ => 0) (fun _ => none) (fun _ => 0) := by rw [hw2, hP]; exact TabI.start ls (Fr.refl [] w1)
  unfold zeroT at hw2
  rw [← hw2, ← hP]
  have f2 : Fr [] w w2 := by rw [hw2]; exact H1.out.2.2.2.trans ((Fr.refl [] w1).alloc _)
  have cg2 : Cs w2 (some ⟨g, 0, none⟩) ((codesOf ls).map fun x => .int .u32 (x : Nat)) := by rw [hw2]; exact H1.out.1.fr ((Fr.refl [] w1).alloc _) (by simp)
  have H2 := Lib.hid (And.intro T0 (And.intro f2 (And.intro cg2 (And.intro hP hw2))))
  clear T0 f2 cg2 hP hw2
  go_wp2
  go_loopg [7, 8, 21] N (fun k s7 s8 s21 wr => ∃ (i D : Nat) (first : Nat → Nat) (sa : Nat → Option Addr) (sc : Nat → Nat), s21 = .int .i64 (i : Nat) ∧ i + k = N ∧ TabI w1 wr P D ls i first sa sc ∧ Fr [] w wr ∧ Cs wr (some ⟨g, 0, none⟩) ((codesOf ls).map fun x => .int .u32 (x : Nat)))
  case atStart => exact ⟨0, 0, _, _, _, rfl, by omega, H2.out.1, H2.out.2.1, H2.out.2.2.1⟩
  case round =>
    obtain ⟨i, D, first, sa, sc, rfl, hik, hT, hf, hcg⟩ := hrel
    by_cases hi : i < N
    · obtain ⟨k, rfl⟩ : ∃ k, gk = k + 1 := ⟨gk - 1, by omega⟩
      have hil : i < ls.length := by rw [← H.out.2.2.1]; exact hi
      obtain ⟨ga, o, ha, hc⟩ := (H.out.1.fr hf).at hil
      subst ha
      have hx15 := H.out.2.1 _ (List.getElem_mem hil)
      have hla : lenAt ls i = ls[i] := by unfold lenAt; rw [List.getElem?_eq_getElem hil]; rfl
      obtain ⟨x, hx⟩ : ∃ x, x = ls[i] := ⟨_, rfl⟩
      rw [← hx] at hc hx15 hla
      have HI := Lib.hid (And.intro hT (And.intro hf (And.intro hcg (And.intro hla (And.intro hil hx)))))
      clear hT hf hcg hla hx
      by_cases hx0 : x = 0
      · subst hx0
        go_wp2
        go_roundg k
        case measure => omega
        case rel => exact ⟨i + 1, D, first, sa, sc, by go_num, by omega, HI.out.1.skip HI.out.2.2.2.1, HI.out.2.1, HI.out.2.2.1⟩
      · have b0 : ((x : Int) == 0) = false := by simp; omega
        have cells := fun (wc : World) (first : Nat → Nat) (T : TabI w1 wc P D ls i first sa sc) => show wc.cell? ⟨P, x, none⟩ = some (.int .u32 (first x : Nat)) ∧ wc.cell? ⟨P, 16 + x, none⟩ = some (.slice (sa x) (symi ls x i).length (sc x)) ∧ wc.cell? ⟨P, 32, none⟩ = some (.int .i64 (D : Nat)) ∧ wc.frozen? ⟨P, x, none⟩ = false ∧ wc.frozen? ⟨P, 16 + x, none⟩ = false ∧ wc.frozen? ⟨P, 32, none⟩ = false by
          obtain ⟨A, hA, h1, h2, h3, h4⟩ := T.box
          exact ⟨by rw [cell_of hA]; exact h2 x (by omega), by rw [cell_of hA]; exact h3 x (by omega), by rw [cell_of hA]; exact h4, frozen_of hA _, frozen_of hA _, frozen_of hA _⟩
        obtain ⟨c1, c2, c3, z1, z2, z3⟩ := cells wr first HI.out.1
        obtain ⟨q, hq⟩ : ∃ q, q = (symi ls x i).length := ⟨_, rfl⟩
        have hqi : q ≤ 400 := by rw [hq]; have := symi_le ls x i; omega
        have hcode : wr.cell? ⟨g, i, none⟩ = some (.int .u32 (code ls i : Nat)) := by
          obtain ⟨g', o', e, hcs⟩ := HI.out.2.2.1.at (by simp [codesOf]; omega)
          cases e
          rw [show (⟨g, i, none⟩ : Addr) = ⟨g, 0 + i, none⟩ by rw [Nat.zero_add]]
          refine hcs i _ ?_
          simp [codesOf, hil, codeAt]
          rw [if_neg (by rw [HI.out.2.2.2.1]; exact hx0)]
        rw [← hq] at c2 cells
        have HQ := Lib.hid (And.intro hq cells)
        have hN400 : i < 400 := by omega
        clear hq cells
        go_upto_if 35 with fail
        go_cut [] from 28 to 44 (fun wc => ∃ first', TabI w1 wc P D ls i first' sa sc ∧ first' x = nxt ls x ∧ Fr [] w wc ∧ Cs wc (some ⟨g, 0, none⟩) ((codesOf ls).map fun x => .int .u32 (x : Nat)))
        case first =>
          by_cases hq0 : q = 0
          · have b1 : ((q : Int) == 0) = true := by simp; omega
            have hcx := first_code hil HI.out.2.2.2.1 hx0 (by rw [← HQ.out.1]; exact hq0)
            have hnx : nxt ls x ≤ 32768 := share_top ls (by exact H.out.2.1) H.out.2.2.2.2 x hx15
            rw [hcx] at hcode
            have HX := Lib.hid (And.intro hcx hnx)
            clear hcx hnx
            go_upto_region 10 with fail
            refine region_tail 9 (by kernel_rfl) (by kernel_rfl) ?_
            simp only [List.take_succ_cons, List.take_zero, List.drop_succ_cons, List.drop_zero]
            repeat (go_big_quiet_step (fail))
            refine wpQuiet_nil ?_
            go_wp2
            go_meet
            have fd : Fr [] wr wr.drew := Fr.drewN [] _ _
            case rel => exact ⟨_, (HI.out.1.fr fd).setFirst (by omega) HX.out.2, if_pos rfl, (HI.out.2.1.trans fd).step ((Fr.refl [P] _).setCell (by simp) _) (fun z hz => .inr (by simp at hz; rw [hz]; exact Nat.le_trans H1.out.2.2.2.size HI.out.1.new)), (HI.out.2.2.1.fr fd (by simp)).fr ((Fr.refl [P] _).setCell (by simp) _) (by intro z hz hm; have := H1.out.2.2.1; have := H2.out.2.2.2.1; simp [blk] at hz hm; omega)⟩
          · have b1 : ((q : Int) == 0) = false := by simp; omega
            go_wp2
            go_meet
            case rel => exact ⟨first, HI.out.1, HI.out.1.fst x (by rw [← HQ.out.1]; omega), HI.out.2.1, HI.out.2.2.1⟩
        case rest =>
          obtain ⟨first', hT, hfx, hf, hcg⟩ := hcut
          obtain ⟨c1, c2, c3, z1, z2, z3⟩ := HQ.out.2 wc first' hT
          have hPS : P ∉ blk (sa x) := hT.off x (by omega)
          have q1 : ∀ y, (sup (blk (sa x)) wc.drew y).cell? ⟨P, 16 + x, none⟩ = some (.slice (sa x) q (sc x)) := fun y => (sup_fr (blk (sa x)) wc.drew y).cell ((Fr.drew1 [] wc).cell c2 (by simp)) hPS
          go_upto_region 11 with fail
          refine region_mixR 14 [(false, 0), (false, 1), (false, 2), (false, 3), (false, 4), (false, 5), (false, 6), (false, 7), (false, 8), (false, 11), (false, 12), (true, 9), (true, 10), (false, 13)] (blk (sa x)) (by kernel_rfl) (by kernel_rfl) (fun _ _ d _ _ h => by cases d <;> exact h) ?_
          simp only [List.map_cons, List.map_nil, List.getD_cons_zero, List.getD_cons_succ, List.drop_succ_cons, List.drop_zero, List.drop_nil]
          refine mixR_seg 11 rfl ?_
          simp only [List.take_succ_cons, List.take_zero, List.drop_succ_cons, List.drop_zero, List.map_cons, List.map_nil]
          repeat (go_big_quiet_step (fail))
          refine wpQuiet_nil ?_
          clear q1
          refine mixR_eff rfl ?_
          intro X hX
          go_wp2
          refine hX.out _ _ wc.drew (Fr.refl _ _) ((Fr.refl (blk (sa x)) wc.drew).alloc _) ?_
          clear hX X
          refine mixR_eff rfl ?_
          intro X hX
          obtain ⟨w4, hw4⟩ : ∃ w4, w4 = (wc.alloc (.cells #[.int .i64 (i : Nat)] 3)).drew := ⟨_, rfl⟩
          have f4 : Fr [] wc w4 := by rw [hw4]; exact ((Fr.refl [] wc).alloc _).drew
          have hcb : Cs w4 (some ⟨wc.heap.size, 0, none⟩) [.int .i64 (i : Nat)] := by rw [hw4]; exact cs_one _ _ _ _ ((Fr.drew1 [] _).blk (alloc_at wc _) (by simp))
          have fb4 : Fr (blk (sa x)) wc.drew w4 := by rw [hw4]; exact (((Fr.refl (blk (sa x)) wc).alloc _).drew).from_drew
          have HF := Lib.hid (And.intro hT (And.intro hfx (And.intro hf (And.intro hcg (And.intro f4 (And.intro hcb fb4))))))
          rw [← hw4]
          clear hT hfx hf hcg hw4 f4 hcb fb4
          refine wp_append sty_int _ _ rfl (.slice (sa x) q (sc x)) q (ints (symi ls x i)) (blk (sa x)) rfl (own_blk _ _ _) (by have := ((HF.out.1.rows x (by omega)).fr2 HF.out.2.2.2.2.1).own; rwa [← HQ.out.1] at this) (some ⟨wc.heap.size, 0, none⟩) 1 1 [.int .i64 (i : Nat)] rfl (Nat.le_refl _) (fun h => by cases h) HF.out.2.2.2.2.2.1 rfl (by intro u hu; simp only [List.mem_singleton] at hu; rw [hu]; rfl) (by omega) (by unfold maxLen; omega) ?_
          intro a5 c5 w5 A5
          have fb5 : Fr (blk (sa x)) wc.drew w5 := HF.out.2.2.2.2.2.2.step A5.fr fun y hy => .inl hy
          refine hX.out _ _ wc.drew (Fr.refl _ _) fb5 ?_
          clear hX X
          simp only [Act.put, List.setIfInBounds_toArray, List.set_cons_succ, List.set_cons_zero]
          clear c2 c3 z2 z3
          have T4 := HF.out.1.fr HF.out.2.2.2.2.1
          obtain ⟨A4, hA4, hs4, hlo4, hhi4, htp4⟩ := T4.box
          have hA5 := A5.fr.blk hA4 hPS
          have z2 := frozen_of hA5 (16 + x)
          have c2 := cell_of hA5 (16 + x)
          rw [hhi4 x (by omega)] at c2
          have hA6 := setCell_of hA5 (o := 16 + x) (.slice a5 (q + 1) c5)
          have c3 := cell_of hA6 32
          rw [Array.getElem?_setIfInBounds_ne (by omega), htp4] at c3
          have z3 := frozen_of hA6 32
          have HA := Lib.hid (And.intro A5 fb5)
          clear hA4 hs4 hlo4 hhi4 htp4 hA5 hA6 A5 fb5 T4 c1 z1
          refine mixR_seg 1 rfl ?_
          simp only [List.take_succ_cons, List.take_zero, List.drop_succ_cons, List.drop_zero, List.map_cons, List.map_nil]
          repeat (go_big_quiet_step (fail))
          refine wpQuiet_nil ?_
          refine mixR_nil ?_
          have hT6 := TabI.push (w6 := w5.setCell ⟨P, 16 + x, none⟩ (.slice a5 (q + 1) c5)) HF.out.1 HF.out.2.1 (by omega) hx0 HI.out.2.2.2.1 HQ.out.1 HF.out.2.2.2.2.1 HA.out.1 (Fr.refl [] _) (Fr.refl [] _)
          have hf6 : ∀ u : Value, Fr [] w ((w5.setCell ⟨P, 16 + x, none⟩ (.slice a5 (q + 1) c5)).setCell ⟨P, 32, none⟩ u) := fun u => by
            have f1 : Fr [] w wc := HF.out.2.2.1
            have f2 : Fr (P :: blk (sa x)) wc ((w5.setCell ⟨P, 16 + x, none⟩ (.slice a5 (q + 1) c5)).setCell ⟨P, 32, none⟩ u) := ((((Fr.refl _ wc).drew).trans (HA.out.2.mono (fun y hy => .inl (List.mem_cons_of_mem _ hy)))).setCell (by simp) _).setCell (by simp) _
            exact f1.step f2 fun z hz => by
              rcases List.mem_cons.1 hz with rfl | hz
              · exact .inr (Nat.le_trans H1.out.2.2.2.size HF.out.1.new)
              · exact .inr (Nat.le_trans H1.out.2.2.2.size ((HF.out.1.rows x (by omega)).new z hz))
          have hcg6 : ∀ u : Value, Cs ((w5.setCell ⟨P, 16 + x, none⟩ (.slice a5 (q + 1) c5)).setCell ⟨P, 32, none⟩ u) (some ⟨g, 0, none⟩) ((codesOf ls).map fun x => .int .u32 (x : Nat)) := fun u => by
            have f2 : Fr (P :: blk (sa x)) wc ((w5.setCell ⟨P, 16 + x, none⟩ (.slice a5 (q + 1) c5)).setCell ⟨P, 32, none⟩ u) := ((((Fr.refl _ wc).drew).trans (HA.out.2.mono (fun y hy => .inl (List.mem_cons_of_mem _ hy)))).setCell (by simp) _).setCell (by simp) _
            refine HF.out.2.2.2.1.fr f2 fun y hy hm => ?_
            simp [blk] at hy
            have hg : g < w1.heap.size := H1.out.2.2.1
            rcases List.mem_cons.1 hm with h1 | h1
            · have := HF.out.1.new; omega
            · have := (HF.out.1.rows x (by omega)).new y h1; omega
          have HZ := Lib.hid (And.intro hT6 (And.intro hf6 hcg6))
          clear hT6 hf6 hcg6
          go_wp2
          · go_roundg k
            case measure => omega
            case rel =>
              have hD : max D x = x := by omega
              have hT6 := HZ.out.1
              rw [hD] at hT6
              exact ⟨i + 1, x, first', _, _, by go_num, by omega, hT6, HZ.out.2.1 _, HZ.out.2.2 _⟩
          · go_roundg k
            case measure => omega
            case rel =>
              have hD : max D x = D := by omega
              have hT6 := HZ.out.1
              rw [hD] at hT6
              exact ⟨i + 1, D, first', _, _, by go_num, by omega, hT6, HZ.out.2.1 _, HZ.out.2.2 _⟩
    · obtain rfl : i = N := by omega
      have HI := Lib.hid (And.intro hT hf)
      clear hT hf hcg hi hik
      go_wp2
      go_ret2
      have hT := HI.out.1
      rw [H.out.2.2.1] at hT
      exact ⟨P, D, first, sa, sc, rfl, hT.pre H1.out.2.2.2, HI.out.2⟩
end Go.Proofs.YtolkoidbkaidkaaGreat.huf
/-
  huff.New told as a Tab, and what it says of lengths that take too much.
-/
namespace Go.Proofs.YtolkoidbkaidkaaGreat.huf
open Go Go.RowKit Go.Proofs.YtolkoidbkaidkaaGreat.lib Go.Proofs.YtolkoidbkaidkaaGreat.bm Go.Proofs.YtolkoidbkaidkaaGreat.bl

/-- A table with its blocks: they lie within [B, E). -/
structure TabB (w : World) (P D : Nat) (ls : List Nat) (first : Nat → Nat) (sa : Nat → Option Addr) (sc : Nat → Nat) (B E : Nat) : Prop where
  tab : Tab w P D ls first sa sc
  at_ : B ≤ P ∧ P < E
  row : ∀ l, l < 16 → ∀ x ∈ blk (sa l), B ≤ x ∧ x < E
def NewTab (w : World) (ls : List Nat) (e : Ending) (w' : World) : Prop :=
  ∃ P D first sa sc, e = .returned (.tuple #[.pointer (some ⟨P, 0, none⟩), .int .i64 0]) ∧ TabB w' P D ls first sa sc w.heap.size w'.heap.size ∧ Fr [] w w'
theorem new_tab (a : Option Addr) (cap : Nat) (ls : List Nat) (w : World) (h : Ri w a cap ls) (hle : ∀ l ∈ ls, l ≤ 15) (hlen : ls.length ≤ 400) (hw : weight ls ≤ 32768) :
    Calls Tryz.prog 59 #[.slice a ls.length cap] w (NewTab w ls) :=
  (new_any a cap ls w h hle hlen hw).mono fun e w' ⟨P, D, first, sa, sc, h1, h2, h3⟩ => ⟨P, D, first, sa, sc, h1, ⟨h2.tab hlen, ⟨h2.new, by obtain ⟨A, hA, _⟩ := h2.box; exact lt_of_block hA⟩, fun l hl x hx => ⟨(h2.rows l hl).new x hx, (h2.rows l hl).lt x hx⟩⟩, h3⟩
theorem codes_bad (a : Option Addr) (cap : Nat) (ls : List Nat) (w : World) (h : Ri w a cap ls) (hle : ∀ l ∈ ls, l ≤ 15) (hlen : ls.length ≤ 400) (hw : 32768 < weight ls) :
    Calls Tryz.prog 76 #[.slice a ls.length cap] w fun e w' => e = .returned (.tuple #[.slice none 0 0, .int .i64 3]) ∧ Fr [] w w' := by
  have hc := count_any a cap ls w h hle (by omega)
  have hwl := weight_le ls
  obtain ⟨W, hW⟩ : ∃ W, W = weight ls := ⟨_, rfl⟩
  obtain ⟨N, hN⟩ : ∃ N, N = ls.length := ⟨_, rfl⟩
  rw [← hW] at hc hw hwl
  rw [← hN] at hc hlen hwl ⊢
  have H := Lib.hid hc
  clear hc hW hN h hle
  go_enter Tryz.func76, Tryz.ntmps76
  go_wp2_with (go_at_call 86; refine H.out.mono ?_; rintro e w1 ⟨rfl, rfl⟩)
  go_ret2
  exact ⟨rfl, .refl _ _⟩
theorem new_bad (a : Option Addr) (cap : Nat) (ls : List Nat) (w : World) (h : Ri w a cap ls) (hle : ∀ l ∈ ls, l ≤ 15) (hlen : ls.length ≤ 400) (hw : 32768 < weight ls) :
    Calls Tryz.prog 59 #[.slice a ls.length cap] w fun e w' => e = .returned (.tuple #[.pointer none, .int .i64 3]) ∧ Fr [] w w' := by
  have H := Lib.hid (codes_bad a cap ls w h hle hlen hw)
  obtain ⟨N, hN⟩ : ∃ N, N = ls.length := ⟨_, rfl⟩
  rw [← hN] at H ⊢
  clear h hle hw hN
  go_enter Tryz.func59, Tryz.ntmps59
  go_wp2_with (go_at_call 76; refine H.out.mono ?_; rintro e w1 ⟨rfl, f1⟩)
  go_ret2
  exact ⟨rfl, f1⟩
end Go.Proofs.YtolkoidbkaidkaaGreat.huf
/-
  inflate: a symbol read, length, distance.
-/
namespace Go.Proofs.YtolkoidbkaidkaaGreat.inf
open Go Go.RowKit Go.Proofs.YtolkoidbkaidkaaGreat.lib Go.Proofs.YtolkoidbkaidkaaGreat.bm Go.Proofs.YtolkoidbkaidkaaGreat.bl Go.Proofs.YtolkoidbkaidkaaGreat.huf

theorem hsym_lt {ls : List Nat} {n v s : Nat} (h : hsym ls n v = some s) : s < ls.length ∧ 0 < n := by
  unfold hsym at h
  have h1 := List.mem_of_find?_eq_some h
  have h2 := List.find?_some h
  simp at h1 h2
  exact ⟨h1, h2.1⟩
theorem hread_spec (ls : List Nat) : ∀ (f n v : Nat) (bits : List Bool), ((hread ls f n v bits).2.2 = 0 ∨ (hread ls f n v bits).2.2 = 3 ∨ (hread ls f n v bits).2.2 = 4) ∧
    ((hread ls f n v bits).2.2 = 0 → (hread ls f n v bits).1 < ls.length ∧ 0 < (hread ls f n v bits).2.1)
  | 0, n, v, bits => by
    cases h : hsym ls n v with
    | some s => rw [hread_hit h]; exact ⟨.inl rfl, fun _ => hsym_lt h⟩
    | none => rw [hread_end h]; exact ⟨.inr (.inl rfl), fun h => by cases h⟩
  | f + 1, n, v, bits => by
    cases h : hsym ls n v with
    | some s => rw [hread_hit h]; exact ⟨.inl rfl, fun _ => hsym_lt h⟩
    | none =>
      by_cases hm : hmore ls n v = true
      · cases bits with
        | nil => rw [hread_torn h hm]; exact ⟨.inr (.inr rfl), fun h => by cases h⟩
        | cons b t => rw [hread_step h hm]; exact hread_spec ls f (n + 1) _ t
      · rw [hread_form h (by simpa using hm)]; exact ⟨.inr (.inl rfl), fun h => by cases h⟩
theorem isym_lt {bs : List UInt8} {ls : List Nat} {a s a1 : Nat} (h : isym bs ls a = .ok (s, a1)) : s < ls.length ∧ a < a1 := by
  unfold isym at h
  split at h
  · rename_i hc
    have := (hread_spec ls 15 0 0 ((bytesBits bs).drop a)).2 hc
    simp only [Except.ok.injEq, Prod.mk.injEq] at h
    omega
  · cases h
theorem itake_lt {bs : List UInt8} {a n v a1 : Nat} (h : itake bs a n = .ok (v, a1)) : v < 2 ^ n := by
  unfold itake at h
  split at h
  · simp only [Except.ok.injEq, Prod.mk.injEq] at h
    rw [← h.1]
    exact bval_take_lt _ _
  · cases h
/-- A table that the reader's steps leave alone. -/
structure Tb (w : World) (P : Nat) (ls : List Nat) (X : List Nat) : Prop where
  ex : ∃ D first sa sc, Tab w P D ls first sa sc ∧ P < w.heap.size ∧ P ∉ X ∧ ∀ l, l < 16 → ∀ x ∈ blk (sa l), x < w.heap.size ∧ x ∉ X
theorem Tb.fr {S : List Nat} {w w' : World} {P : Nat} {ls X : List Nat} (h : Tb w P ls X) (f : Fr S w w') (hS : ∀ x ∈ S, x ∈ X ∨ w.heap.size ≤ x) : Tb w' P ls X := by
  obtain ⟨D, first, sa, sc, ht, h1, h2, h3⟩ := h.ex
  refine ⟨D, first, sa, sc, ht.frS f (fun hP => ?_) (fun l hl _ x hx hx2 => ?_), Nat.lt_of_lt_of_le h1 f.size, h2, fun l hl x hx => ⟨Nat.lt_of_lt_of_le (h3 l hl x hx).1 f.size, (h3 l hl x hx).2⟩⟩
  · rcases hS P hP with k | k
    · exact h2 k
    · omega
  · rcases hS x hx2 with k | k
    · exact (h3 l hl x hx).2 k
    · have := (h3 l hl x hx).1; omega
/-- Behind a way of the reader's. -/
theorem Tb.way {w w' : World} {R p P : Nat} {oa oa' : Option Addr} {ls : List Nat} (h : Tb w P ls (R :: p :: blk oa)) (f : Way w R p oa w' oa') : Tb w' P ls (R :: p :: blk oa') := by
  obtain ⟨D, first, sa, sc, ht, h1, h2, h3⟩ := h.ex
  exact ⟨D, first, sa, sc, ht.frS f.fr h2 (fun l hl _ x hx => (h3 l hl x hx).2), Nat.lt_of_lt_of_le h1 f.fr.size, f.old h1 h2, fun l hl x hx => ⟨Nat.lt_of_lt_of_le (h3 l hl x hx).1 f.fr.size, f.old (h3 l hl x hx).1 (h3 l hl x hx).2⟩⟩
theorem sym_any (R p P : Nat) (F : List Nat) (bs out : List UInt8) (ls : List Nat) (at_ oc most : Nat) (oa : Option Addr) (w : World) (h : St w R p F bs at_ out oa oc most) (hT : Tb w P ls (R :: p :: blk oa)) :
    Calls Tryz.prog 77 #[.pointer (some ⟨P, 0, none⟩), .pointer (some ⟨p, 0, none⟩)] w (RetV w R p F bs out oa oc most (isym bs ls at_)) := by
  obtain ⟨D, first, sa, sc, ht, h1, h2, h3⟩ := hT.ex
  have hp : P ≠ p := fun e => h2 (by simp [e])
  have hsp := hread_spec ls 15 0 0 ((bytesBits bs).drop at_)
  obtain ⟨r, hr0⟩ : ∃ r, r = hread ls 15 0 0 ((bytesBits bs).drop at_) := ⟨_, rfl⟩
  unfold isym
  rw [← hr0] at hsp ⊢
  obtain ⟨s, m, c⟩ := r
  refine (read_any P D ls first sa sc p F bs at_ w ht h.rd hp (fun l hl _ x hx e => (h3 l hl x hx).2 (by simp [e])) s m c hr0.symm).mono ?_
  rintro e w' ⟨rfl, hr, f⟩
  simp only at hsp ⊢
  by_cases hc : c = 0
  · subst hc
    exact .inr ⟨s, at_ + m, by rw [if_pos rfl], rfl, h.take f hr, f⟩
  · exact .inl ⟨_, c, by rw [if_neg hc], by omega, by omega, rfl, f.mono (by simp)⟩
set_option maxRecDepth 100000 in
set_option maxHeartbeats 1000000 in
theorem length_any (R p : Nat) (F : List Nat) (bs out : List UInt8) (at_ oc most s : Nat) (oa : Option Addr) (w : World) (h : St w R p F bs at_ out oa oc most) (h1 : 256 ≤ s) (h2 : s < 286) :
    Calls Tryz.prog 88 #[.pointer (some ⟨R, 0, none⟩), .int .i64 (s : Nat)] w (RetV w R p F bs out oa oc most (ilength bs s at_)) := by
  by_cases h3 : s < 265
  · have e : ilength bs s at_ = .ok (s - 254, at_) := by unfold ilength; rw [if_pos h3]
    rw [e]
    have H := Lib.hid h
    clear h e
    go_enter Tryz.func88, Tryz.ntmps88
    go_wp2
    go_ret2
    exact .inr ⟨_, _, rfl, by rw [show ((s - 254 : Nat) : Int) = (s : Int) - 254 by omega]; rfl, H.out, .refl _ _⟩
  · by_cases h4 : s = 285
    · have e : ilength bs s at_ = .ok (258, at_) := by unfold ilength; rw [if_neg h3, if_pos h4]
      rw [e]
      subst h4
      have H := Lib.hid h
      clear h e
      go_enter Tryz.func88, Tryz.ntmps88
      go_wp2
      go_ret2
      exact .inr ⟨_, _, rfl, rfl, H.out, .refl _ _⟩
    · have b4 : ((s : Int) == 285) = false := by simp; omega
      obtain ⟨n, hn⟩ : ∃ n, n = (s - 261) / 4 := ⟨_, rfl⟩
      have hn5 : n ≤ 5 := by omega
      have ht := take_any R p F bs out at_ oc most n oa w h (by omega)
      have hbad : ∀ c, itake bs at_ n = .error c → ilength bs s at_ = .error c := fun c hc => by unfold ilength; rw [if_neg h3, if_neg h4, ← hn, hc]
      have hgood : ∀ v a1, itake bs at_ n = .ok (v, a1) → ilength bs s at_ = .ok (3 + (4 + (s - 265) % 4) * 2 ^ n + v, a1) := fun v a1 hc => by unfold ilength; rw [if_neg h3, if_neg h4, ← hn, hc]
      obtain ⟨M, hM⟩ : ∃ M, M = ilength bs s at_ := ⟨_, rfl⟩
      rw [← hM] at hbad hgood ⊢
      obtain ⟨k, hk⟩ : ∃ k, k = (4 + (s - 265) % 4) * 2 ^ n := ⟨_, rfl⟩
      rw [← hk] at hgood
      have hk2 : k ≤ 7 * 2 ^ 5 := by rw [hk]; exact Nat.mul_le_mul (by omega) (Nat.pow_le_pow_right (by decide) hn5)
      have hk3 : (4 + ((s : Int) - 265) % 4) * 2 ^ n = (k : Nat) := by
        have e0 : ((s : Int) - 265) % 4 = ((s - 265) % 4 : Nat) := by omega
        rw [e0, hk]; push_cast; rfl
      have H := Lib.hid (And.intro ht (And.intro hn (And.intro hbad (And.intro hgood hk3))))
      have hM2 := Lib.hid hM
      clear hM hbad hgood hk hk3
      have e1 : ((s : Int) - 261) / 4 = (n : Nat) := by omega
      clear h ht hn
      go_enter Tryz.func88, Tryz.ntmps88
      go_wp2_with (go_at_call 17; refine H.out.1.mono ?_; rintro e w1 (⟨v, c, hm, hc0, hc1, rfl, f1⟩ | ⟨v, a1, hm, rfl, s1, f1⟩))
      · go_ret2
        exact .inl ⟨_, c, H.out.2.2.1 c hm, hc0, hc1, rfl, f1⟩
      · go_ret2
        refine .inr ⟨_, _, H.out.2.2.2.1 v a1 hm, ?_, s1, f1⟩
        have hv := itake_lt hm
        have hv2 : 2 ^ n ≤ 2 ^ 5 := Nat.pow_le_pow_right (by decide) hn5
        have e2 : wrap64 (wrap64 (3 + wrap64 ((4 + ((s : Int) - 265) % 4) * 2 ^ n)) + (v : Nat)) = ((3 + k + v : Nat) : Int) := by
          rw [H.out.2.2.2.2]
          unfold wrap64
          omega
        show Ending.returned (.tuple #[.int .i64 (wrap64 (wrap64 (3 + wrap64 ((4 + ((s : Int) - 265) % 4) * 2 ^ n)) + (v : Nat))), .int .i64 0]) = _
        rw [e2]
set_option maxRecDepth 100000 in
set_option maxHeartbeats 1000000 in
theorem distance_any (R p : Nat) (F : List Nat) (bs out : List UInt8) (at_ oc most s : Nat) (oa : Option Addr) (w : World) (h : St w R p F bs at_ out oa oc most) (h2 : s < 30) :
    Calls Tryz.prog 89 #[.pointer (some ⟨R, 0, none⟩), .int .i64 (s : Nat)] w (RetV w R p F bs out oa oc most (idist bs s at_)) := by
  by_cases h3 : s < 4
  · have e : idist bs s at_ = .ok (s + 1, at_) := by unfold idist; rw [if_pos h3]
    rw [e]
    have H := Lib.hid h
    clear h e
    go_enter Tryz.func89, Tryz.ntmps89
    go_wp2
    go_ret2
    exact .inr ⟨_, _, rfl, rfl, H.out, .refl _ _⟩
  · obtain ⟨n, hn⟩ : ∃ n, n = (s - 2) / 2 := ⟨_, rfl⟩
    have hn5 : n ≤ 13 := by omega
    have ht := take_any R p F bs out at_ oc most n oa w h (by omega)
    have hbad : ∀ c, itake bs at_ n = .error c → idist bs s at_ = .error c := fun c hc => by unfold idist; rw [if_neg h3, ← hn, hc]
    have hgood : ∀ v a1, itake bs at_ n = .ok (v, a1) → idist bs s at_ = .ok (1 + (2 + s % 2) * 2 ^ n + v, a1) := fun v a1 hc => by unfold idist; rw [if_neg h3, ← hn, hc]
    obtain ⟨M, hM⟩ : ∃ M, M = idist bs s at_ := ⟨_, rfl⟩
    rw [← hM] at hbad hgood ⊢
    obtain ⟨k, hk⟩ : ∃ k, k = (2 + s % 2) * 2 ^ n := ⟨_, rfl⟩
    rw [← hk] at hgood
    have hk2 : k ≤ 3 * 2 ^ 13 := by rw [hk]; exact Nat.mul_le_mul (by omega) (Nat.pow_le_pow_right (by decide) hn5)
    have hk3 : (2 + (s : Int) % 2) * 2 ^ n = (k : Nat) := by rw [hk]; push_cast; rfl
    have H := Lib.hid (And.intro ht (And.intro hn (And.intro hbad (And.intro hgood hk3))))
    have hM2 := Lib.hid hM
    clear hM hbad hgood hk hk3
    have e1 : ((s : Int) - 2) / 2 = (n : Nat) := by omega
    clear h ht hn
    go_enter Tryz.func89, Tryz.ntmps89
    go_wp2_with (go_at_call 17; refine H.out.1.mono ?_; rintro e w1 (⟨v, c, hm, hc0, hc1, rfl, f1⟩ | ⟨v, a1, hm, rfl, s1, f1⟩))
    · go_ret2
      exact .inl ⟨_, c, H.out.2.2.1 c hm, hc0, hc1, rfl, f1⟩
    · go_ret2
      refine .inr ⟨_, _, H.out.2.2.2.1 v a1 hm, ?_, s1, f1⟩
      have hv := itake_lt hm
      have hv2 : 2 ^ n ≤ 2 ^ 13 := Nat.pow_le_pow_right (by decide) hn5
      have e2 : wrap64 (wrap64 (1 + wrap64 ((2 + (s : Int) % 2) * 2 ^ n)) + (v : Nat)) = ((1 + k + v : Nat) : Int) := by
        rw [H.out.2.2.2.2]
        unfold wrap64
        omega
      show Ending.returned (.tuple #[.int .i64 (wrap64 (wrap64 (1 + wrap64 ((2 + (s : Int) % 2) * 2 ^ n)) + (v : Nat))), .int .i64 0]) = _
      rw [e2]
end Go.Proofs.YtolkoidbkaidkaaGreat.inf
/-
  inflate: match.
-/
namespace Go.Proofs.YtolkoidbkaidkaaGreat.inf
open Go Go.RowKit Go.Proofs.YtolkoidbkaidkaaGreat.lib Go.Proofs.YtolkoidbkaidkaaGreat.bm Go.Proofs.YtolkoidbkaidkaaGreat.bl Go.Proofs.YtolkoidbkaidkaaGreat.huf

theorem idist_pos {bs : List UInt8} {s a b a1 : Nat} (h : idist bs s a = .ok (b, a1)) : 0 < b ∧ b ≤ 100000 ∨ 30 ≤ s := by
  by_cases hs : 30 ≤ s
  · exact .inr hs
  · left
    unfold idist at h
    split at h
    · simp only [Except.ok.injEq, Prod.mk.injEq] at h; omega
    · have h13 : (s - 2) / 2 ≤ 13 := by omega
      have hp : (2 + s % 2) * 2 ^ ((s - 2) / 2) ≤ 3 * 2 ^ 13 := Nat.mul_le_mul (by omega) (Nat.pow_le_pow_right (by decide) h13)
      have hp2 : 2 ^ ((s - 2) / 2) ≤ 2 ^ 13 := Nat.pow_le_pow_right (by decide) h13
      cases ht : itake bs a ((s - 2) / 2) with
      | error e => rw [ht] at h; cases h
      | ok x =>
        obtain ⟨v, a2⟩ := x
        have hv := itake_lt ht
        rw [ht] at h
        simp only [Except.ok.injEq, Prod.mk.injEq] at h
        omega
theorem ilength_le {bs : List UInt8} {s a n a1 : Nat} (h : ilength bs s a = .ok (n, a1)) (hs : s < 286) : n ≤ 100000 := by
  unfold ilength at h
  split at h
  · simp only [Except.ok.injEq, Prod.mk.injEq] at h; omega
  · split at h
    · simp only [Except.ok.injEq, Prod.mk.injEq] at h; omega
    · have h13 : (s - 261) / 4 ≤ 6 := by omega
      have hp : (4 + (s - 265) % 4) * 2 ^ ((s - 261) / 4) ≤ 7 * 2 ^ 6 := Nat.mul_le_mul (by omega) (Nat.pow_le_pow_right (by decide) h13)
      have hp2 : 2 ^ ((s - 261) / 4) ≤ 2 ^ 6 := Nat.pow_le_pow_right (by decide) h13
      cases ht : itake bs a ((s - 261) / 4) with
      | error e => rw [ht] at h; cases h
      | ok x =>
        obtain ⟨v, a2⟩ := x
        have hv := itake_lt ht
        rw [ht] at h
        simp only [Except.ok.injEq, Prod.mk.injEq] at h
        omega
theorem iput_err {most : Nat} {out : List UInt8} {c : UInt8} {e : Nat} (h : iput most out c = .error e) : e = 5 := by
  unfold iput at h
  split at h
  · simp only [Except.error.injEq] at h; omega
  · cases h
theorem iput_ok {most : Nat} {out o : List UInt8} {c : UInt8} (h : iput most out c = .ok o) : o = out ++ [c] ∧ out.length < most := by
  unfold iput at h
  split at h
  · cases h
  · simp only [Except.ok.injEq] at h; exact ⟨h.symm, by omega⟩
/-- The cell of a byte made. -/
theorem St.byte {w : World} {R p : Nat} {F : List Nat} {bs out : List UInt8} {at_ oc most : Nat} {oa : Option Addr} (h : St w R p F bs at_ out oa oc most) {i : Nat} (hi : i < out.length) :
    ∃ g o, oa = some ⟨g, o, none⟩ ∧ w.cell? ⟨g, o + i, none⟩ = some (.int .u8 ((out[i]?.getD 0).toNat : Nat)) := by
  obtain ⟨g, o, e, hc⟩ := (cs_of_owns h.own).at (by simp; omega)
  refine ⟨g, o, e, hc i _ ?_⟩
  rw [List.getElem?_map, List.getElem?_eq_getElem hi]
  rfl
set_option maxRecDepth 100000 in
set_option maxHeartbeats 4000000 in
theorem match_any (R p Q : Nat) (F : List Nat) (bs out : List UInt8) (dl : List Nat) (at_ oc most s : Nat) (oa : Option Addr) (w : World) (h : St w R p F bs at_ out oa oc most) (hT : Tb w Q dl (R :: p :: blk oa)) (h1 : 256 ≤ s) (h2 : s < 286) :
    Calls Tryz.prog 78 #[.pointer (some ⟨R, 0, none⟩), .int .i64 (s : Nat), .pointer (some ⟨Q, 0, none⟩)] w (Ret w R p F bs oa most (imatch bs most dl s out at_)) := by
  obtain ⟨M, hM⟩ : ∃ M, M = imatch bs most dl s out at_ := ⟨_, rfl⟩
  rw [← hM]
  obtain ⟨N, hN⟩ : ∃ N, N = out.length := ⟨_, rfl⟩
  have H := Lib.hid (And.intro (length_any R p F bs out at_ oc most s oa w h h1 h2) (And.intro hT (And.intro hM (And.intro h hN))))
  have hsm := h.sm
  clear h hT hM hN
  go_enter Tryz.func78, Tryz.ntmps78
  go_upto_block 0 with (first | (go_at_call 88; refine H.out.1.mono ?_; rintro e w1 (⟨v, c, hm, hc0, hc1, rfl, f1⟩ | ⟨n, a1, hm, rfl, s1, f1⟩); all_goals (try (have c0 := cell_of s1.box 0; simp only [List.getElem?_toArray, List.getElem?_cons_zero, List.getElem?_cons_succ] at c0; have K1 := Lib.hid (And.intro hm (And.intro s1 f1)); clear hm s1 f1))) | (go_at_call 77; refine (sym_any R p Q F bs out dl a1 oc most oa w1 K1.out.2.1 (H.out.2.1.fr K1.out.2.2 (by simp))).mono ?_; rintro e w2 (⟨v2, c, hm, hc0, hc1, rfl, f1⟩ | ⟨d, a2, hm, rfl, s2, f2⟩); all_goals (try (have K2 := Lib.hid (And.intro hm (And.intro s2 f2)); clear hm s2 f2))) | (go_at_call 89; refine (distance_any R p F bs out a2 oc most d oa w2 K2.out.2.1 (by omega)).mono ?_; rintro e w3 (⟨v3, c, hm, hc0, hc1, rfl, f1⟩ | ⟨b, a3, hm, rfl, s3, f3⟩); all_goals (try (have c1 := cell_of s3.box 1; rw [← H.out.2.2.2.2] at c1; simp only [List.getElem?_toArray, List.getElem?_cons_zero, List.getElem?_cons_succ] at c1; have K3 := Lib.hid (And.intro hm (And.intro s3 f3)); clear hm s3 f3))))
  · go_ret
    exact .inl ⟨c, by rw [H.out.2.2.1]; simp [imatch, hm], hc0, hc1, rfl, f1⟩
  · go_ret
    exact .inl ⟨c, by rw [H.out.2.2.1]; simp [imatch, K1.out.1, hm], hc0, hc1, rfl, (K1.out.2.2.mono (by simp)).trans f1⟩
  · go_ret
    exact .inl ⟨3, by rw [H.out.2.2.1]; simp [imatch, K1.out.1, K2.out.1, show 30 ≤ d by omega], by decide, by decide, rfl, (K1.out.2.2.trans K2.out.2.2).mono (by simp)⟩
  · go_ret
    exact .inl ⟨c, by rw [H.out.2.2.1]; simp [imatch, K1.out.1, K2.out.1, hm, show ¬ 30 ≤ d by omega], hc0, hc1, rfl, ((K1.out.2.2.trans K2.out.2.2).mono (by simp)).trans f1⟩
  · go_ret
    exact .inl ⟨3, by rw [H.out.2.2.1]; simp only [imatch, K1.out.1, K2.out.1, K3.out.1, if_neg (show ¬ 30 ≤ d by omega)]; rw [if_pos (by rw [← H.out.2.2.2.2]; omega)], by decide, by decide, rfl, ((K1.out.2.2.trans K2.out.2.2).trans K3.out.2.2).mono (by simp)⟩
  · have hM3 : M = match icopy most b n out with
        | .error e => .error e
        | .ok o => .ok (o, a3) := by
      rw [H.out.2.2.1]
      simp only [imatch, K1.out.1, K2.out.1, K3.out.1, if_neg (show ¬ 30 ≤ d by omega)]
      rw [if_neg (by rw [← H.out.2.2.2.2]; omega)]
      rfl
    have hbp : 0 < b ∧ b ≤ 100000 := by
      rcases idist_pos K3.out.1 with k | k
      · exact k
      · omega
    have hnl := ilength_le K1.out.1 h2
    have HM := Lib.hid (And.intro hM3 hbp.1)
    have hbp1 := hbp.2
    clear hM3 hbp c0 c1
    have dN : decide (N < b) = false := by simp; omega
    simp only [dN]
    clear dN
    go_wp2
    go_loopg [6, 11, 52] n (fun k s6 s11 s52 wr => ∃ (j : Nat) (out1 : List UInt8) (oa1 : Option Addr) (oc1 : Nat), s52 = .int .i64 (j : Nat) ∧ j + k = n ∧ St wr R p F bs a3 out1 oa1 oc1 most ∧ Way w3 R p oa wr oa1 ∧ icopy most b k out1 = icopy most b n out ∧ b ≤ out1.length)
    case atStart => exact ⟨0, out, oa, oc, rfl, by omega, K3.out.2.1, .refl _ _ _ _, rfl, by rw [← H.out.2.2.2.2]; omega⟩
    case round =>
      obtain ⟨j, out1, oa1, oc1, rfl, hjk, hst, hway, hic, hbl⟩ := hrel
      have hW : Fr (R :: p :: blk oa) w wr := (((K1.out.2.2.trans K2.out.2.2).trans K3.out.2.2).mono (by simp)).trans hway.fr
      by_cases hj : j < n
      · obtain ⟨k, rfl⟩ : ∃ k, gk = k + 1 := ⟨gk - 1, by omega⟩
        obtain ⟨N1, hN1⟩ : ∃ N1, N1 = out1.length := ⟨_, rfl⟩
        have hb0 := HM.out.2
        obtain ⟨g, o, rfl, hby⟩ := hst.byte (i := N1 - b) (by omega)
        obtain ⟨u, hu⟩ : ∃ u, u = out1[N1 - b]?.getD 0 := ⟨_, rfl⟩
        have c1 := cell_of hst.box 1
        simp only [List.getElem?_toArray, List.getElem?_cons_zero, List.getElem?_cons_succ] at c1
        rw [← hN1] at c1
        rw [← hu] at hby
        have hom : N1 ≤ most := by rw [hN1]; exact hst.om
        have hbl1 : b ≤ N1 := by rw [hN1]; exact hbl
        rw [show o + (N1 - b) = (o + (N1 - b) : Nat) from rfl] at hby
        have HJ := Lib.hid (And.intro hst (And.intro hway (And.intro hic (And.intro hbl (And.intro hN1 (And.intro hu hW))))))
        clear hst hway hic hbl hN1 hu hW
        go_upto_region 16 with fail
        refine region_tail 14 (by kernel_rfl) (by kernel_rfl) ?_
        simp only [List.take_succ_cons, List.take_zero, List.drop_succ_cons, List.drop_zero]
        repeat (go_big_quiet_step (fail))
        refine wpQuiet_nil ?_
        have sd := HJ.out.1.fr0 (Fr.drew1 [] wr)
        have HD := Lib.hid sd
        clear sd
        go_wp2_with (go_at_call 58; refine (put_any R p F bs out1 a3 oc1 most _ u wr.drew HD.out).mono ?_; rintro e w4 (⟨c, hm, hc0, hc1, rfl, f1⟩ | ⟨out2, a4, oa2, oc2, hm, rfl, s4, f4⟩); all_goals (have Km := Lib.hid hm; clear hm); all_goals (try (have K4 := Lib.hid (And.intro s4 f4); clear s4 f4)))
        · go_ret
          have hm := Km.out
          cases hp : iput most out1 u with
          | error e =>
            rw [hp] at hm
            have hec : e = c := by simpa [Except.map] using hm
            have e1 : icopy most b n out = .error c := by rw [← HJ.out.2.2.1, icopy, ← HJ.out.2.2.2.2.1, ← HJ.out.2.2.2.2.2.1, hp, hec]
            exact .inl ⟨c, by rw [HM.out.1, e1], hc0, hc1, rfl, (HJ.out.2.2.2.2.2.2.drew).step f1 (fun x hx => by
              rcases List.mem_cons.1 hx with h3 | hx
              · exact .inl (by simp [h3])
              · rcases List.mem_cons.1 hx with h3 | hx
                · exact .inl (by simp [h3])
                · rcases HJ.out.2.1.new x hx with h3 | h3
                  · exact .inl (by simp [h3])
                  · exact .inr (Nat.le_trans (Nat.le_trans (Nat.le_trans K1.out.2.2.size K2.out.2.2.size) K3.out.2.2.size) h3))⟩
          | ok o2 => rw [hp] at hm; cases hm
        · go_roundg k
          case measure => omega
          case rel =>
            have hm := Km.out
            cases hp : iput most out1 u with
            | error e => rw [hp] at hm; cases hm
            | ok o2 =>
              rw [hp] at hm
              have hm2 : o2 = out2 ∧ a3 = a4 := by simpa [Except.map] using hm
              obtain ⟨rfl, rfl⟩ := hm2
              have hi := iput_ok hp
              refine ⟨j + 1, o2, oa2, oc2, by go_num, by omega, K4.out.1, HJ.out.2.1.trans ((Way.of0 _ _ _ _ _ (Fr.drew1 [] wr)).trans K4.out.2), ?_, by rw [hi.1]; simp; have := HJ.out.2.2.2.1; omega⟩
              rw [← HJ.out.2.2.1, icopy, ← HJ.out.2.2.2.2.1, ← HJ.out.2.2.2.2.2.1, hp]
      · have hk0 : gk = 0 := by omega
        subst hk0
        have e1 : icopy most b n out = .ok out1 := by rw [← hic, icopy]
        have HE := Lib.hid (And.intro hst (And.intro hway e1))
        clear hst hway hic hbl e1
        obtain rfl : j = n := by omega
        go_wp2
        go_ret
        exact .inr ⟨out1, a3, oa1, oc1, by rw [HM.out.1, HE.out.2.2], rfl, HE.out.1, (Way.of _ _ _ _ _ ((K1.out.2.2.trans K2.out.2.2).trans K3.out.2.2)).trans HE.out.2.1⟩
end Go.Proofs.YtolkoidbkaidkaaGreat.inf
/-
  inflate: symbols.
-/
namespace Go.Proofs.YtolkoidbkaidkaaGreat.inf
open Go Go.RowKit Go.Proofs.YtolkoidbkaidkaaGreat.lib Go.Proofs.YtolkoidbkaidkaaGreat.bm Go.Proofs.YtolkoidbkaidkaaGreat.bl Go.Proofs.YtolkoidbkaidkaaGreat.huf

theorem put_n (R p : Nat) (F : List Nat) (bs out : List UInt8) (at_ oc most s : Nat) (oa : Option Addr) (w : World) (h : St w R p F bs at_ out oa oc most) (hs : s < 256) :
    Calls Tryz.prog 58 #[.pointer (some ⟨R, 0, none⟩), .int .u8 (s : Nat)] w (Ret w R p F bs oa most ((iput most out (UInt8.ofNat s)).map fun o => (o, at_))) := by
  have := put_any R p F bs out at_ oc most oa (UInt8.ofNat s) w h
  rwa [show ((UInt8.ofNat s).toNat : Int) = (s : Int) from by simp [UInt8.toNat_ofNat']; omega] at this
theorem imatch_at {bs : List UInt8} {most : Nat} {dl : List Nat} {s a a1 : Nat} {out o : List UInt8} (h : imatch bs most dl s out a = .ok (o, a1)) : a ≤ a1 := by
  have ht : ∀ {n a v b : Nat}, itake bs a n = .ok (v, b) → a ≤ b := fun {n a v b} h => by
    unfold itake at h
    split at h
    · simp only [Except.ok.injEq, Prod.mk.injEq] at h; omega
    · cases h
  unfold imatch at h
  split at h
  · cases h
  · rename_i n a2 h1
    have e1 : a ≤ a2 := by
      unfold ilength at h1
      split at h1
      · simp only [Except.ok.injEq, Prod.mk.injEq] at h1; omega
      · split at h1
        · simp only [Except.ok.injEq, Prod.mk.injEq] at h1; omega
        · split at h1
          · cases h1
          · rename_i hh; have := ht hh; simp only [Except.ok.injEq, Prod.mk.injEq] at h1; omega
    split at h
    · cases h
    · rename_i d a3 h2
      have e2 := (isym_lt h2).2
      split at h
      · cases h
      · split at h
        · cases h
        · rename_i b a4 h3
          have e3 : a3 ≤ a4 := by
            unfold idist at h3
            split at h3
            · simp only [Except.ok.injEq, Prod.mk.injEq] at h3; omega
            · split at h3
              · cases h3
              · rename_i hh; have := ht hh; simp only [Except.ok.injEq, Prod.mk.injEq] at h3; omega
          split at h
          · cases h
          · split at h
            · cases h
            · simp only [Except.ok.injEq, Prod.mk.injEq] at h; omega
set_option maxRecDepth 100000 in
set_option maxHeartbeats 4000000 in
theorem symbols_any (R p PL PD : Nat) (F : List Nat) (bs out : List UInt8) (ll dl : List Nat) (at_ oc most : Nat) (oa : Option Addr) (w : World) (h : St w R p F bs at_ out oa oc most) (hL : Tb w PL ll (R :: p :: blk oa)) (hD : Tb w PD dl (R :: p :: blk oa)) :
    Calls Tryz.prog 60 #[.pointer (some ⟨R, 0, none⟩), .pointer (some ⟨PL, 0, none⟩), .pointer (some ⟨PD, 0, none⟩)] w (Ret w R p F bs oa most (isyms bs most ll dl (fuel bs) out at_)) := by
  obtain ⟨M, hM⟩ : ∃ M, M = isyms bs most ll dl (fuel bs) out at_ := ⟨_, rfl⟩
  rw [← hM]
  have H := Lib.hid (And.intro h (And.intro hL (And.intro hD hM)))
  clear h hL hD hM
  go_enter Tryz.func60, Tryz.ntmps60
  go_wp2
  go_step3
  go_wp2
  go_step3
  go_wp2
  go_loopg [6, 7, 8, 9, 10] (fuel bs) (fun k s6 s7 s8 s9 s10 wr => ∃ (a1 : Nat) (out1 : List UInt8) (oa1 : Option Addr) (oc1 : Nat), St wr R p F bs a1 out1 oa1 oc1 most ∧ Way w R p oa wr oa1 ∧ isyms bs most ll dl k out1 a1 = M ∧ 8 * bs.length + 1 ≤ a1 + k)
  case atStart => exact ⟨at_, out, oa, oc, H.out.1, .refl _ _ _ _, H.out.2.2.2.symm, by unfold fuel; omega⟩
  case round =>
    obtain ⟨a1, out1, oa1, oc1, hst, hway, his, hfu⟩ := hrel
    have ha1 := hst.pF.2
    obtain ⟨k, rfl⟩ : ∃ k, gk = k + 1 := ⟨gk - 1, by omega⟩
    have c0 := cell_of hst.box 0
    simp only [List.getElem?_toArray, List.getElem?_cons_zero, List.getElem?_cons_succ] at c0
    have HJ := Lib.hid (And.intro hst (And.intro hway (And.intro his (And.intro (H.out.2.1.way hway) (H.out.2.2.1.way hway)))))
    clear hst hway his
    go_wp2_with (first | (go_at_call 77; refine (sym_any R p PL F bs out1 ll a1 oc1 most oa1 wr HJ.out.1 HJ.out.2.2.2.1).mono ?_; rintro e w2 (⟨v2, c, hm, hc0, hc1, rfl, f1⟩ | ⟨s, a2, hm, rfl, s2, f2⟩); all_goals (try (have K2 := Lib.hid (And.intro hm (And.intro s2 f2)); clear hm s2 f2))) | (go_at_call 58; refine (put_n R p F bs out1 a2 oc1 most s oa1 w2 K2.out.2.1 (by omega)).mono ?_; rintro e w4 (⟨c, hm, hc0, hc1, rfl, f1⟩ | ⟨out2, a4, oa2, oc2, hm, rfl, s4, f4⟩); all_goals (have Km := Lib.hid hm; clear hm); all_goals (try (have K4 := Lib.hid (And.intro s4 f4); clear s4 f4))) | (go_at_call 78; refine (match_any R p PD F bs out1 dl a2 oc1 most s oa1 w2 K2.out.2.1 (HJ.out.2.2.2.2.fr K2.out.2.2 (by simp)) (by omega) (by omega)).mono ?_; rintro e w4 (⟨c, hm, hc0, hc1, rfl, f1⟩ | ⟨out2, a4, oa2, oc2, hm, rfl, s4, f4⟩); all_goals (have Km := Lib.hid hm; clear hm); all_goals (try (have K4 := Lib.hid (And.intro s4 f4); clear s4 f4))))
    · rw [Exit.noGoto_ret]
      go_ret
      exact .inl ⟨c, by rw [← HJ.out.2.2.1, isyms, hm], hc0, hc1, rfl, HJ.out.2.1.frW f1⟩
    · rw [Exit.noGoto_ret]
      go_ret
      have hm := Km.out
      cases hp : iput most out1 (UInt8.ofNat s) with
      | ok o2 => rw [hp] at hm; cases hm
      | error e =>
        rw [hp] at hm
        have hec : e = c := by simpa [Except.map] using hm
        have e1 : isyms bs most ll dl (k + 1) out1 a1 = .error c := by
          rw [isyms, K2.out.1]
          simp only [if_pos (show s < 256 by omega), hp, hec]
        exact .inl ⟨c, by rw [← HJ.out.2.2.1, e1], hc0, hc1, rfl, (HJ.out.2.1.trans (Way.of _ _ _ _ _ K2.out.2.2)).frW f1⟩
    · go_roundg k
      case measure => omega
      case rel =>
        have hm := Km.out
        cases hp : iput most out1 (UInt8.ofNat s) with
        | error e => rw [hp] at hm; cases hm
        | ok o2 =>
          rw [hp] at hm
          have hm2 : o2 = out2 ∧ a2 = a4 := by simpa [Except.map] using hm
          obtain ⟨rfl, rfl⟩ := hm2
          have hlt := (isym_lt K2.out.1).2
          refine ⟨a2, o2, oa2, oc2, K4.out.1, (HJ.out.2.1.trans (Way.of _ _ _ _ _ K2.out.2.2)).trans K4.out.2, ?_, by omega⟩
          rw [← HJ.out.2.2.1, isyms, K2.out.1]
          simp only [if_pos (show s < 256 by omega), hp]
    · have hse : ((s : Int) == 256) = true := by assumption
      have hs : s = 256 := by have := beq_iff_eq.1 hse; omega
      rw [Exit.noGoto_ret]
      go_ret
      have e1 : isyms bs most ll dl (k + 1) out1 a1 = .ok (out1, a2) := by
        rw [isyms, K2.out.1]
        simp only [if_neg (show ¬ s < 256 by omega), if_pos hs]
      exact .inr ⟨out1, a2, oa1, oc1, by rw [← HJ.out.2.2.1, e1], rfl, K2.out.2.1, HJ.out.2.1.trans (Way.of _ _ _ _ _ K2.out.2.2)⟩
    · have hse : ((s : Int) == 256) = false := by assumption
      have hs : s ≠ 256 := fun he => by rw [he] at hse; cases hse
      rw [Exit.noGoto_ret]
      go_ret
      have e1 : isyms bs most ll dl (k + 1) out1 a1 = .error 3 := by
        rw [isyms, K2.out.1]
        simp only [if_neg (show ¬ s < 256 by omega), if_neg hs, if_pos (show 286 ≤ s by omega)]
      exact .inl ⟨3, by rw [← HJ.out.2.2.1, e1], by decide, by decide, rfl, HJ.out.2.1.frW (K2.out.2.2.mono (by simp))⟩
    · have hse : ((s : Int) == 256) = false := by assumption
      rw [Exit.noGoto_ret]
      go_ret
      have hs : s ≠ 256 := fun he => by rw [he] at hse; cases hse
      have e1 : isyms bs most ll dl (k + 1) out1 a1 = .error c := by
        rw [isyms, K2.out.1]
        simp only [if_neg (show ¬ s < 256 by omega), if_neg hs, if_neg (show ¬ 286 ≤ s by omega), Km.out]
      exact .inl ⟨c, by rw [← HJ.out.2.2.1, e1], hc0, hc1, rfl, (HJ.out.2.1.trans (Way.of _ _ _ _ _ K2.out.2.2)).frW f1⟩
    · have hse : ((s : Int) == 256) = false := by assumption
      go_roundg k
      case measure => omega
      case rel =>
        have hs : s ≠ 256 := fun he => by rw [he] at hse; cases hse
        have hlt := (isym_lt K2.out.1).2
        have hlt2 := imatch_at Km.out
        refine ⟨a4, out2, oa2, oc2, K4.out.1, (HJ.out.2.1.trans (Way.of _ _ _ _ _ K2.out.2.2)).trans K4.out.2, ?_, by omega⟩
        rw [← HJ.out.2.2.1, isyms, K2.out.1]
        simp only [if_neg (show ¬ s < 256 by omega), if_neg hs, if_neg (show ¬ 286 ≤ s by omega), Km.out]
end Go.Proofs.YtolkoidbkaidkaaGreat.inf
/-
  inflate by mirrors: bits are only ever taken (plain).
-/
namespace Go.Proofs.YtolkoidbkaidkaaGreat.inf
open Go Go.Proofs.YtolkoidbkaidkaaGreat.bm Go.Proofs.YtolkoidbkaidkaaGreat.bl Go.Proofs.YtolkoidbkaidkaaGreat.huf

theorem itake_at {bs : List UInt8} {a n v a1 : Nat} (h : itake bs a n = .ok (v, a1)) : a1 = a + n := by
  unfold itake at h
  split at h
  · simp only [Except.ok.injEq, Prod.mk.injEq] at h; exact h.2.symm
  · cases h
theorem ibytes_at {bs : List UInt8} {most : Nat} : ∀ {n : Nat} {out o : List UInt8} {q a : Nat}, ibytes bs most n out q = .ok (o, a) → 8 * q ≤ a
  | 0, out, o, q, a, h => by simp only [ibytes, Except.ok.injEq, Prod.mk.injEq] at h; omega
  | n + 1, out, o, q, a, h => by
    rw [ibytes] at h
    split at h
    · split at h
      · cases h
      · have := ibytes_at h; omega
    · cases h
theorem istored_at {bs : List UInt8} {most a a1 : Nat} {out o : List UInt8} (h : istored bs most out a = .ok (o, a1)) : a ≤ a1 := by
  unfold istored at h
  split at h
  · split at h
    · have := ibytes_at h; omega
    · cases h
  · cases h
theorem isyms_at {bs : List UInt8} {most : Nat} {ll dl : List Nat} : ∀ {f : Nat} {out o : List UInt8} {a a1 : Nat}, isyms bs most ll dl f out a = .ok (o, a1) → a ≤ a1
  | 0, out, o, a, a1, h => by simp only [isyms] at h; cases h
  | f + 1, out, o, a, a1, h => by
    rw [isyms] at h
    split at h
    · cases h
    · rename_i s a2 hs
      have h1 := (isym_lt hs).2
      split at h
      · split at h
        · cases h
        · have := isyms_at h; omega
      · split at h
        · simp only [Except.ok.injEq, Prod.mk.injEq] at h; omega
        · split at h
          · cases h
          · split at h
            · cases h
            · rename_i o2 a3 hm
              have h2 := imatch_at hm
              have := isyms_at h
              omega
theorem ifirst_at {bs : List UInt8} : ∀ {ps fs gs : List Nat} {a a1 : Nat}, ifirst bs ps fs a = .ok (gs, a1) → a ≤ a1
  | [], fs, gs, a, a1, h => by simp only [ifirst, Except.ok.injEq, Prod.mk.injEq] at h; omega
  | i :: t, fs, gs, a, a1, h => by
    rw [ifirst] at h
    split at h
    · cases h
    · rename_i v a2 hm
      have h1 := itake_at hm
      have := ifirst_at h
      omega
theorem ilens_at {bs : List UInt8} {ls : List Nat} {n : Nat} : ∀ {f : Nat} {L K : List Nat} {a a1 : Nat}, ilens bs ls n f L a = .ok (K, a1) → a ≤ a1
  | 0, L, K, a, a1, h => by simp only [ilens] at h; cases h
  | f + 1, L, K, a, a1, h => by
    rw [ilens] at h
    split at h
    · simp only [Except.ok.injEq, Prod.mk.injEq] at h; omega
    · split at h
      · cases h
      · rename_i s a2 hs
        have h1 := (isym_lt hs).2
        split at h
        · have := ilens_at h; omega
        · split at h
          · cases h
          · rename_i v a3 hm
            have h2 := itake_at hm
            split at h
            · cases h
            · have := ilens_at h; omega
theorem idyn_at {bs : List UInt8} {most a a1 : Nat} {out o : List UInt8} (h : idyn bs most out a = .ok (o, a1)) : a ≤ a1 := by
  unfold idyn at h
  split at h
  · cases h
  · rename_i v1 b1 h1
    have e1 := itake_at h1
    split at h
    · cases h
    · split at h
      · cases h
      · rename_i v2 b2 h2
        have e2 := itake_at h2
        split at h
        · cases h
        · split at h
          · cases h
          · rename_i v3 b3 h3
            have e3 := itake_at h3
            unfold idyn2 at h
            split at h
            · cases h
            · rename_i fs b4 h4
              have e4 := ifirst_at h4
              split at h
              · cases h
              · unfold idyn3 at h
                split at h
                · cases h
                · rename_i ls b5 h5
                  have e5 := ilens_at h5
                  split at h
                  · cases h
                  · split at h
                    · cases h
                    · split at h
                      · cases h
                      · have := isyms_at h; omega
theorem iblock_at {bs : List UInt8} {most k a a1 : Nat} {out o : List UInt8} (h : iblock bs most k out a = .ok (o, a1)) : a ≤ a1 := by
  unfold iblock at h
  split at h
  · exact istored_at h
  · split at h
    · exact isyms_at h
    · exact idyn_at h
end Go.Proofs.YtolkoidbkaidkaaGreat.inf
/-
  '|' of two ints that are not negative.
-/
namespace Go.Proofs.YtolkoidbkaidkaaGreat.bm
open Go Go.RowKit

theorem ofInt_i64 (a : Nat) (ha : a < 9223372036854775808) : (BitVec.ofInt 64 (a : Int)).toNat = a := by
  rw [BitVec.ofInt_natCast, BitVec.toNat_ofNat]
  exact Nat.mod_eq_of_lt (by omega)
theorem i64_or_nat (a b : Nat) (ha : a < 9223372036854775808) (hb : b < 9223372036854775808) : bits .or .i64 (a : Int) (b : Int) = ((a ||| b : Nat) : Int) := by
  have hx : a ||| b < 2 ^ 63 := Nat.or_lt_two_pow (by omega) (by omega)
  show IntKind.i64.wrap ((BitVec.ofInt 64 (a : Int) ||| BitVec.ofInt 64 (b : Int)).toNat : Int) = _
  rw [BitVec.toNat_or, ofInt_i64 a ha, ofInt_i64 b hb, IntKind.wrap_i64]
  omega
/-- 'n<<k | v'. -/
theorem i64_put (n v k : Nat) (hk : k ≤ 62) (hv : v < 2 ^ k) (hn : n * 2 ^ k < 9223372036854775808) : bits .or .i64 ((n : Int) * ((2 ^ k : Nat) : Int)) (v : Int) = ((n * 2 ^ k + v : Nat) : Int) := by
  have h1 := pow_le k 62 hk
  have e62 : 2 ^ 62 = 4611686018427387904 := by decide
  rw [e62] at h1
  rw [← Int.natCast_mul, i64_or_nat _ _ hn (by omega), Nat.or_comm, or_add v n k hv, Nat.mul_comm n, Nat.add_comm]
end Go.Proofs.YtolkoidbkaidkaaGreat.bm
/-
  inflate: stored.
-/
namespace Go.Proofs.YtolkoidbkaidkaaGreat.inf
open Go Go.RowKit Go.Proofs.YtolkoidbkaidkaaGreat.lib Go.Proofs.YtolkoidbkaidkaaGreat.bm Go.Proofs.YtolkoidbkaidkaaGreat.bl Go.Proofs.YtolkoidbkaidkaaGreat.huf

theorem fresh_at {w : World} {B : Nat} {e : TypeId} {ao : Option Addr} {vs : List Value} (h : Fresh w B e ao vs) (h0 : 0 < vs.length) : ∃ g, ao = some ⟨g, 0, none⟩ ∧ B ≤ g ∧ ∀ j v, vs[j]? = some v → w.cell? ⟨g, j, none⟩ = some v := by
  rcases h with h | ⟨g, cur, rfl, hB, hg, ht⟩
  · rw [h] at h0; simp at h0
  · refine ⟨g, rfl, hB, fun j v hv => ?_⟩
    rw [cell_of hg]
    rw [← ht, List.getElem?_take] at hv
    split at hv
    · simpa using hv
    · cases hv
theorem or_two (x y : Nat) (hx : x < 256) (hy : y < 256) : bits .or .i64 (x : Int) ((y : Int) * 256) = ((x + 256 * y : Nat) : Int) := by
  have h1 := or_add x y 8 (by simpa using hx)
  rw [show (y : Int) * 256 = ((y * 256 : Nat) : Int) by omega, i64_or_nat x (y * 256) (by omega) (by omega), show y * 256 = y * 2 ^ 8 from rfl, h1]
theorem xor_255 (x : Nat) (h : x < 256) : bits .xor .u8 (if IntKind.u8.signed = true then -1 else IntKind.u8.max) ((x : Nat) : Int) = ((255 - x : Nat) : Int) := by
  have hall : ∀ y : Fin 256, bits .xor .u8 (if IntKind.u8.signed = true then -1 else IntKind.u8.max) ((y.val : Nat) : Int) = ((255 - y.val : Nat) : Int) := by decide +kernel
  exact hall ⟨x, h⟩
theorem byteAt_lt (bs : List UInt8) (i : Nat) : byteAt bs i < 256 := UInt8.toNat_lt _
theorem cut_at {bs : List UInt8} {q n j : Nat} (hj : j < n) (hq : q + j < bs.length) : (((bs.drop q).take n).map bv)[j]? = some (.int .u8 (byteAt bs (q + j) : Nat)) := by
  rw [List.getElem?_map, List.getElem?_take, if_pos hj, List.getElem?_drop, List.getElem?_eq_getElem hq]
  simp [bv, byteAt, hq]
set_option maxRecDepth 100000 in
set_option maxHeartbeats 4000000 in
theorem stored_any (R p : Nat) (F : List Nat) (bs out : List UInt8) (at_ oc most : Nat) (oa : Option Addr) (w : World) (h : St w R p F bs at_ out oa oc most) :
    Calls Tryz.prog 41 #[.pointer (some ⟨R, 0, none⟩)] w (Ret w R p F bs oa most (istored bs most out at_)) := by
  obtain ⟨M, hM⟩ : ∃ M, M = istored bs most out at_ := ⟨_, rfl⟩
  rw [← hM]
  have c0 := cell_of h.box 0
  simp only [List.getElem?_toArray, List.getElem?_cons_zero, List.getElem?_cons_succ] at c0
  obtain ⟨q, hq⟩ : ∃ q, q = (at_ + 7) / 8 := ⟨_, rfl⟩
  by_cases hl : q + 4 ≤ bs.length
  · have hb4 : Calls Tryz.prog 57 #[.pointer (some ⟨p, 0, none⟩), .int .i64 4] w (bits.BytesGood p F bs at_ 4 w) := bits.bytes_good p F bs at_ 4 w h.rd (by omega) (by omega)
    have hM2 : M = if byteAt bs q + byteAt bs (q + 2) = 255 ∧ byteAt bs (q + 1) + byteAt bs (q + 3) = 255 then ibytes bs most (byteAt bs q + 256 * byteAt bs (q + 1)) out (q + 4) else .error 3 := by
      rw [hM]; unfold istored; rw [← hq, if_pos hl]
    have e0 : (((bs.drop q).take 4).map bv).length = 4 := by simp; omega
    obtain ⟨x0, hx0⟩ : ∃ x, x = byteAt bs q := ⟨_, rfl⟩
    obtain ⟨x1, hx1⟩ : ∃ x, x = byteAt bs (q + 1) := ⟨_, rfl⟩
    obtain ⟨x2, hx2⟩ : ∃ x, x = byteAt bs (q + 2) := ⟨_, rfl⟩
    obtain ⟨x3, hx3⟩ : ∃ x, x = byteAt bs (q + 3) := ⟨_, rfl⟩
    have g0 := cut_at (bs := bs) (q := q) (n := 4) (j := 0) (by omega) (by omega)
    have g1 := cut_at (bs := bs) (q := q) (n := 4) (j := 1) (by omega) (by omega)
    have g2 := cut_at (bs := bs) (q := q) (n := 4) (j := 2) (by omega) (by omega)
    have g3 := cut_at (bs := bs) (q := q) (n := 4) (j := 3) (by omega) (by omega)
    rw [Nat.add_zero, ← hx0] at g0
    rw [← hx1] at g1
    rw [← hx2] at g2
    rw [← hx3] at g3
    rw [← hx0, ← hx1, ← hx2, ← hx3] at hM2
    have b0 : x0 < 256 := by rw [hx0]; exact byteAt_lt _ _
    have b1 : x1 < 256 := by rw [hx1]; exact byteAt_lt _ _
    have b2 : x2 < 256 := by rw [hx2]; exact byteAt_lt _ _
    have b3 : x3 < 256 := by rw [hx3]; exact byteAt_lt _ _
    have G := Lib.hid (And.intro g0 (And.intro g1 (And.intro g2 (And.intro g3 e0))))
    have H := Lib.hid (And.intro h (And.intro hb4 (And.intro hM2 hq)))
    clear h hb4 hM2 hM hq hx0 hx1 hx2 hx3 g0 g1 g2 g3 e0
    go_enter Tryz.func41, Tryz.ntmps41
    go_upto_region 4 with (go_at_call 57; refine H.out.2.1.mono ?_; rintro e w1 ⟨ao, rfl, hfr, _, _, hrd, f1⟩; rw [← H.out.2.2.2] at hfr hrd; obtain ⟨g, rfl, _, hc⟩ := fresh_at hfr (by rw [G.out.2.2.2.2]; decide); have d0 := hc 0 _ G.out.1; have d1 := hc 1 _ G.out.2.1; have d2 := hc 2 _ G.out.2.2.1; have d3 := hc 3 _ G.out.2.2.2.1; have K1 := Lib.hid (And.intro (H.out.1.take f1 hrd) f1); clear hc hfr hrd f1)
    obtain ⟨n, hn⟩ : ∃ n, n = x0 + 256 * x1 := ⟨_, rfl⟩
    obtain ⟨y2, hy2⟩ : ∃ y, y = 255 - x2 := ⟨_, rfl⟩
    obtain ⟨y3, hy3⟩ : ∃ y, y = 255 - x3 := ⟨_, rfl⟩
    have hor := or_two x0 x1 b0 b1
    have hxo2 := xor_255 x2 b2
    have hxo3 := xor_255 x3 b3
    rw [← hn] at hor
    rw [← hy2] at hxo2
    rw [← hy3] at hxo3
    have hnb : n < 65536 := by omega
    have hnN := Lib.hid (And.intro hn (And.intro hy2 hy3))
    have c02 : x0 + x2 = 255 ↔ x0 = y2 := by omega
    have c13 : x1 + x3 = 255 ↔ x1 = y3 := by omega
    have hC := Lib.hid (And.intro c02 c13)
    have by2 : y2 < 256 := by omega
    have by3 : y3 < 256 := by omega
    clear hn hy2 hy3 c02 c13
    go_quiet (fail)
    obtain ⟨w2, hw2⟩ : ∃ w2, w2 = w1.drewN nq := ⟨_, rfl⟩
    have f2 : Fr [] w1 w2 := by rw [hw2]; exact .drewN _ _ _
    replace d0 := f2.cell d0 (by simp)
    replace d1 := f2.cell d1 (by simp)
    replace d2 := f2.cell d2 (by simp)
    replace d3 := f2.cell d3 (by simp)
    rw [← hw2]
    have K2 := Lib.hid (And.intro (K1.out.1.fr0 f2) f2)
    clear hw2 f2 hor
    go_upto_region 5 with fail
    have bad : ¬ (x0 + x2 = 255 ∧ x1 + x3 = 255) → M = .error 3 := fun hne => by rw [H.out.2.2.1, if_neg hne]
    have hB := Lib.hid bad
    clear bad
    by_cases p0 : x0 = y2
    · have n0 : ((x0 : Int) != (y2 : Int)) = false := by rw [p0]; simp
      by_cases p1 : x1 = y3
      · have n1 : ((x1 : Int) != (y3 : Int)) = false := by rw [p1]; simp
        have hM3 : M = ibytes bs most n out (q + 4) := by rw [H.out.2.2.1, if_pos ⟨hC.out.1.2 p0, hC.out.2.2 p1⟩, hnN.out.1]
        have HM := Lib.hid (And.intro p0 (And.intro p1 hM3))
        clear p0 p1 hM3
        go_quiet (fail)
        obtain ⟨w3, hw3⟩ : ∃ w3, w3 = w2.drewN nq := ⟨_, rfl⟩
        have f3 : Fr [] w2 w3 := by rw [hw3]; exact .drewN _ _ _
        have s3 := K2.out.1.fr0 f3
        rw [show q * 8 + 8 * 4 = 8 * (q + 4) by omega] at s3
        rw [← hw3]
        have K3 := Lib.hid (And.intro s3 (And.intro f3 (((Way.of _ _ _ _ _ K1.out.2).trans (Way.of0 _ _ R p oa K2.out.2)).trans (Way.of0 _ _ _ _ _ f3))))
        clear hw3 s3 f3 d0 d1 d2 d3 c0 n0 n1 hxo2 hxo3
        go_wp2
        go_loopg [2, 6, 7, 8, 48] n (fun k s2 s6 s7 s8 s48 wr => ∃ (j : Nat) (out1 : List UInt8) (oa1 : Option Addr) (oc1 : Nat), s48 = .int .i64 (j : Nat) ∧ j + k = n ∧ St wr R p F bs (8 * (q + 4 + j)) out1 oa1 oc1 most ∧ Way w R p oa wr oa1 ∧ ibytes bs most k out1 (q + 4 + j) = ibytes bs most n out (q + 4))
        case atStart => exact ⟨0, out, oa, oc, rfl, by omega, K3.out.1, K3.out.2.2, rfl⟩
        case round =>
          obtain ⟨j, out1, oa1, oc1, rfl, hjk, hst, hway, hib⟩ := hrel
          obtain ⟨m, hm⟩ : ∃ m, m = q + 4 + j := ⟨_, rfl⟩
          rw [← hm] at hst hib
          by_cases hj : j < n
          · obtain ⟨k, rfl⟩ : ∃ k, gk = k + 1 := ⟨gk - 1, by omega⟩
            have c0 := cell_of hst.box 0
            simp only [List.getElem?_toArray, List.getElem?_cons_zero, List.getElem?_cons_succ] at c0
            by_cases hl2 : m < bs.length
            · have hb1 : Calls Tryz.prog 57 #[.pointer (some ⟨p, 0, none⟩), .int .i64 1] wr (bits.BytesGood p F bs (8 * m) 1 wr) := bits.bytes_good p F bs (8 * m) 1 wr hst.rd (by omega) (by omega)
              obtain ⟨u, hu⟩ : ∃ u, u = bs[m]?.getD 0 := ⟨_, rfl⟩
              have g0 := cut_at (bs := bs) (q := m) (n := 1) (j := 0) (by omega) (by omega)
              have gl : (((bs.drop m).take 1).map bv).length = 1 := by simp; omega
              rw [Nat.add_zero, show byteAt bs m = u.toNat by rw [hu]; rfl] at g0
              have HJ := Lib.hid (And.intro hst (And.intro hway (And.intro hib (And.intro hb1 (And.intro g0 (And.intro gl (And.intro hm hu)))))))
              clear hst hway hib hb1 g0 gl hm hu
              go_wp2_with (first | (go_at_call 57; refine HJ.out.2.2.2.1.mono ?_; rintro e w4 ⟨ao, rfl, hfr, _, _, hrd, f1⟩; rw [show (8 * m + 7) / 8 = m by omega] at hfr hrd; obtain ⟨g4, rfl, _, hc⟩ := fresh_at hfr (by rw [HJ.out.2.2.2.2.2.1]; decide); have d0 := hc 0 _ HJ.out.2.2.2.2.1; have K4 := Lib.hid (And.intro (HJ.out.1.take f1 hrd) f1); clear hc hfr hrd f1) | (go_at_call 58; refine (put_any R p F bs out1 _ oc1 most oa1 u w4 K4.out.1).mono ?_; rintro e w5 (⟨c, hm, hc0, hc1, rfl, f1⟩ | ⟨out2, a4, oa2, oc2, hm, rfl, s4, f4⟩); all_goals (have Km := Lib.hid hm; clear hm); all_goals (try (have K5 := Lib.hid (And.intro s4 f4); clear s4 f4))))
              · go_ret
                have hmm := Km.out
                cases hp : iput most out1 u with
                | ok o2 => rw [hp] at hmm; cases hmm
                | error e =>
                  rw [hp] at hmm
                  have hec : e = c := by simpa [Except.map] using hmm
                  have e1 : ibytes bs most (k + 1) out1 m = .error c := by rw [ibytes, if_pos hl2, ← HJ.out.2.2.2.2.2.2.2, hp, hec]
                  exact .inl ⟨c, by rw [HM.out.2.2, ← HJ.out.2.2.1, e1], hc0, hc1, rfl, (HJ.out.2.1.trans (Way.of _ _ _ _ _ K4.out.2)).frW f1⟩
              · go_roundg k
                case measure => omega
                case rel =>
                  have hmm := Km.out
                  cases hp : iput most out1 u with
                  | error e => rw [hp] at hmm; cases hmm
                  | ok o2 =>
                    rw [hp] at hmm
                    have hm2 : o2 = out2 ∧ m * 8 + 8 * 1 = a4 := by simpa [Except.map] using hmm
                    obtain ⟨rfl, rfl⟩ := hm2
                    have s5 := K5.out.1
                    rw [show m * 8 + 8 * 1 = 8 * (q + 4 + (j + 1)) by have := HJ.out.2.2.2.2.2.2.1; omega] at s5
                    refine ⟨j + 1, o2, oa2, oc2, by go_num, by omega, s5, (HJ.out.2.1.trans (Way.of _ _ _ _ _ K4.out.2)).trans K5.out.2, ?_⟩
                    rw [← HJ.out.2.2.1, ibytes, if_pos hl2, ← HJ.out.2.2.2.2.2.2.2, hp, show q + 4 + (j + 1) = m + 1 by have := HJ.out.2.2.2.2.2.2.1; omega]
            · have hb1 : Calls Tryz.prog 57 #[.pointer (some ⟨p, 0, none⟩), .int .i64 1] wr _ := bits.bytes_bad p F bs (8 * m) 1 wr hst.rd (.inr (by omega))
              have e1 : ibytes bs most (k + 1) out1 m = .error 4 := by rw [ibytes, if_neg hl2]
              have HJ := Lib.hid (And.intro hst (And.intro hway (And.intro hib (And.intro hb1 e1))))
              clear hst hway hib hb1 e1 hm
              go_wp2_with (go_at_call 57; refine HJ.out.2.2.2.1.mono ?_; rintro e w4 ⟨rfl, _, f1⟩)
              go_ret
              exact .inl ⟨4, by rw [HM.out.2.2, ← HJ.out.2.2.1, HJ.out.2.2.2.2], by decide, by decide, rfl, HJ.out.2.1.frW (f1.mono (by simp))⟩
          · have hk0 : gk = 0 := by omega
            subst hk0
            have e1 : ibytes bs most n out (q + 4) = .ok (out1, 8 * m) := by rw [← hib, ibytes]
            have HE := Lib.hid (And.intro hst (And.intro hway e1))
            clear hst hway hib e1 hm
            obtain rfl : j = n := by omega
            go_wp2
            go_ret
            exact .inr ⟨out1, _, oa1, oc1, by rw [HM.out.2.2, HE.out.2.2], rfl, HE.out.1, HE.out.2.1⟩
      · have n1 : ((x1 : Int) != (y3 : Int)) = true := by simp; omega
        have hM3 : M = .error 3 := hB.out (fun h => p1 (hC.out.2.1 h.2))
        have HM := Lib.hid (And.intro p0 (And.intro p1 hM3))
        clear p0 p1 hM3
        go_quiet (fail)
        go_wp2
        go_ret
        exact .inl ⟨3, HM.out.2.2, by decide, by decide, rfl, ((K1.out.2.trans (K2.out.2.mono (by simp))).trans (Fr.drewN _ _ _)).mono (by simp)⟩
    · have n0 : ((x0 : Int) != (y2 : Int)) = true := by simp; omega
      have hM3 : M = .error 3 := hB.out (fun h => p0 (hC.out.1.1 h.1))
      have HM := Lib.hid (And.intro p0 hM3)
      clear p0 hM3
      go_quiet (fail)
      go_wp2
      go_ret
      exact .inl ⟨3, HM.out.2, by decide, by decide, rfl, ((K1.out.2.trans (K2.out.2.mono (by simp))).trans (Fr.drewN _ _ _)).mono (by simp)⟩
  · have hb4 : Calls Tryz.prog 57 #[.pointer (some ⟨p, 0, none⟩), .int .i64 4] w _ := bits.bytes_bad p F bs at_ 4 w h.rd (.inr (by omega))
    have hM2 : M = .error 4 := by rw [hM]; unfold istored; rw [← hq, if_neg hl]
    have H := Lib.hid (And.intro hb4 hM2)
    clear h hb4 hM2 hM hq
    go_enter Tryz.func41, Tryz.ntmps41
    go_wp2_with (go_at_call 57; refine H.out.1.mono ?_; rintro e w1 ⟨rfl, _, f1⟩)
    go_ret
    exact .inl ⟨4, H.out.2, by decide, by decide, rfl, f1.mono (by simp)⟩
end Go.Proofs.YtolkoidbkaidkaaGreat.inf
/-
  inflate: whole.
-/
namespace Go.Proofs.YtolkoidbkaidkaaGreat.inf
open Go Go.RowKit Go.Proofs.YtolkoidbkaidkaaGreat.lib Go.Proofs.YtolkoidbkaidkaaGreat.bm Go.Proofs.YtolkoidbkaidkaaGreat.bl Go.Proofs.YtolkoidbkaidkaaGreat.huf

def WholeGood (w : World) (ls : List Nat) (few : Bool) (e : Ending) (w' : World) : Prop :=
  (iwhole ls few = false ∧ e = .returned (.tuple #[.pointer none, .int .i64 3]) ∧ Fr [] w w') ∨
  (iwhole ls few = true ∧ NewTab w ls e w')
theorem some_snoc (l : List Nat) (x : Nat) : some_ (l ++ [x]) = some_ l + if 0 < x then 1 else 0 := by
  unfold some_
  rw [List.filter_append, List.length_append]
  split <;> simp [*]
theorem ones_snoc (l : List Nat) (x : Nat) : ones (l ++ [x]) = (ones l && decide (x ≤ 1)) := by
  unfold ones
  rw [List.all_append]
  simp
theorem some_le (l : List Nat) : some_ l ≤ l.length := List.length_filter_le _ _
set_option maxRecDepth 100000 in
set_option maxHeartbeats 2000000 in
theorem whole_any (a : Option Addr) (cap : Nat) (ls : List Nat) (few : Bool) (w : World) (h : Ri w a cap ls) (hle : ∀ l ∈ ls, l ≤ 15) (hlen : ls.length ≤ 400) :
    Calls Tryz.prog 62 #[.slice a ls.length cap, .bool few] w (WholeGood w ls few) := by
  obtain ⟨N, hN⟩ : ∃ N, N = ls.length := ⟨_, rfl⟩
  by_cases hw : weight ls ≤ 32768
  · have hnew := new_tab a cap ls w h hle hlen hw
    rw [← hN] at hnew hlen ⊢
    have H := Lib.hid (And.intro h (And.intro hle (And.intro hN (And.intro hnew hw))))
    clear h hle hN hnew hw
    go_enter Tryz.func62, Tryz.ntmps62
    go_upto_block 0 with (go_at_call 59; refine H.out.2.2.2.1.mono ?_; rintro e w1 ⟨P, D, first, sa, sc, rfl, htb, f1⟩; have H1 := Lib.hid (And.intro htb f1); clear htb f1)
    go_wp2
    go_loopg [8, 9, 11, 21] N (fun k s8 s9 s11 s21 wr => ∃ i : Nat, s21 = .int .i64 (i : Nat) ∧ s8 = .int .i64 (some_ (ls.take i) : Nat) ∧ s9 = .bool (ones (ls.take i)) ∧ i + k = N ∧ w1 = wr)
    case atStart => exact ⟨0, rfl, rfl, rfl, by omega, rfl⟩
    case round =>
      obtain ⟨i, rfl, rfl, rfl, hik, rfl⟩ := hrel
      by_cases hi : i < N
      · obtain ⟨k, rfl⟩ : ∃ k, gk = k + 1 := ⟨gk - 1, by omega⟩
        have hil : i < ls.length := by rw [← H.out.2.2.1]; exact hi
        obtain ⟨ga, o, ha, hc⟩ := (H.out.1.fr H1.out.2).at hil
        subst ha
        have hx15 := H.out.2.1 _ (List.getElem_mem hil)
        have ht : ls.take (i + 1) = ls.take i ++ [ls[i]] := by rw [List.take_succ_eq_append_getElem hil]
        obtain ⟨x, hx⟩ : ∃ x, x = ls[i] := ⟨_, rfl⟩
        rw [← hx] at hc hx15 ht
        obtain ⟨c, hcn⟩ : ∃ c, c = some_ (ls.take i) := ⟨_, rfl⟩
        have hcl : c ≤ 400 := by rw [hcn]; have := some_le (ls.take i); rw [List.length_take] at this; omega
        obtain ⟨b, hb⟩ : ∃ b, b = ones (ls.take i) := ⟨_, rfl⟩
        have e1 : some_ (ls.take (i + 1)) = c + if 0 < x then 1 else 0 := by rw [ht, some_snoc, hcn]
        have e2 : ones (ls.take (i + 1)) = (b && decide (x ≤ 1)) := by rw [ht, ones_snoc, hb]
        rw [← hcn, ← hb]
        have HI := Lib.hid (And.intro e1 e2)
        clear e1 e2 hcn hb ht hx
        by_cases h0 : x = 0
        · subst h0
          go_wp2
          go_roundg k
          case measure => omega
          case rel => exact ⟨i + 1, by go_num, by rw [HI.out.1]; rfl, by rw [HI.out.2]; simp, by omega, rfl⟩
        · have d0 : decide ((0 : Int) < x) = true := by simp; omega
          by_cases h1 : x = 1
          · subst h1
            cases b
            · go_wp2
              go_roundg k
              case measure => omega
              case rel => exact ⟨i + 1, by go_num, by rw [HI.out.1]; rfl, by rw [HI.out.2]; rfl, by omega, rfl⟩
            · go_wp2
              go_roundg k
              case measure => omega
              case rel => exact ⟨i + 1, by go_num, by rw [HI.out.1]; rfl, by rw [HI.out.2]; rfl, by omega, rfl⟩
          · have d1 : ((x : Int) == 1) = false := by simp; omega
            have d2 : decide (x ≤ 1) = false := by simp; omega
            have HD := Lib.hid d2
            clear d2
            cases b
            · go_wp2
              go_roundg k
              case measure => omega
              case rel => exact ⟨i + 1, by go_num, by rw [HI.out.1, if_pos (by omega)]; rfl, by rw [HI.out.2]; rfl, by omega, rfl⟩
            · go_wp2
              go_roundg k
              case measure => omega
              case rel => exact ⟨i + 1, by go_num, by rw [HI.out.1, if_pos (by omega)]; rfl, by rw [HI.out.2, HD.out]; rfl, by omega, rfl⟩
      · obtain rfl : i = N := by omega
        have et : ls.take i = ls := List.take_of_length_le (by rw [← H.out.2.2.1]; exact Nat.le_refl _)
        rw [et]
        obtain ⟨c, hcn⟩ : ∃ c, c = some_ ls := ⟨_, rfl⟩
        obtain ⟨b, hb⟩ : ∃ b, b = ones ls := ⟨_, rfl⟩
        have hcl : c ≤ 400 := by rw [hcn]; have := some_le ls; rw [← H.out.2.2.1] at this; omega
        have hiw : iwhole ls few = (decide (weight ls = 32768) || (few && (decide (c < 2) && b))) := by
          unfold iwhole
          rw [← hcn, ← hb, decide_eq_true H.out.2.2.2.2, Bool.true_and]
        have hcp := complete_any a cap ls w1 (H.out.1.fr H1.out.2) H.out.2.1 (by rw [← H.out.2.2.1]; omega)
        rw [← H.out.2.2.1] at hcp
        obtain ⟨cp, hcp2⟩ : ∃ cp, cp = decide (weight ls = 32768) := ⟨_, rfl⟩
        rw [← hcp2] at hiw hcp
        rw [← hcn, ← hb]
        have HC := Lib.hid (And.intro hcp hiw)
        clear hcp hiw hcp2 hcn hb et hi hik
        have fin : iwhole ls few = false → WholeGood w ls few (.returned (.tuple #[.pointer none, .int .i64 3])) w1 := fun h0 => .inl ⟨h0, rfl, H1.out.2⟩
        have fin2 : iwhole ls few = true → WholeGood w ls few (.returned (.tuple #[.pointer (some ⟨P, 0, none⟩), .int .i64 0])) w1 := fun h0 => .inr ⟨h0, P, D, first, sa, sc, rfl, H1.out.1, H1.out.2⟩
        have HF := Lib.hid (And.intro fin fin2)
        clear fin fin2
        cases cp
        · cases few
          · go_wp2_with (go_at_call 79; refine HC.out.1.mono ?_; rintro e w2 ⟨rfl, rfl⟩)
            go_ret2
            exact HF.out.1 (by rw [HC.out.2]; rfl)
          · by_cases h2 : c < 2
            · have d2 : decide ((c : Int) < 2) = true := by simp; omega
              cases b
              · go_wp2_with (go_at_call 79; refine HC.out.1.mono ?_; rintro e w2 ⟨rfl, rfl⟩)
                go_ret2
                exact HF.out.1 (by rw [HC.out.2]; simp)
              · go_wp2_with (go_at_call 79; refine HC.out.1.mono ?_; rintro e w2 ⟨rfl, rfl⟩)
                go_ret2
                exact HF.out.2 (by rw [HC.out.2, decide_eq_true h2]; rfl)
            · have d2 : decide ((c : Int) < 2) = false := by simp; omega
              go_wp2_with (go_at_call 79; refine HC.out.1.mono ?_; rintro e w2 ⟨rfl, rfl⟩)
              go_ret2
              exact HF.out.1 (by rw [HC.out.2, decide_eq_false h2]; rfl)
        · go_wp2_with (go_at_call 79; refine HC.out.1.mono ?_; rintro e w2 ⟨rfl, rfl⟩)
          go_ret2
          exact HF.out.2 (by rw [HC.out.2]; rfl)
  · have hnew := new_bad a cap ls w h hle hlen (by omega)
    rw [← hN] at hnew ⊢
    have hiw : iwhole ls few = false := by unfold iwhole; rw [decide_eq_false hw, Bool.false_and]
    have H := Lib.hid (And.intro hnew hiw)
    clear h hle hN hnew hw hiw
    go_enter Tryz.func62, Tryz.ntmps62
    go_wp2_with (go_at_call 59; refine H.out.1.mono ?_; rintro e w1 ⟨rfl, f1⟩)
    go_ret2
    exact .inl ⟨H.out.2, rfl, f1⟩
end Go.Proofs.YtolkoidbkaidkaaGreat.inf
