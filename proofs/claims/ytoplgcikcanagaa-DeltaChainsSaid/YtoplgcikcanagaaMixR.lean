/-
  As lib.region_mix, with a base world that may lag behind: an effect may turn blocks of S and all that came behind the base.
-/
import Derived.Test.YtoplgcikcanagaaMix
namespace Go.Proofs.Ytoplgcikcanagaa.lib
open Go
theorem Fr.from_drew {S : List Nat} {w w' : World} (h : Fr S w w') : Fr S w.drew w' := ⟨h.os, h.tape, h.output, h.size, h.block⟩
section
variable {P : Program} {ops : Array Oper} {Q : Exit → Act → World → Prop} {md : Region.Mode}
def mixR (P : Program) (ops : Array Oper) (S : List Nat) (Q : Exit → Act → World → Prop) (tail : List Oper) : List (Bool × Oper) → World → Act → World → Prop
  | [], _, a, w => wpList P ops Q tail a w
  | (false, o) :: rest, b, a, w => if Region.wanted o (yielded ops a.tmps) then o.quiet P a (Sup S b) (fun a' => mixR P ops S Q tail rest b a' w) else mixR P ops S Q tail rest b (a.put o.dst undef) w
  | (true, o) :: rest, b, a, w => if Region.wanted o (yielded ops a.tmps) then o.wp P a w (fun a' w' => ∃ b', Fr S b b' ∧ Fr S b' w' ∧ mixR P ops S Q tail rest b' a' w') Q else mixR P ops S Q tail rest b (a.put o.dst undef) w
theorem mx_walkR {n : Nat} {S : List Nat} {l : List Oper} (hl : ops = l.toArray) (hsel : Region.noSelect ops = true) (hQ : ∀ c a d v w, Q (.panic c) (Act.put a d v) w → Q (.panic c) a w)
    (hT : ∀ i, i < n → ∀ listed, HeadInv md ops n listed → listed.getD i true = false → ∀ t, n ≤ t → t ∉ Region.ready md ops listed) :
    ∀ (order : List (Bool × Nat)) (listed : Array Bool) (b : World) (a : Act) (w : World), Fr S b w → HeadInv md ops n listed → mixB md ops n order listed = true →
      mixR P ops S Q (l.drop n) (order.map fun x => (x.1, l.getD x.2 default)) b a w → wpMx P md ops Q n (Sup S b) (order.length + (ops.size - n)) listed a w
  | [], listed, b, a, w, _, _, hB, h => by
    have hlen : (l.drop n).length = ops.size - n := by rw [hl]; simp
    have := wpMx_of_seq (P := P) (Q := Q) (md := md) (ops := ops) (n := n) (C := Sup S b) (l.drop n) n listed a w (Nat.le_refl _) (fun j => by rw [hl]; simp [List.getElem?_drop]) (by rw [hlen]; exact hB) h
    simpa [hlen] using this
  | (e, i) :: rest, listed, b, a, w, hfr, inv, hB, h => by
    simp only [mixB, Bool.and_eq_true, decide_eq_true_eq] at hB
    obtain ⟨⟨hin, he⟩, hrest⟩ := hB
    have hlen : ((e, i) :: rest).length + (ops.size - n) = rest.length + (ops.size - n) + 1 := by simp; omega
    rw [hlen]
    have hC : Sup S b w := Sup.of hfr
    cases e with
    | false =>
      simp only [Bool.and_eq_true] at he
      obtain ⟨⟨hr, hf⟩, hk⟩ := he
      have hr' : i ∈ Region.ready md ops listed := by simpa using hr
      obtain ⟨_, oi, hoi, _⟩ := mem_ready.1 hr'
      rw [hoi] at hk
      have hd : l.getD i default = oi := by
        rw [hl] at hoi
        simp at hoi
        simp [List.getD, hoi]
      simp only [List.map_cons, hd, mixR] at h
      by_cases hw : Region.wanted oi (yielded ops a.tmps) = true
      · rw [if_pos hw] at h
        obtain ⟨v, h1, h2⟩ := h
        have hy : QY P ops (Sup S b) oi v a := .inl ⟨hw, fun u hu => runs_of_quiet hk (h1 u hu)⟩
        exact wpMx_first hoi (Region.noSelect_spec hsel) hQ hin (hT i hin) _ listed a w inv (Region.free_spec hoi hf) hr' hy hC (mx_walkR hl hsel hQ hT rest _ b _ w hfr (inv.set hr' hin) hrest h2)
      · rw [if_neg hw] at h
        have hy : QY P ops (Sup S b) oi undef a := .inr ⟨by simpa using hw, rfl⟩
        exact wpMx_first hoi (Region.noSelect_spec hsel) hQ hin (hT i hin) _ listed a w inv (Region.free_spec hoi hf) hr' hy hC (mx_walkR hl hsel hQ hT rest _ b _ w hfr (inv.set hr' hin) hrest h)
    | true =>
      simp only [decide_eq_true_eq] at he
      have hr' : i ∈ Region.ready md ops listed := by rw [he]; simp
      obtain ⟨_, oi, hoi, _⟩ := mem_ready.1 hr'
      have hd : l.getD i default = oi := by
        rw [hl] at hoi
        simp at hoi
        simp [List.getD, hoi]
      simp only [List.map_cons, hd, mixR] at h
      refine ⟨fun h0 => (by rw [h0] at hr'; cases hr'), fun j hj => ?_⟩
      rw [he] at hj
      have hji : j = i := by simpa using hj
      subst hji
      unfold wpOp
      simp only [hoi]
      by_cases hw : Region.wanted oi (yielded ops a.tmps) = true
      · rw [if_pos hw] at h
        rw [if_pos hw]
        left
        exact Oper.wp_mono (fun a' w' h' => by
          obtain ⟨b', g1, g2, h'⟩ := h'
          exact ⟨fun _ => Sup.of (g1.trans g2), wpMx_mono (Sup.sub g1) _ _ _ _ (mx_walkR hl hsel hQ hT rest _ b' a' w' g2 (inv.set hr' hin) hrest h')⟩) h
      · rw [if_neg hw] at h
        rw [if_neg hw]
        exact ⟨fun _ => hC, mx_walkR hl hsel hQ hT rest _ b _ w hfr (inv.set hr' hin) hrest h⟩

theorem region_mixR {id : Nat} {a : Act} {w : World} {l : List Oper} (n : Nat) (order : List (Bool × Nat)) (S : List Nat) (hm : P.follows .mixedOrders = true) (hB : mixAll .any l.toArray n order = true)
    (hQ : ∀ c a d v w, Q (.panic c) (Act.put a d v) w → Q (.panic c) a w)
    (h : mixR P l.toArray S Q (l.drop n) (order.map fun x => (x.1, l.getD x.2 default)) w.drew a w.drew) : (Code.region id l.toArray true).wp P Q a w := by
  simp only [mixAll, Bool.and_eq_true, decide_eq_true_eq, Bool.or_eq_true] at hB
  obtain ⟨⟨⟨hsel, hn⟩, hlen⟩, hmix⟩ := hB
  have inv0 : HeadInv .any l.toArray n (Array.replicate l.toArray.size false) :=
    ⟨by simp, fun j oj _ hl => (by rw [getD_replicate_false] at hl; cases hl), fun t _ ht => getD_in (by simpa using ht) (getD_replicate_false _ _)⟩
  have hT : ∀ i, i < n → ∀ listed, HeadInv .any l.toArray n listed → listed.getD i true = false → ∀ t, n ≤ t → t ∉ Region.ready .any l.toArray listed := by
    intro i hi listed inv hun t ht hr
    rcases hn with hn | ⟨⟨hn, hs⟩, hc⟩
    · obtain ⟨_, o, ho, _⟩ := mem_ready.1 hr
      have := (Array.getElem?_eq_some_iff.1 ho).1
      omega
    · exact tail_waits hs hc hn inv _ i rfl hi hun t ht hr
  refine wp_region_any hm (wpAny_of_mx (n := n) (C := Sup S w.drew) _ _ _ _ ?_)
  have := mx_walkR (P := P) (Q := Q) (md := .any) (n := n) (S := S) rfl hsel hQ hT order _ w.drew a w.drew (Fr.refl _ _) inv0 hmix h
  rw [hlen] at this
  exact this
theorem mixR_seg {S : List Nat} {tail : List Oper} {items : List (Bool × Oper)} {b : World} {a : Act} {w : World} (k : Nat) (h0 : ((items.take k).all fun x => !x.1) = true)
    (h : wpQuiet P ops (Sup S b) (fun a' => mixR P ops S Q tail (items.drop k) b a' w) ((items.take k).map (·.2)) a) : mixR P ops S Q tail items b a w := by
  induction k generalizing items a with
  | zero => exact h
  | succ k ih =>
    cases items with
    | nil => exact h
    | cons x rest =>
      obtain ⟨e, o⟩ := x
      simp only [List.take_succ_cons, List.all_cons, Bool.and_eq_true, Bool.not_eq_true'] at h0
      obtain ⟨rfl, h0⟩ := h0
      simp only [List.take_succ_cons, List.map_cons, List.drop_succ_cons, wpQuiet] at h
      unfold mixR
      by_cases hw : Region.wanted o (yielded ops a.tmps) = true
      · rw [if_pos hw] at h ⊢
        obtain ⟨v, h1, h2⟩ := h
        exact ⟨v, h1, ih h0 h2⟩
      · rw [if_neg hw] at h ⊢
        exact ih h0 h
theorem mixR_eff {S : List Nat} {tail : List Oper} {rest : List (Bool × Oper)} {o : Oper} {b : World} {a : Act} {w : World} (hw : Region.wanted o (yielded ops a.tmps) = true)
    (h : ∀ K : Act → World → Prop, Go.RowKit.Hid (∀ a' w' b', Fr S b b' → Fr S b' w' → mixR P ops S Q tail rest b' a' w' → K a' w') → o.wp P a w K Q) : mixR P ops S Q tail ((true, o) :: rest) b a w := by
  unfold mixR
  rw [if_pos hw]
  exact h _ fun _ _ b' h1 h2 h3 => ⟨b', h1, h2, h3⟩
theorem mixR_nil {S : List Nat} {tail : List Oper} {b : World} {a : Act} {w : World} (h : wpList P ops Q tail a w) : mixR P ops S Q tail [] b a w := h
end
end Go.Proofs.Ytoplgcikcanagaa.lib
