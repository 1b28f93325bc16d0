/-
  Texts of this proof, one behind the other: MixE.
-/
import Derived.Test.YtflcdnmhgfhmdaaGreatDoorG8
set_option linter.unusedVariables false
set_option linter.unusedSimpArgs false
/-
  As lib.region_mix, without a tail, with early readers: a quiet operation that every effect waits for is checked in the world at hand only.
-/
namespace Go.Proofs.YtflcdnmhgfhmdaaGreatDoor.lib
open Go
section
variable {P : Program} {ops : Array Oper} {Q : Exit → Act → World → Prop} {md : Region.Mode}
/-- Whatever order is picked; D holds between the worlds ahead of and behind each operation. -/
def wpMe (P : Program) (md : Region.Mode) (ops : Array Oper) (Q : Exit → Act → World → Prop) (D : Nat → World → World → Prop) : Nat → Array Bool → Act → World → Prop
  | 0, listed, a, w => Region.ready md ops listed = [] ∧ Q .normal a w
  | f + 1, listed, a, w => (Region.ready md ops listed = [] → Q .normal a w) ∧
    ∀ i ∈ Region.ready md ops listed, wpOp P ops Q i (fun a' w' => D i w w' ∧ wpMe P md ops Q D f (listed.setIfInBounds i true) a' w') a w
theorem wpAny_of_me {D : Nat → World → World → Prop} : ∀ (f : Nat) (listed : Array Bool) (a : Act) (w : World), wpMe P md ops Q D f listed a w → wpAny P md ops Q f listed a w
  | 0, _, _, _, h => h
  | f + 1, _, _, _, h => ⟨h.1, fun i hi => wpOp_mono (fun a' w' h' => wpAny_of_me f _ a' w' h'.2) (h.2 i hi)⟩
theorem wpMe_first {i : Nat} {oi : Oper} {v : Value} {C : World → Prop} {D : Nat → World → World → Prop} (hi : ops[i]? = some oi) (hsel : ∀ (j : Nat) (o : Oper) cs b, ops[j]? = some o → o.op ≠ .select cs b)
    (hQ : ∀ c a d v w, Q (.panic c) (Act.put a d v) w → Q (.panic c) a w) (hDi : ∀ w, D i w w)
    (hT : ∀ listed, listed.getD i true = false → ∀ t ∈ Region.ready md ops listed, t ≠ i → ∀ w w', C w → D t w w' → C w') :
    ∀ (f : Nat) (listed : Array Bool) (a : Act) (w : World),
      (∀ j oj, ops[j]? = some oj → j ≠ i → listed.getD j true = false → (∀ e ∈ oj.after, Region.binds md e = true → e.on ≠ i) → oi.apart ops oj = true) →
      i ∈ Region.ready md ops listed → QY P ops C oi v a → C w →
      wpMe P md ops Q D f (listed.setIfInBounds i true) (a.put oi.dst v) w → wpMe P md ops Q D (f + 1) listed a w := by
  intro f
  induction f with
  | zero =>
    intro listed a w _ hr hy hC H
    refine ⟨fun h => (by rw [h] at hr; cases hr), fun j hj => ?_⟩
    by_cases hji : j = i
    · subst hji; exact hy.op hi hC ⟨hDi w, H⟩
    · have := ready_mono hj hji
      rw [H.1] at this
      cases this
  | succ f ih =>
    intro listed a w hfree hr hy hC H
    have hun := (mem_ready.1 hr).1
    refine ⟨fun h => (by rw [h] at hr; cases hr), fun j hj => ?_⟩
    by_cases hji : j = i
    · subst hji; exact hy.op hi hC ⟨hDi w, H⟩
    · have h1 := H.2 j (ready_mono hj hji)
      obtain ⟨hjun, oj, hoj, hall⟩ := mem_ready.1 hj
      have hnot : ∀ e ∈ oj.after, Region.binds md e = true → e.on ≠ i := fun e he hb heq => by
        have h1 := hall e he hb
        rw [heq, getD_both hun] at h1
        cases h1
      have h2 := put_of_QY hoj (hfree j oj hoj hji hjun hnot) (fun cs b => hsel i oi cs b hi) (fun cs b => hsel j oj cs b hoj) hQ hy h1
      have hfree' : ∀ k ok, ops[k]? = some ok → k ≠ i → (listed.setIfInBounds j true).getD k true = false →
          (∀ e ∈ ok.after, Region.binds md e = true → e.on ≠ i) → oi.apart ops ok = true := fun k ok hk hki hkun hno => by
        refine hfree k ok hk hki ?_ hno
        by_cases hjk : j = k
        · subst hjk; exact hjun
        · rw [getD_set_ne true hjk] at hkun; exact hkun
      refine wpOp_mono (fun a' w' h3 => ⟨h3.2.1, ?_⟩) h2
      refine ih (listed.setIfInBounds j true) a' w' hfree' (ready_mono hr (Ne.symm hji)) h3.1 (hT listed hun j hj hji w w' hC h3.2.1) ?_
      rw [Array.setIfInBounds_comm _ _ hji]
      exact h3.2.2
/-- What each operation may do: the late ones turn blocks of S, the others nothing. -/
def DE (S : List Nat) (lates : List Nat) (j : Nat) (w w' : World) : Prop := if lates.contains j = true then Fr S w w' else w' = w
def mixE (P : Program) (ops : Array Oper) (S : List Nat) (Q : Exit → Act → World → Prop) : List (Nat × Oper) → Act → World → Prop
  | [], a, w => Q .normal a w
  | (0, o) :: rest, a, w => if Region.wanted o (yielded ops a.tmps) then o.quiet P a (Sup S w) (fun a' => mixE P ops S Q rest a' w) else mixE P ops S Q rest (a.put o.dst undef) w
  | (1, o) :: rest, a, w => if Region.wanted o (yielded ops a.tmps) then o.quiet P a (fun u => u = w) (fun a' => mixE P ops S Q rest a' w) else mixE P ops S Q rest (a.put o.dst undef) w
  | (_ + 2, o) :: rest, a, w => if Region.wanted o (yielded ops a.tmps) then o.wp P a w (fun a' w' => Fr S w w' ∧ mixE P ops S Q rest a' w') Q else mixE P ops S Q rest (a.put o.dst undef) w
def waitsFor (md : Region.Mode) (ops : Array Oper) (t i : Nat) : Bool := match ops[t]? with
  | some o => o.after.toList.any fun e => Region.binds md e && decide (e.on = i)
  | none => true
def quietB (md : Region.Mode) (ops : Array Oper) (lates : List Nat) (i : Nat) (listed : Array Bool) : Bool :=
  (Region.ready md ops listed).contains i && Region.free md ops listed i && (match ops[i]? with | some o => okKind o.op | none => false) && !lates.contains i
def mixEB (md : Region.Mode) (ops : Array Oper) (lates : List Nat) : List (Nat × Nat) → Array Bool → Bool
  | [], listed => decide (Region.ready md ops listed = [])
  | (0, i) :: rest, listed => quietB md ops lates i listed && mixEB md ops lates rest (listed.setIfInBounds i true)
  | (1, i) :: rest, listed => quietB md ops lates i listed && lates.all (fun t => waitsFor md ops t i) && mixEB md ops lates rest (listed.setIfInBounds i true)
  | (_ + 2, i) :: rest, listed => decide (Region.ready md ops listed = [i]) && lates.contains i && mixEB md ops lates rest (listed.setIfInBounds i true)
theorem late_waits {i t : Nat} {listed : Array Bool} (h : waitsFor md ops t i = true) (hun : listed.getD i true = false) (ht : t ∈ Region.ready md ops listed) : False := by
  obtain ⟨_, o, ho, hall⟩ := mem_ready.1 ht
  simp only [waitsFor, ho, List.any_eq_true, Bool.and_eq_true, decide_eq_true_eq] at h
  obtain ⟨e, he, hb, heq⟩ := h
  have h1 := hall e (by simpa using he) hb
  rw [heq, getD_both hun] at h1
  cases h1
theorem DE_sup {S lates : List Nat} {b : World} {t : Nat} {w w' : World} (hC : Sup S b w) (h : DE S lates t w w') : Sup S b w' := by
  unfold DE at h
  split at h
  · exact Sup.of (hC.fr.trans h)
  · rw [h]; exact hC
theorem me_walk {S lates : List Nat} {l : List Oper} (hl : ops = l.toArray) (hsel : Region.noSelect ops = true) (hQ : ∀ c a d v w, Q (.panic c) (Act.put a d v) w → Q (.panic c) a w) :
    ∀ (order : List (Nat × Nat)) (listed : Array Bool) (a : Act) (w : World), mixEB md ops lates order listed = true →
      mixE P ops S Q (order.map fun x => (x.1, l.getD x.2 default)) a w → wpMe P md ops Q (DE S lates) order.length listed a w
  | [], listed, a, w, hB, h => by
    simp only [mixEB, decide_eq_true_eq] at hB
    exact ⟨hB, h⟩
  | (0, i) :: rest, listed, a, w, hB, h => by
    simp only [mixEB, quietB, Bool.and_eq_true, Bool.not_eq_true'] at hB
    obtain ⟨⟨⟨⟨hr, hf⟩, hk⟩, hlt⟩, hrest⟩ := hB
    have hr' : i ∈ Region.ready md ops listed := by simpa using hr
    obtain ⟨_, oi, hoi, _⟩ := mem_ready.1 hr'
    rw [hoi] at hk
    have hd : l.getD i default = oi := by
      rw [hl] at hoi
      simp at hoi
      simp [List.getD, hoi]
    simp only [List.map_cons, hd, mixE] at h
    have hC : Sup S w w := Sup.of (Fr.refl _ _)
    have hDi : ∀ w, DE S lates i w w := fun w => by unfold DE; split; exact Fr.refl _ _; rfl
    have hT : ∀ listed : Array Bool, listed.getD i true = false → ∀ t ∈ Region.ready md ops listed, t ≠ i → ∀ w1 w', Sup S w w1 → DE S lates t w1 w' → Sup S w w' := fun _ _ t _ _ w1 w' h1 h2 => DE_sup h1 h2
    by_cases hw : Region.wanted oi (yielded ops a.tmps) = true
    · rw [if_pos hw] at h
      obtain ⟨v, h1, h2⟩ := h
      have hy : QY P ops (Sup S w) oi v a := .inl ⟨hw, fun u hu => runs_of_quiet hk (h1 u hu)⟩
      exact wpMe_first hoi (Region.noSelect_spec hsel) hQ hDi hT _ listed a w (Region.free_spec hoi hf) hr' hy hC (me_walk hl hsel hQ rest _ _ w hrest h2)
    · rw [if_neg hw] at h
      have hy : QY P ops (Sup S w) oi undef a := .inr ⟨by simpa using hw, rfl⟩
      exact wpMe_first hoi (Region.noSelect_spec hsel) hQ hDi hT _ listed a w (Region.free_spec hoi hf) hr' hy hC (me_walk hl hsel hQ rest _ _ w hrest h)
  | (1, i) :: rest, listed, a, w, hB, h => by
    simp only [mixEB, quietB, Bool.and_eq_true, Bool.not_eq_true'] at hB
    obtain ⟨⟨⟨⟨⟨hr, hf⟩, hk⟩, hlt⟩, hwait⟩, hrest⟩ := hB
    have hr' : i ∈ Region.ready md ops listed := by simpa using hr
    obtain ⟨_, oi, hoi, _⟩ := mem_ready.1 hr'
    rw [hoi] at hk
    have hd : l.getD i default = oi := by
      rw [hl] at hoi
      simp at hoi
      simp [List.getD, hoi]
    simp only [List.map_cons, hd, mixE] at h
    have hDi : ∀ w, DE S lates i w w := fun w => by unfold DE; split; exact Fr.refl _ _; rfl
    have hT : ∀ listed : Array Bool, listed.getD i true = false → ∀ t ∈ Region.ready md ops listed, t ≠ i → ∀ w1 w', w1 = w → DE S lates t w1 w' → w' = w := fun ls hun t ht _ w1 w' h1 h2 => by
      unfold DE at h2
      split at h2
      · rename_i hc
        exact (late_waits (List.all_eq_true.1 hwait t (by simpa using hc)) hun ht).elim
      · rw [h2, h1]
    by_cases hw : Region.wanted oi (yielded ops a.tmps) = true
    · rw [if_pos hw] at h
      obtain ⟨v, h1, h2⟩ := h
      have hy : QY P ops (fun u => u = w) oi v a := .inl ⟨hw, fun u hu => runs_of_quiet hk (h1 u hu)⟩
      exact wpMe_first hoi (Region.noSelect_spec hsel) hQ hDi hT _ listed a w (Region.free_spec hoi hf) hr' hy rfl (me_walk hl hsel hQ rest _ _ w hrest h2)
    · rw [if_neg hw] at h
      have hy : QY P ops (fun u => u = w) oi undef a := .inr ⟨by simpa using hw, rfl⟩
      exact wpMe_first hoi (Region.noSelect_spec hsel) hQ hDi hT _ listed a w (Region.free_spec hoi hf) hr' hy rfl (me_walk hl hsel hQ rest _ _ w hrest h)
  | (_ + 2, i) :: rest, listed, a, w, hB, h => by
    simp only [mixEB, Bool.and_eq_true, decide_eq_true_eq] at hB
    obtain ⟨⟨he, hlt⟩, hrest⟩ := hB
    have hr' : i ∈ Region.ready md ops listed := by rw [he]; simp
    obtain ⟨_, oi, hoi, _⟩ := mem_ready.1 hr'
    have hd : l.getD i default = oi := by
      rw [hl] at hoi
      simp at hoi
      simp [List.getD, hoi]
    simp only [List.map_cons, hd, mixE] at h
    refine ⟨fun h0 => (by rw [h0] at hr'; cases hr'), fun j hj => ?_⟩
    rw [he] at hj
    have hji : j = i := by simpa using hj
    subst hji
    unfold wpOp
    simp only [hoi]
    by_cases hw : Region.wanted oi (yielded ops a.tmps) = true
    · rw [if_pos hw] at h
      rw [if_pos hw]
      left
      exact Oper.wp_mono (fun a' w' h' => ⟨by unfold DE; rw [if_pos hlt]; exact h'.1, me_walk hl hsel hQ rest _ a' w' hrest h'.2⟩) h
    · rw [if_neg hw] at h
      rw [if_neg hw]
      exact ⟨by unfold DE; rw [if_pos hlt]; exact Fr.refl _ _, me_walk hl hsel hQ rest _ _ w hrest h⟩
theorem region_mixE {id : Nat} {a : Act} {w : World} {l : List Oper} (order : List (Nat × Nat)) (S lates : List Nat) (hm : P.follows .mixedOrders = true)
    (hB : (Region.noSelect l.toArray && decide (order.length = l.toArray.size) && mixEB .any l.toArray lates order (Array.replicate l.toArray.size false)) = true)
    (hQ : ∀ c a d v w, Q (.panic c) (Act.put a d v) w → Q (.panic c) a w)
    (h : mixE P l.toArray S Q (order.map fun x => (x.1, l.getD x.2 default)) a w.drew) : (Code.region id l.toArray true).wp P Q a w := by
  simp only [Bool.and_eq_true, decide_eq_true_eq] at hB
  obtain ⟨⟨hsel, hlen⟩, hmix⟩ := hB
  refine wp_region_any hm (wpAny_of_me (D := DE S lates) _ _ _ _ ?_)
  have := me_walk (P := P) (Q := Q) (md := .any) (S := S) (lates := lates) rfl hsel hQ order _ a w.drew hmix h
  rw [hlen] at this
  exact this
theorem mixE_early {S : List Nat} {items : List (Nat × Oper)} {a : Act} {w : World} (k : Nat) (h0 : ((items.take k).all fun x => decide (x.1 = 1)) = true)
    (h : wpQuiet P ops (fun u => u = w) (fun a' => mixE P ops S Q (items.drop k) a' w) ((items.take k).map (·.2)) a) : mixE P ops S Q items a w := by
  induction k generalizing items a with
  | zero => exact h
  | succ k ih =>
    cases items with
    | nil => exact h
    | cons x rest =>
      obtain ⟨e, o⟩ := x
      simp only [List.take_succ_cons, List.all_cons, Bool.and_eq_true, decide_eq_true_eq] at h0
      obtain ⟨rfl, h0⟩ := h0
      simp only [List.take_succ_cons, List.map_cons, List.drop_succ_cons, wpQuiet] at h
      unfold mixE
      by_cases hw : Region.wanted o (yielded ops a.tmps) = true
      · rw [if_pos hw] at h ⊢
        obtain ⟨v, h1, h2⟩ := h
        exact ⟨v, h1, ih h0 h2⟩
      · rw [if_neg hw] at h ⊢
        exact ih h0 h
theorem mixE_seg {S : List Nat} {items : List (Nat × Oper)} {a : Act} {w : World} (k : Nat) (h0 : ((items.take k).all fun x => decide (x.1 = 0)) = true)
    (h : wpQuiet P ops (Sup S w) (fun a' => mixE P ops S Q (items.drop k) a' w) ((items.take k).map (·.2)) a) : mixE P ops S Q items a w := by
  induction k generalizing items a with
  | zero => exact h
  | succ k ih =>
    cases items with
    | nil => exact h
    | cons x rest =>
      obtain ⟨e, o⟩ := x
      simp only [List.take_succ_cons, List.all_cons, Bool.and_eq_true, decide_eq_true_eq] at h0
      obtain ⟨rfl, h0⟩ := h0
      simp only [List.take_succ_cons, List.map_cons, List.drop_succ_cons, wpQuiet] at h
      unfold mixE
      by_cases hw : Region.wanted o (yielded ops a.tmps) = true
      · rw [if_pos hw] at h ⊢
        obtain ⟨v, h1, h2⟩ := h
        exact ⟨v, h1, ih h0 h2⟩
      · rw [if_neg hw] at h ⊢
        exact ih h0 h
theorem mixE_eff {S : List Nat} {rest : List (Nat × Oper)} {o : Oper} {a : Act} {w : World} (hw : Region.wanted o (yielded ops a.tmps) = true)
    (h : ∀ K : Act → World → Prop, Go.RowKit.Hid (∀ a' w', Fr S w w' → mixE P ops S Q rest a' w' → K a' w') → o.wp P a w K Q) : mixE P ops S Q ((2, o) :: rest) a w := by
  unfold mixE
  rw [if_pos hw]
  exact h _ fun _ _ h1 h2 => ⟨h1, h2⟩
theorem mixE_nil {S : List Nat} {a : Act} {w : World} (h : Q .normal a w) : mixE P ops S Q [] a w := h
end
end Go.Proofs.YtflcdnmhgfhmdaaGreatDoor.lib
