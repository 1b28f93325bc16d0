/-
  Texts of this proof, one behind the other: Mix.
-/
import Derived.Test.YtflcdnmhgfhmdaaGreatDoorG2
import Derived.Test.YtflcdnmhgfhmdaaGreatDoorG7
import Derived.OrdersHeld
set_option linter.unusedVariables false
set_option linter.unusedSimpArgs false
/-
  A region that draws its order, of operations that read beside operations that make or write memory (these one behind the other): walked once, in one order.
-/
namespace Go.Proofs.YtflcdnmhgfhmdaaGreatDoor.lib
open Go

/-! ### Operations that hand back a value and enter no function -/
def okKind : Op → Bool
  | .move _ | .assign _ | .pick .. | .load .. | .nilCheck _ | .binOp .. | .unOp .. | .convert .. | .slice .. | .fieldAddr .. | .field .. | .indexAddr .. | .index .. | .extract .. | .makeInterface .. => true
  | .call { callee := .builtin .len, .. } | .call { callee := .builtin .cap, .. } | .call { callee := .builtin .min, .. } | .call { callee := .builtin .max, .. } => true
  | _ => false
theorem no_enter_v {P : Program} {w w' : World} {s : Sem Value} {f : FuncId} {args : Array Value} : (do pure (Next.value (← s)) : Sem Next).run P w ≠ .ok (.enter f args) w' := by
  intro h
  rw [Sem.run_bind] at h
  cases hr : s.run P w with
  | ok v u => rw [hr] at h; simp [Result.andThen] at h
  | halt x u => rw [hr] at h; simp [Result.andThen] at h
theorem okKind_enter {P : Program} {w w' : World} {ρ : Operand → Value} {o : Oper} {f : FuncId} {args : Array Value} (h : okKind o.op = true) : (execOp ρ o).run P w ≠ .ok (.enter f args) w' := by
  obtain ⟨dst, op, ty, pos, after, guard⟩ := o
  cases op <;> simp only [okKind, Bool.false_eq_true] at h <;> try (exact no_enter_v)
  case move => simp [execOp]
  case assign => simp [execOp]
  case pick c a b =>
    intro h
    simp only [execOp, Sem.run_bind] at h
    cases hr : (asBool (ρ c)).run P w with
    | ok v u => rw [hr] at h; simp [Result.andThen] at h
    | halt x u => rw [hr] at h; simp [Result.andThen] at h
  case nilCheck x =>
    intro h
    simp only [execOp] at h
    split at h
    · simp [runtimePanic, goPanic] at h
    · simp [runtimePanic, goPanic] at h
    · simp [runtimePanic, goPanic] at h
    · split at h
      · simp [runtimePanic, goPanic] at h
      · simp [unsupported, Result.andThen] at h
        split at h
        · split at h <;> simp at h
        · simp at h
      · simp at h
    · simp at h
  case call c =>
    obtain ⟨callee, args, ts⟩ := c
    cases callee with
    | value f => simp [okKind] at h
    | invoke r m => simp [okKind] at h
    | builtin b =>
      cases b <;> simp [okKind] at h <;> (simp only [execOp, resolve, pure_bind, invoke, builtin]; exact no_enter_v)
/-- A quiet operation of such a kind hands back its value and leaves the world. -/
theorem runs_of_quiet {P : Program} {o : Oper} {a : Act} {C : World → Prop} {w : World} {v : Value} (hk : okKind o.op = true) (h : o.quietAt P a C w v) :
    (execOp a.eval o).run P w = .ok (.value v) w ∨ ((execOp a.eval o).run P w = .ok .skip w ∧ v = undef) := by
  unfold Oper.quietAt at h
  generalize hr : (execOp a.eval o).run P w = r at h
  cases r with
  | ok n w' =>
    cases n <;> simp only [Oper.quietUpon] at h
    case value u => left; rw [h.1, h.2]
    case skip => right; rw [h.1]; exact ⟨rfl, h.2⟩
    case enter f args => exact absurd hr (okKind_enter hk)
  | halt x w' => simp only [Oper.quietUpon] at h

/-! ### Worlds that a region's operations may come to -/
open Classical in
/-- Any world in which, of w's blocks, those of S alone may have turned. -/
noncomputable def sup (S : List Nat) (w x : World) : World := if Fr S w x then x else w
theorem sup_fr (S : List Nat) (w x : World) : Fr S w (sup S w x) := by
  unfold sup
  split
  · assumption
  · exact Fr.refl _ _
theorem sup_self {S : List Nat} {w x : World} (h : Fr S w x) : sup S w x = x := by unfold sup; rw [if_pos h]
@[go_sem] def Sup (S : List Nat) (w : World) : World → Prop := fun u => ∃ x, u = sup S w x
theorem Sup.of {S : List Nat} {w u : World} (h : Fr S w u) : Sup S w u := ⟨u, (sup_self h).symm⟩
theorem Sup.fr {S : List Nat} {w u : World} (h : Sup S w u) : Fr S w u := by obtain ⟨x, rfl⟩ := h; exact sup_fr S w x
theorem Sup.sub {S : List Nat} {w w' : World} (h : Fr S w w') : ∀ u, Sup S w' u → Sup S w u := fun u hu => Sup.of (h.trans hu.fr)
@[go_sem] theorem cell?_sup {S : List Nat} {w x : World} {a : Addr} (h : (w.cell? a).isSome = true) (hn : a.block ∉ S) : (sup S w x).cell? a = w.cell? a := by
  obtain ⟨v, hv⟩ := Option.isSome_iff_exists.1 h
  rw [hv, (sup_fr S w x).cell hv hn]

/-! ### The law -/
section
variable {P : Program} {ops : Array Oper} {Q : Exit → Act → World → Prop} {md : Region.Mode}

/-- In this state, in every world of C, the operation leaves v and the world. -/
def QY (P : Program) (ops : Array Oper) (C : World → Prop) (o : Oper) (v : Value) (a : Act) : Prop :=
  (Region.wanted o (yielded ops a.tmps) = true ∧ ∀ w, C w → (execOp a.eval o).run P w = .ok (.value v) w ∨ ((execOp a.eval o).run P w = .ok .skip w ∧ v = undef)) ∨
  (Region.wanted o (yielded ops a.tmps) = false ∧ v = undef)
theorem QY.of_same {C : World → Prop} {o : Oper} {v : Value} {a a' : Act} (hy : QY P ops C o v a) (he : execOp a'.eval o = execOp a.eval o)
    (hw : Region.wanted o (yielded ops a'.tmps) = Region.wanted o (yielded ops a.tmps)) : QY P ops C o v a' := by
  unfold QY at *
  rw [he, hw]
  exact hy
theorem QY.op {C : World → Prop} {i : Nat} {o : Oper} {v : Value} {a : Act} (hi : ops[i]? = some o) (hy : QY P ops C o v a) {K : Act → World → Prop} {w : World} (hC : C w) (h : K (a.put o.dst v) w) : wpOp P ops Q i K a w := by
  unfold wpOp
  simp only [hi]
  rcases hy with ⟨hw, hv⟩ | ⟨hw, rfl⟩
  · rcases hv w hC with hr | ⟨hr, rfl⟩
    · simp only [hw, if_true, Oper.wp, hr, Oper.upon]; exact .inl h
    · simp only [hw, if_true, Oper.wp, hr, Oper.upon]; exact .inl h
  · simp only [hw, Bool.false_eq_true, if_false]; exact h
theorem put_of_QY {C : World → Prop} {j : Nat} {oi oj : Oper} {v : Value} (hj : ops[j]? = some oj) (hap : oi.apart ops oj = true)
    (hsi : ∀ cs b, oi.op ≠ .select cs b) (hsj : ∀ cs b, oj.op ≠ .select cs b)
    (hQ : ∀ c a d v w, Q (.panic c) (Act.put a d v) w → Q (.panic c) a w) {K : Act → World → Prop} {a : Act} {w : World}
    (hy : QY P ops C oi v a) (h : wpOp P ops Q j K (a.put oi.dst v) w) :
    wpOp P ops Q j (fun a' w' => QY P ops C oi v a' ∧ K (a'.put oi.dst v) w') a w := by
  obtain ⟨h1, h2, h3⟩ := Oper.apart_spec hap
  have keep : ∀ (a : Act), QY P ops C oi v a → ∀ u, QY P ops C oi v (a.put oj.dst u) := fun a hy u =>
    hy.of_same (execOp_put oi hsi a oj.dst u h3) (wanted_put oi a oj.dst u h3)
  have keepD : ∀ d, QY P ops C oi v { a with defers := d :: a.defers } := fun d => hy.of_same rfl rfl
  unfold wpOp at *
  simp only [hj] at *
  rw [wanted_put oj a oi.dst v h1] at h
  by_cases hw : Region.wanted oj (yielded ops a.tmps) = true
  · simp only [hw, if_true] at h ⊢
    rcases h with h | ⟨hasks, hlets⟩
    · left
      unfold Oper.wp at *
      rw [execOp_put oj hsj a oi.dst v h1] at h
      generalize (execOp a.eval oj).run P w = r at *
      cases r with
      | ok n w' =>
        cases n <;> simp only [Oper.upon] at h ⊢
        case value u => exact ⟨keep a hy u, by rw [← Act.put_comm a v u h2]; exact h⟩
        case skip => exact ⟨keep a hy _, by rw [← Act.put_comm a v undef h2]; exact h⟩
        case defer d =>
          refine ⟨keep _ (keepD d) _, ?_⟩
          rw [← Act.put_comm _ v undef h2, ← Act.put_defers]
          exact h
        case enter f args =>
          refine Calls.mono h fun e w'' he => ?_
          cases e with
          | returned u => exact ⟨keep a hy u, by rw [← Act.put_comm a v u h2]; exact he⟩
          | panicked c => exact hQ _ _ _ _ _ he
          | outgrown => exact he
        case row row args => exact Rows.mono h fun u w'' he => ⟨keep a hy u, by rw [← Act.put_comm a v u h2]; exact he⟩
      | halt x w' =>
        cases x <;> simp only [Oper.upon] at h ⊢
        case panic u => exact hQ _ _ _ _ _ h
    · right
      refine ⟨?_, hlets⟩
      unfold Oper.asks at *
      rw [execOp_put oj hsj a oi.dst v h1] at hasks
      exact hasks
  · simp only [hw] at h ⊢
    exact ⟨keep a hy _, by rw [← Act.put_comm a v undef h2]; exact h⟩

/-- Whatever order is picked from here on; C holds behind each operation of the first n. -/
def wpMx (P : Program) (md : Region.Mode) (ops : Array Oper) (Q : Exit → Act → World → Prop) (n : Nat) (C : World → Prop) : Nat → Array Bool → Act → World → Prop
  | 0, listed, a, w => Region.ready md ops listed = [] ∧ Q .normal a w
  | f + 1, listed, a, w => (Region.ready md ops listed = [] → Q .normal a w) ∧
    ∀ i ∈ Region.ready md ops listed, wpOp P ops Q i (fun a' w' => (i < n → C w') ∧ wpMx P md ops Q n C f (listed.setIfInBounds i true) a' w') a w
theorem wpMx_mono {n : Nat} {C C' : World → Prop} (hC : ∀ u, C' u → C u) : ∀ (f : Nat) (listed : Array Bool) (a : Act) (w : World), wpMx P md ops Q n C' f listed a w → wpMx P md ops Q n C f listed a w
  | 0, _, _, _, h => h
  | f + 1, _, _, _, h => ⟨h.1, fun i hi => wpOp_mono (fun a' w' h' => ⟨fun hn => hC _ (h'.1 hn), wpMx_mono hC f _ a' w' h'.2⟩) (h.2 i hi)⟩
theorem wpAny_of_mx {n : Nat} {C : World → Prop} : ∀ (f : Nat) (listed : Array Bool) (a : Act) (w : World), wpMx P md ops Q n C f listed a w → wpAny P md ops Q f listed a w
  | 0, _, _, _, h => h
  | f + 1, _, _, _, h => ⟨h.1, fun i hi => wpOp_mono (fun a' w' h' => wpAny_of_mx f _ a' w' h'.2) (h.2 i hi)⟩
/-- A quiet operation of the first n may be taken first. -/
theorem wpMx_first {n i : Nat} {oi : Oper} {v : Value} {C : World → Prop} (hi : ops[i]? = some oi) (hsel : ∀ (j : Nat) (o : Oper) cs b, ops[j]? = some o → o.op ≠ .select cs b)
    (hQ : ∀ c a d v w, Q (.panic c) (Act.put a d v) w → Q (.panic c) a w) (hin : i < n)
    (hT : ∀ listed, HeadInv md ops n listed → listed.getD i true = false → ∀ t, n ≤ t → t ∉ Region.ready md ops listed) :
    ∀ (f : Nat) (listed : Array Bool) (a : Act) (w : World), HeadInv md ops n listed →
      (∀ j oj, ops[j]? = some oj → j ≠ i → listed.getD j true = false → (∀ e ∈ oj.after, Region.binds md e = true → e.on ≠ i) → oi.apart ops oj = true) →
      i ∈ Region.ready md ops listed → QY P ops C oi v a → C w →
      wpMx P md ops Q n C f (listed.setIfInBounds i true) (a.put oi.dst v) w → wpMx P md ops Q n C (f + 1) listed a w := by
  intro f
  induction f with
  | zero =>
    intro listed a w inv _ hr hy hC H
    refine ⟨fun h => (by rw [h] at hr; cases hr), fun j hj => ?_⟩
    by_cases hji : j = i
    · subst hji; exact hy.op hi hC ⟨fun _ => hC, H⟩
    · have := ready_mono hj hji
      rw [H.1] at this
      cases this
  | succ f ih =>
    intro listed a w inv hfree hr hy hC H
    have hun := (mem_ready.1 hr).1
    refine ⟨fun h => (by rw [h] at hr; cases hr), fun j hj => ?_⟩
    by_cases hji : j = i
    · subst hji; exact hy.op hi hC ⟨fun _ => hC, H⟩
    · have hjn : j < n := by
        rcases Nat.lt_or_ge j n with h | h
        · exact h
        · exact absurd hj (hT listed inv hun j h)
      have h1 := H.2 j (ready_mono hj hji)
      obtain ⟨hjun, oj, hoj, hall⟩ := mem_ready.1 hj
      have hnot : ∀ e ∈ oj.after, Region.binds md e = true → e.on ≠ i := fun e he hb heq => by
        have h1 := hall e he hb
        rw [heq, getD_both hun] at h1
        cases h1
      have h2 := put_of_QY hoj (hfree j oj hoj hji hjun hnot) (fun cs b => hsel i oi cs b hi) (fun cs b => hsel j oj cs b hoj) hQ hy h1
      have hfree' : ∀ k ok, ops[k]? = some ok → k ≠ i → (listed.setIfInBounds j true).getD k true = false →
          (∀ e ∈ ok.after, Region.binds md e = true → e.on ≠ i) → oi.apart ops ok = true := fun k ok hk hki hkun hno => by
        refine hfree k ok hk hki ?_ hno
        by_cases hjk : j = k
        · subst hjk; exact hjun
        · rw [getD_set_ne true hjk] at hkun; exact hkun
      refine wpOp_mono (fun a' w' h3 => ⟨h3.2.1, ?_⟩) h2
      refine ih (listed.setIfInBounds j true) a' w' (inv.set hj hjn) hfree' (ready_mono hr (Ne.symm hji)) h3.1 (h3.2.1 hjn) ?_
      rw [Array.setIfInBounds_comm _ _ hji]
      exact h3.2.2
theorem wpMx_of_seq {n : Nat} {C : World → Prop} : ∀ (l : List Oper) (k : Nat) (listed : Array Bool) (a : Act) (w : World), n ≤ k → (∀ j, l[j]? = ops[k + j]?) →
    Region.seqB md ops l.length k listed = true → wpList P ops Q l a w → wpMx P md ops Q n C l.length listed a w
  | [], _, _, _, _, _, _, hB, h => ⟨by simpa [Region.seqB] using hB, h⟩
  | o :: l, k, listed, a, w, hk, hl, hB, h => by
    have h0 : ops[k]? = some o := by simpa using (hl 0).symm
    simp only [List.length_cons, Region.seqB, Bool.and_eq_true, decide_eq_true_eq] at hB
    refine ⟨fun h1 => (by rw [hB.1] at h1; cases h1), fun i hi => ?_⟩
    rw [hB.1] at hi
    have hik : i = k := by simpa using hi
    subst hik
    have hw : wpOp P ops Q i (wpList P ops Q l) a w := by unfold wpOp; simp only [h0]; exact h
    exact wpOp_mono (fun a' w' h' => ⟨fun hlt => by omega, wpMx_of_seq l (i + 1) _ a' w' (by omega) (fun j => by have := hl (j + 1); simpa [Nat.add_assoc, Nat.add_comm 1 j] using this) hB.2 h'⟩) hw

/-- The one walk: 'false': the operation is quiet in all worlds that may come; 'true': it may turn blocks of S. Behind them the tail. -/
def mixQ (P : Program) (ops : Array Oper) (S : List Nat) (Q : Exit → Act → World → Prop) (tail : List Oper) : List (Bool × Oper) → Act → World → Prop
  | [], a, w => wpList P ops Q tail a w
  | (false, o) :: rest, a, w => if Region.wanted o (yielded ops a.tmps) then o.quiet P a (Sup S w) (fun a' => mixQ P ops S Q tail rest a' w) else mixQ P ops S Q tail rest (a.put o.dst undef) w
  | (true, o) :: rest, a, w => if Region.wanted o (yielded ops a.tmps) then o.wp P a w (fun a' w' => Fr S w w' ∧ mixQ P ops S Q tail rest a' w') Q else mixQ P ops S Q tail rest (a.put o.dst undef) w
def mixB (md : Region.Mode) (ops : Array Oper) (n : Nat) : List (Bool × Nat) → Array Bool → Bool
  | [], listed => Region.seqB md ops (ops.size - n) n listed
  | (e, i) :: rest, listed => decide (i < n) && (match e with
      | true => decide (Region.ready md ops listed = [i])
      | false => (Region.ready md ops listed).contains i && Region.free md ops listed i && (match ops[i]? with | some o => okKind o.op | none => false)) && mixB md ops n rest (listed.setIfInBounds i true)
def mixAll (md : Region.Mode) (ops : Array Oper) (n : Nat) (order : List (Bool × Nat)) : Bool :=
  Region.noSelect ops && (decide (n = ops.size) || (decide (n < ops.size) && Region.sinkB md ops n && Region.chainB md ops n)) && decide (order.length + (ops.size - n) = ops.size) && mixB md ops n order (Array.replicate ops.size false)

theorem mx_walk {n : Nat} {S : List Nat} {l : List Oper} (hl : ops = l.toArray) (hsel : Region.noSelect ops = true) (hQ : ∀ c a d v w, Q (.panic c) (Act.put a d v) w → Q (.panic c) a w)
    (hT : ∀ i, i < n → ∀ listed, HeadInv md ops n listed → listed.getD i true = false → ∀ t, n ≤ t → t ∉ Region.ready md ops listed) :
    ∀ (order : List (Bool × Nat)) (listed : Array Bool) (a : Act) (w : World), HeadInv md ops n listed → mixB md ops n order listed = true →
      mixQ P ops S Q (l.drop n) (order.map fun x => (x.1, l.getD x.2 default)) a w → wpMx P md ops Q n (Sup S w) (order.length + (ops.size - n)) listed a w
  | [], listed, a, w, _, hB, h => by
    have hlen : (l.drop n).length = ops.size - n := by rw [hl]; simp
    have := wpMx_of_seq (P := P) (Q := Q) (md := md) (ops := ops) (n := n) (C := Sup S w) (l.drop n) n listed a w (Nat.le_refl _) (fun j => by rw [hl]; simp [List.getElem?_drop]) (by rw [hlen]; exact hB) h
    simpa [hlen] using this
  | (e, i) :: rest, listed, a, w, inv, hB, h => by
    simp only [mixB, Bool.and_eq_true, decide_eq_true_eq] at hB
    obtain ⟨⟨hin, he⟩, hrest⟩ := hB
    have hlen : ((e, i) :: rest).length + (ops.size - n) = rest.length + (ops.size - n) + 1 := by simp; omega
    rw [hlen]
    cases e with
    | false =>
      simp only [Bool.and_eq_true] at he
      obtain ⟨⟨hr, hf⟩, hk⟩ := he
      have hr' : i ∈ Region.ready md ops listed := by simpa using hr
      obtain ⟨_, oi, hoi, _⟩ := mem_ready.1 hr'
      rw [hoi] at hk
      have hd : l.getD i default = oi := by
        rw [hl] at hoi
        simp at hoi
        simp [List.getD, hoi]
      simp only [List.map_cons, hd, mixQ] at h
      have hC : Sup S w w := Sup.of (Fr.refl _ _)
      by_cases hw : Region.wanted oi (yielded ops a.tmps) = true
      · rw [if_pos hw] at h
        obtain ⟨v, h1, h2⟩ := h
        have hy : QY P ops (Sup S w) oi v a := .inl ⟨hw, fun u hu => runs_of_quiet hk (h1 u hu)⟩
        exact wpMx_first hoi (Region.noSelect_spec hsel) hQ hin (hT i hin) _ listed a w inv (Region.free_spec hoi hf) hr' hy hC (mx_walk hl hsel hQ hT rest _ _ w (inv.set hr' hin) hrest h2)
      · rw [if_neg hw] at h
        have hy : QY P ops (Sup S w) oi undef a := .inr ⟨by simpa using hw, rfl⟩
        exact wpMx_first hoi (Region.noSelect_spec hsel) hQ hin (hT i hin) _ listed a w inv (Region.free_spec hoi hf) hr' hy hC (mx_walk hl hsel hQ hT rest _ _ w (inv.set hr' hin) hrest h)
    | true =>
      simp only [decide_eq_true_eq] at he
      have hr' : i ∈ Region.ready md ops listed := by rw [he]; simp
      obtain ⟨_, oi, hoi, _⟩ := mem_ready.1 hr'
      have hd : l.getD i default = oi := by
        rw [hl] at hoi
        simp at hoi
        simp [List.getD, hoi]
      simp only [List.map_cons, hd, mixQ] at h
      refine ⟨fun h0 => (by rw [h0] at hr'; cases hr'), fun j hj => ?_⟩
      rw [he] at hj
      have hji : j = i := by simpa using hj
      subst hji
      unfold wpOp
      simp only [hoi]
      by_cases hw : Region.wanted oi (yielded ops a.tmps) = true
      · rw [if_pos hw] at h
        rw [if_pos hw]
        left
        exact Oper.wp_mono (fun a' w' h' => ⟨fun _ => Sup.of h'.1, wpMx_mono (Sup.sub h'.1) _ _ _ _ (mx_walk hl hsel hQ hT rest _ a' w' (inv.set hr' hin) hrest h'.2)⟩) h
      · rw [if_neg hw] at h
        rw [if_neg hw]
        exact ⟨fun _ => Sup.of (Fr.refl _ _), mx_walk hl hsel hQ hT rest _ _ w (inv.set hr' hin) hrest h⟩

theorem region_mix {id : Nat} {a : Act} {w : World} {l : List Oper} (n : Nat) (order : List (Bool × Nat)) (S : List Nat) (hm : P.follows .mixedOrders = true) (hB : mixAll .any l.toArray n order = true)
    (hQ : ∀ c a d v w, Q (.panic c) (Act.put a d v) w → Q (.panic c) a w)
    (h : mixQ P l.toArray S Q (l.drop n) (order.map fun x => (x.1, l.getD x.2 default)) a w.drew) : (Code.region id l.toArray true).wp P Q a w := by
  simp only [mixAll, Bool.and_eq_true, decide_eq_true_eq, Bool.or_eq_true] at hB
  obtain ⟨⟨⟨hsel, hn⟩, hlen⟩, hmix⟩ := hB
  have inv0 : HeadInv .any l.toArray n (Array.replicate l.toArray.size false) :=
    ⟨by simp, fun j oj _ hl => (by rw [getD_replicate_false] at hl; cases hl), fun t _ ht => getD_in (by simpa using ht) (getD_replicate_false _ _)⟩
  have hT : ∀ i, i < n → ∀ listed, HeadInv .any l.toArray n listed → listed.getD i true = false → ∀ t, n ≤ t → t ∉ Region.ready .any l.toArray listed := by
    intro i hi listed inv hun t ht hr
    rcases hn with hn | ⟨⟨hn, hs⟩, hc⟩
    · obtain ⟨_, o, ho, _⟩ := mem_ready.1 hr
      have := (Array.getElem?_eq_some_iff.1 ho).1
      omega
    · exact tail_waits hs hc hn inv _ i rfl hi hun t ht hr
  refine wp_region_any hm (wpAny_of_mx (n := n) (C := Sup S w.drew) _ _ _ _ ?_)
  have := mx_walk (P := P) (Q := Q) (md := .any) (n := n) (S := S) rfl hsel hQ hT order _ a w.drew inv0 hmix h
  rw [hlen] at this
  exact this

theorem mix_seg {S : List Nat} {tail : List Oper} {items : List (Bool × Oper)} {a : Act} {w : World} (k : Nat) (h0 : ((items.take k).all fun x => !x.1) = true)
    (h : wpQuiet P ops (Sup S w) (fun a' => mixQ P ops S Q tail (items.drop k) a' w) ((items.take k).map (·.2)) a) : mixQ P ops S Q tail items a w := by
  induction k generalizing items a with
  | zero => exact h
  | succ k ih =>
    cases items with
    | nil => exact h
    | cons x rest =>
      obtain ⟨b, o⟩ := x
      simp only [List.take_succ_cons, List.all_cons, Bool.and_eq_true, Bool.not_eq_true'] at h0
      obtain ⟨rfl, h0⟩ := h0
      simp only [List.take_succ_cons, List.map_cons, List.drop_succ_cons, wpQuiet] at h
      unfold mixQ
      by_cases hw : Region.wanted o (yielded ops a.tmps) = true
      · rw [if_pos hw] at h ⊢
        obtain ⟨v, h1, h2⟩ := h
        exact ⟨v, h1, ih h0 h2⟩
      · rw [if_neg hw] at h ⊢
        exact ih h0 h
theorem mix_eff {S : List Nat} {tail : List Oper} {rest : List (Bool × Oper)} {o : Oper} {a : Act} {w : World} (hw : Region.wanted o (yielded ops a.tmps) = true)
    (h : ∀ K : Act → World → Prop, Go.RowKit.Hid (∀ a' w', Fr S w w' → mixQ P ops S Q tail rest a' w' → K a' w') → o.wp P a w K Q) : mixQ P ops S Q tail ((true, o) :: rest) a w := by
  unfold mixQ
  rw [if_pos hw]
  exact h _ fun _ _ h1 h2 => ⟨h1, h2⟩
theorem mix_off {S : List Nat} {tail : List Oper} {rest : List (Bool × Oper)} {o : Oper} {a : Act} {w : World} (hw : Region.wanted o (yielded ops a.tmps) = false)
    (h : mixQ P ops S Q tail rest (a.put o.dst undef) w) : mixQ P ops S Q tail ((true, o) :: rest) a w := by
  unfold mixQ
  rw [if_neg (by rw [hw]; exact Bool.false_ne_true)]
  exact h
theorem mix_nil {S : List Nat} {tail : List Oper} {a : Act} {w : World} (h : wpList P ops Q tail a w) : mixQ P ops S Q tail [] a w := h
end
theorem run_conv_sup {P : Program} (S : List Nat) (w : World) {src dst e : TypeId} (hs : P.underlying src = some (.slice e)) (he : P.underlying e = some (.int .u8)) (hd : P.underlying dst = some .string)
    {ao : Option Addr} {n : Nat} {bs : List UInt8} (hn : bs.length = n) (hcs : Cs w ao (bs.map bv)) (hb : ∀ x ∈ blk ao, x ∉ S) :
    ∀ x cap, (convert src dst (.slice ao n cap)).run P (sup S w x) = .ok (.string (str bs)) (sup S w x) :=
  fun x cap => run_conv (sup S w x) hs he hd hn (hcs.fr (sup_fr S w x) hb) cap
end Go.Proofs.YtflcdnmhgfhmdaaGreatDoor.lib
