/-
  bytes.Index in this seat's words.
-/
import Derived.Test.YtoplgcikcanagaaDeltaShelf
import Derived.Test.YtoplgcikcanagaaDeltaFind
import Derived.Lib.IndexMore
namespace Go.Proofs.Ytoplgcikcanagaa.delta
open Go Go.RowKit Go.Proofs.Ytoplgcikcanagaa.lib Go.Proofs.Ytoplgcikcanagaa.bm

/-- The text stands in the base at p. -/
def Occ (base text : List UInt8) (p : Nat) : Prop := p + text.length ≤ base.length ∧ (base.drop p).take text.length = text
theorem occ_iff {s t : List UInt8} {i : Nat} (hi : i ≤ s.length) : Lib.occAt s t i = true ↔ Occ s t i := by
  unfold Lib.occAt Occ
  rw [List.isPrefixOf_iff_prefix, List.prefix_iff_eq_take]
  constructor
  · intro h
    have := congrArg List.length h
    rw [List.length_take, List.length_drop] at this
    exact ⟨by omega, h.symm⟩
  · exact fun h => h.2.symm
/-- What Index answers. -/
def IdxPost (base text : List UInt8) (e : Ending) : Prop := (∃ p : Nat, e = .returned (.int .i64 (p : Nat)) ∧ Occ base text p) ∨ (e = .returned (.int .i64 (-1)) ∧ ∀ p, ¬ Occ base text p)
theorem idx_post (base text : List UInt8) : IdxPost base text (.returned (.int .i64 (Lib.index base text))) := by
  rcases Lib.index_spec base text with ⟨h, h2⟩ | ⟨i, h, hi, ho, _⟩
  · refine .inr ⟨by rw [h], fun p hp => ?_⟩
    have hl : p ≤ base.length := by have := hp.1; omega
    have := (occ_iff hl).2 hp
    rw [h2 p hl] at this
    cases this
  · exact .inl ⟨i, by rw [h], (occ_iff hi).1 ho⟩
theorem bytesOf_nat (bs : List UInt8) : Lib.bytesOf (bs.map fun b => (b.toNat : Int)) = bs := by
  unfold Lib.bytesOf
  rw [List.map_map]
  conv => rhs; rw [← List.map_id bs]
  exact List.map_congr_left fun b _ => by simp
theorem index_all (a b : Option Addr) (cap capb : Nat) (base text : List UInt8) (m : Int) (w : World) (hb : Rd w a cap base) (ht : Rd w b capb text) (hlen : base.length < 4294967281) (hm : w.cell? ⟨0, 0, none⟩ = some (.int .i64 m)) :
    Calls Try.prog 19 #[.slice a base.length cap, .slice b text.length capb] w fun e w' => IdxPost base text e ∧ Fr [] w w' := by
  have hmx := ht.max
  have hle := ht.le
  unfold maxLen at hmx
  by_cases h0 : text = []
  · subst h0
    refine (Try.bytes_Index_none a b base.length cap capb w).mono ?_
    rintro e w' ⟨rfl, rfl⟩
    exact ⟨.inl ⟨0, rfl, by simp [Occ]⟩, Fr.refl _ _⟩
  · have hl : 0 < text.length := List.length_pos_iff.2 h0
    obtain ⟨g, o, rfl, c0⟩ := ht.at (i := 0) hl
    by_cases h1 : base = []
    · subst h1
      have hz : (Value.slice a 0 cap) = .slice a 0 cap := rfl
      rcases a with _ | ⟨ag, ao, fz⟩
      · have hc := hb.nil rfl
        subst hc
        refine (Try.bytes_Index_nil (some ⟨g, o, none⟩) text.length capb w (by omega) (fun _ => ⟨g, o, _, rfl, c0⟩)).mono ?_
        rintro e w' ⟨rfl, rfl⟩
        refine ⟨.inr ⟨by rw [if_neg (by omega)], fun p hp => ?_⟩, Fr.refl _ _⟩
        have : p + text.length ≤ 0 := hp.1
        omega
      · refine (Try.bytes_Index_at ⟨ag, ao, fz⟩ ⟨g, o, none⟩ 0 cap text.length capb [] (text.map fun b => (b.toNat : Int)) m w rfl (by simp) (by simp) ?_ (by simp) ?_ (Nat.zero_le _) (by decide) (by omega) hm).mono ?_
        · intro y hy
          obtain ⟨u, _, rfl⟩ := List.mem_map.1 hy
          have := u.toNat_lt
          omega
        · intro i hi
          obtain ⟨g', o', e, c⟩ := ht.at hi
          cases e
          simpa [Addr.add_lit, List.getD, hi] using c
        · rintro e w' ⟨rfl, q, rfl⟩
          rw [bytesOf_nat]
          exact ⟨idx_post [] text, Fr.drewN _ _ _⟩
    · have hl1 : 0 < base.length := List.length_pos_iff.2 h1
      obtain ⟨g1, o1, rfl, _⟩ := hb.at (i := 0) hl1
      refine (Try.bytes_Index_at ⟨g1, o1, none⟩ ⟨g, o, none⟩ base.length cap text.length capb (base.map fun b => (b.toNat : Int)) (text.map fun b => (b.toNat : Int)) m w (by simp) (by simp) ?_ ?_ ?_ ?_ hb.le hlen (by omega) hm).mono ?_
      · intro y hy
        obtain ⟨u, _, rfl⟩ := List.mem_map.1 hy
        have := u.toNat_lt
        omega
      · intro y hy
        obtain ⟨u, _, rfl⟩ := List.mem_map.1 hy
        have := u.toNat_lt
        omega
      · intro i hi
        obtain ⟨g', o', e, c⟩ := hb.at hi
        cases e
        simpa [Addr.add_lit, List.getD, hi] using c
      · intro i hi
        obtain ⟨g', o', e, c⟩ := ht.at hi
        cases e
        simpa [Addr.add_lit, List.getD, hi] using c
      · rintro e w' ⟨rfl, q, rfl⟩
        rw [bytesOf_nat, bytesOf_nat]
        exact ⟨idx_post base text, Fr.drewN _ _ _⟩
end Go.Proofs.Ytoplgcikcanagaa.delta
