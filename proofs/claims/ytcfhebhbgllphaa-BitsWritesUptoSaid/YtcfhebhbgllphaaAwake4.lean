/-
  stemmalaw4.awake: the fixed sentence of layer 4 holds.
-/
import Derived.Test.YtcfhebhbgllphaaWriter
namespace Go.Proofs.Ytcfhebhbgllphaa.bits
open Go Go.RowKit Go.Proofs.Ytcfhebhbgllphaa.lib Go.Proofs.Ytcfhebhbgllphaa.bm

theorem wr_new (w : World) : Wr (w.alloc (.cells #[.slice none 0 0, .int .u64 0, .int .i64 0] 27)) w.heap.size [w.heap.size] 0 0 :=
  ⟨.slice none 0 0, ⟨alloc_at _ _, World.ownsRow_nil _ _ _ _, by simp [Value.ownBlock], by decide⟩, rfl⟩
theorem rd_lt {T : TypeId} {w : World} {p : Nat} {F : List Nat} {bs : List UInt8} {a : Nat} (h : RdT T w p F bs a) (hbs : bs ≠ []) : ∀ x ∈ F, x < w.heap.size := by
  obtain ⟨ao, cap, hr, hcs, rfl, hpb, hlen, hat, hcap, hmax⟩ := h
  intro x hx
  rcases List.mem_cons.1 hx with rfl | hx
  · exact lt_of_block hr
  · cases ao with
    | none => simp [blk] at hx
    | some a =>
      simp [blk] at hx
      subst hx
      exact hcs.lt (by simpa using hbs) a rfl

set_option maxHeartbeats 1000000 in
theorem awake_any (w : World) : Calls Try.prog 12 #[] w fun e w' => e = .returned (.bool true) ∧ Fr [] w w' := by
  have z1 := wr_new w
  go_enter Try.func12, Try.ntmps12
  go_upto_region 2 with fail
  go_cut [] (fun wc => ∃ F, Wr wc w.heap.size F 1 1 ∧ Fr [] w wc ∧ ∀ x ∈ F, w.heap.size ≤ x)
  case first =>
    go_wp2_with (go_at_call 7; refine (put_int w.heap.size _ 0 0 _ _ _ z1 (by omega) (by omega) (by omega)).mono ?_; rintro e w' ⟨rfl, fr1, F1, hw1, hF1⟩)
    go_meet
    have fa : Fr [] w (w.alloc (.cells #[.slice none 0 0, .int .u64 0, .int .i64 0] 27)) := (Fr.refl _ _).alloc _
    refine ⟨F1, hw1, fa.step fr1 (by simp), fun x hx => ?_⟩
    rcases hF1 x hx with h | h
    · simp at h; omega
    · have := fa.size; omega
  case rest =>
  obtain ⟨F, hW, fr1, hF⟩ := hcut
  clear z1
  go_upto_region 3 with fail
  go_cut [] (fun wc => ∃ F, Wr wc w.heap.size F 5 3 ∧ Fr [] w wc ∧ ∀ x ∈ F, w.heap.size ≤ x)
  case first =>
    go_wp2_with (go_at_call 7; refine (put_int w.heap.size F 1 1 _ _ _ hW (by omega) (by omega) (by omega)).mono ?_; rintro e w' ⟨rfl, fr2, F1, hw1, hF1⟩)
    go_meet
    refine ⟨F1, hw1, fr1.step fr2 (fun x hx => .inr (hF x hx)), fun x hx => ?_⟩
    rcases hF1 x hx with h | h
    · exact hF x h
    · have := fr1.size; omega
  case rest =>
  obtain ⟨F, hW, fr1, hF⟩ := hcut
  go_upto_region 4 with fail
  go_cut [2] (fun s2 wc => ∃ r G, s2 = .pointer (some ⟨r, 0, none⟩) ∧ Rd wc r G [5] 0 ∧ Wr wc w.heap.size F 5 3 ∧ Fr [] w wc ∧ (∀ x ∈ F, w.heap.size ≤ x) ∧ ∀ x ∈ G, w.heap.size ≤ x ∧ x ∉ F)
  case first =>
    have hc5 : Cs (wc.alloc (.cells #[.int .u8 5] 5)) (some ⟨wc.heap.size, 0, none⟩) ([5].map bv) := cs_one _ _ _ _ (alloc_at _ _)
    have hc5' := Lib.hid hc5
    clear hc5
    go_wp2_with (go_at_call 9; refine (read_any _ 1 [5] _ hc5'.out (by decide) (by simp) (by decide)).mono ?_; rintro e w' ⟨r, G, rfl, hR, fr2, hG⟩)
    go_meet
    have hsz := fr1.size
    have fr3 := (Fr.alloc (Fr.refl [] wc) (.cells #[.int .u8 5] 5)).trans fr2
    refine ⟨r, G, rfl, hR, wr_fr hW fr3 (by simp), fr1.trans fr3, hF, fun x hx => ?_⟩
    have h1 := hG x hx
    simp at h1
    exact ⟨by omega, fun h => by have := wr_lt hW x h; omega⟩
  case rest =>
  obtain ⟨r, G, rfl, hR, hW, fr1, hF, hG⟩ := hcut
  go_upto_region 7 with fail
  go_cut [3, 4] (fun s3 s4 wc => s3 = .int .u32 5 ∧ s4 = .bool true ∧ Rd wc r G [5] 3 ∧ Wr wc w.heap.size F 5 3 ∧ Fr [] w wc)
  case first =>
    go_wp2_with (go_at_call 10; refine (take_good r G [5] 0 _ _ hR (by omega) (by omega) (by simp)).mono ?_; rintro e w' ⟨rfl, hR', fr2⟩)
    go_meet
    have hrG : r ∈ G := by obtain ⟨_, _, _, _, h, _⟩ := hR; rw [h]; simp
    exact ⟨rfl, rfl, hR', wr_fr hW fr2 (fun x hx => by simp; rintro rfl; exact (hG _ hrG).2 hx), fr1.step fr2 (fun x hx => by simp at hx; subst hx; exact .inr (hG _ hrG).1)⟩
  case rest =>
  obtain ⟨rfl, rfl, hR, hW, fr1⟩ := hcut
  go_upto_region 8 with fail
  go_cut [5, 6] (fun s5 s6 wc => s5 = .int .u32 0 ∧ s6 = .bool false ∧ Rd wc r G [5] 3 ∧ Wr wc w.heap.size F 5 3 ∧ Fr [] w wc)
  case first =>
    go_wp2_with (go_at_call 10; refine (take_bad r G [5] 3 _ _ hR (by simp)).mono ?_; rintro e w' ⟨rfl, hR', fr2⟩)
    go_meet
    exact ⟨rfl, rfl, hR', wr_fr hW fr2 (by simp), fr1.trans fr2⟩
  case rest =>
  obtain ⟨rfl, rfl, hR, hW, fr1⟩ := hcut
  go_upto_region 9 with fail
  go_wp2_with fail
  refine (wbytes_any w.heap.size F 5 3 _ hW (by omega)).mono ?_
  rintro e w1 ⟨a1, rfl, g1, n1, b1, fr2⟩
  go_wp2_with fail
  refine (wbytes_any w.heap.size F 5 3 _ (wr_fr hW fr2 (by simp)) (by omega)).mono ?_
  rintro e w2 ⟨a2, rfl, g2, n2, b2, fr3⟩
  obtain ⟨g, o, rfl, hc⟩ := g2.cs.at (by decide)
  have hc0 := hc 0 (.int .u8 5) rfl
  simp only [Nat.add_zero] at hc0
  clear hc
  go_wp2_with (go_at_call 11; refine (used_any r G [5] 3 _ (rd_fr (rd_fr hR fr2 (by simp)) fr3 (by simp))).mono ?_; rintro e w' ⟨rfl, rfl⟩)

  go_ret
  exact ⟨by rfl, (fr1.trans fr2).trans fr3⟩
end Go.Proofs.Ytcfhebhbgllphaa.bits
