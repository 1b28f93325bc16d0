/-
  stemmalaw17.To, Same: lines as the document's.
-/
import Derived.Test.YteldakjhnifbpaaPktSmall
namespace Go.Proofs.Yteldakjhnifbpaa.pkt
open Go Go.RowKit Go.Proofs.Yteldakjhnifbpaa.lib Go.Proofs.Yteldakjhnifbpaa.bm

def dcells : List Ln → List Value
  | [] => []
  | x :: r => .int .i64 x.1 :: .string (str x.2) :: dcells r
theorem dcells_append : ∀ a b : List Ln, dcells (a ++ b) = dcells a ++ dcells b
  | [], b => rfl
  | x :: a, b => by simp only [List.cons_append, dcells, dcells_append a b]
theorem dcells_length : ∀ a : List Ln, (dcells a).length = a.length * 2
  | [] => rfl
  | x :: a => by simp only [dcells, List.length_cons, dcells_length a]; omega
theorem dcells_at : ∀ (l : List Ln) (i : Nat) (h : i < l.length), (dcells l)[i * 2]? = some (.int .i64 l[i].1) ∧ (dcells l)[i * 2 + 1]? = some (.string (str l[i].2))
  | x :: l, 0, h => ⟨rfl, rfl⟩
  | x :: l, i + 1, h => by
    have h' : i < l.length := by simpa using h
    have h1 := dcells_at l i h'
    rw [show (i + 1) * 2 = i * 2 + 1 + 1 from by omega]
    exact h1
theorem dcells_one : ∀ (a : List Ln), ∀ u ∈ dcells a, u.oneCell' = true
  | [], u, h => by cases h
  | x :: a, u, h => by
    simp only [dcells, List.mem_cons] at h
    rcases h with rfl | rfl | h
    · rfl
    · rfl
    · exact dcells_one a u h
/-- The document's lines, in a row of one's own. -/
structure DRow (w wr : World) (a : Option Addr) (cap : Nat) (l : List Ln) : Prop where
  own : wr.ownsRow 0 60 2 (.slice a l.length cap) l.length (dcells l)
  fr : Fr [] w wr
  new : ∀ x ∈ blk a, w.heap.size ≤ x
theorem DRow.fr0 {w wr wz : World} {a : Option Addr} {cap : Nat} {l : List Ln} (h : DRow w wr a cap l) (f : Fr [] wr wz) : DRow w wz a cap l := ⟨ownsRow_fr h.own f (by simp), h.fr.trans f, h.new⟩
theorem drow_nil (w : World) : DRow w w none 0 [] := ⟨World.ownsRow_nil _ _ _ _, Fr.refl _ _, by simp [blk]⟩
theorem DRow.more {w w1 w2 : World} {a a' : Option Addr} {cap cap' : Nat} {l m : List Ln} (h : DRow w w1 a cap l) (own : w2.ownsRow 0 60 2 (.slice a' (l.length + m.length) cap') (l.length + m.length) (dcells l ++ dcells m)) (fr : Fr (blk a) w1 w2)
    (hat : ∀ y ∈ blk a', y ∈ blk a ∨ w1.heap.size ≤ y) : DRow w w2 a' cap' (l ++ m) := by
  refine ⟨by rw [List.length_append, dcells_append]; exact own, h.fr.step fr fun y hy => .inr (h.new y hy), fun y hy => ?_⟩
  rcases hat y hy with h1 | h1
  · exact h.new y h1
  · have := h.fr.size
    omega
theorem DRow.shape {w wr : World} {a : Option Addr} {cap : Nat} {l : List Ln} (h : DRow w wr a cap l) : l.length ≤ cap ∧ cap ≤ maxLen ∧ (a = none → cap = 0) := by
  rcases h.own.2 with ⟨h1, h2⟩ | ⟨g, cap', cur, h1, hb, hg, hn, hm, hs, ht⟩
  · simp only [Value.slice.injEq] at h1
    obtain ⟨rfl, h3, rfl⟩ := h1
    exact ⟨by omega, Nat.zero_le _, fun _ => rfl⟩
  · simp only [Value.slice.injEq] at h1
    obtain ⟨rfl, _, rfl⟩ := h1
    exact ⟨hn, hm, fun h => by cases h⟩
/-- Whether two lines agree. -/
theorem sliceDLine : SliceTy Try.prog 36 60 (.agg #[.int .i64 0, .string ⟨#[]⟩]) 2 24 := SliceTy.of Try.underlying36 (by kernel_rfl) (by kernel_rfl) (by decide)
set_option maxRecDepth 100000 in
set_option maxHeartbeats 4000000 in
theorem to_all (ao : Option Addr) (cap : Nat) (ls : List Lv) (w : World) (L : Lines w ao cap ls) (hlim : ls.length ≤ 2199023255552) :
    Calls Try.prog 11 #[.slice ao ls.length cap] w fun e w' => ∃ a c, e = .returned (.slice a ls.length c) ∧ DRow w w' a c (ls.map Lv.ln) := by
  obtain ⟨N, hN⟩ : ∃ N, N = ls.length := ⟨_, rfl⟩
  have HN := Lib.hid hN
  have HL := Lib.hid L
  rw [← hN] at hlim ⊢
  clear L hN
  go_enter Try.func11, Try.ntmps11
  go_wp2
  go_loopg [3, 4] N (fun k s3 s4 wr => ∃ i a c, i + k = N ∧ s4 = .int .i64 (i : Nat) ∧ s3 = .slice a i c ∧ DRow w wr a c ((ls.map Lv.ln).take i))
  case atStart => exact ⟨0, none, 0, by omega, rfl, rfl, by rw [List.take_zero]; exact drow_nil w⟩
  case round =>
    obtain ⟨i, a, c, hi, rfl, rfl, h⟩ := hrel
    have hti : ((ls.map Lv.ln).take i).length = i := by rw [List.length_take, List.length_map, ← HN.out]; omega
    obtain ⟨hsc, hsm, _⟩ := h.shape
    have H := Lib.hid h
    clear h
    by_cases hin : i < N
    · have hil : i < ls.length := by have := HN.out; omega
      obtain ⟨g, o, rfl, hc⟩ := HL.out.cs.at (by rw [lcells_length]; omega)
      obtain ⟨x0, x1⟩ := lcells_at ls i hil
      have c0 := (Fr.drew1 [] wr).cell (H.out.fr.cell (hc _ _ x0) (by simp)) (by simp)
      have c1 := (Fr.drew1 [] wr).cell (H.out.fr.cell (hc _ _ x1) (by simp)) (by simp)
      rw [← Nat.add_assoc] at c1
      have hok0 := HL.out.ok ls[i] (List.getElem_mem hil)
      have hok := (hok0.fr H.out.fr).fr (Fr.drew1 [] wr)
      have htk : (ls.map Lv.ln).take (i + 1) = (ls.map Lv.ln).take i ++ [ls[i].ln] := by rw [List.take_add_one]; simp [hil]
      have hgS : g ∉ blk a := fun hy => by
        have h1 := H.out.new g hy
        have h2 := HL.out.cs.lt (by intro h; have := congrArg List.length h; rw [lcells_length] at this; simp at this; omega) ⟨g, o, none⟩ rfl
        simp only at h2
        omega
      generalize ls[i] = x at *
      obtain ⟨k, xa, xc, d⟩ := x
      simp only [Lv.ln] at *
      have hxa : d = [] ∨ ∀ y ∈ blk xa, y ∉ blk a := by
        by_cases hne : d = []
        · exact .inl hne
        · right
          intro y hy hya
          have h1 := hok0.cs.lt (by simpa using hne)
          have h2 := H.out.new y hya
          cases xa with
          | none => simp [blk] at hy
          | some z =>
            have := h1 z rfl
            simp [blk] at hy
            omega
      obtain ⟨S, hS⟩ : ∃ S, S = blk a := ⟨_, rfl⟩
      rw [← hS] at hgS hxa
      have HS := Lib.hid hS
      clear hS
      generalize hD : d.length = D at *
      have q0 : ∀ x, (sup S wr.drew x).cell? ⟨g, o + i * 2, none⟩ = some (.int .i64 k) := fun x => by rw [cell?_sup (by rw [c0]; rfl) hgS]; exact c0
      have q1 : ∀ x, (sup S wr.drew x).cell? ⟨g, o + i * 2 + 1, none⟩ = some (.slice xa D xc) := fun x => by rw [cell?_sup (by rw [c1]; rfl) hgS]; exact c1
      have cv : ∀ x cap, (convert 23 9 (.slice xa D cap)).run Try.prog (sup S wr.drew x) = .ok (.string (str d)) (sup S wr.drew x) := fun x => by
        rcases hxa with hne | hxa
        · exact run_conv (sup S wr.drew x) Try.underlying23 Try.underlying5 Try.underlying9 hD (.inl (by rw [hne]; rfl))
        · exact run_conv_sup S wr.drew Try.underlying23 Try.underlying5 Try.underlying9 hD hok.cs hxa x
      have own0 := H.out.own
      rw [hti] at own0
      have HT := Lib.hid (And.intro hti (And.intro htk own0))
      clear c0 c1 hok0 hok hxa x0 x1 hc htk hD own0
      rw [hti] at hsc
      clear hti
      go_upto_region 5 with fail
      refine region_mix 15 [(false, 0), (false, 1), (false, 2), (false, 3), (false, 4), (false, 5), (false, 6), (false, 7), (false, 8), (false, 9), (false, 10), (false, 11), (true, 12), (true, 13), (true, 14)] S (by kernel_rfl) (by kernel_rfl) (fun _ _ d _ _ h => by cases d <;> exact h) ?_
      simp only [List.map_cons, List.map_nil, List.getD_cons_zero, List.getD_cons_succ, List.drop_succ_cons, List.drop_zero, List.drop_nil]
      refine mix_seg 12 rfl ?_
      simp only [List.take_succ_cons, List.take_zero, List.drop_succ_cons, List.drop_zero, List.map_cons, List.map_nil]
      repeat (go_big_quiet_step (fail))
      refine wpQuiet_nil ?_
      clear q0 q1 cv
      refine mix_eff rfl ?_
      intro X hX
      go_wp2
      refine hX.out _ _ (Fr.refl _ _) ?_
      clear hX X
      refine mix_eff rfl ?_
      intro X hX
      go_wp2
      refine hX.out _ _ ((Fr.refl S wr.drew).alloc _) ?_
      clear hX X
      have f0 : Fr [] wr (wr.drew.alloc (.cells #[.int .i64 k, .string (str d)] 60)) := (Fr.drew1 [] wr).alloc _
      have ownA := ownsRow_fr HT.out.2.2 f0 (by simp)
      have cA : Cs (wr.drew.alloc (.cells #[.int .i64 k, .string (str d)] 60)) (some ⟨wr.drew.heap.size, 0, none⟩) [.int .i64 k, .string (str d)] :=
        .inr ⟨wr.drew.heap.size, 0, rfl, fun j u hj => by rw [cell_of (alloc_at wr.drew _)]; simpa using hj⟩
      refine mix_eff rfl ?_
      intro X hX
      refine wp_append sliceDLine _ _ rfl (.slice a i c) i (dcells ((ls.map Lv.ln).take i)) S rfl (by rw [own_blk, HS.out]) ownA (some ⟨wr.drew.heap.size, 0, none⟩) 1 1 [.int .i64 k, .string (str d)] rfl (by decide) (by simp) cA (by rfl) (by simp [Value.oneCell']) (by omega) (by unfold maxLen; omega) ?_
      intro a2 c2 w2 A1
      refine hX.out _ _ A1.fr ?_
      clear hX X
      have HA := Lib.hid A1
      clear A1 ownA cA
      refine mix_nil ?_
      go_wp2
      go_roundg (N - (i + 1))
      case measure => omega
      case rel =>
        have A1 := HA.out
        rw [HS.out] at A1
        refine ⟨i + 1, a2, c2, by omega, by go_num, rfl, ?_⟩
        rw [HT.out.2.1]
        exact (H.out.fr0 f0).more (m := [(k, d)]) (by rw [HT.out.1]; exact A1.own) A1.fr (fun y hy => (A1.at_ y hy).imp id fun h => Nat.le_of_eq h.symm)
    · have hk : gk = 0 := by omega
      obtain rfl : i = N := by omega
      clear hin
      go_wp2
      go_ret
      have h := H.out
      rw [List.take_of_length_le (by rw [List.length_map, ← HN.out]; omega)] at h
      exact ⟨a, c, rfl, h⟩
set_option maxRecDepth 100000 in
set_option maxHeartbeats 2000000 in
theorem same_true (ao bo : Option Addr) (ca cb : Nat) (l : List Ln) (w : World) (ha : Cs w ao (dcells l)) (hb : Cs w bo (dcells l)) (hlim : l.length ≤ 2199023255552) :
    Calls Try.prog 13 #[.slice ao l.length ca, .slice bo l.length cb] w fun e w' => e = .returned (.bool true) ∧ Fr [] w w' := by
  obtain ⟨N, hN⟩ : ∃ N, N = l.length := ⟨_, rfl⟩
  have HN := Lib.hid hN
  have HA := Lib.hid (And.intro ha hb)
  rw [← hN] at hlim ⊢
  clear ha hb hN
  go_enter Try.func13, Try.ntmps13
  go_wp2
  go_loopg [5] N (fun k s5 wr => ∃ i, i + k = N ∧ s5 = .int .i64 (i : Nat) ∧ Fr [] w wr)
  case atStart => exact ⟨0, by omega, rfl, Fr.refl _ _⟩
  case round =>
    obtain ⟨i, hi, rfl, fr⟩ := hrel
    have F := Lib.hid fr
    by_cases hin : i < N
    · have hil : i < l.length := by have := HN.out; omega
      obtain ⟨g, o, rfl, hc⟩ := HA.out.1.at (by rw [dcells_length]; omega)
      obtain ⟨g', o', rfl, hc'⟩ := HA.out.2.at (by rw [dcells_length]; omega)
      obtain ⟨x0, x1⟩ := dcells_at l i hil
      have c0 := fr.cell (hc _ _ x0) (by simp)
      have c1 := fr.cell (hc _ _ x1) (by simp)
      have d0 := fr.cell (hc' _ _ x0) (by simp)
      have d1 := fr.cell (hc' _ _ x1) (by simp)
      rw [← Nat.add_assoc] at c1 d1
      generalize l[i].1 = k at *
      generalize str l[i].2 = z at *
      clear hc hc' x0 x1 fr
      go_upto_region 6 with fail
      go_cut [25] from 17 to 25 (fun s25 wz => s25 = .bool false ∧ Fr [] wr wz)
      case first =>
        go_quiet (fail)
        go_wp2
        go_meet
        exact ⟨by first | rfl | simp, (Fr.refl _ _).drewsN _⟩
      case rest =>
      obtain ⟨rfl, f2⟩ := hcut
      have F2 := Lib.hid f2
      clear c0 c1 d0 d1 f2
      go_wp2
      go_roundg (N - (i + 1))
      case measure => omega
      case rel => exact ⟨i + 1, by omega, by go_num, F.out.trans F2.out⟩
    · clear fr
      go_wp2
      go_ret
      exact ⟨rfl, F.out⟩
end Go.Proofs.Yteldakjhnifbpaa.pkt
