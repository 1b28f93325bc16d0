/-
  Proved: stemmalaw4.BitsWrites returns true and leaves its argument as it was, for every argument of bulk at most 1048576. Conditions: none but the statement's own.
-/
import Derived.Test.YtcfhebhbgllphaaAwake4
import Derived.Test.YtcfhebhbgllphaaScript4
import Derived.Test.YtcfhebhbgllphaaRef5x
import Derived.Test.YtcfhebhbgllphaaMix
import Derived.Deep.CondSized
import Derived.Deep.CutBlock
namespace Go.Proofs.Ytcfhebhbgllphaa.bitsWrites
open Go Go.RowKit Go.ChangeShapes Go.WideShapes Go.Proofs.Ytcfhebhbgllphaa.lib Go.Proofs.Ytcfhebhbgllphaa.bm Go.Proofs.Ytcfhebhbgllphaa.bits

/-! ### The state of the law's loop -/
structure Sw (w wk : World) (b : Nat) (G : List Nat) (q : Nat) (K : List Nat) (M L : Nat) : Prop where
  wr : Wr wk b G M L
  wf : Wf wk q K M L
  apart : ∀ x ∈ G, x ∉ K
  newG : ∀ x ∈ G, w.heap.size ≤ x
  newK : ∀ x ∈ K, w.heap.size ≤ x
  fr : Fr [] w wk
theorem Sw.fr0 {w w1 w2 : World} {b q M L : Nat} {G K S : List Nat} (h : Sw w w1 b G q K M L) (f : Fr S w1 w2) (h1 : ∀ x ∈ G, x ∉ S) (h2 : ∀ x ∈ K, x ∉ S) (h3 : ∀ x ∈ S, w.heap.size ≤ x) : Sw w w2 b G q K M L :=
  ⟨wr_fr h.wr f h1, wf_fr h.wf f h2, h.apart, h.newG, h.newK, h.fr.step f fun x hx => .inr (h3 x hx)⟩
/-- Behind a call of the writer and one of the document's. -/
theorem Sw.both {w w0 w1 w2 : World} {b q M L M' L' : Nat} {G K G1 K1 : List Nat} (h : Sw w w0 b G q K M L) (f1 : Fr G w0 w1) (h1 : Wr w1 b G1 M' L') (n1 : ∀ y ∈ G1, y ∈ G ∨ w0.heap.size ≤ y)
    (f2 : Fr K w1 w2) (h2 : Wf w2 q K1 M' L') (n2 : ∀ y ∈ K1, y ∈ K ∨ w1.heap.size ≤ y) : Sw w w2 b G1 q K1 M' L' := by
  have hsz := h.fr.size
  have hsz1 := f1.size
  have hGK : ∀ x ∈ G1, x ∉ K := fun x hx hk => by
    rcases n1 x hx with h3 | h3
    · exact h.apart x h3 hk
    · have := wf_lt h.wf x hk
      omega
  refine ⟨wr_fr h1 f2 hGK, h2, fun x hx hk => ?_, fun x hx => ?_, fun x hx => ?_, (h.fr.step f1 fun x hx => .inr (h.newG x hx)).step f2 fun x hx => .inr (h.newK x hx)⟩
  · rcases n2 x hk with h3 | h3
    · exact hGK x hx h3
    · have := wr_lt h1 x hx
      omega
  · rcases n1 x hx with h3 | h3
    · exact h.newG x h3
    · omega
  · rcases n2 x hx with h3 | h3
    · exact h.newK x h3
    · omega
theorem wf_new (w : World) : Wf (w.alloc (.cells #[.slice none 0 0, .int .i64 0] 51)) w.heap.size [w.heap.size] 0 0 :=
  ⟨.slice none 0 0, ⟨alloc_at _ _, World.ownsRow_nil _ _ _ _, by simp [Value.ownBlock], by decide⟩, rfl⟩
theorem Sw.start (w : World) : Sw w ((w.alloc (.cells #[.slice none 0 0, .int .u64 0, .int .i64 0] 27)).alloc (.cells #[.slice none 0 0, .int .i64 0] 51)) w.heap.size [w.heap.size] (w.heap.size + 1) [w.heap.size + 1] 0 0 := by
  have e : (w.alloc (.cells #[.slice none 0 0, .int .u64 0, .int .i64 0] 27)).heap.size = w.heap.size + 1 := World.size_alloc _ _
  have h2 := wf_new (w.alloc (.cells #[.slice none 0 0, .int .u64 0, .int .i64 0] 27))
  rw [e] at h2
  exact ⟨wr_fr (wr_new w) ((Fr.refl [] _).alloc _) (by simp), h2, by simp, by simp, by simp, ((Fr.refl [] _).alloc _).alloc _⟩
/-- What one operation of the script leaves. -/
def Done (w wz : World) (b q L : Nat) : Prop := ∃ G K M L', Sw w wz b G q K M L' ∧ L' ≤ L + 8388700
theorem Done.intro {w w0 w1 w2 : World} {b q M L M' L' : Nat} {G K : List Nat} (h : Sw w w0 b G q K M L) (h1 : Fr G w0 w1 ∧ ∃ F', Wr w1 b F' M' L' ∧ ∀ y ∈ F', y ∈ G ∨ w0.heap.size ≤ y)
    (h2 : Fr K w1 w2 ∧ ∃ F', Wf w2 q F' M' L' ∧ ∀ y ∈ F', y ∈ K ∨ w1.heap.size ≤ y) (hl : L' ≤ L + 8388700) : Done w w2 b q L := by
  obtain ⟨f1, G1, g1, n1⟩ := h1
  obtain ⟨f2, K1, k1, n2⟩ := h2
  exact ⟨G1, K1, M', L', h.both f1 g1 n1 f2 k1 n2, hl⟩
/-- The document's writer behind the writer's call. -/
theorem Sw.mid {w w0 w1 : World} {b q M L : Nat} {G K : List Nat} (h : Sw w w0 b G q K M L) (f1 : Fr G w0 w1) : Wf w1 q K M L := wf_fr h.wf f1 fun x hx hg => h.apart x hg hx

set_option maxRecDepth 100000 in
set_option maxHeartbeats 2000000 in
theorem walk_in (w : World) (as_ : Option Addr) (lens caps N : Nat) (O : OpsArg w as_ lens caps N) (hN : N ≤ 1048576) :
    Calls Try.prog 6 #[.slice as_ lens caps] w fun e w' => e = .returned (.bool true) ∧ Below w.heap.size w w' := by
  obtain ⟨hlc, hcm, O⟩ := O
  have hls : lens ≤ 9223372036854775807 := by unfold maxLen at hcm; omega
  go_enter Try.func6, Try.ntmps6
  go_upto_region 3 with fail
  go_cut [3, 4, 5] (fun s3 s4 s5 wc => s5 = .int .i64 0 ∧ ∃ b q, s3 = .pointer (some ⟨b, 0, none⟩) ∧ s4 = .pointer (some ⟨q, 0, none⟩) ∧ ∃ G K, Sw w wc b G q K 0 0)
  case first =>
    go_wp2
    go_meet
    exact ⟨rfl, _, _, rfl, rfl, _, _, Sw.start w⟩
  case rest =>
  obtain ⟨rfl, b, q, rfl, rfl, G0, K0, S⟩ := hcut
  have HS := Lib.hid S
  clear S
  go_wp2
  go_loopg [5] (min lens 80) (fun k s5 wr => ∃ (i : Nat), i + k = min lens 80 ∧ s5 = .int .i64 i ∧ ∃ G K M L, Sw w wr b G q K M L ∧ L ≤ i * 8388700)
  case atStart => exact ⟨0, by omega, rfl, _, _, _, _, HS.out, by omega⟩
  case round =>
    obtain ⟨i, hik, rfl, G, K, M, L, S, hL⟩ := hrel
    by_cases hin : i < min lens 80
    · have hi1 : i < lens := by omega
      have hi2 : i < 80 := by omega
      have hL2 : L ≤ 671000000 := by omega
      obtain ⟨g, o, rfl, hcell⟩ := O.resolve_left (by omega)
      obtain ⟨k, n, v, ad, dl, dc, ds, c0, c1, c2, c3, B, hdl, hv0, hv1⟩ := hcell i hi1
      have hap : ds ≠ [] → ∀ x ∈ blk ad, x < w.heap.size := fun h x hx => B.lt x hx h
      have c0 := S.fr.cell c0 (by simp)
      have c1 := S.fr.cell c1 (by simp)
      have c2 := S.fr.cell c2 (by simp)
      have c3 := S.fr.cell c3 (by simp)
      clear hcell
      rename_i c0' c1' c2' c3'
      clear c0' c1' c2' c3'
      go_upto_region 6 with fail
      go_cut [6] (fun s6 wz => ∃ p, s6 = .pointer (some ⟨p, 0, none⟩) ∧ wz.heap[p]? = some (.cells #[.int .i64 k, .int .i64 n, .int .u32 v, .slice ad dl dc] 45 (0, 0)) ∧ Sw w wz b G q K M L ∧ w.heap.size ≤ p ∧ p ∉ G ∧ p ∉ K)
      case first =>
        have HS := Lib.hid S
        clear S
        go_wp2
        go_meet
        refine ⟨wr.heap.size, rfl, alloc_at _ _, HS.out.fr0 ((Fr.refl [] wr).alloc _) (by simp) (by simp) (by simp), HS.out.fr.size, fun h => ?_, fun h => ?_⟩
        · have := wr_lt HS.out.wr _ h
          omega
        · have := wf_lt HS.out.wf _ h
          omega
      case rest =>
      clear S c0 c1 c2 c3
      obtain ⟨p, rfl, hp, S, hpn, hpG, hpK⟩ := hcut
      have c0 := cell_of hp 0
      have c1 := cell_of hp 1
      have c2 := cell_of hp 2
      have c3 := cell_of hp 3
      simp only [List.getElem?_toArray, List.getElem?_cons_zero, List.getElem?_cons_succ] at c0 c1 c2 c3
      have Hp := Lib.hid hp
      have HS := Lib.hid S
      have hds : ds.length = dl := B.length
      have HB : Hid (Cs wc ad (ds.map bv) ∧ ds.length ≤ dc ∧ (ad = none → dc = 0)) := Lib.hid ⟨B.cs.fr S.fr (by simp), by rw [hds]; exact B.le, B.nil⟩
      obtain rfl := hds
      clear hp S B
      have HV := Lib.hid (And.intro hv0 hv1)
      clear hv0 hv1
      go_upto_block 2 with fail
      go_cut [] (fun wz => Done w wz b q L)
      case first =>
        by_cases hk0 : k = 0
        · subst hk0
          go_upto_region 14 with fail
          go_cut [] (fun wz => WrPost b G wc (M + 2 ^ L * (v.toNat % 2 ^ (min n.toNat 32))) (L + min n.toNat 32) (.returned (.tuple #[])) wz ∧ wz.cell? ⟨p, 1, none⟩ = some (.int .i64 n) ∧ wz.cell? ⟨p, 2, none⟩ = some (.int .u32 v))
          case first =>
            go_wp2_with (go_at_call 7; refine (put_int b G M L v n _ HS.out.wr HV.out.1 HV.out.2 (by omega)).mono ?_; rintro e w' ⟨rfl, hw⟩)
            go_meet
            exact ⟨⟨rfl, hw⟩, hw.1.cell c1 (by simpa using hpG), hw.1.cell c2 (by simpa using hpG)⟩
          case rest =>
          clear c0 c1 c2 c3
          obtain ⟨hw, c1, c2⟩ := hcut
          obtain ⟨_, h1⟩ := hw
          have H1 := Lib.hid h1
          clear h1
          go_wp2_with (go_at_call 20; refine (wput_any q K M L v n _ (HS.out.mid H1.out.1) HV.out.1 HV.out.2 (by omega)).mono ?_; rintro e w' ⟨rfl, h2⟩)
          go_meet
          exact Done.intro HS.out H1.out h2 (by omega)
        · by_cases hk1 : k = 1
          · subst hk1
            have hapG : ds ≠ [] → ∀ x ∈ blk ad, x ∉ G := fun h x hx hg => by
              have := hap h x hx
              have := HS.out.newG x hg
              omega
            have hapK : ds ≠ [] → ∀ x ∈ blk ad, x ∉ K := fun h x hx hg => by
              have := hap h x hx
              have := HS.out.newK x hg
              omega
            clear hk0
            go_upto_region 17 with fail
            go_cut [] (fun wz => WrPost b G wc (M + 2 ^ ((L + 7) / 8 * 8) * num ds) ((L + 7) / 8 * 8 + 8 * ds.length) (.returned (.tuple #[])) wz ∧ wz.cell? ⟨p, 3, none⟩ = some (.slice ad ds.length dc))
            case first =>
              go_wp2_with (go_at_call 21; refine (raw_any b G M L ad dc ds _ HS.out.wr HB.out.1 HB.out.2.1 HB.out.2.2 hapG (by omega)).mono ?_; rintro e w' ⟨rfl, hw⟩)
              go_meet
              exact ⟨⟨rfl, hw⟩, hw.1.cell c3 (by simpa using hpG)⟩
            case rest =>
            clear c0 c1 c2 c3
            obtain ⟨hw, c3⟩ := hcut
            obtain ⟨_, h1⟩ := hw
            have H1 := Lib.hid h1
            clear h1
            have hcs1 : Cs wc ad (ds.map bv) := by
              by_cases hde : ds = []
              · exact .inl (by rw [hde]; rfl)
              · exact HB.out.1.fr H1.out.1 (hapG hde)
            have Hcs1 := Lib.hid hcs1
            clear hcs1
            go_wp2_with (go_at_call 22; refine (wraw_any q K M L ad dc ds _ (HS.out.mid H1.out.1) Hcs1.out HB.out.2.1 HB.out.2.2 hapK (by omega)).mono ?_; rintro e w' ⟨rfl, h2⟩)
            go_meet
            exact Done.intro HS.out H1.out h2 (by omega)
          · by_cases hk2 : k = 2
            · subst hk2
              clear hk0 hk1
              go_upto_region 20 with fail
              go_cut [] (fun wz => WrPost b G wc M ((L + 7) / 8 * 8) (.returned (.tuple #[])) wz)
              case first =>
                go_wp2_with (go_at_call 23; refine (walign_any b G M L _ HS.out.wr (by omega)).mono ?_; rintro e w' ⟨rfl, hw⟩)
                go_meet
                exact ⟨rfl, hw⟩
              case rest =>
              clear c0 c1 c2 c3
              obtain ⟨_, h1⟩ := hcut
              have H1 := Lib.hid h1
              clear h1
              go_wp2_with (go_at_call 24; refine (walig_any q K M L _ (HS.out.mid H1.out.1) (by omega)).mono ?_; rintro e w' ⟨rfl, h2⟩)
              go_meet
              exact Done.intro HS.out H1.out h2 (by omega)
            · by_cases hk3 : k = 3
              · subst hk3
                clear hk0 hk1 hk2
                obtain ⟨v, rfl⟩ := Int.eq_ofNat_of_zero_le HV.out.1
                have hv : v < 4294967296 := by have := HV.out.2; omega
                go_upto_region 23 with fail
                go_cut [] (fun wz => WrPost b G wc (M + 2 ^ L * revTo v (min n.toNat 32) (min n.toNat 32)) (L + min n.toNat 32) (.returned (.tuple #[])) wz ∧ wz.cell? ⟨p, 1, none⟩ = some (.int .i64 n) ∧ wz.cell? ⟨p, 2, none⟩ = some (.int .u32 v))
                case first =>
                  go_wp2_with (go_at_call 13; refine (code_any b G M L v n _ HS.out.wr hv (by omega)).mono ?_; rintro e w' ⟨rfl, hw⟩)
                  go_meet
                  exact ⟨⟨rfl, hw⟩, hw.1.cell c1 (by simpa using hpG), hw.1.cell c2 (by simpa using hpG)⟩
                case rest =>
                clear c0 c1 c2 c3
                obtain ⟨hw, c1, c2⟩ := hcut
                obtain ⟨_, h1⟩ := hw
                have H1 := Lib.hid h1
                clear h1
                go_wp2_with (go_at_call 25; refine (wcode_any q K M L _ n _ (HS.out.mid H1.out.1) HV.out.1 HV.out.2 (by omega)).mono ?_; rintro e w' ⟨rfl, h2⟩)
                go_meet
                rw [Int.toNat_natCast] at h2
                exact Done.intro HS.out H1.out h2 (by omega)
              · have hk0' : (k == 0) = false := by simpa using hk0
                have hk1' : (k == 1) = false := by simpa using hk1
                have hk2' : (k == 2) = false := by simpa using hk2
                have hk3' : (k == 3) = false := by simpa using hk3
                clear hk0 hk1 hk2 hk3
                obtain ⟨B0, hB0⟩ : ∃ B, B = wc.heap.size := ⟨_, rfl⟩
                have HB0 := Lib.hid hB0
                clear hB0
                obtain ⟨m, hm⟩ : ∃ m, m = (L + 7) / 8 := ⟨_, rfl⟩
                have hm2 : m ≤ 671000000 := by omega
                have hby := wbytes_any b G M L wc HS.out.wr (by omega)
                unfold BytesPost at hby
                rw [← hm] at hby
                have Hby := Lib.hid hby
                clear hm hby
                go_upto_region 8 with fail
                go_cut [7] (fun s7 wz => ∃ ao, s7 = .slice ao m m ∧ Fr [] wc wz ∧ (m = 0 ∨ ∃ g cur, ao = some ⟨g, 0, none⟩ ∧ B0 ≤ g ∧ wz.heap[g]? = some (.cells cur 5 (0, 0)) ∧ ∀ j, j < m → ∃ b : Int, cur[j]? = some (.int .u8 b)))
                case first =>
                  go_wp2_with (go_at_call 8; refine Hby.out.mono ?_; rintro e w' ⟨ao, rfl, g1, n1, b1, f1⟩)
                  go_meet
                  refine ⟨ao, rfl, f1, ?_⟩
                  rcases g1 with h | ⟨g, cur, h1, h2, h3, h4⟩
                  · left
                    have := congrArg List.length h
                    simpa [dig_length] using this
                  · right
                    rw [← HB0.out] at h2
                    refine ⟨g, cur, h1, h2, h3, fun j hj => ?_⟩
                    have h6 : cur.toList[j]? = (cur.toList.take ((dig m M).map bv).length)[j]? := by rw [List.getElem?_take, if_pos (by simpa [dig_length] using hj)]
                    refine ⟨((dig m M)[j]'(by rw [dig_length]; exact hj)).toNat, ?_⟩
                    rw [← Array.getElem?_toList, h6, h4]
                    simp [dig_length, hj, bv]
                case rest =>
                clear c0 c1 c2 c3
                obtain ⟨ao, rfl, f1, hinv⟩ := hcut
                have HS1 := Lib.hid (HS.out.fr0 f1 (by simp) (by simp) (by simp))
                have Hinv := Lib.hid hinv
                clear hinv f1
                go_wp2
                go_loopg [8] m (fun k s8 wr => ∃ j, j + k = m ∧ s8 = .int .i64 j ∧ Sw w wr b G q K M L ∧ (m = 0 ∨ ∃ g cur, ao = some ⟨g, 0, none⟩ ∧ B0 ≤ g ∧ wr.heap[g]? = some (.cells cur 5 (0, 0)) ∧ ∀ j, j < m → ∃ b : Int, cur[j]? = some (.int .u8 b)))
                case atStart => exact ⟨0, by omega, rfl, HS1.out, Hinv.out⟩
                case round =>
                  obtain ⟨j, hj, rfl, S, hI⟩ := hrel
                  by_cases hjL : j < m
                  · obtain ⟨g, cur, rfl, hg, hb, hc⟩ := hI.resolve_left (by omega)
                    obtain ⟨b, hbj⟩ := hc j hjL
                    have e0 := cell_of hb j
                    have ef := frozen_of hb j
                    rw [hbj] at e0
                    have HS3 := Lib.hid S
                    have Hb := Lib.hid hb
                    have Hc := Lib.hid hc
                    clear hb hc hbj S hI
                    go_wp2
                    go_roundg (m - (j + 1))
                    case measure => omega
                    case rel =>
                      refine ⟨j + 1, by omega, by go_num, HS3.out.fr0 (Fr.setCell (Fr.refl [g] _) (by simp) _) (fun x hx h => ?_) (fun x hx h => ?_) (fun x hx => ?_), .inr ⟨g, _, rfl, hg, setCell_of Hb.out _, fun j' hj' => ?_⟩⟩
                      · simp at h; subst h
                        have := wr_lt HS.out.wr _ hx
                        rw [← HB0.out] at this; omega
                      · simp at h; subst h
                        have := wf_lt HS.out.wf _ hx
                        rw [← HB0.out] at this; omega
                      · simp at hx; subst hx
                        have := HS.out.fr.size
                        rw [← HB0.out] at this; omega
                      · obtain ⟨b', hb'⟩ := Hc.out j' hj'
                        rw [Array.getElem?_setIfInBounds]
                        split
                        · rename_i h
                          subst h
                          have := (Array.getElem?_eq_some_iff.1 hb').1
                          rw [if_pos this]
                          exact ⟨_, rfl⟩
                        · exact ⟨b', hb'⟩
                  · have HS3 := Lib.hid S
                    clear S hI
                    go_wp2
                    all_goals go_meet
                    all_goals exact ⟨_, _, _, _, HS3.out, by omega⟩
      case rest =>
      clear c0 c1 c2 c3 HS HB Hp
      obtain ⟨G, K, M, L', S, hL'⟩ := hcut
      have hL3 : L' ≤ 700000000 := by omega
      have hLn : L' ≤ (i + 1) * 8388700 := by omega
      obtain ⟨m, hm⟩ : ∃ m, m = (L' + 7) / 8 := ⟨_, rfl⟩
      have hby := wbytes_any b G M L' wc.drew (wr_fr S.wr (Fr.drew1 [] _) (by simp)) (by omega)
      unfold BytesPost at hby
      rw [← hm] at hby
      have hwf := S.wf
      obtain ⟨vq, ⟨hr, hown, _, _⟩, _⟩ := hwf
      rw [← hm] at hown
      obtain ⟨aq, cq, rfl, _, _, _⟩ := owns_form hown
      have c0 := cell_of hr 0
      simp only [List.getElem?_toArray, List.getElem?_cons_zero] at c0
      have hcq : Cs wc.drew aq ((dig m M).map bv) := (cs_of_owns hown).fr (Fr.drew1 [] wc) (by simp)
      have hlen : (dig m M).length = m := dig_length _ _
      have cv1 := run_conv_sup [] wc.drew Try.underlying24 Try.underlying5 Try.underlying9 hlen hcq (by simp)
      have hst := str_toList (dig m M)
      have Hby := Lib.hid hby
      have Hlen := Lib.hid hlen
      have HS := Lib.hid S
      have c0' : wc.drew.cell? ⟨q, 0, none⟩ = some (.slice aq m cq) := (Fr.drew1 [] wc).cell c0 (by simp)
      clear hby hlen S hr hown hcq hm c0
      go_upto_region 25 with fail
      go_cut [87] (fun s87 wz => s87 = .bool false ∧ Fr [] wc wz)
      case first =>
        refine region_mix 8 [(false, 2), (false, 3), (false, 4), (false, 5), (false, 6), (true, 0), (false, 1), (false, 7)] [] (by kernel_rfl) (by kernel_rfl) (fun _ _ d _ _ h => by cases d <;> exact h) ?_
        simp only [List.map_cons, List.map_nil, List.getD_cons_zero, List.getD_cons_succ, List.drop_succ_cons, List.drop_zero, List.drop_nil]
        refine mix_seg 5 rfl ?_
        simp only [List.take_succ_cons, List.take_zero, List.drop_succ_cons, List.drop_zero, List.map_cons, List.map_nil]
        repeat (go_big_quiet_step (fail))
        refine wpQuiet_nil ?_
        clear cv1
        refine mix_eff rfl ?_
        intro K hK
        go_wp2_with (go_at_call 8; refine Hby.out.mono ?_; rintro e w1 ⟨a1, rfl, g1, n1, b1, f1⟩)
        refine hK.out _ _ f1 ?_
        clear hK K
        have cv2 := run_conv_sup [] w1 Try.underlying24 Try.underlying5 Try.underlying9 Hlen.out g1.cs (by simp)
        refine mix_seg 2 rfl ?_
        simp only [List.take_succ_cons, List.take_zero, List.drop_succ_cons, List.drop_zero, List.map_cons, List.map_nil]
        repeat (go_big_quiet_step (fail))
        refine wpQuiet_nil ?_
        clear cv2
        refine mix_nil ?_
        go_wp2
        go_meet
        exact ⟨by simp, (Fr.drew1 [] wc).trans f1⟩
      case rest =>
      clear cv1 hst c0'
      obtain ⟨rfl, f1⟩ := hcut
      have HS1 := Lib.hid (HS.out.fr0 f1 (by simp) (by simp) (by simp))
      clear f1 HS Hby Hlen
      go_wp2
      go_roundg (min lens 80 - (i + 1))
      case measure => omega
      case rel => exact ⟨i + 1, by omega, by go_num, _, _, _, _, HS1.out, hLn⟩
    · have HS2 := Lib.hid S
      clear S
      by_cases hi1 : i < lens
      · obtain rfl : i = 80 := by omega
        go_wp2_with (go_at_call 12; refine (awake_any _).mono ?_; rintro e w' ⟨rfl, f7⟩)
        go_ret
        exact ⟨rfl, below_of_fr (HS2.out.fr.trans f7)⟩
      · go_wp2_with (go_at_call 12; refine (awake_any _).mono ?_; rintro e w' ⟨rfl, f7⟩)
        go_ret
        exact ⟨rfl, below_of_fr (HS2.out.fr.trans f7)⟩

/-- From the arguments as they are read to the walk. -/
theorem walk {H : Type} {enc : TypeId × Value → H} (W : World) {base : Nat} (v0 : Value) (d0 : DataW H) (p0 : List MemPlace)
    (o0 : Value.okWide Try.prog W .any base 40 v0) (h0 : DataW.Trod enc Try.prog W 0 (fun _ => true) true 40 v0 d0 p0)
    (hz : (DataW.weightsEach Try.prog [40] [d0]).all (· ≤ reachBytes) = true) (hb : Rows.uptoBulkAll [d0] ≤ 1048576) :
    Calls Try.prog 6 #[v0] W fun e W' => e = .returned (.bool true) ∧ Below W.heap.size W W' := by
  obtain ⟨as_, lens, caps, rfl⟩ := okWide_slice Try.underlying40 o0
  exact walk_in W as_ lens caps _ (ops_arg h0 (light_each hz (j := 0) rfl rfl)) (by simpa [Rows.uptoBulkAll] using hb)

/-! ### The row -/
theorem own : ownKnob Try.prog.godebug = none := by kernel_rfl
theorem laidOut : laidOutB Try.prog = true := by kernel_rfl
set_option maxRecDepth 100000 in
theorem lifted (os : Os) (started : os.Started) (H : Type) (enc : TypeId × Value → H) (G : Stop.Interp) :
    ReturnsInHanded {} Try.checked os 6 .any ((Rows.OpenSpec.upto Rows.bitsWritesSpec).pre6 enc Try.prog Try.f6 Rows.bitsWritesUptoRow.domain false) (((Rows.OpenSpec.upto Rows.bitsWritesSpec).at G).post enc Try.prog Try.f6 false true false false) := by
  refine returnsInHanded_of_cond_sized (C := Try.checked) (s := (Rows.OpenSpec.upto Rows.bitsWritesSpec)) (k := Rows.uptoSmall) rfl own started (by kernel_rfl) Try.func6
    (OpenSpec.witness (enc := enc) (C := Try.checked) (s := (Rows.OpenSpec.upto Rows.bitsWritesSpec)) (k := Rows.uptoSmall) rfl false ⟨#[], #[.slice none 0 0], []⟩ 8 (by kernel_rfl) (by kernel_rfl) (by kernel_rfl) (x := ([.nil], [], [])) (by kernel_rfl) rfl (by kernel_rfl)) ?_
  intro W base args ds gs before hval hW _ hk hsz _
  have hW' := hW
  obtain ⟨p, q, hA0, hV, rfl, hfz, hnd⟩ := hW'
  have hA : DataW.TrodAll enc Try.prog W 0 (fun _ => true) true Try.f6.params.toList args.toList ds p := hA0
  rw [Try.params6] at hA hval
  obtain ⟨v0, vs0, d0, ds0, p0, q0, hargs, rfl, rfl, h0, r0⟩ := trodAll_cons hA
  obtain ⟨rfl, rfl, rfl⟩ := trodAll_nil r0
  obtain rfl : args = #[v0] := by cases args; simp_all
  obtain ⟨rfl, rfl⟩ := trodVars_none hV
  have hz : (DataW.weightsEach Try.prog [40] [d0]).all (· ≤ reachBytes) = true := hsz
  have hb : Rows.uptoBulkAll [d0] ≤ 1048576 := of_decide_eq_true (show decide _ = true from hk)
  refine law_of_calls (s := (((Rows.OpenSpec.upto Rows.bitsWritesSpec)).at G)) laidOut (by kernel_rfl) rfl rfl Try.underlying4 hW (fun gs _ h2 => by subst h2; rfl) ?_
  exact walk W v0 d0 p0 (hval 0 40 v0 rfl rfl) (h0) hz hb

theorem over : Rows.bitsWritesUptoRow.holds Try.pinned (Rows.OpenSpec.upto Rows.bitsWritesSpec) :=
  OpenClaim.holds_of_cond 6 Try.f6 rfl rfl rfl rfl rfl rfl rfl ⟨rfl, rfl, rfl, rfl, rfl⟩ rfl rfl rfl rfl rfl (by kernel_rfl) Try.func6 (by kernel_rfl)
    (of_decide_eq_true (by kernel_rfl)) (by unfold Func.isWrapper; first | (rw [if_pos (by decide +kernel)]; kernel_rfl) | (rw [if_neg (by decide +kernel)]; exact ⟨rfl, rfl⟩))
    (fun os started H enc _ G => lifted os started H enc G)

theorem proved : Rows.BitsWritesUptoSaid := over
end Go.Proofs.Ytcfhebhbgllphaa.bitsWrites
