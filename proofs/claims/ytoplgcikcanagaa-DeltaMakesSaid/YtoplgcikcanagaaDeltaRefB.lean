/-
  stemmaref10.Apply, where all goes well.
-/
import Derived.Test.YtoplgcikcanagaaDeltaRefA
namespace Go.Proofs.Ytoplgcikcanagaa.delta
open Go Go.RowKit Go.Proofs.Ytoplgcikcanagaa.lib Go.Proofs.Ytoplgcikcanagaa.bm

theorem apply_ok {base d out : List UInt8} {bound : Int} (h : delta.apply base d bound = (out, 0)) : ∃ m r, delta.sizes d = (base.length, m, r, 0) ∧ m ≤ bound.toNat ∧ app base m r.length r [] = (out, 0) := by
  unfold delta.apply at h
  split at h
  · rename_i h0; simp only [Prod.mk.injEq] at h; exact absurd h.2 h0
  · rename_i h0
    split at h
    · cases h
    · rename_i h1
      split at h
      · cases h
      · rename_i h2
        refine ⟨(delta.sizes d).2.1, (delta.sizes d).2.2.1, ?_, by omega, h⟩
        have e0 : (delta.sizes d).2.2.2 = 0 := by omega
        have e1 : (delta.sizes d).1 = base.length := by omega
        rw [← e0, ← e1]
theorem app_ok_nil {base out R : List UInt8} {m f : Nat} (h : app base m f [] out = (R, 0)) : m ≤ out.length ∧ R = out := by
  rw [app_nil] at h
  split at h
  · cases h
  · simp only [Prod.mk.injEq, and_true] at h
    exact ⟨by omega, h.symm⟩
theorem app_ok_cons {base out R t : List UInt8} {m f : Nat} {c : UInt8} (h : app base m (f + 1) (c :: t) out = (R, 0)) :
    (128 ≤ c.toNat ∧ ∃ p n r, pl (c.toNat - 128) 7 0 0 0 t = some (p, n, r) ∧ p ≤ base.length ∧ n ≤ base.length - p ∧ n ≤ m - out.length ∧ app base m f r (out ++ (base.drop p).take n) = (R, 0)) ∨
    (c.toNat < 128 ∧ c.toNat ≠ 0 ∧ c.toNat ≤ m - out.length ∧ c.toNat ≤ t.length ∧ app base m f (t.drop c.toNat) (out ++ t.take c.toNat) = (R, 0)) := by
  rw [app_cons] at h
  split at h
  · rename_i h1
    left
    refine ⟨h1, ?_⟩
    split at h
    · cases h
    · rename_i p n r hp
      split at h
      · cases h
      · exact ⟨p, n, r, hp, by omega, by omega, by omega, h⟩
  · rename_i h1
    right
    split at h
    · cases h
    · split at h
      · cases h
      · exact ⟨by omega, by omega, by omega, by omega, h⟩
/-- Where the making stands. -/
structure RAp (w wr : World) (hd : Array Value) (base : List UInt8) (tn k : Nat) (r out : List UInt8) (a : Option Addr) (c : Nat) (R : List UInt8) : Prop where
  own : Own wr 5 a c (out.map bv)
  fr : Fr [] w wr
  new : ∀ x ∈ blk a, w.heap.size < x
  head : wr.heap[w.heap.size]? = some (.cells hd 33 (0, 0))
  few : out.length ≤ tn
  fuel : r.length ≤ k
  all : app base tn k r out = (R, 0)
theorem RAp.more {w wr w2 : World} {hd : Array Value} {base : List UInt8} {tn k k' : Nat} {r r' out news : List UInt8} {a a2 : Option Addr} {c c2 m : Nat} {R : List UInt8} (h : RAp w wr hd base tn k r out a c R) (hm : news.length = m)
    (A : OwnMore wr w2 5 a a2 c2 (out.map bv ++ news.map bv)) (hf : out.length + m ≤ tn) (hr : r'.length ≤ k') (hall : app base tn k' r' (out ++ news) = (R, 0)) : RAp w w2 hd base tn k' r' (out ++ news) a2 c2 R := by
  have hlt := lt_of_block h.head
  refine ⟨by rw [List.map_append]; exact A.own, h.fr.step A.fr fun y hy => .inr (Nat.le_of_lt (h.new y hy)), fun y hy => ?_, A.fr.blk h.head fun hx => by have := h.new _ hx; omega, by rw [List.length_append, hm]; exact hf, hr, hall⟩
  rcases A.at_ y hy with h1 | h1
  · exact h.new y h1
  · omega
def RApplied (w : World) (out : List UInt8) (e : Ending) (w' : World) : Prop := ∃ a c, e = .returned (.tuple #[.slice a out.length c, .int .i64 0]) ∧ Rd w' a c out ∧ Fr [] w w'
set_option maxRecDepth 100000 in
set_option maxHeartbeats 8000000 in
theorem rapply_good (a b : Option Addr) (cap capd : Nat) (base d R : List UInt8) (bound : Int) (w : World) (hb : Rd w a cap base) (hd : Rd w b capd d) (hbl : base.length < 65536) (hdl : d.length ≤ 2199023255552) (hap : delta.apply base d bound = (R, 0)) :
    Calls Try.prog 15 #[.slice a base.length cap, .slice b d.length capd, .int .i64 bound] w (RApplied w R) := by
  obtain ⟨m, r, hsz, hmb, hall⟩ := apply_ok hap
  obtain ⟨hto, _⟩ := sizes_to d
  have h1 := drsizes_all b capd d w hd hdl
  unfold DSized at h1
  rw [hsz] at h1 hto
  simp only at h1 hto
  have hble := hb.le
  have hbm := hb.max
  unfold maxLen at hbm
  have hdle := hd.le
  have hdm := hd.max
  unfold maxLen at hdm
  have hmx : ((bound.toNat : Nat) : Int) = if 0 > bound then 0 else bound := by split <;> omega
  generalize bound.toNat = bt at *
  obtain ⟨bl, hbl2⟩ : ∃ bl, bl = base.length := ⟨_, rfl⟩
  rw [← hbl2] at h1 hble hbl ⊢
  have H := Lib.hid (And.intro h1 (And.intro hb (And.intro hd (And.intro hmx (And.intro hall hbl2)))))
  clear h1 hb hd hmx hsz hap hall hbl2
  go_enter Try.func15, Try.ntmps15
  go_upto_block 1 with (first | (go_at_call 13; refine H.out.1.mono ?_; rintro e1 w1 ⟨u, rfl, hu, hl, f1⟩; have H1 := Lib.hid (And.intro hu f1); clear hu f1) | (refine wpList_max2 (bt : Int) rfl _ _ _ rfl bound 0 rfl rfl H.out.2.2.2.1 ?_) | (refine wpList_slice_from sliceU8 u rfl _ _ rfl b d.length capd _ rfl rfl rfl hl hdle ?_))
  have hw2 : ∃ B w2, B = w1.heap.size ∧ w2 = (w1.alloc (.cells #[.int .i64 (bl : Nat), .int .i64 (m : Nat), .int .i64 (u : Nat), .int .i64 0] 33)).alloc (.cells #[] 5) ∧ RAp w1 w2 #[.int .i64 (bl : Nat), .int .i64 (m : Nat), .int .i64 (u : Nat), .int .i64 0] base m r.length r [] (some ⟨B + 1, 0, none⟩) 0 R := by
    refine ⟨_, _, rfl, rfl, .inr ⟨w1.heap.size + 1, 0, #[], rfl, ?_, Nat.zero_le _, Nat.zero_le _, Nat.zero_le _, rfl⟩, ((Fr.refl [] w1).alloc _).alloc _, ?_, alloc_old _ (alloc_at w1 _), Nat.zero_le _, Nat.le_refl _, H.out.2.2.2.2.1⟩
    · have := alloc_at (w1.alloc (.cells #[.int .i64 (bl : Nat), .int .i64 (m : Nat), .int .i64 (u : Nat), .int .i64 0] 33)) (.cells #[] 5)
      rw [World.size_alloc] at this
      exact this
    · intro x hx
      simp [blk] at hx
      omega
  obtain ⟨B, w2, hB, hW2, hap⟩ := hw2
  rw [← hW2]
  rw [← hB]
  have HA0 := Lib.hid (And.intro hap (And.intro hB hW2))
  have rd0 : Rd w1 (cutAtN b capd u 1) (capd - u) r := by
    rw [H1.out.1 (by trivial)]
    exact (H.out.2.2.1.fr H1.out.2).drop u hl
  have hrl : r.length = d.length - u := by rw [H1.out.1 (by trivial), List.length_drop]
  rw [← hrl]
  have HR0 := Lib.hid rd0
  clear hap hB hW2 rd0 hrl
  go_wp2
  go_loopg [1, 9] r.length (fun k s1 s9 wr => ∃ ar cr q ao co out, s1 = .slice ar q.length cr ∧ s9 = .slice ao out.length co ∧ Rd w1 ar cr q ∧ RAp w1 wr #[.int .i64 (bl : Nat), .int .i64 (m : Nat), .int .i64 (u : Nat), .int .i64 0] base m k q out ao co R)
  case atStart => exact ⟨_, _, r, _, 0, [], rfl, rfl, HR0.out, HA0.out.1⟩
  case round =>
    obtain ⟨ar, cr, q, ao, co, out, rfl, rfl, hq, h⟩ := hrel
    have hq1 := hq.le
    have hq2 := hq.max
    unfold maxLen at hq2
    have hfew := h.few
    have hfuel := h.fuel
    have hall := h.all
    have hco := h.own.shape
    obtain ⟨ho1, ho2, ho3⟩ := hco
    rw [List.length_map] at ho1
    unfold maxLen at ho2
    have hc1 := cell_of h.head 1
    simp only [List.getElem?_toArray, List.getElem?_cons_zero, List.getElem?_cons_succ] at hc1
    rw [← HA0.out.2.1] at hc1
    have HQ := Lib.hid hq
    have G := Lib.hid h
    clear hq h
    cases q with
    | nil =>
      obtain ⟨hml, hR⟩ := app_ok_nil hall
      have hlt : decide (out.length < m) = false := by simp; omega
      have HRR := Lib.hid hR
      clear hall hR
      go_wp2
      go_ret2
      exact ⟨ao, co, by rw [HRR.out]; rfl, by rw [HRR.out]; exact G.out.own.rd, H1.out.2.trans G.out.fr⟩
    | cons x t =>
      obtain ⟨k, rfl⟩ : ∃ k, gk = k + 1 := ⟨gk - 1, by simp at hfuel; omega⟩
      simp only [List.length_cons] at hq1 hfuel
      obtain ⟨g, o, rfl, hc⟩ := HQ.out.at (i := 0) (by simp)
      have hc := G.out.fr.cell hc (by simp)
      have hx : x.toNat < 256 := UInt8.toNat_lt x
      simp only [Nat.add_zero, List.getElem_cons_zero] at hc
      have hrd := HQ.out.drop 1 (by simp)
      rw [List.drop_succ_cons, List.drop_zero] at hrd
      rcases app_ok_cons hall with ⟨h128, p, nn, rest, hpl, hp1, hp2, hp3, hrun⟩ | ⟨h128, hx0, hx1, hx2, hrun⟩
      · obtain ⟨n0, q2, hf1, hf2, hnn⟩ := pl_fields hx h128 hpl
        have hlen := pl_len _ 7 0 0 0 t _ hpl
        simp only at hlen
        generalize x.toNat = xn at *
        have ha15 : bits .and .i64 (xn : Int) 15 = ((xn % 16 : Nat) : Int) := (i64_mask _ 4 (by decide)).trans (by omega)
        have ha7 : bits .and .i64 ((xn : Int) / 16) 7 = ((xn / 16 % 8 : Nat) : Int) := (i64_mask _ 3 (by decide)).trans (by omega)
        obtain ⟨c1, hc1'⟩ : ∃ c1, c1 = xn % 16 := ⟨_, rfl⟩
        obtain ⟨c2, hc2'⟩ : ∃ c2, c2 = xn / 16 % 8 := ⟨_, rfl⟩
        rw [← hc1'] at ha15 hf1
        rw [← hc2'] at ha7 hf2
        have F1 := fun w h => field_good c1 4 p q2 (cutAtN (some ⟨g, o, none⟩) cr 1 1) (cr - 1) t w (by decide) (by omega) h hf1
        have F2 := fun w a c h => field_good c2 3 n0 rest a c q2 w (by decide) (by omega) h hf2
        unfold Fielded at F1 F2
        have hn0 : n0 ≠ 0 := by intro e; rw [if_pos e] at hnn; have := H.out.2.2.2.2.2; omega
        rw [if_neg hn0] at hnn
        subst hnn
        have b0 : ((nn : Int) == 0) = false := by simp; omega
        have b1 : decide (bl < p) = false := by have := H.out.2.2.2.2.2; simp; omega
        have b2 : decide ((bl : Int) - p < nn) = false := by have := H.out.2.2.2.2.2; simp; omega
        have b3 : decide ((m : Int) - out.length < nn) = false := by simp; omega
        have e1 : ((xn : Int) == 0) = false := by simp; omega
        have e2 : decide ((xn : Int) < 128) = false := by simp; omega
        have hpn : p + nn ≤ cap := by have := H.out.2.2.2.2.2; omega
        have hpm : out.length + nn ≤ m := by omega
        have hmid := (H.out.2.1.fr (H1.out.2.trans G.out.fr)).mid p nn (by omega)
        obtain ⟨news, hnews⟩ : ∃ news, news = (base.drop p).take nn := ⟨_, rfl⟩
        rw [← hnews] at hmid hrun
        have hnl : news.length = nn := by rw [hnews, List.length_take, List.length_drop]; omega
        have HF := Lib.hid (And.intro F1 (And.intro F2 (And.intro (hrd.fr G.out.fr) hrd)))
        have HM := Lib.hid (And.intro hmid (And.intro hnl hrun))
        clear F1 F2 hmid hnews hnl hrun hrd hall hpl hf1 hf2 hc1' hc2' hn0 hp1 hp2 hp3 h128
        have tok1 : True := trivial
        go_wp2_with (first | (refine wpList_slice_from sliceU8 1 rfl _ _ rfl (some ⟨g, o, none⟩) (t.length + 1) cr _ rfl rfl rfl (by omega) (by omega) ?_) | (go_at_call 24; have _t := tok1; refine (HF.out.1 _ HF.out.2.2.1).mono ?_; rintro e w5 ⟨rfl, a5, c5, rfl, h5, hp5⟩; have H5 := Lib.hid h5; clear h5; clear tok1 _t) | (go_at_call 24; refine (HF.out.2.1 _ a5 c5 (H5.out _ HF.out.2.2.1)).mono ?_; rintro e w6 ⟨rfl, a6, c6, rfl, h6, hp6⟩; have H6 := Lib.hid h6; clear h6) | (refine wpList_slice_lh sliceU8 p nn rfl _ _ _ rfl a bl cap _ _ rfl rfl rfl rfl rfl (by omega) ?_) | (refine wpList_append_mid sliceU8 rfl _ _ rfl ao out.length co (out.map bv) rfl G.out.own (by rw [List.length_map]) (cutAt a cap p) nn (cap - p) (news.map bv) rfl (by omega) HM.out.1.nil HM.out.1.cs (by rw [List.length_map, HM.out.2.1]) (bv_one _) (by omega) (by unfold maxLen; omega) ?_; intro a7 c7 w7 A1; have HA1 := Lib.hid A1; clear A1))
        go_roundg k
        case measure => omega
        case rel => exact ⟨a6, c6, rest, a7, c7, out ++ news, rfl, by rw [List.length_append, HM.out.2.1], H6.out w1 (H5.out w1 HF.out.2.2.2), G.out.more HM.out.2.1 HA1.out hpm (by omega) HM.out.2.2⟩
      · generalize x.toNat = xn at *
        have e1 : ((xn : Int) == 0) = false := by simp; omega
        have e2 : decide ((xn : Int) < 128) = true := by simp; omega
        have b3 : decide ((m : Int) - out.length < xn) = false := by simp; omega
        have b4 : decide (t.length < xn) = false := by simp; omega
        have hpm : out.length + xn ≤ m := by omega
        have hmid := (hrd.fr G.out.fr).take xn
        have hrest := hrd.drop xn (by omega)
        have hnl : (t.take xn).length = xn := by rw [List.length_take]; omega
        have HM := Lib.hid (And.intro hmid (And.intro hrest (And.intro hnl hrun)))
        clear hall hmid hrest hnl hrd hrun
        go_wp2_with (first | (refine wpList_slice_from sliceU8 1 rfl _ _ rfl (some ⟨g, o, none⟩) (t.length + 1) cr _ rfl rfl rfl (by omega) (by omega) ?_) | (refine wpList_slice_to sliceU8 xn rfl _ _ rfl (cutAtN (some ⟨g, o, none⟩) cr 1 1) t.length (cr - 1) _ rfl rfl rfl (by omega) ?_) | (refine wpList_append_mid sliceU8 rfl _ _ rfl ao out.length co (out.map bv) rfl G.out.own (by rw [List.length_map]) (cutAtN (some ⟨g, o, none⟩) cr 1 1) xn (cr - 1) ((t.take xn).map bv) rfl (by omega) HM.out.1.nil HM.out.1.cs (by rw [List.length_map, HM.out.2.2.1]) (bv_one _) (by omega) (by unfold maxLen; omega) ?_; intro a7 c7 w7 A1; have HA1 := Lib.hid A1; clear A1) | (refine wpList_slice_from sliceU8 xn rfl _ _ rfl (cutAtN (some ⟨g, o, none⟩) cr 1 1) t.length (cr - 1) _ rfl rfl rfl (by omega) (by omega) ?_))
        go_roundg k
        case measure => omega
        case rel => exact ⟨_, _, t.drop xn, a7, c7, out ++ t.take xn, by rw [List.length_drop], by rw [List.length_append, HM.out.2.2.1], HM.out.2.1, G.out.more HM.out.2.2.1 HA1.out hpm (by rw [List.length_drop]; omega) HM.out.2.2.2⟩
end Go.Proofs.Ytoplgcikcanagaa.delta
