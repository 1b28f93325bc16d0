/-
  NetPlays: what a call does to both nets, told once for the code and once for the document; the state of the play; the script.
-/
import Derived.Test.YtmoiahgbenaihaaRef2
import Derived.Test.YtmoiahgbenaihaaAwake2
import Derived.Test.YtmoiahgbenaihaaArgs2
import Derived.Lib.SmallJoins
namespace Go.Proofs.Ytmoiahgbenaihaa.net
open Go Go.RowKit Go.ChangeShapes Go.WideShapes Go.Proofs.Ytmoiahgbenaihaa.lib

/-! ### What is told -/
def SendR (mtu most lost : Nat) (l : List Gr) (s t : Int) (bs : List UInt8) (k lost' : Nat) (l' : List Gr) : Prop :=
  ((s < 0 ∨ t < 0) ∧ k = 1 ∧ lost' = lost ∧ l' = l) ∨ (0 ≤ s ∧ 0 ≤ t ∧ ((mtu < bs.length ∧ k = 2 ∧ lost' = lost ∧ l' = l) ∨ (bs.length ≤ mtu ∧
    ((most ≤ l.length ∧ k = 60 ∧ lost' = lost + 1 ∧ l' = l) ∨ (l.length < most ∧ k = 0 ∧ lost' = lost ∧ ∃ ao cap, l' = l ++ [⟨s, t, ao, cap, bs⟩])))))
def SentAny (p : Nat) (F : List Nat) (mtu most lost : Nat) (l : List Gr) (s t : Int) (bs : List UInt8) (w : World) (e : Ending) (w' : World) : Prop :=
  ∃ (k lost' : Nat) (l' : List Gr) (F' : List Nat), e = .returned (.int .i64 k) ∧ SendR mtu most lost l s t bs k lost' l' ∧ Nt w' p F' mtu most lost' l' ∧ Fr F w w' ∧ ∀ x ∈ F', x ∈ F ∨ w.heap.size ≤ x
theorem send_any (p : Nat) (F : List Nat) (mtu most lost : Nat) (l : List Gr) (s t : Int) (ao : Option Addr) (cap : Nat) (bs : List UInt8) (w : World) (h : Nt w p F mtu most lost l) (hlo : lost ≤ 1000000)
    (hcs : Cs w ao (bs.map bv)) (hle : bs.length ≤ cap) (hnil : ao = none → cap = 0) :
    Calls Try.prog 8 #[.pointer (some ⟨p, 0, none⟩), .int .i64 s, .int .i64 t, .slice ao bs.length cap] w (SentAny p F mtu most lost l s t bs w) := by
  by_cases h1 : s < 0 ∨ t < 0
  · refine (send_neg p s t _ w h1).mono ?_
    rintro e w' ⟨rfl, rfl⟩
    exact ⟨1, lost, l, F, rfl, .inl ⟨h1, rfl, rfl, rfl⟩, h, Fr.refl _ _, fun x hx => .inl hx⟩
  · have hs : 0 ≤ s := by omega
    have ht : 0 ≤ t := by omega
    by_cases h2 : mtu < bs.length
    · refine (send_long p F mtu most lost l s t ao bs.length cap w h hs ht h2).mono ?_
      rintro e w' ⟨rfl, rfl⟩
      exact ⟨2, lost, l, F, rfl, .inr ⟨hs, ht, .inl ⟨h2, rfl, rfl, rfl⟩⟩, h, Fr.refl _ _, fun x hx => .inl hx⟩
    · by_cases h3 : most ≤ l.length
      · refine (send_full p F mtu most lost l s t ao bs.length cap w h hs ht (by omega) h3 hlo).mono ?_
        rintro e w' ⟨rfl, hn, fr⟩
        exact ⟨60, lost + 1, l, F, rfl, .inr ⟨hs, ht, .inr ⟨by omega, .inl ⟨h3, rfl, rfl, rfl⟩⟩⟩, hn, fr, fun x hx => .inl hx⟩
      · refine (send_good p F mtu most lost l s t ao cap bs w h hs ht (by omega) (by omega) hcs hle hnil).mono ?_
        rintro e w' ⟨rfl, F', a, c, hn, fr, hF⟩
        exact ⟨0, lost, _, F', rfl, .inr ⟨hs, ht, .inr ⟨by omega, .inr ⟨by omega, rfl, rfl, a, c, rfl⟩⟩⟩, hn, fr, hF⟩
def DAny (q : Nat) (K : List Nat) (mtu most : Nat) (v : Value) (lost' : Nat) (l' : List Gr) (w : World) (e : Ending) (w' : World) : Prop :=
  ∃ K', e = .returned v ∧ Dt w' q K' mtu most lost' l' ∧ Fr K w w' ∧ ∀ x ∈ K', x ∈ K ∨ w.heap.size ≤ x
theorem dsend_any (q : Nat) (K : List Nat) (mtu most lost : Nat) (l : List Gr) (s t : Int) (bs : List UInt8) (k lost' : Nat) (l' : List Gr) (hR : SendR mtu most lost l s t bs k lost' l') (w : World) (h : Dt w q K mtu most lost l) (hmt : mtu ≤ 1500) (hlo : lost ≤ 1000000) (hlim : bs.length ≤ 9223372036854775807) :
    Calls Try.prog 13 #[.pointer (some ⟨q, 0, none⟩), .int .i64 s, .int .i64 t, .string (str bs)] w (DAny q K mtu most (.int .i64 k) lost' l' w) := by
  rcases hR with ⟨h1, rfl, rfl, rfl⟩ | ⟨hs, ht, ⟨h2, rfl, rfl, rfl⟩ | ⟨h2, ⟨h3, rfl, rfl, rfl⟩ | ⟨h3, rfl, rfl, ao, cap, rfl⟩⟩⟩
  · refine (dsend_neg q s t _ w h1).mono ?_
    rintro e w' ⟨rfl, rfl⟩
    exact ⟨K, rfl, h, Fr.refl _ _, fun x hx => .inl hx⟩
  · refine (dsend_long q K mtu most _ _ s t bs w h hs ht h2 hlim).mono ?_
    rintro e w' ⟨rfl, rfl⟩
    exact ⟨K, rfl, h, Fr.refl _ _, fun x hx => .inl hx⟩
  · refine (dsend_full q K mtu most lost _ s t bs w h hs ht h2 hmt h3 hlo).mono ?_
    rintro e w' ⟨rfl, hn, fr⟩
    exact ⟨K, rfl, hn, fr, fun x hx => .inl hx⟩
  · refine (dsend_good q K mtu most _ l ⟨s, t, ao, cap, bs⟩ w h hs ht h2 hmt h3).mono ?_
    rintro e w' ⟨rfl, K', hn, fr, hK⟩
    exact ⟨K', rfl, hn, fr, hK⟩
def TwiceR (most : Nat) (l : List Gr) (i : Int) (b : Bool) (l' : List Gr) : Prop :=
  ((i < 0 ∨ l.length ≤ i ∨ most ≤ l.length) ∧ b = false ∧ l' = l) ∨ ∃ (k : Nat) (h : k < l.length), i = k ∧ l.length < most ∧ b = true ∧ l' = l ++ [l[k]]
def TwiceAny (p : Nat) (F : List Nat) (mtu most lost : Nat) (l : List Gr) (i : Int) (w : World) (e : Ending) (w' : World) : Prop :=
  ∃ (b : Bool) (l' : List Gr) (F' : List Nat), e = .returned (.bool b) ∧ TwiceR most l i b l' ∧ Nt w' p F' mtu most lost l' ∧ Fr F w w' ∧ ∀ x ∈ F', x ∈ F ∨ w.heap.size ≤ x
theorem twice_any (p : Nat) (F : List Nat) (mtu most lost : Nat) (l : List Gr) (i : Int) (w : World) (h : Nt w p F mtu most lost l) :
    Calls Try.prog 15 #[.pointer (some ⟨p, 0, none⟩), .int .i64 i] w (TwiceAny p F mtu most lost l i w) := by
  by_cases h1 : i < 0 ∨ l.length ≤ i ∨ most ≤ l.length
  · refine (twice_bad p F mtu most lost l i w h h1).mono ?_
    rintro e w' ⟨rfl, fr⟩
    exact ⟨false, l, F, rfl, .inl ⟨h1, rfl, rfl⟩, nt_fr h fr (by simp), fr.mono (by simp), fun x hx => .inl hx⟩
  · obtain ⟨k, rfl⟩ : ∃ k : Nat, i = k := ⟨i.toNat, by omega⟩
    have hk : k < l.length := by omega
    refine (twice_good p F mtu most lost l k w h hk (by omega)).mono ?_
    rintro e w' ⟨rfl, F', hn, fr, hF⟩
    exact ⟨true, _, F', rfl, .inr ⟨k, hk, rfl, by omega, rfl, rfl⟩, hn, fr, hF⟩
theorem dtwice_any (q : Nat) (K : List Nat) (mtu most lost : Nat) (l : List Gr) (i : Int) (b : Bool) (l' : List Gr) (hR : TwiceR most l i b l') (w : World) (h : Dt w q K mtu most lost l) :
    Calls Try.prog 16 #[.pointer (some ⟨q, 0, none⟩), .int .i64 i] w (DAny q K mtu most (.bool b) lost l' w) := by
  rcases hR with ⟨h1, rfl, rfl⟩ | ⟨k, hk, rfl, hm, rfl, rfl⟩
  · refine (dtwice_bad q K mtu most lost _ i w h h1).mono ?_
    rintro e w' ⟨rfl, fr⟩
    exact ⟨K, rfl, dt_fr h fr (by simp), fr.mono (by simp), fun x hx => .inl hx⟩
  · refine (dtwice_good q K mtu most lost l k w h hk hm).mono ?_
    rintro e w' ⟨rfl, K', hn, fr, hK⟩
    exact ⟨K', rfl, hn, fr, hK⟩
def none' : Gr := ⟨0, 0, none, 0, []⟩
def AtR (l : List Gr) (i : Int) (g : Gr) (b : Bool) : Prop := ((i < 0 ∨ l.length ≤ i) ∧ g = none' ∧ b = false) ∨ ∃ (k : Nat) (h : k < l.length), i = k ∧ g = l[k] ∧ b = true
/-- Bytes of one's own, that may be turned. -/
def Muts (w : World) (B : Nat) (ao : Option Addr) (L : Nat) : Prop :=
  L = 0 ∨ ∃ g cur, ao = some ⟨g, 0, none⟩ ∧ B ≤ g ∧ w.heap[g]? = some (.cells cur 5 (0, 0)) ∧ ∀ j, j < L → ∃ b : Int, cur[j]? = some (.int .u8 b)
theorem muts_of_fresh {w : World} {B : Nat} {ao : Option Addr} {bs : List UInt8} (h : Fresh w B 5 ao (bs.map bv)) : Muts w B ao bs.length := by
  rcases h with h | ⟨g, cur, h1, h2, h3, h4⟩
  · left
    simpa using h
  · right
    refine ⟨g, cur, h1, h2, h3, fun j hj => ?_⟩
    refine ⟨(bs[j]).toNat, ?_⟩
    have h6 : cur.toList[j]? = (cur.toList.take (bs.map bv).length)[j]? := by rw [List.getElem?_take, if_pos (by simpa using hj)]
    rw [← Array.getElem?_toList, h6, h4]
    simp [hj, bv]
def AtAny (w : World) (l : List Gr) (i : Int) (e : Ending) (w' : World) : Prop :=
  ∃ (g : Gr) (b : Bool) (ao : Option Addr), e = .returned (.tuple #[.int .i64 g.src, .int .i64 g.dst, .slice ao g.bs.length g.bs.length, .bool b]) ∧ AtR l i g b ∧ Cs w' ao (g.bs.map bv) ∧ Muts w' w.heap.size ao g.bs.length ∧ g.bs.length ≤ 1500 ∧ Fr [] w w'
theorem at_any (p : Nat) (F : List Nat) (mtu most lost : Nat) (l : List Gr) (i : Int) (w : World) (h : Nt w p F mtu most lost l) :
    Calls Try.prog 17 #[.pointer (some ⟨p, 0, none⟩), .int .i64 i] w (AtAny w l i) := by
  by_cases h1 : i < 0 ∨ l.length ≤ i
  · refine (at_bad p F mtu most lost l i w h h1).mono ?_
    rintro e w' ⟨rfl, rfl⟩
    exact ⟨none', false, none, rfl, .inl ⟨h1, rfl, rfl⟩, .inl rfl, .inl rfl, by decide, Fr.refl _ _⟩
  · obtain ⟨k, rfl⟩ : ∃ k : Nat, i = k := ⟨i.toNat, by omega⟩
    have hk : k < l.length := by omega
    have hlim : l[k].bs.length ≤ 1500 := by
      obtain ⟨v, h, _⟩ := h
      exact (h.ok _ (List.getElem_mem hk)).lim
    refine (at_good p F mtu most lost l k w h hk).mono ?_
    rintro e w' ⟨ao, rfl, f, _, fr⟩
    exact ⟨l[k], true, ao, rfl, .inr ⟨k, hk, rfl, rfl, rfl⟩, f.cs, muts_of_fresh f, hlim, fr⟩
theorem dat_any (q : Nat) (K : List Nat) (mtu most lost : Nat) (l : List Gr) (i : Int) (g : Gr) (b : Bool) (hR : AtR l i g b) (w : World) (h : Dt w q K mtu most lost l) :
    Calls Try.prog 18 #[.pointer (some ⟨q, 0, none⟩), .int .i64 i] w fun e w' => e = .returned (.tuple #[agg3 g, .bool b]) ∧ Fr [] w w' := by
  rcases hR with ⟨h1, rfl, rfl⟩ | ⟨k, hk, rfl, rfl, rfl⟩
  · exact dat_bad q K mtu most lost _ i w h h1
  · exact dat_good q K mtu most lost l k w h hk
def TakeR (l : List Gr) (i : Int) (g : Gr) (b : Bool) (l' : List Gr) : Prop := ((i < 0 ∨ l.length ≤ i) ∧ g = none' ∧ b = false ∧ l' = l) ∨ ∃ (k : Nat) (h : k < l.length), i = k ∧ g = l[k] ∧ b = true ∧ l' = l.eraseIdx k
def TakeAny (p : Nat) (F : List Nat) (mtu most lost : Nat) (l : List Gr) (i : Int) (w : World) (e : Ending) (w' : World) : Prop :=
  ∃ (g : Gr) (b : Bool) (ao : Option Addr) (l' : List Gr) (F' : List Nat), e = .returned (.tuple #[.int .i64 g.src, .int .i64 g.dst, .slice ao g.bs.length g.bs.length, .bool b]) ∧ TakeR l i g b l' ∧ Cs w' ao (g.bs.map bv) ∧ (∀ x ∈ blk ao, w.heap.size ≤ x) ∧ g.bs.length ≤ 1500 ∧
    Nt w' p F' mtu most lost l' ∧ Fr F w w' ∧ ∀ x ∈ F', x ∈ F
theorem take_any (p : Nat) (F : List Nat) (mtu most lost : Nat) (l : List Gr) (i : Int) (w : World) (h : Nt w p F mtu most lost l) :
    Calls Try.prog 9 #[.pointer (some ⟨p, 0, none⟩), .int .i64 i] w (TakeAny p F mtu most lost l i w) := by
  by_cases h1 : i < 0 ∨ l.length ≤ i
  · refine (take_bad p F mtu most lost l i w h h1).mono ?_
    rintro e w' ⟨rfl, rfl⟩
    exact ⟨none', false, none, l, F, rfl, .inl ⟨h1, rfl, rfl, rfl⟩, .inl rfl, fun x hx => by simp [blk] at hx, by decide, h, Fr.refl _ _, fun x hx => hx⟩
  · obtain ⟨k, rfl⟩ : ∃ k : Nat, i = k := ⟨i.toNat, by omega⟩
    have hk : k < l.length := by omega
    have hlim : l[k].bs.length ≤ 1500 := by
      obtain ⟨v, h, _⟩ := h
      exact (h.ok _ (List.getElem_mem hk)).lim
    refine (take_good p F mtu most lost l k w h hk).mono ?_
    rintro e w' ⟨ao, F', rfl, f, b1, hn, fr, hF⟩
    exact ⟨l[k], true, ao, _, F', rfl, .inr ⟨k, hk, rfl, rfl, rfl, rfl⟩, f.cs, b1, hlim, hn, fr, hF⟩
theorem dtake_any (q : Nat) (K : List Nat) (mtu most lost : Nat) (l : List Gr) (i : Int) (g : Gr) (b : Bool) (l' : List Gr) (hR : TakeR l i g b l') (w : World) (h : Dt w q K mtu most lost l) :
    Calls Try.prog 14 #[.pointer (some ⟨q, 0, none⟩), .int .i64 i] w (DAny q K mtu most (.tuple #[agg3 g, .bool b]) lost l' w) := by
  rcases hR with ⟨h1, rfl, rfl, rfl⟩ | ⟨k, hk, rfl, rfl, rfl, rfl⟩
  · refine (dtake_bad q K mtu most lost _ i w h h1).mono ?_
    rintro e w' ⟨rfl, fr⟩
    exact ⟨K, rfl, dt_fr h fr (by simp), fr.mono (by simp), fun x hx => .inl hx⟩
  · refine (dtake_good q K mtu most lost l k w h hk).mono ?_
    rintro e w' ⟨rfl, K', hn, fr, hK⟩
    exact ⟨K', rfl, hn, fr, hK⟩

/-! ### The state of the play -/
structure PS (w wr : World) (p q : Nat) (F K : List Nat) (mtu most lost : Nat) (l : List Gr) : Prop where
  net : New w wr p F mtu most lost l
  doc : Dt wr q K mtu most lost l
  kNew : ∀ x ∈ K, w.heap.size ≤ x
  apart : ∀ x ∈ F, x ∉ K
theorem PS.fr {w wr wz : World} {p q : Nat} {F K S : List Nat} {mtu most lost : Nat} {l : List Gr} (h : PS w wr p q F K mtu most lost l) (f : Fr S wr wz) (hF : ∀ x ∈ F, x ∉ S) (hK : ∀ x ∈ K, x ∉ S) (hS : ∀ x ∈ S, w.heap.size ≤ x) : PS w wz p q F K mtu most lost l :=
  ⟨h.net.fr f hF hS, dt_fr h.doc f hK, h.kNew, h.apart⟩
theorem PS.fr0 {w wr wz : World} {p q : Nat} {F K : List Nat} {mtu most lost : Nat} {l : List Gr} (h : PS w wr p q F K mtu most lost l) (f : Fr [] wr wz) : PS w wz p q F K mtu most lost l := h.fr f (by simp) (by simp) (by simp)
theorem PS.doc1 {w w1 w2 : World} {p q : Nat} {F K : List Nat} {mtu most lost : Nat} {l : List Gr} (h : PS w w1 p q F K mtu most lost l) (f1 : Fr F w1 w2) : Dt w2 q K mtu most lost l := dt_fr h.doc f1 fun x hx hf => h.apart x hf hx
theorem PS.both {w w1 w2 w3 : World} {p q : Nat} {F F' K K' : List Nat} {mtu most lost lost' : Nat} {l l' : List Gr} (h : PS w w1 p q F K mtu most lost l) (h1 : Nt w2 p F' mtu most lost' l') (f1 : Fr F w1 w2) (hF : ∀ x ∈ F', x ∈ F ∨ w1.heap.size ≤ x)
    (h2 : Dt w3 q K' mtu most lost' l') (f2 : Fr K w2 w3) (hK : ∀ x ∈ K', x ∈ K ∨ w2.heap.size ≤ x) : PS w w3 p q F' K' mtu most lost' l' := by
  have s1 := f1.size
  have s0 := h.net.2.1.size
  have ap : ∀ x ∈ F', x ∉ K := fun x hx hk => by
    rcases hF x hx with h3 | h3
    · exact h.apart x h3 hk
    · have := dt_lt h.doc x hk
      omega
  refine ⟨(h.net.on h1 f1 hF).fr f2 ap h.kNew, h2, fun x hx => ?_, fun x hx hk => ?_⟩
  · rcases hK x hx with h3 | h3
    · exact h.kNew x h3
    · omega
  · rcases hK x hk with h3 | h3
    · exact ap x hx h3
    · have := nt_lt h1 x hx
      omega

/-! ### Bytes that are turned -/
def MutB (w : World) (B : Nat) (G : List Nat) (ao : Option Addr) (L : Nat) : Prop :=
  L = 0 ∨ ∃ g cur, ao = some ⟨g, 0, none⟩ ∧ B ≤ g ∧ g ∉ G ∧ w.heap[g]? = some (.cells cur 5 (0, 0)) ∧ ∀ j, j < L → ∃ b : Int, cur[j]? = some (.int .u8 b)
theorem mutB_of {w : World} {B B' L : Nat} {ao : Option Addr} {G : List Nat} (h : Muts w B ao L) (hB : B' ≤ B) (hG : ∀ x ∈ G, x < B) : MutB w B' G ao L := by
  rcases h with h | ⟨g, cur, h1, h2, h3, h4⟩
  · exact .inl h
  · exact .inr ⟨g, cur, h1, by omega, fun hg => by have := hG g hg; omega, h3, h4⟩
theorem Muts.fr {w w' : World} {B L : Nat} {ao : Option Addr} {S : List Nat} (h : Muts w B ao L) (f : Fr S w w') (hS : ∀ x ∈ S, x < B) : Muts w' B ao L := by
  rcases h with h | ⟨g, cur, h1, h2, h3, h4⟩
  · exact .inl h
  · exact .inr ⟨g, cur, h1, h2, f.blk h3 (fun hg => by have := hS g hg; omega), h4⟩
theorem Muts.sharp {w : World} {B L N : Nat} {ao : Option Addr} {G : List Nat} (h : Muts w B ao L) (hN : ∀ x ∈ blk ao, x < N) (hG : ∀ x ∈ G, x < B ∨ N ≤ x) {B' : Nat} (hB : B' ≤ B) {w' : World} {S : List Nat} (f : Fr S w w') (hS : ∀ x ∈ S, x < B) : MutB w' B' G ao L := by
  rcases h with h | ⟨g, cur, h1, h2, h3, h4⟩
  · exact .inl h
  · have hgN := hN g (by simp [h1, blk])
    exact .inr ⟨g, cur, h1, by omega, fun hg => by rcases hG g hg with h5 | h5 <;> omega, f.blk h3 (fun hg => by have := hS g hg; omega), h4⟩
/-- One byte is turned. -/
theorem mut_step {w wr : World} {p q : Nat} {F K : List Nat} {mtu most lost : Nat} {l : List Gr} (h : PS w wr p q F K mtu most lost l) {g L : Nat} {cur : Array Value} (hB : w.heap.size ≤ g) (hG : g ∉ F ++ K) (hg : wr.heap[g]? = some (.cells cur 5 (0, 0)))
    (hc : ∀ j, j < L → ∃ b : Int, cur[j]? = some (.int .u8 b)) (j : Nat) (v : Int) :
    PS w (wr.setCell ⟨g, j, none⟩ (.int .u8 v)) p q F K mtu most lost l ∧ MutB (wr.setCell ⟨g, j, none⟩ (.int .u8 v)) w.heap.size (F ++ K) (some ⟨g, 0, none⟩) L := by
  simp only [List.mem_append, not_or] at hG
  refine ⟨h.fr ((Fr.refl [g] wr).setCell (by simp) _) (fun x hx e => ?_) (fun x hx e => ?_) (fun x hx => ?_), .inr ⟨g, _, rfl, hB, by simp [hG], setCell_of hg _, fun j' hj' => ?_⟩⟩
  · simp at e; subst e; exact hG.1 hx
  · simp at e; subst e; exact hG.2 hx
  · simp at hx; omega
  · obtain ⟨b', hb'⟩ := hc j' hj'
    rw [Array.getElem?_setIfInBounds]
    split
    · rename_i h
      have := (Array.getElem?_eq_some_iff.1 hb').1
      obtain rfl : j = j' := h
      rw [if_pos this]
      exact ⟨_, rfl⟩
    · exact ⟨b', hb'⟩

/-! ### The script -/
/-- What a walk is told of a script. -/
def PlayArg (w : World) (a : Option Addr) (len cap : Nat) : Prop :=
  len ≤ cap ∧ cap ≤ maxLen ∧ (len = 0 ∨ ∃ g o, a = some ⟨g, o, none⟩ ∧ ∀ i, i < len → ∃ (k n s t : Int) (ad : Option Addr) (dl dc : Nat) (bs : List UInt8),
    w.cell? ⟨g, o + i * 5, none⟩ = some (.int .i64 k) ∧ w.cell? ⟨g, o + i * 5 + 1, none⟩ = some (.int .i64 n) ∧ w.cell? ⟨g, o + i * 5 + 2, none⟩ = some (.int .i64 s) ∧ w.cell? ⟨g, o + i * 5 + 3, none⟩ = some (.int .i64 t) ∧
    w.cell? ⟨g, o + i * 5 + 4, none⟩ = some (.slice ad dl dc) ∧ BytesArg w ad dl dc bs)
theorem cells5 : Try.prog.cellsOf 39 = 5 := by kernel_rfl
theorem cellsInt : Try.prog.cellsOf 3 = 1 := by kernel_rfl
theorem cellsU8s : Try.prog.cellsOf 29 = 1 := by kernel_rfl
theorem cellsU8 : Try.prog.cellsOf 5 = 1 := by kernel_rfl
theorem bytesU8 : Try.prog.bytesOf 5 = 1 := by kernel_rfl
theorem trod_struct5 {H : Type} {enc : TypeId × Value → H} {P : Program} {w : World} {base : Nat} {spare : TypeId → Bool} {held : Bool} {t : TypeId} {f0 f1 f2 f3 f4 : Field} {fuel : Nat} {cs : List Value} {x : DataW H × List MemPlace} (ht : P.underlying t = some (.struct #[f0, f1, f2, f3, f4])) (h : DataW.trod enc P w base spare held fuel t cs = some x) :
    ∃ y0 y1 y2 y3 y4 n, x = (.agg [y0.1, y1.1, y2.1, y3.1, y4.1], y0.2 ++ (y1.2 ++ (y2.2 ++ (y3.2 ++ y4.2)))) ∧ cs.length = P.cellsOf t ∧ DataW.trod enc P w base spare held n f0.type ((cs.drop f0.offset).take (P.cellsOf f0.type)) = some y0 ∧
      DataW.trod enc P w base spare held n f1.type ((cs.drop f1.offset).take (P.cellsOf f1.type)) = some y1 ∧ DataW.trod enc P w base spare held n f2.type ((cs.drop f2.offset).take (P.cellsOf f2.type)) = some y2 ∧
      DataW.trod enc P w base spare held n f3.type ((cs.drop f3.offset).take (P.cellsOf f3.type)) = some y3 ∧ DataW.trod enc P w base spare held n f4.type ((cs.drop f4.offset).take (P.cellsOf f4.type)) = some y4 := by
  obtain ⟨xs, n, _, rfl, hl, hlen, hf⟩ := DataW.trod_struct ht h
  match xs, hlen with
  | [y0, y1, y2, y3, y4], _ => exact ⟨y0, y1, y2, y3, y4, n, by simp, hl, by simpa using hf 0 f0 rfl, by simpa using hf 1 f1 rfl, by simpa using hf 2 f2 rfl, by simpa using hf 3 f3 rfl, by simpa using hf 4 f4 rfl⟩
theorem play_arg {H : Type} {enc : TypeId × Value → H} {w : World} {a : Option Addr} {len cap : Nat} {d : DataW H} {p : List MemPlace}
    (h : DataW.Trod enc Try.prog w 0 (fun _ => true) true 34 (.slice a len cap) d p) (hL : Light Try.prog 34 d) : PlayArg w a len cap := by
  obtain ⟨h1, h2, _, _, _, h3⟩ := slice_arg Try.underlying34 cells5 (by decide) h hL
  refine ⟨h1, h2, ?_⟩
  rcases h3 with h3 | ⟨g, o, rfl, h3⟩
  · exact .inl h3
  · refine .inr ⟨g, o, rfl, fun i hi => ?_⟩
    obtain ⟨cs, y, n, hl, hc, ht, hLy, hBy⟩ := h3 i hi
    match cs, hl with
    | [x0, x1, x2, x3, x4], _ =>
      obtain ⟨y0, y1, y2, y3, y4, m, rfl, _, t0, t1, t2, t3, t4⟩ := trod_struct5 Try.underlying39 ht
      simp only [cellsInt, cellsU8s, List.drop_zero, List.drop_succ_cons, List.take_succ_cons, List.take_zero] at t0 t1 t2 t3 t4
      obtain ⟨k, e0, _, _⟩ := DataW.trod_int Try.underlying3 t0
      obtain ⟨n', e1, _, _⟩ := DataW.trod_int Try.underlying3 t1
      obtain ⟨s, e2, _, _⟩ := DataW.trod_int Try.underlying3 t2
      obtain ⟨t, e3, _, _⟩ := DataW.trod_int Try.underlying3 t3
      have hL4 : Light Try.prog 29 y4.1 := light_struct Try.underlying39 hLy (j := 4) rfl rfl
      obtain ⟨ad, dl, dc, bs, e4, hB, hbk⟩ := bytes_cell Try.underlying29 Try.underlying5 cellsU8 bytesU8 t4 hL4
      simp only [List.cons.injEq, and_true] at e0 e1 e2 e3 e4
      subst e0 e1 e2 e3 e4
      exact ⟨k, n', s, t, ad, dl, dc, bs, hc 0 _ rfl, hc 1 _ rfl, hc 2 _ rfl, hc 3 _ rfl, hc 4 _ rfl, hB⟩
end Go.Proofs.Ytmoiahgbenaihaa.net
