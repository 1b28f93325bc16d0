/-
  Texts of this proof, one behind the other: FsE, PackLaw, WrB, FsF.
-/
import Derived.Test.YtflcdnmhgfhmdaaGreatDoorG3
import Derived.Test.YtflcdnmhgfhmdaaGreatDoorG4
import Derived.Test.YtflcdnmhgfhmdaaGreatDoorG7
import Derived.Test.YtflcdnmhgfhmdaaGreatDoorG8
import Derived.Test.YtflcdnmhgfhmdaaGreatDoorG10
import Derived.Test.YtflcdnmhgfhmdaaGreatDoorG13
import Derived.Maps.RangeWalk
import Derived.Sort.MapsRangeIn
import Derived.Deep.DeepCutAuto
import Derived.Deep.CutBlock
import Derived.Deep.CondSized
import Derived.WalkMore
set_option linter.unusedVariables false
set_option linter.unusedSimpArgs false
/-
  fs: how many bytes all files have (a bound).
-/
namespace Go.Proofs.YtflcdnmhgfhmdaaGreatDoor.fs
open Go Go.RowKit Go.Proofs.YtflcdnmhgfhmdaaGreatDoor.lib Go.Proofs.YtflcdnmhgfhmdaaGreatDoor.pk

set_option maxRecDepth 100000
theorem grown_fr {w w' : World} {row : Option Nat} (h : w.grownBy w' row) : Fr row.toList w w' :=
  ⟨h.os, h.tape, h.output, h.size, fun k hk hm => h.block k hk (fun e => hm (by simp [e]))⟩
theorem key_inv {key : Value} {kl : Lit} (h : keyOf Tryz.prog 9 key = some kl) : ∃ x : Nm, key = .string (str x) ∧ kl = .string x := by
  obtain ⟨s, rfl⟩ := Maps.keyOf_string_inv Tryz.underlying9 h
  have es : s = str s.data.toList := rfl
  refine ⟨s.data.toList, by rw [← es], ?_⟩
  rw [keyOf_string Tryz.underlying9] at h
  unfold mapKey at h
  simp [Tryz.underlying9] at h
  first | exact h.2.symm | exact h.symm | exact ()
theorem val_inv (v : Value) (y : DataW Unit × List MemPlace) (h : pR v = some y) : ∃ c, v = pV c := by
  obtain ⟨q, hq, _⟩ := pR_inv h
  exact ⟨q, hq⟩
set_option maxHeartbeats 8000000 in
theorem used_any (F n M : Nat) (t : Nm → Option (List UInt8)) (lab : Nat → Option Lb) (w : World) (h : Fs w F n M t lab) :
    Calls Tryz.prog 422 #[.pointer (some ⟨F, 0, none⟩)] w fun e w' => (∃ u : Nat, u ≤ n * M ∧ e = .returned (.int .i64 (u : Nat))) ∧ Fr [] w w' := by
  obtain ⟨⟨q, B, las, chg, m, vs, g, hq, h1, ⟨D, hD, hV⟩, h3, h4, h5, h6, h7, h8, h9, h10⟩, hn8, hM, hlow⟩ := h
  have c1 : w.cell? ⟨F, 1, none⟩ = some (.map (some B)) := by rw [cell_of h1]; rfl
  have hfile : ∀ x p, g x = some p → ∃ (a : Option Addr) (c : Nat) (syn : Int) (bs : List UInt8), bs.length ≤ M ∧ w.heap[p]? = some (.cells #[.slice a bs.length c, .int .i64 syn] 189 (0, 0)) := fun x p hp => by
    cases htx : t x with
    | none => rw [h8 x htx] at hp; cases hp
    | some bs =>
      obtain ⟨b1, p', a, c, syn, b2, b3, _⟩ := h9 x bs htx
      rw [hp] at b2
      obtain rfl := Option.some.inj b2
      exact ⟨a, c, syn, bs, b1, b3.1⟩
  have hnM : n * M ≤ 90000000 := by
    have := Nat.mul_le_mul hn8 hM
    omega
  have hsz := hD.size_le
  have H := Lib.hid (And.intro hD (And.intro hV (And.intro hfile hsz)))
  clear hD hV h1 h3 h4 h5 h6 h7 h8 h9 h10 hlow hfile hsz
  go_enter Tryz.func422, Tryz.ntmps422
  go_upto_block 0 with (at_range; refine wpList_range_own _ rfl _ 124 rfl 9 183 str_keyed und_names pR B n D rfl H.out.1 ?_; intro w0 hrg0 hg0 hs0; have H0 := Lib.hid (And.intro hrg0 (And.intro hg0 hs0)); clear hrg0 hg0 hs0)
  obtain ⟨r, hr⟩ : ∃ r, r = w.heap.size := ⟨_, rfl⟩
  rw [← hr]
  have HR := Lib.hid hr
  have f0 : Fr [] w w0 := grown_fr H0.out.2.1
  have hrg0 := H0.out.1
  rw [← hr] at hrg0
  have HG := Lib.hid (And.intro hrg0 f0)
  clear hr c1 H0 hrg0 f0
  go_wp2
  go_frame
  go_loopg [3] (Maps.size D) (fun k s3 wr => ∃ (u cnt : Nat) (left : Lit → Bool), s3 = .int .i64 (u : Nat) ∧ cnt ≤ k ∧ u + cnt * M ≤ n * M ∧ wr.ranges Tryz.prog 9 pR B r n D left cnt ∧ (∀ z, left z = true → Maps.has D z = true) ∧ Fr [] w wr)
  case atStart => exact ⟨0, _, _, rfl, Nat.le_refl _, by rw [Nat.zero_add]; exact Nat.mul_le_mul_right _ H.out.2.2.2, HG.out.1, fun _ h => h, HG.out.2⟩
  case round =>
    obtain ⟨u, cnt, left, rfl, hck, hu, hrg, hleft, hf⟩ := hrel
    have HL := Lib.hid (And.intro hrg (And.intro hleft hf))
    clear hrg hleft hf
    have hub : u ≤ 90000000 := by omega
    go_upto_region 4 with (at_next; refine wpList_next_ranges _ rfl _ rfl 9 str_keyed pR (fun s : ByteArray => Value.string s) pV (fun key kl h => Maps.keyOf_string_inv Tryz.underlying9 h) val_inv B r n D left cnt rfl HL.out.1 ?_ ?_)
    · intro hc0 hl0
      go_wp2
      go_ret
      exact ⟨⟨u, by omega, rfl⟩, HL.out.2.2⟩
    · intro x c kl a b w' cnt' hkey hlk hv hat hrg hlt hgr hsz hen
      obtain ⟨x', hx', rfl⟩ := key_inv hkey
      have hha := HL.out.2.1 _ hlk
      obtain ⟨v1, v2⟩ := H.out.2.1 x'
      have hgx : ∃ p, g x' = some p := by
        cases hg : g x' with
        | none => rw [v1 hg] at hha; cases hha
        | some p => exact ⟨p, rfl⟩
      obtain ⟨p, hp⟩ := hgx
      have hc : c = some p := by
        rw [pR_mk] at hv
        have e1 := congrArg Prod.fst (Option.some.inj hv)
        simp only at e1
        have e2 := hat .nil
        rw [(v2 p hp).2, ← e1] at e2
        exact (pD_inj e2).symm
      subst hc
      rw [show pV (some p) = .pointer (some ⟨p, 0, none⟩) from rfl] at hen ⊢
      obtain ⟨fa, fc, fs, fb, hfl, hfb⟩ := H.out.2.2.1 x' p hp
      have f1 : Fr [] w w' := HL.out.2.2.step (grown_fr hgr) (fun y hy => .inr (by simp at hy; have := HR.out; omega))
      have c0 : w'.cell? ⟨p, 0, none⟩ = some (.slice fa fb.length fc) := by rw [cell_of (f1.blk hfb (by simp))]; rfl
      have hmul : (cnt' + 1) * M ≤ cnt * M := Nat.mul_le_mul_right _ hlt
      rw [Nat.add_mul, Nat.one_mul] at hmul
      obtain ⟨fl, hfl2⟩ : ∃ fl, fl = fb.length := ⟨_, rfl⟩
      rw [← hfl2] at c0 hfl
      have HX := Lib.hid (And.intro f1 (And.intro hrg (fun z hz => HL.out.2.1 z (by simp only [Bool.and_eq_true] at hz; exact hz.1) : ∀ z, (left z && !z.sameKey (.string x')) = true → Maps.has D z = true)))
      clear hkey hlk hv hat hrg hgr hsz hha v1 v2 hp hfb f1 hfl2 hx'
      go_wp2
      go_roundg cnt'
      case measure => omega
      case rel => exact ⟨u + fl, cnt', _, by go_num, Nat.le_refl _, by omega, HX.out.2.1, HX.out.2.2, HX.out.1⟩
end Go.Proofs.YtflcdnmhgfhmdaaGreatDoor.fs
/-
  An entry's head and an offset, plain: the bytes that are written, and that an offset's bytes are read as what it was.
-/
namespace Go.Proofs.YtflcdnmhgfhmdaaGreatDoor.pk
open Go

/-- A head's bytes behind the kind: c is the byte under way, n what is left of the size (f: fuel). -/
def hdF : Nat → Nat → Nat → List UInt8
  | 0, c, _ => [UInt8.ofNat c]
  | f + 1, c, n => if n = 0 then [UInt8.ofNat c] else UInt8.ofNat (c + 128) :: hdF f (n % 128) (n / 128)
def hd (kind size : Nat) : List UInt8 := hdF size (kind % 8 * 16 + size % 16) (size / 16)
theorem hdF_len (f c n : Nat) : (hdF f c n).length ≤ f + 1 := by
  induction f generalizing c n with
  | zero => simp [hdF]
  | succ f ih =>
    unfold hdF
    split
    · simp
    · simp only [List.length_cons]
      have := ih (n % 128) (n / 128)
      omega
theorem hdF_fuel {f g : Nat} : ∀ {c n : Nat}, n ≤ f → n ≤ g → hdF f c n = hdF g c n := by
  induction f generalizing g with
  | zero =>
    intro c n h1 h2
    have : n = 0 := by omega
    subst this
    cases g <;> simp [hdF]
  | succ f ih =>
    intro c n h1 h2
    by_cases h0 : n = 0
    · subst h0
      cases g <;> simp [hdF]
    · cases g with
      | zero => omega
      | succ g =>
        unfold hdF
        rw [if_neg h0, if_neg h0, ih (g := g) (by omega) (by omega)]
theorem hdF_le {k : Nat} : ∀ {f c n : Nat}, n < 128 ^ k → n ≤ f → (hdF f c n).length ≤ k + 1 := by
  induction k with
  | zero =>
    intro f c n h _
    have : n = 0 := by omega
    subst this
    cases f <;> simp [hdF]
  | succ k ih =>
    intro f c n h hf
    cases f with
    | zero => simp [hdF]
    | succ f =>
      unfold hdF
      split
      · simp
      · have h2 : n / 128 < 128 ^ k := by rw [Nat.pow_succ] at h; exact Nat.div_lt_of_lt_mul (by omega)
        have := ih (f := f) (c := n % 128) h2 (by omega)
        simp only [List.length_cons]
        omega

/-- What stands above an offset's lowest seven bits, the lowest first. -/
def bkF : Nat → Nat → List UInt8
  | 0, _ => []
  | f + 1, m => if m = 0 then [] else UInt8.ofNat ((m - 1) % 128 + 128) :: bkF f ((m - 1) / 128)
def bk (n : Nat) : List UInt8 := UInt8.ofNat (n % 128) :: bkF n (n / 128)
theorem bkF_fuel {f g : Nat} : ∀ {m : Nat}, m ≤ f → m ≤ g → bkF f m = bkF g m := by
  induction f generalizing g with
  | zero =>
    intro m h1 h2
    have : m = 0 := by omega
    subst this
    cases g <;> simp [bkF]
  | succ f ih =>
    intro m h1 h2
    by_cases h0 : m = 0
    · subst h0
      cases g <;> simp [bkF]
    · cases g with
      | zero => omega
      | succ g =>
        unfold bkF
        rw [if_neg h0, if_neg h0, ih (g := g) (by omega) (by omega)]
theorem bkF_len {k : Nat} : ∀ {f m : Nat}, m < 128 ^ k → (bkF f m).length ≤ k := by
  induction k with
  | zero =>
    intro f m h
    have : m = 0 := by omega
    subst this
    cases f <;> simp [bkF]
  | succ k ih =>
    intro f m h
    cases f with
    | zero => simp [bkF]
    | succ f =>
      unfold bkF
      split
      · simp
      · have h2 : (m - 1) / 128 < 128 ^ k := by rw [Nat.pow_succ] at h; exact Nat.div_lt_of_lt_mul (by omega)
        have := ih (f := f) h2
        simp only [List.length_cons]
        omega
/-- The value behind the first i bytes. -/
def vat (l : List UInt8) : Nat → Nat
  | 0 => 0
  | i + 1 => (if i = 0 then 0 else (vat l i + 1) * 128) + (l[i]?.getD 0).toNat % 128
theorem vat_app {l r : List UInt8} : ∀ {i : Nat}, i ≤ l.length → vat (l ++ r) i = vat l i := by
  intro i
  induction i with
  | zero => intro _; rfl
  | succ i ih =>
    intro h
    unfold vat
    rw [ih (by omega), List.getElem?_append_left (by omega)]
theorem toNat_byte {n : Nat} (h : n < 256) : (UInt8.ofNat n).toNat = n := by simp [UInt8.toNat_ofNat']; omega
theorem vat_bkF : ∀ {f m : Nat}, m ≤ f → 0 < m → 0 < (bkF f m).length ∧ vat (bkF f m).reverse (bkF f m).length = m - 1 := by
  intro f
  induction f with
  | zero => intro m h1 h2; omega
  | succ f ih =>
    intro m h1 h2
    unfold bkF
    rw [if_neg (by omega)]
    refine ⟨by simp, ?_⟩
    rw [List.reverse_cons, List.length_cons]
    unfold vat
    rw [List.getElem?_append_right (by simp), List.length_reverse, Nat.sub_self]
    simp only [List.getElem?_cons_zero, Option.getD_some]
    rw [toNat_byte (by omega), vat_app (by simp)]
    by_cases h0 : (m - 1) / 128 = 0
    · have he : bkF f ((m - 1) / 128) = [] := by rw [h0]; cases f <;> simp [bkF]
      rw [he]
      simp
      omega
    · obtain ⟨k1, k2⟩ := ih (m := (m - 1) / 128) (by omega) (by omega)
      rw [if_neg (by omega), k2]
      omega
theorem bk_val (n : Nat) : vat (bk n).reverse (bk n).length = n := by
  unfold bk
  rw [List.reverse_cons, List.length_cons]
  unfold vat
  rw [List.getElem?_append_right (by simp), List.length_reverse, Nat.sub_self]
  simp only [List.getElem?_cons_zero, Option.getD_some]
  rw [toNat_byte (by omega), vat_app (by simp)]
  by_cases h0 : n / 128 = 0
  · have he : bkF n (n / 128) = [] := by rw [h0]; cases n <;> simp [bkF]
    rw [he]
    simp
    omega
  · obtain ⟨k1, k2⟩ := vat_bkF (f := n) (m := n / 128) (by omega) (by omega)
    rw [if_neg (by omega), k2]
    omega
theorem bkF_high : ∀ {f m : Nat}, ∀ x ∈ bkF f m, 128 ≤ x.toNat := by
  intro f
  induction f with
  | zero => intro m x h; simp [bkF] at h
  | succ f ih =>
    intro m x h
    unfold bkF at h
    split at h
    · simp at h
    · simp only [List.mem_cons] at h
      rcases h with rfl | h
      · rw [toNat_byte (by omega)]; omega
      · exact ih x h
/-- Each byte but the last one is marked. -/
theorem bk_mark (n : Nat) {i : Nat} (hi : i < (bk n).length) : 128 ≤ ((bk n).reverse[i]?.getD 0).toNat ↔ i + 1 < (bk n).length := by
  have e : (bk n).reverse = (bkF n (n / 128)).reverse ++ [UInt8.ofNat (n % 128)] := by unfold bk; rw [List.reverse_cons]
  have hl : (bk n).length = (bkF n (n / 128)).length + 1 := rfl
  rw [e]
  by_cases h : i + 1 < (bk n).length
  · rw [List.getElem?_append_left (by rw [List.length_reverse]; omega)]
    have h2 : i < (bkF n (n / 128)).reverse.length := by rw [List.length_reverse]; omega
    rw [List.getElem?_eq_getElem h2]
    have := bkF_high (f := n) (m := n / 128) _ (List.mem_reverse.1 (List.getElem_mem h2))
    simp only [Option.getD_some]
    exact ⟨fun _ => h, fun _ => this⟩
  · rw [List.getElem?_append_right (by rw [List.length_reverse]; omega), List.length_reverse, show i - (bkF n (n / 128)).length = 0 by omega]
    simp only [List.getElem?_cons_zero, Option.getD_some]
    rw [toNat_byte (by omega)]
    omega
theorem bk_len {n : Nat} (h : n ≤ 1073741824) : (bk n).length ≤ 5 := by
  unfold bk
  have h1 : n / 128 < 128 ^ 4 := by omega
  have := bkF_len (f := n) h1
  simp only [List.length_cons]
  omega
theorem hd_len {kind size : Nat} (h : size ≤ 2147483647) : (hd kind size).length ≤ 5 := by
  unfold hd
  have h1 : size / 16 < 128 ^ 4 := by omega
  exact hdF_le h1 (by omega)
end Go.Proofs.YtflcdnmhgfhmdaaGreatDoor.pk
/-
  A slice of bytes that is being written; small facts on bits.
-/
namespace Go.Proofs.YtflcdnmhgfhmdaaGreatDoor.pk
open Go Go.RowKit Go.Proofs.YtflcdnmhgfhmdaaGreatDoor.lib Go.Proofs.YtflcdnmhgfhmdaaGreatDoor.bm

theorem sliceU8 : SliceTy Tryz.prog 93 5 (.int .u8 0) 1 1 := SliceTy.of Tryz.underlying93 (by kernel_rfl) rfl (by decide)
theorem bv_one (bs : List UInt8) : ∀ u ∈ bs.map bv, u.oneCell' = true := by
  intro u hu
  obtain ⟨b, _, rfl⟩ := List.mem_map.1 hu
  rfl
/-- Where the writing of bytes stands. -/
structure Wr (w wr : World) (a : Option Addr) (c : Nat) (out : List UInt8) : Prop where
  own : wr.ownsRow 0 5 1 (.slice a out.length c) out.length (out.map bv)
  fr : Fr [] w wr
  new : ∀ x ∈ blk a, w.heap.size ≤ x
theorem wr_start (w w' : World) (f : Fr [] w w') : Wr w w' none 0 [] := ⟨World.ownsRow_nil _ _ _ _, f, by simp [blk]⟩
theorem Wr.step {w wr w1 w2 : World} {a a2 : Option Addr} {c c2 : Nat} {out : List UInt8} {x : UInt8} (h : Wr w wr a c out) (f : Fr [] wr w1) (A : Appended w1 w2 5 1 (blk a) a2 (out.length + 1) c2 (out.map bv ++ [bv x])) : Wr w w2 a2 c2 (out ++ [x]) := by
  refine ⟨by rw [List.length_append, List.map_append]; exact A.own, (h.fr.trans f).step A.fr fun y hy => .inr (h.new y hy), fun y hy => ?_⟩
  rcases A.at_ y hy with h1 | h1
  · exact h.new y h1
  · have := (h.fr.trans f).size
    omega
theorem lead_byte (kind size : Nat) (hk : kind ≤ 7) : bits .or .u8 (bits .and .i64 (kind : Int) 7 % 256 * 16 % 256) (bits .and .i64 (size : Int) 15 % 256) = ((kind % 8 * 16 + size % 16 : Nat) : Int) := by
  rw [show bits .and .i64 (kind : Int) 7 = (kind : Int) % 8 from i64_mask _ 3 (by decide), show bits .and .i64 (size : Int) 15 = (size : Int) % 16 from i64_mask _ 4 (by decide)]
  have h : ∀ (x : Fin 8) (y : Fin 16), bits .or .u8 (((x.1 : Nat) : Int) * 16) ((y.1 : Nat) : Int) = ((x.1 * 16 + y.1 : Nat) : Int) := by decide +kernel
  have e := h ⟨kind % 8, by omega⟩ ⟨size % 16, by omega⟩
  simp only at e
  rw [show (kind : Int) % 8 % 256 * 16 % 256 = ((kind % 8 : Nat) : Int) * 16 by omega, show (size : Int) % 16 % 256 = ((size % 16 : Nat) : Int) by omega, e]
theorem or_mark (c : Nat) (h : c ≤ 127) : bits .or .u8 (c : Int) 128 = (((UInt8.ofNat (c + 128)).toNat : Nat) : Int) := by
  have h2 : ∀ x : Fin 128, bits .or .u8 (x.1 : Int) 128 = ((x.1 + 128 : Nat) : Int) := by decide +kernel
  have e := h2 ⟨c, by omega⟩
  simp only at e
  rw [e, toNat_byte (by omega)]
theorem low7 (n : Nat) : bits .and .i64 (n : Int) 127 = ((n % 128 : Nat) : Int) := by
  rw [show bits .and .i64 (n : Int) 127 = (n : Int) % 128 from i64_mask _ 7 (by decide)]
  omega
theorem hdF_zero (f c : Nat) : hdF f c 0 = [UInt8.ofNat c] := by cases f <;> simp [hdF]
theorem hdF_step {f c n : Nat} (h : 0 < n) (hf : n ≤ f) : hdF f c n = UInt8.ofNat (c + 128) :: hdF f (n % 128) (n / 128) := by
  cases f with
  | zero => omega
  | succ f => rw [hdF, if_neg (by omega), hdF_fuel (f := f) (g := f + 1) (by omega) (by omega)]
end Go.Proofs.YtflcdnmhgfhmdaaGreatDoor.pk
/-
  fs: bytes laid behind a file's.
-/
namespace Go.Proofs.YtflcdnmhgfhmdaaGreatDoor.fs
open Go Go.RowKit Go.Proofs.YtflcdnmhgfhmdaaGreatDoor.lib Go.Proofs.YtflcdnmhgfhmdaaGreatDoor.pk

set_option maxRecDepth 100000
set_option maxHeartbeats 8000000 in
theorem append_raw (F q B n U : Nat) (las chg : Value) (g : Nm → Option Nat) (k : Nm) (p : Nat) (a : Option Addr) (c : Nat) (syn : Int) (bs : List UInt8) (ba : Option Addr) (bc : Nat) (nb : List UInt8) (w : World) (hF : FsB w F q B las chg) (hN : Names w B n g) (hk : NOk k) (hg : g k = some p)
    (hp : FileB w p a c syn bs) (hb : lib.Rd w ba bc nb) (hu : ∀ w', Fr [] w w' → Calls Tryz.prog 422 #[.pointer (some ⟨F, 0, none⟩)] w' fun e w'' => (∃ u : Nat, u ≤ U ∧ e = .returned (.int .i64 (u : Nat))) ∧ Fr [] w' w'')
    (hroom : nb.length + U ≤ q) (hq : q ≤ 16777216) (hbl : bs.length ≤ 1000000) (hpF : p ≠ F) (haF : ∀ x ∈ blk a, x ≠ F ∧ x ≠ p) (hbF : nb ≠ [] → ∀ x ∈ blk ba, x ≠ F) :
    Calls Tryz.prog 353 #[.pointer (some ⟨F, 0, none⟩), .string (str k), .slice ba nb.length bc] w fun e w' => e = .returned (.int .i64 0) ∧ ∃ a' c', FileB w' p a' c' syn (bs ++ nb) ∧ Fr (F :: p :: blk a) w w' ∧ FsB w' F q B las chg ∧ ∀ x ∈ blk a', x ∈ blk a ∨ w.heap.size ≤ x := by
  have hof := of_any F q B n las chg g k w hF hN hk
  rw [hg] at hof
  unfold OfP at hof
  simp only at hof
  obtain ⟨L, hL⟩ : ∃ L, L = nb.length := ⟨_, rfl⟩
  rw [← hL] at hroom ⊢
  have hle := hb.le
  rw [← hL] at hle
  obtain ⟨z, hz⟩ : ∃ z, z = str k := ⟨_, rfl⟩
  rw [← hz] at hof ⊢
  have H := Lib.hid (And.intro hof (And.intro hF (And.intro hp (And.intro hb (And.intro hu (And.intro hL (And.intro haF hbF)))))))
  clear hof hF hp hb hu hL hz hN hk hg haF hbF
  go_enter Tryz.func353, Tryz.ntmps353
  go_upto_region 4 with (go_at_call 179; refine H.out.1.mono ?_; rintro e w1 ⟨rfl, f1⟩; have H1 := Lib.hid f1; clear f1)
  have c0 : w1.drew.cell? ⟨F, 0, none⟩ = some (.int .i64 (q : Nat)) := (show w1.cell? _ = _ by rw [cell_of (H1.out.blk H.out.2.1 (by simp))]; rfl)
  have s0 : ∀ x, (sup [] w1.drew x).cell? ⟨F, 0, none⟩ = some (.int .i64 (q : Nat)) := fun x => (sup_fr [] w1.drew x).cell c0 (by simp)
  refine region_mix 10 [(false, 0), (false, 1), (false, 2), (false, 3), (false, 4), (false, 5), (false, 6), (true, 7), (false, 8), (false, 9)] [] (by kernel_rfl) (by kernel_rfl) (fun _ _ d _ _ h => by cases d <;> exact h) ?_
  simp only [List.map_cons, List.map_nil, List.getD_cons_zero, List.getD_cons_succ, List.drop_succ_cons, List.drop_zero, List.drop_nil]
  refine mix_seg 7 rfl ?_
  simp only [List.take_succ_cons, List.take_zero, List.drop_succ_cons, List.drop_zero, List.map_cons, List.map_nil]
  repeat (go_big_quiet_step (fail))
  refine wpQuiet_nil ?_
  clear s0 c0
  refine mix_eff rfl ?_
  intro XX hXX
  go_wp2_with (go_at_call 422; refine (H.out.2.2.2.2.1 _ (H1.out.trans (Fr.drew1 [] w1))).mono ?_; rintro e w2 ⟨⟨u, hu, rfl⟩, f2⟩)
  refine hXX.out _ _ f2 ?_
  clear hXX XX
  have H2 := Lib.hid f2
  clear f2
  have g1 : decide ((q : Int) - (u : Int) < (L : Int)) = false := by simp; omega
  refine mix_seg 2 rfl ?_
  simp only [List.take_succ_cons, List.take_zero, List.drop_succ_cons, List.drop_zero, List.map_cons, List.map_nil]
  repeat (go_big_quiet_step (fail))
  refine wpQuiet_nil ?_
  refine mix_nil ?_
  have f02 : Fr [] w w2 := (H1.out.trans (Fr.drew1 [] w1)).trans H2.out
  have hbn := burn_ok F q B las chg w2 (f02.blk H.out.2.1 (by simp))
  have HB := Lib.hid (And.intro hbn f02)
  clear hbn f02
  go_upto_region 9 with (go_at_call 268; refine HB.out.1.mono ?_; rintro e w3 ⟨rfl, b3, f3⟩; have H3 := Lib.hid (And.intro b3 f3); clear b3 f3)
  have f03 : Fr [F] w w3 := (HB.out.2.mono (T := [F]) (by simp)).trans H3.out.2
  obtain ⟨hp1, hp2⟩ := H.out.2.2.1
  obtain ⟨haF, hbF⟩ := H.out.2.2.2.2.2.2
  have p3 : FileB w3 p a c syn bs := ⟨f03.blk hp1 (by simpa using hpF), hp2.fr f03 (fun x hx => by have := (haF x hx).1; simpa using this)⟩
  have rd3 := rd_frE H.out.2.2.2.1 f03 (fun hb x hx => by simpa using hbF hb x hx)
  have c0 : w3.cell? ⟨p, 0, none⟩ = some (.slice a bs.length c) := by rw [cell_of p3.1]; rfl
  obtain ⟨BL, hBL⟩ : ∃ BL, BL = bs.length := ⟨_, rfl⟩
  rw [← hBL] at c0 hbl
  have H4 := Lib.hid (And.intro p3 (And.intro rd3 (And.intro f03 hBL)))
  clear p3 rd3 f03 hp1 hp2 haF hbF hBL
  go_wp2_with (at_builtin; go_loud (refine wpList_append_b sliceU8 rfl _ _ rfl a BL c (bs.map bv) rfl H4.out.1.2 (by rw [List.length_map, H4.out.2.2.2]) ba L bc (nb.map bv) rfl hle H4.out.2.1.nil H4.out.2.1.cs (by rw [List.length_map, H.out.2.2.2.2.2.1]) (bv_one _) (by omega) (by unfold maxLen; omega) ?_; intro a4 q4 w4 A4; have p4 := A4.fr.blk H4.out.1.1 (fun hx => (H.out.2.2.2.2.2.2.1 p hx).2 rfl); have d4 : w4.cell? ⟨p, 0, none⟩ = some (.slice a bs.length c) := (by rw [cell_of p4]; rfl); have z4 := frozen_of p4 0; have H5 := Lib.hid (And.intro A4 p4); clear A4 p4))
  go_ret
  obtain ⟨A4, p4⟩ := H5.out
  have f03 := H4.out.2.2.1
  have f5 : Fr [p] w4 (w4.setCell ⟨p, 0, none⟩ (.slice a4 (BL + L) q4)) := (Fr.refl [p] w4).setCell (by simp) _
  have haF := H.out.2.2.2.2.2.2.1
  have hap : ∀ x ∈ blk a4, x ∉ [p] := fun x hx hm => by
    simp only [List.mem_singleton] at hm
    subst hm
    rcases A4.at_ x hx with h | h
    · exact (haF x h).2 rfl
    · have := lt_of_block H4.out.1.1
      omega
  have hT : ∀ y, y ∈ [F] ∨ y ∈ [p] ∨ y ∈ blk a → y ∈ F :: p :: blk a := fun y hy => by
    simp only [List.mem_cons, List.not_mem_nil, or_false] at hy ⊢
    exact hy
  refine ⟨rfl, a4, q4, ⟨?_, ?_⟩, ?_, ?_, fun x hx => ?_⟩
  · rw [List.length_append, ← H4.out.2.2.2, ← H.out.2.2.2.2.2.1]
    exact (setCell_of (o := 0) p4 _).trans rfl
  · rw [List.map_append]
    exact A4.own.fr f5 hap
  · exact ((f03.mono (T := F :: p :: blk a) (fun y hy => .inl (hT y (.inl hy)))).trans (A4.fr.mono (T := F :: p :: blk a) (fun y hy => .inl (hT y (.inr (.inr hy)))))).trans (f5.mono (T := F :: p :: blk a) (fun y hy => .inl (hT y (.inr (.inl hy)))))
  · exact f5.blk (A4.fr.blk H3.out.1 (fun hx => (haF F hx).1 rfl)) (by simpa using fun e => hpF e.symm)
  · rcases A4.at_ x hx with h | h
    · exact .inl h
    · exact .inr (Nat.le_trans f03.size h)
end Go.Proofs.YtflcdnmhgfhmdaaGreatDoor.fs
