/-
  Texts of this proof, one behind the other: ScrLaw, ScriptN, ScriptM, Tail.
-/
import Derived.Test.YtflcdnmhgfhmdaaGreatDoorG1
import Derived.Test.YtflcdnmhgfhmdaaGreatDoorG4
import Derived.Test.YtflcdnmhgfhmdaaGreatDoorG6
import Derived.Lib.SlTrimSet
import Derived.Lib.Atoi
import Derived.Lib.SplitLaws
import Derived.StillTailTactics
import Derived.BigQuiet
set_option linter.unusedVariables false
set_option linter.unusedSimpArgs false
/-
  The console's words, plain: which words are numbers; a line cut at its blanks.
-/
namespace Go.Proofs.YtflcdnmhgfhmdaaGreatDoor.wd
open Go Go.RowKit Go.Proofs.YtflcdnmhgfhmdaaGreatDoor.lib

def digs : List UInt8 := [48, 49, 50, 51, 52, 53, 54, 55, 56, 57]
/-- Is a word a number, as far as the law's words go? -/
inductive NumIs : List UInt8 → Option Nat → Prop
  | empty : NumIs [] none
  | one (d : Nat) (h : d ≤ 9) : NumIs [(48 + d).toUInt8] (some d)
  | zero (x : UInt8) : NumIs [48, x] none
  | bad (l : List UInt8) (h0 : l ≠ []) (hl : l.length ≤ 400) (ht : Lib.trimS l digs ≠ []) : NumIs l none
inductive NumsAre : List (List UInt8) → List (Option Nat) → Prop
  | nil : NumsAre [] []
  | cons {s : List UInt8} {o : Option Nat} {l : List (List UInt8)} {os : List (Option Nat)} (h : NumIs s o) (t : NumsAre l os) : NumsAre (s :: l) (o :: os)
theorem NumsAre.len {l : List (List UInt8)} {os : List (Option Nat)} (h : NumsAre l os) : os.length = l.length := by
  induction h with
  | nil => rfl
  | cons _ _ ih => simp [ih]
theorem NumsAre.at_ {l : List (List UInt8)} {os : List (Option Nat)} (h : NumsAre l os) : ∀ (i : Nat) (s : List UInt8), l[i]? = some s → ∃ o, os[i]? = some o ∧ NumIs s o := by
  induction h with
  | nil => intro i s h; simp at h
  | cons h t ih =>
    intro i s hs
    cases i with
    | zero => simp at hs; subst hs; exact ⟨_, rfl, h⟩
    | succ i => exact ih i s (by simpa using hs)
/-- The numbers, if all are. -/
def goodN : List (Option Nat) → Option (List Nat)
  | [] => some []
  | none :: _ => none
  | some a :: r => (goodN r).map (a :: ·)
theorem goodN_all : ∀ (os : List (Option Nat)), (∀ i, i < os.length → ∃ a, os[i]? = some (some a)) → goodN os = some (os.map fun o => o.getD 0)
  | [], _ => rfl
  | o :: r, h => by
    obtain ⟨a, ha⟩ := h 0 (by simp)
    simp at ha
    subst ha
    rw [goodN, goodN_all r (fun i hi => by simpa using h (i + 1) (by simpa using hi))]
    rfl
theorem goodN_none : ∀ (os : List (Option Nat)) (i : Nat), os[i]? = some none → goodN os = none
  | [], i, h => by simp at h
  | none :: _, _, _ => rfl
  | some a :: r, 0, h => by simp at h
  | some a :: r, i + 1, h => by rw [goodN, goodN_none r i (by simpa using h)]; rfl
theorem atoi_one (d : Nat) (h : d ≤ 9) : Lib.atoi [(48 + d).toUInt8] = some (d : Int) := by
  match d, h with
  | 0, _ | 1, _ | 2, _ | 3, _ | 4, _ | 5, _ | 6, _ | 7, _ | 8, _ | 9, _ => decide
theorem trim_one (d : Nat) (h : d ≤ 9) : Lib.trimS [(48 + d).toUInt8] digs = [] := by
  match d, h with
  | 0, _ | 1, _ | 2, _ | 3, _ | 4, _ | 5, _ | 6, _ | 7, _ | 8, _ | 9, _ => decide
theorem trim_first {c : UInt8} {l : List UInt8} (h : digs.contains c = false) : Lib.trimS (c :: l) digs ≠ [] := by
  intro e
  unfold Lib.trimS Lib.trimLeftS Lib.trimRightS at e
  have h1 : ((c :: l).reverse.dropWhile (digs.contains ·)).reverse = c :: ((l.reverse.dropWhile (digs.contains ·)).reverse) := by
    rw [List.reverse_cons, List.dropWhile_append]
    have h2 : List.dropWhile (digs.contains ·) [c] = [c] := by rw [List.dropWhile_cons, h]; rfl
    rw [h2]
    split
    · rename_i h3
      rw [List.isEmpty_iff.1 h3]
      rfl
    · simp
  rw [h1, List.dropWhile_cons, h] at e
  cases e
theorem index_no (s : List UInt8) (h : ∀ c ∈ s, c ≠ 32) : Lib.index s [32] = -1 := by
  induction s with
  | nil => rfl
  | cons b l ih =>
    have hb : b ≠ 32 := h b (by simp)
    rw [Lib.index, ih (fun c hc => h c (List.mem_cons_of_mem _ hc))]
    simp [List.isPrefixOf, Ne.symm hb]
theorem index_at (s t : List UInt8) (h : ∀ c ∈ s, c ≠ 32) : Lib.index (s ++ 32 :: t) [32] = s.length := by
  induction s with
  | nil => simp [Lib.index, List.isPrefixOf]
  | cons b l ih =>
    have hb : b ≠ 32 := h b (by simp)
    rw [List.cons_append, Lib.index, ih (fun c hc => h c (List.mem_cons_of_mem _ hc))]
    simp [List.isPrefixOf, Ne.symm hb]
/-- A line is cut at its blanks into these words. -/
structure CutB (line : List UInt8) (ws : List (List UInt8)) : Prop where
  len : line.length ≤ 400
  split : Lib.splitB ⟨#[32]⟩ 0 (Lib.countB (str line) ⟨#[32]⟩) (str line) = ws.map str
  count : Lib.countB (str line) ⟨#[32]⟩ + 1 = ws.length
theorem cut_one (s : List UInt8) (hl : s.length ≤ 400) (h : ∀ c ∈ s, c ≠ 32) : CutB s [s] := by
  have e : Lib.countB (str s) ⟨#[32]⟩ = 0 := Lib.countB_miss _ _ (index_no s h)
  exact ⟨hl, by rw [e]; rfl, by rw [e]; rfl⟩
theorem cut_two (s t : List UInt8) (hl : s.length + t.length ≤ 399) (h : ∀ c ∈ s, c ≠ 32) (ht : ∀ c ∈ t, c ≠ 32) : CutB (s ++ 32 :: t) [s, t] := by
  have hi : Lib.indexB (str (s ++ 32 :: t)) ⟨#[32]⟩ = (s.length : Nat) := index_at s t h
  have e2 : (str (s ++ 32 :: t)).extract (s.length + 1) (str (s ++ 32 :: t)).size = str t := by
    rw [str_size, str_extract, List.take_length, List.drop_append, List.drop_of_length_le (by omega)]
    simp
  have e1 : (str (s ++ 32 :: t)).extract 0 (s.length + 0) = str s := by
    rw [str_extract]
    simp
  have k1 := Lib.countB_hit (str (s ++ 32 :: t)) ⟨#[32]⟩ s.length (by decide) hi
  have k2 : Lib.countB (str t) ⟨#[32]⟩ = 0 := Lib.countB_miss _ _ (index_no t ht)
  have e3 : (⟨#[32]⟩ : ByteArray).size = 1 := rfl
  rw [e3, e2, k2] at k1
  refine ⟨by simp; omega, ?_, by rw [k1]; rfl⟩
  rw [k1, show 1 + 0 = 0 + 1 from rfl, Lib.splitB_hit _ _ _ _ _ hi, e3, e1, e2]
  rfl
end Go.Proofs.YtflcdnmhgfhmdaaGreatDoor.wd
/-
  script.answer, number, numbers.
-/
namespace Go.Proofs.YtflcdnmhgfhmdaaGreatDoor.wd
open Go Go.RowKit Go.Proofs.YtflcdnmhgfhmdaaGreatDoor.lib

set_option maxRecDepth 100000
def okS : ByteArray := ⟨#[111, 107]⟩
def errS : ByteArray := ⟨#[101, 114, 114, 111, 114, 32, 49]⟩
theorem answer_ok (w : World) : Calls Tryz.prog 12 #[.int .i64 0] w fun e w' => e = .returned (.string okS) ∧ w' = w := by
  go_enter Tryz.func12, Tryz.ntmps12
  go_wp2
  go_ret
  exact ⟨rfl, rfl⟩
theorem itoa_one (d : Nat) (h : d < 10) (c : UInt8) (hc : Lib.decDigits d = [c]) (w : World) : Calls Tryz.prog 17 #[.int .i64 d] w fun e w' => e = .returned (.string ⟨#[c]⟩) ∧ w' = w := by
  have k := Tryz.strconv_Itoa_small d (by omega) w
  rw [hc] at k
  exact k
theorem itoa_0 (w : World) : Calls Tryz.prog 17 #[.int .i64 0] w fun e w' => e = .returned (.string ⟨#[48]⟩) ∧ w' = w := itoa_one 0 (by decide) 48 (by kernel_rfl) w
theorem itoa_1 (w : World) : Calls Tryz.prog 17 #[.int .i64 1] w fun e w' => e = .returned (.string ⟨#[49]⟩) ∧ w' = w := itoa_one 1 (by decide) 49 (by kernel_rfl) w
theorem answer_err (w : World) : Calls Tryz.prog 12 #[.int .i64 1] w fun e w' => e = .returned (.string errS) ∧ w' = w := by
  go_enter Tryz.func12, Tryz.ntmps12
  go_wp2_with (go_at_call 17; refine (itoa_1 _).mono ?_; rintro e w' ⟨rfl, rfl⟩)
  go_ret
  exact ⟨rfl, rfl⟩
def numR : Option Nat → Value
  | some d => .tuple #[.int .i64 (d : Nat), .bool true]
  | none => .tuple #[.int .i64 0, .bool false]
theorem trim_w (s : List UInt8) (hs : s.length ≤ 400) (w : World) : Calls Tryz.prog 31 #[.string (str s), .string ⟨#[48, 49, 50, 51, 52, 53, 54, 55, 56, 57]⟩] w fun e w' => e = .returned (.string (str (Lib.trimS s digs))) ∧ Fr [] w w' := by
  refine (Tryz.strings_Trim_i (str s) ⟨#[48, 49, 50, 51, 52, 53, 54, 55, 56, 57]⟩ w (by rw [str_size]; omega) (by decide) (fun j b hb => ?_)).mono ?_
  · have : b ∈ digs := List.mem_of_getElem? hb
    simp only [digs, List.mem_cons, List.mem_nil_iff, or_false] at this
    rcases this with rfl | rfl | rfl | rfl | rfl | rfl | rfl | rfl | rfl | rfl <;> decide
  · rintro e w' ⟨rfl, h⟩
    exact ⟨rfl, Fr.of_below h []⟩
theorem bw_below (w : World) (e : TypeId) (s : ByteArray) : Below w.heap.size w (Lib.bytesWorld w e s) :=
  ⟨rfl, rfl, rfl, by rw [Lib.bytesWorld_size]; omega, fun k hk => Lib.bytesWorld_at_old w e s k hk⟩
theorem number_empty (w : World) : Calls Tryz.prog 11 #[.string ⟨#[]⟩] w fun e w' => e = .returned (numR none) ∧ Fr [] w w' := by
  go_enter Tryz.func11, Tryz.ntmps11
  go_wp2
  go_ret2
  exact ⟨rfl, Fr.refl [] _⟩
theorem number_zero (x : UInt8) (w : World) : Calls Tryz.prog 11 #[.string (str [48, x])] w fun e w' => e = .returned (numR none) ∧ Fr [] w w' := by
  have hx : ∀ w : World, (Instr.index 9 (.string (str [48, x])) (.int .i64 0)).run Tryz.prog w = .ok (.int .u8 48) w := fun w => Go.Proofs.YtflcdnmhgfhmdaaGreatDoor.crc.index_str [48, x] (i := 0) (by simp) w
  have he : (str [48, x]).toList.isEmpty = false := by rw [str_toList]; rfl
  have hsz : (str [48, x]).size = 2 := str_size _
  obtain ⟨z, hz⟩ : ∃ z, z = str [48, x] := ⟨_, rfl⟩
  rw [← hz] at hx he hsz ⊢
  clear hz
  go_enter Tryz.func11, Tryz.ntmps11
  go_wp2
  go_ret2
  exact ⟨rfl, Fr.refl [] _⟩
theorem number_one (d : Nat) (h : d ≤ 9) (w : World) : Calls Tryz.prog 11 #[.string (str [(48 + d).toUInt8])] w fun e w' => e = .returned (numR (some d)) ∧ Fr [] w w' := by
  have ht := fun w => trim_w [(48 + d).toUInt8] (by simp) w
  rw [trim_one d h] at ht
  have ha := fun w => Tryz.strconv_Atoi (str [(48 + d).toUInt8]) (d : Int) (by rw [str_size]; simp) (atoi_one d h) w
  have he : (str [(48 + d).toUInt8]).toList.isEmpty = false := by rw [str_toList]; rfl
  have hsz : (str [(48 + d).toUInt8]).size = 1 := str_size _
  obtain ⟨z, hz⟩ : ∃ z, z = str [(48 + d).toUInt8] := ⟨_, rfl⟩
  rw [← hz] at ht ha he hsz ⊢
  have H := Lib.hid (And.intro ht ha)
  have e0 : (str []).toList.isEmpty = true := by rw [str_toList]; rfl
  clear hz ht ha h
  go_enter Tryz.func11, Tryz.ntmps11
  go_wp2_with (first
    | (go_at_call 31; refine (H.out.1 _).mono ?_; rintro e w1 ⟨rfl, f1⟩; have H1 := Lib.hid f1; clear f1)
    | (go_at_call 32; refine (H.out.2 _).mono ?_; rintro e w2 ⟨rfl, t, hw⟩; have H2 := Lib.hid hw; clear hw))
  go_quiet (fail)
  go_wp2
  go_ret2
  refine ⟨rfl, (H1.out.trans ?_).trans (Fr.drewN [] w2 _)⟩
  rw [H2.out]
  exact Fr.of_below (bw_below _ _ _) []
theorem number_bad (l : List UInt8) (h : l ≠ []) (hl : l.length ≤ 400) (ht : Lib.trimS l digs ≠ []) (w : World) : Calls Tryz.prog 11 #[.string (str l)] w fun e w' => e = .returned (numR none) ∧ Fr [] w w' := by
  have hw := fun w => trim_w l hl w
  have he : (str l).toList.isEmpty = false := by
    rw [str_toList]
    cases l with
    | nil => exact absurd rfl h
    | cons _ _ => rfl
  have h2 : (str (Lib.trimS l digs)).toList.isEmpty = false := by
    rw [str_toList]
    cases hh : Lib.trimS l digs with
    | nil => exact absurd hh ht
    | cons _ _ => rfl
  have hx : ∀ w : World, (Instr.index 9 (.string (str l)) (.int .i64 0)).run Tryz.prog w = .ok (.int .u8 (((l[0]'(List.length_pos_iff.2 h)).toNat : Nat) : Int)) w := fun w => Go.Proofs.YtflcdnmhgfhmdaaGreatDoor.crc.index_str l (i := 0) (List.length_pos_iff.2 h) w
  have hsz : (str l).size = l.length := str_size _
  obtain ⟨z, hz⟩ : ∃ z, z = str l := ⟨_, rfl⟩
  obtain ⟨y, hy⟩ : ∃ y, y = str (Lib.trimS l digs) := ⟨_, rfl⟩
  obtain ⟨n, hn⟩ : ∃ n, n = (l[0]'(List.length_pos_iff.2 h)).toNat := ⟨_, rfl⟩
  obtain ⟨L, hL⟩ : ∃ L, L = l.length := ⟨_, rfl⟩
  rw [← hz] at hw he hx hsz ⊢
  rw [← hy] at hw h2
  rw [← hn] at hx
  rw [← hL] at hsz
  have HW := Lib.hid hw
  clear hz hy hn hL hw h ht hl
  go_enter Tryz.func11, Tryz.ntmps11
  go_wp2_with (go_at_call 31; refine (HW.out _).mono ?_; rintro e w1 ⟨rfl, f1⟩; have H1 := Lib.hid f1; clear f1)
  all_goals go_ret2
  all_goals first
    | exact ⟨rfl, H1.out⟩
    | exact ⟨rfl, Fr.refl [] _⟩
end Go.Proofs.YtflcdnmhgfhmdaaGreatDoor.wd
/-
  script.numbers.
-/
namespace Go.Proofs.YtflcdnmhgfhmdaaGreatDoor.wd
open Go Go.RowKit Go.Proofs.YtflcdnmhgfhmdaaGreatDoor.lib

set_option maxRecDepth 100000
theorem number_any {s : List UInt8} {o : Option Nat} (h : NumIs s o) (w : World) : Calls Tryz.prog 11 #[.string (str s)] w fun e w' => e = .returned (numR o) ∧ Fr [] w w' := by
  cases h with
  | empty => exact number_empty w
  | one d h => exact number_one d h w
  | zero x => exact number_zero x w
  | bad l h0 hl ht => exact number_bad _ h0 hl ht w
theorem sty_num : SliceTy Tryz.prog 35 3 (.int .i64 0) 1 8 := SliceTy.of Tryz.underlying35 (by kernel_rfl) rfl (by decide)
def numVs (os : List (Option Nat)) : List Value := os.map fun o => .int .i64 ((o.getD 0 : Nat) : Int)
/-- What numbers answers. -/
def NumsP (w w' : World) (e : Ending) (n : Int) : Option (List Nat) → Prop
  | some vs => ∃ ao cp, e = .returned (.tuple #[.slice ao vs.length cp, .bool (((vs.length : Nat) : Int) == n)]) ∧ Cs w' ao (vs.map fun (v : Nat) => Value.int .i64 (v : Int)) ∧ vs.length ≤ cp ∧ Fr [] w w'
  | none => e = .returned (.tuple #[.slice none 0 0, .bool false]) ∧ Fr [] w w'
set_option maxHeartbeats 4000000 in
theorem numbers_any {l : List (List UInt8)} {os : List (Option Nat)} (h : NumsAre l os) (ao : Option Addr) (c L : Nat) (hL : L = l.length) (hl9 : l.length ≤ 9) (n : Int) (hn : 0 ≤ n ∧ n ≤ 9) (w : World) (hc : Cs w ao (l.map fun s => Value.string (str s))) : Calls Tryz.prog 9 #[.slice ao L c, .int .i64 n] w fun e w' => NumsP w w' e n (goodN os) := by
  have H := Lib.hid (And.intro h (And.intro hc hL))
  have hL9 : L ≤ 9 := by omega
  clear h hc hL hl9
  go_enter Tryz.func9, Tryz.ntmps9
  go_wp2
  go_loopg [6, 13] L (fun k s6 s13 wr => ∃ (i : Nat) (bo : Option Addr) (cp : Nat), s13 = .int .i64 (i : Nat) ∧ i + k = L ∧ s6 = .slice bo i cp ∧ wr.ownsRow 0 3 1 (.slice bo i cp) i (numVs (os.take i)) ∧ (∀ j, j < i → ∃ a, os[j]? = some (some a)) ∧ (∀ x ∈ blk bo, w.heap.size ≤ x) ∧ Fr [] w wr)
  case atStart => exact ⟨0, none, 0, rfl, by omega, rfl, World.ownsRow_nil _ _ _ _, fun j hj => by omega, by simp [blk], Fr.refl [] w⟩
  case round =>
    obtain ⟨i, bo, cp, rfl, hik, rfl, how, hall, hnew, fr⟩ := hrel
    have hlen : os.length = L := by rw [H.out.1.len, H.out.2.2]
    by_cases hi : i < L
    · obtain ⟨k, rfl⟩ : ∃ k, gk = k + 1 := ⟨gk - 1, by omega⟩
      have hil : i < l.length := by rw [← H.out.2.2]; exact hi
      obtain ⟨s, hs⟩ : ∃ s, l[i]? = some s := ⟨l[i], List.getElem?_eq_getElem hil⟩
      obtain ⟨o, ho, hso⟩ := H.out.1.at_ i s hs
      obtain ⟨g, of, hao, hc2⟩ := (H.out.2.1.fr fr (by simp)).at (by rw [List.length_map]; omega)
      have d := hc2 i (.string (str s)) (by rw [List.getElem?_map, hs]; rfl)
      subst hao
      have HI := Lib.hid (And.intro how (And.intro hall (And.intro hnew (And.intro fr (And.intro ho hlen)))))
      have HS := Lib.hid hso
      clear how hall hnew fr ho hlen hso hs hil hc2
      cases o with
      | none =>
        go_wp2_with (go_at_call 11; refine (number_any HS.out _).mono ?_; rintro e w2 ⟨he, f2⟩; obtain rfl : e = .returned (.tuple #[.int .i64 0, .bool false]) := he; have H2 := Lib.hid f2; clear f2)
        go_ret2
        rw [goodN_none os i HI.out.2.2.2.2.1]
        exact ⟨rfl, HI.out.2.2.2.1.trans H2.out⟩
      | some a =>
        go_wp2_with (first
          | (go_at_call 11; refine (number_any HS.out _).mono ?_; rintro e w2 ⟨he, f2⟩; obtain rfl : e = .returned (.tuple #[.int .i64 (a : Nat), .bool true]) := he; have H2 := Lib.hid f2; clear f2)
          | (refine wpList_append sty_num rfl _ _ rfl (.slice bo i cp) i (numVs (os.take i)) (blk bo) rfl (own_blk bo i cp) (ownsRow_fr HI.out.1 (H2.out.alloc _) (by simp)) (some ⟨w2.heap.size, 0, none⟩) 1 1 [.int .i64 (a : Nat)] (by first | rfl | simp) (Nat.le_refl _) (fun h => by cases h) (cs_one _ _ _ _ (alloc_at _ _)) rfl (by intro u hu; simp only [List.mem_singleton] at hu; rw [hu]; rfl) (by omega) (by unfold maxLen; omega) ?_; intro ao2 cp2 w4 hap; have H4 := Lib.hid hap; clear hap))
        go_roundg k
        case measure => omega
        case rel =>
          have hap := H4.out
          refine ⟨i + 1, ao2, cp2, by go_num, by omega, rfl, ?_, ?_, ?_, ?_⟩
          · have := hap.own
            rw [List.take_add_one, HI.out.2.2.2.2.1]
            simpa [numVs] using this
          · intro j hj
            by_cases e : j = i
            · rw [e]; exact ⟨a, HI.out.2.2.2.2.1⟩
            · exact HI.out.2.1 j (by omega)
          · intro x hx
            rcases hap.at_ x hx with h | h
            · exact HI.out.2.2.1 x h
            · have h1 := HI.out.2.2.2.1.size
              have h2 := H2.out.size
              rw [h]
              simp
              omega
          · exact ((HI.out.2.2.2.1.trans H2.out).alloc _).step hap.fr (fun x hx => .inr (HI.out.2.2.1 x hx))
    · obtain rfl : i = L := by omega
      have hg : goodN os = some (os.map fun o => o.getD 0) := goodN_all os (fun j hj => hall j (by omega))
      have HI := Lib.hid (And.intro how (And.intro hg (And.intro hlen fr)))
      have hcp := (owns_shape how)
      clear how hall hnew fr hlen hg
      go_wp2
      go_ret2
      rw [HI.out.2.1]
      have hcs := cs_of_owns HI.out.1
      rw [List.take_of_length_le (by rw [HI.out.2.2.1]; exact Nat.le_refl _)] at hcs
      have e1 : (os.map fun o => o.getD 0).length = i := by rw [List.length_map, HI.out.2.2.1]
      refine ⟨bo, cp, ?_, ?_, ?_, HI.out.2.2.2⟩
      · rw [e1]
        rfl
      · rw [List.map_map]
        exact hcs
      · rw [e1]
        obtain ⟨a2, c2, h1, h2, h3⟩ := hcp
        cases h1
        exact h2
end Go.Proofs.YtflcdnmhgfhmdaaGreatDoor.wd
/-
  A region that draws its order, whose first n operations only read and whose last ones follow in one order: walked once, the first part by the kit's quiet walk.
-/
namespace Go.Proofs.YtflcdnmhgfhmdaaGreatDoor.lib
open Go

theorem still_of_quiet {P : Program} {ops : Array Oper} {w : World} {L : Act → Prop} : ∀ (l : List Oper) (a : Act), wpQuiet P ops (fun w' => w' = w) L l a → wpStill P ops w L l a
  | [], _, h => h
  | o :: rest, a, h => by
    unfold wpQuiet at h
    unfold wpStill
    by_cases hw : Region.wanted o (yielded ops a.tmps) = true
    · rw [if_pos hw] at h ⊢
      obtain ⟨v, h1, h2⟩ := h
      have h3 := h1 w rfl
      have h4 := still_of_quiet rest _ h2
      unfold Oper.quietAt at h3
      unfold Oper.still
      generalize (execOp a.eval o).run P w = r at *
      cases r with
      | ok n w' =>
        cases n <;> simp only [Oper.quietUpon] at h3 <;> simp only [Oper.stillUpon]
        case value u => exact ⟨h3.1, h3.2 ▸ h4⟩
        case skip => exact ⟨h3.1, h3.2 ▸ h4⟩
        case enter f args => exact ⟨h3.1, v, h3.2, h4⟩
      | halt x w' => simp only [Oper.quietUpon] at h3
    · rw [if_neg hw] at h ⊢
      exact still_of_quiet rest _ h
theorem region_tail {P : Program} {id : Nat} {Q : Exit → Act → World → Prop} {a : Act} {w : World} {l : List Oper} (n : Nat) (hm : P.follows .mixedOrders = true) (hB : Region.lexTailB .any l.toArray n = true)
    (h : wpQuiet P l.toArray (fun w' => w' = w.drew) (fun a' => wpList P l.toArray Q (l.drop n) a' w.drew) (l.take n) a) : (Code.region id l.toArray true).wp P Q a w :=
  wp_region_still_tail n hm hB (still_of_quiet _ _ h)
end Go.Proofs.YtflcdnmhgfhmdaaGreatDoor.lib
