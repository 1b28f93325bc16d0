/-
  Texts of this proof, one behind the other: NameW.
-/
import Derived.Test.YtflcdnmhgfhmdaaGreatDoorG18
import Derived.Laws.RangeAny
set_option linter.unusedVariables false
set_option linter.unusedSimpArgs false
/-
  name.Valid of a name that may be.
-/
namespace Go.Proofs.YtflcdnmhgfhmdaaGreatDoor.fs
open Go Go.RowKit Go.Proofs.YtflcdnmhgfhmdaaGreatDoor.lib Go.Proofs.YtflcdnmhgfhmdaaGreatDoor.pk

set_option maxRecDepth 100000
theorem next_lo (w : World) (t : List UInt8) (p : Nat) (hp : p < t.length) (h : (t[p]'hp).toNat < 128) (ty : TypeId) :
    (Instr.next (.pointer (some ⟨w.heap.size, 0, none⟩)) true ty).run Tryz.prog (w.iter (str t) p) = .ok (.tuple #[.bool true, .int .i64 (p : Nat), .int .i32 (((t[p]'hp).toNat : Nat) : Int)]) (w.iter (str t) (p + 1)) := by
  have hs : p < (str t).size := by rw [str_size]; exact hp
  have e : (str t)[p]'hs = t[p]'hp := by
    show t.toArray[p]'(by simpa using hp) = t[p]
    rfl
  have := run_next_ascii (P := Tryz.prog) w (str t) p ty hs (by rw [e]; exact h)
  rw [e] at this
  exact this
theorem next_en (w : World) (t : List UInt8) (p : Nat) (hp : ¬ p < t.length) (ty : TypeId) :
    (Instr.next (.pointer (some ⟨w.heap.size, 0, none⟩)) true ty).run Tryz.prog (w.iter (str t) p) = .ok (.tuple #[.bool false]) (w.iter (str t) p) :=
  run_next_end (P := Tryz.prog) w (str t) p ty (by rw [str_size]; exact hp)
theorem iter_f (w : World) (z : ByteArray) (p : Nat) : Fr [] w (w.iter z p) := (Fr.refl [] w).alloc _
def partB (p : List UInt8) : Bool := p != [] && p.head? != some 46 && !Lib.hasSuffix p [46, 108, 111, 99, 107]
/-- A short name that may be; its parts. -/
structure NmOk (s : List UInt8) (pls : List (List UInt8)) : Prop where
  len : s.length ≤ 17
  plain : ∀ c ∈ s, 33 ≤ c.toNat ∧ c.toNat < 127 ∧ Lib.indexByte [126, 94, 58, 63, 42, 91, 92] c = -1
  pre : Lib.hasPrefix s [114, 101, 102, 115, 47] = true
  split : Lib.splitB ⟨#[47]⟩ 0 (Lib.countB (str s) ⟨#[47]⟩) (str s) = pls.map str
  count : Lib.countB (str s) ⟨#[47]⟩ + 1 = pls.length
  parts : ∀ p ∈ pls, partB p = true
  few : pls.length ≤ 18 ∧ ∀ p ∈ pls, p.length ≤ 17
  dots : Lib.contains s [46, 46] = false
  at_ : Lib.contains s [64, 123] = false
  dot : Lib.hasSuffix s [46] = false
set_option maxHeartbeats 16000000 in
theorem valid_any (s : List UInt8) (pls : List (List UInt8)) (h : NmOk s pls) (m : Int) (w : World) (hm : w.cell? ⟨0, 0, none⟩ = some (.int .i64 m)) :
    Calls Tryz.prog 125 #[.string (str s)] w fun e w' => e = .returned (.bool true) ∧ Fr [] w w' := by
  have hsz : (str s).size = s.length := str_size s
  have hv := fun w' => valid_short s (fun c hc => by have := (h.plain c hc).2.1; omega) h.len w'
  have hpf : ∀ w', Calls Tryz.prog 103 #[.string (str s), .string ⟨#[114, 101, 102, 115, 47]⟩] w' fun e w'' => e = .returned (.bool true) ∧ w'' = w' := fun w' => by have := Tryz.strings_HasPrefix (str s) ⟨#[114, 101, 102, 115, 47]⟩ w'; rw [show Lib.hasPrefix (str s).data.toList (⟨#[114, 101, 102, 115, 47]⟩ : ByteArray).data.toList = true from h.pre] at this; exact this
  have hsp : ∀ w', w'.cell? ⟨0, 0, none⟩ = some (.int .i64 m) → Calls Tryz.prog 8 #[.string (str s), .string ⟨#[47]⟩] w' fun e w'' => e = .returned (.slice (some ⟨w'.heap.size, 0, none⟩) pls.length pls.length) ∧ w'' = w'.alloc (.cells ((pls.map str).map Value.string).toArray 9) := fun w' hm' => by
    have := Tryz.strings_Split (str s) ⟨#[47]⟩ m w' (by have := h.len; omega) hm' (by decide)
    rw [h.split, h.count] at this
    exact this
  have hct : ∀ sub : List UInt8, Lib.contains s sub = false → ∀ w', w'.cell? ⟨0, 0, none⟩ = some (.int .i64 m) → Calls Tryz.prog 198 #[.string (str s), .string (str sub)] w' fun e w'' => e = .returned (.bool false) ∧ w'' = w' := fun sub hb w' hm' => by
    have := Tryz.strings_Contains (str s) (str sub) m w' (by have := h.len; omega) hm'
    rw [show Lib.contains (str s).data.toList (str sub).data.toList = false from hb] at this
    exact this
  have hc1 : ∀ w', w'.cell? ⟨0, 0, none⟩ = some (.int .i64 m) → Calls Tryz.prog 198 #[.string (str s), .string ⟨#[46, 46]⟩] w' fun e w'' => e = .returned (.bool false) ∧ w'' = w' := hct [46, 46] h.dots
  have hc2 : ∀ w', w'.cell? ⟨0, 0, none⟩ = some (.int .i64 m) → Calls Tryz.prog 198 #[.string (str s), .string ⟨#[64, 123]⟩] w' fun e w'' => e = .returned (.bool false) ∧ w'' = w' := hct [64, 123] h.at_
  have hsf : ∀ w', Calls Tryz.prog 183 #[.string (str s), .string ⟨#[46]⟩] w' fun e w'' => e = .returned (.bool false) ∧ w'' = w' := fun w' => by have := Tryz.strings_HasSuffix (str s) ⟨#[46]⟩ w' (by have := h.len; omega); rw [show Lib.hasSuffix (str s).data.toList (⟨#[46]⟩ : ByteArray).data.toList = false from h.dot] at this; exact this
  obtain ⟨z, hz⟩ : ∃ z, z = str s := ⟨_, rfl⟩
  rw [← hz] at hv hpf hsp hc1 hc2 hsf hsz ⊢
  have d1 : decide ((100 : Int) < (s.length : Int)) = false := by have := h.len; simp; omega
  obtain ⟨L, hL⟩ : ∃ L, L = s.length := ⟨_, rfl⟩
  rw [← hL] at hsz d1
  have H := Lib.hid (And.intro hv (And.intro hpf (And.intro hsp (And.intro hc1 (And.intro hc2 (And.intro hsf h))))))
  have HZ := Lib.hid (And.intro hz (And.intro hL hm))
  clear hv hpf hsp hct hc1 hc2 hsf h hz hL hm
  go_enter Tryz.func125, Tryz.ntmps125
  go_upto_region 3 with (first
    | (go_at_call 197; refine (H.out.1 _).mono ?_; rintro e w1 ⟨rfl, f1⟩; have H1 := Lib.hid f1; clear f1)
    | (go_at_call 103; refine (H.out.2.1 _).mono ?_; rintro e w2 ⟨rfl, hw⟩; obtain rfl := hw.symm))
  have hrg : (Instr.range 9 (.string z)).run Tryz.prog w1 = .ok (.pointer (some ⟨w1.heap.size, 0, none⟩)) (w1.iter z 0) := run_range_string (P := Tryz.prog) w1 9 z Tryz.underlying9
  go_wp2
  clear hrg
  clear hw
  go_loopg [] L (fun k wr => ∃ p : Nat, p + k = L ∧ wr = w1.iter z p)
  case atStart => exact ⟨0, by omega, rfl⟩
  case round =>
    obtain ⟨p, hpk, rfl⟩ := hrel
    have hfz : Fr [] w (w1.iter z p) := H1.out.trans (iter_f w1 z p)
    by_cases hp : p < L
    · obtain ⟨k, rfl⟩ : ∃ k, gk = k + 1 := ⟨gk - 1, by omega⟩
      have hps : p < s.length := by rw [← HZ.out.2.1]; exact hp
      obtain ⟨c1, c2, c3⟩ := H.out.2.2.2.2.2.2.plain s[p] (List.getElem_mem hps)
      have hnx := fun ty => next_lo w1 s p hps (by omega) ty
      have hcr := fun w' => Tryz.strings_ContainsRune_ascii ⟨#[126, 94, 58, 63, 42, 91, 92]⟩ ((s[p].toNat : Nat) : Int) w' (by omega) (by omega)
      have e1 : (((s[p].toNat : Nat) : Int)).toNat.toUInt8 = s[p] := by
        rw [Int.toNat_natCast]
        exact UInt8.ofNat_toNat
      have e2 : decide (0 ≤ Lib.indexByte (⟨#[126, 94, 58, 63, 42, 91, 92]⟩ : ByteArray).data.toList (((s[p].toNat : Nat) : Int)).toNat.toUInt8) = false := by
        rw [e1]
        show decide (0 ≤ Lib.indexByte [126, 94, 58, 63, 42, 91, 92] s[p]) = false
        rw [c3]
        decide
      rw [e2] at hcr
      rw [← HZ.out.1] at hnx
      obtain ⟨x, hx⟩ : ∃ x, x = (s[p]).toNat := ⟨_, rfl⟩
      rw [← hx] at hnx hcr c1 c2
      have g1 : decide ((x : Int) < 33) = false := by simp; omega
      have g2 : ((x : Int) == 127) = false := by simp only [beq_eq_false_iff_ne]; omega
      have HC := Lib.hid hcr
      clear hx e1 e2 hcr c3 hps hfz
      go_wp2_with (go_at_call 118; refine (HC.out _).mono ?_; rintro e w2 ⟨rfl, hw⟩; obtain rfl := hw.symm)
      go_roundg k
      case measure => omega
      case rel => exact ⟨p + 1, by omega, rfl⟩
    · have hnx := fun ty => next_en w1 s p (by rw [← HZ.out.2.1]; exact hp) ty
      rw [← HZ.out.1] at hnx
      obtain ⟨w2, hw2⟩ : ∃ w2, w2 = w1.iter z p := ⟨_, rfl⟩
      rw [← hw2] at hnx hfz ⊢
      have H2 := Lib.hid (And.intro hfz (hfz.cell HZ.out.2.2 (by simp)))
      clear hfz hw2 hp hpk
      go_upto_block 2 with (go_at_call 8; refine (H.out.2.2.1 _ H2.out.2).mono ?_; rintro e w3 ⟨rfl, hw⟩; have H3 := Lib.hid hw; clear hw)
      obtain ⟨g, hg⟩ : ∃ g, g = w2.heap.size := ⟨_, rfl⟩
      rw [← hg]
      obtain ⟨N, hN⟩ : ∃ N, N = pls.length := ⟨_, rfl⟩
      rw [← hN]
      have hNb : N ≤ 18 := by rw [hN]; exact H.out.2.2.2.2.2.2.few.1
      have f3 : Fr [] w w3 := by rw [H3.out]; exact H2.out.1.alloc _
      have hb3 : w3.heap[g]? = some (.cells ((pls.map str).map Value.string).toArray 9 (0, 0)) := by rw [H3.out, hg]; exact alloc_at w2 _
      have H4 := Lib.hid (And.intro f3 (And.intro hb3 (And.intro hN (f3.cell HZ.out.2.2 (by simp)))))
      clear f3 hb3 hN hg hnx
      go_wp2
      go_loopg [38] N (fun k s38 wr => ∃ i : Nat, s38 = .int .i64 (i : Nat) ∧ i + k = N ∧ wr = w3)
      case atStart => exact ⟨0, rfl, by omega, rfl⟩
      case round =>
      obtain ⟨i, rfl, hik, rfl⟩ := hrel
      by_cases hi : i < N
      · obtain ⟨k, rfl⟩ : ∃ k, gk = k + 1 := ⟨gk - 1, by omega⟩
        have hil : i < pls.length := by rw [← H4.out.2.2.1]; exact hi
        have hpt := H.out.2.2.2.2.2.2.parts pls[i] (List.getElem_mem hil)
        have hci : wr.cell? ⟨g, i, none⟩ = some (.string (str pls[i])) := by
          rw [cell_of H4.out.2.1]
          simp [hil]
        have hpn := H.out.2.2.2.2.2.2.few.2 pls[i] (List.getElem_mem hil)
        obtain ⟨pl, hpl⟩ : ∃ pl, pl = pls[i] := ⟨_, rfl⟩
        rw [← hpl] at hpt hci hpn
        clear hpl hil
        cases pl with
        | nil => cases hpt
        | cons c t =>
        unfold partB at hpt
        simp only [Bool.and_eq_true, bne_iff_ne, ne_eq, Bool.not_eq_true', List.head?_cons, Option.some.injEq] at hpt
        have hx : ∀ w : World, (Instr.index 9 (.string (str (c :: t))) (.int .i64 0)).run Tryz.prog w = .ok (.int .u8 (c.toNat : Nat)) w := fun w => Go.Proofs.YtflcdnmhgfhmdaaGreatDoor.crc.index_str (c :: t) (i := 0) (by simp) w
        have hsf : ∀ w', Calls Tryz.prog 183 #[.string (str (c :: t)), .string ⟨#[46, 108, 111, 99, 107]⟩] w' fun e w'' => e = .returned (.bool false) ∧ w'' = w' := fun w' => by have := Tryz.strings_HasSuffix (str (c :: t)) ⟨#[46, 108, 111, 99, 107]⟩ w' (by rw [str_size]; omega); rw [show Lib.hasSuffix (str (c :: t)).data.toList (⟨#[46, 108, 111, 99, 107]⟩ : ByteArray).data.toList = false from hpt.2] at this; exact this
        have hne : (str (c :: t)).toList.isEmpty = false := by rw [str_toList]; rfl
        have g2 : (((c.toNat : Nat) : Int) == 46) = false := by
          have : c.toNat ≠ 46 := fun e => hpt.1.2 (UInt8.toNat_inj.1 e)
          simp only [beq_eq_false_iff_ne]
          omega
        obtain ⟨y, hy⟩ : ∃ y, y = str (c :: t) := ⟨_, rfl⟩
        rw [← hy] at hci hx hsf hne
        obtain ⟨n, hn⟩ : ∃ n, n = c.toNat := ⟨_, rfl⟩
        rw [← hn] at hx g2
        have HS := Lib.hid hsf
        clear hsf hy hn hpt hpn
        go_wp2_with (go_at_call 183; refine (HS.out _).mono ?_; rintro e w2 ⟨rfl, hw⟩; obtain rfl := hw.symm)
        go_roundg k
        case measure => omega
        case rel => exact ⟨i + 1, by go_num, by omega, rfl⟩
      · obtain rfl : i = N := by omega
        go_wp2_with (first
          | (guard_hyp H6; go_at_call 183; refine (H.out.2.2.2.2.2.1 _).mono ?_; rintro e w2 ⟨rfl, hw⟩; obtain rfl := hw.symm)
          | (guard_hyp H5; go_at_call 198; refine (H.out.2.2.2.2.1 _ H4.out.2.2.2).mono ?_; rintro e w2 ⟨rfl, hw⟩; have H6 := Lib.hid hw; obtain rfl := hw.symm)
          | (go_at_call 198; refine (H.out.2.2.2.1 _ H4.out.2.2.2).mono ?_; rintro e w2 ⟨rfl, hw⟩; have H5 := Lib.hid hw; obtain rfl := hw.symm))
        go_ret
        exact ⟨rfl, H4.out.1⟩
end Go.Proofs.YtflcdnmhgfhmdaaGreatDoor.fs
