/-
  Texts of this proof, one behind the other: NameV.
-/
import Derived.Test.YtflcdnmhgfhmdaaGreatDoorG4
import Derived.Test.YtflcdnmhgfhmdaaGreatDoorG6
import Derived.Test.YtflcdnmhgfhmdaaGreatDoorG17
set_option linter.unusedVariables false
set_option linter.unusedSimpArgs false
/-
  utf8.ValidString of few plain letters; name.Valid.
-/
namespace Go.Proofs.YtflcdnmhgfhmdaaGreatDoor.fs
open Go Go.RowKit Go.Proofs.YtflcdnmhgfhmdaaGreatDoor.lib Go.Proofs.YtflcdnmhgfhmdaaGreatDoor.pk

set_option maxRecDepth 100000
set_option maxHeartbeats 4000000 in
theorem word_any (t : List UInt8) (h : 8 ≤ t.length) (w : World) : Calls Tryz.prog 283 #[.string (str t)] w fun e w' => (∃ v : Int, e = .returned (.int .u64 v)) ∧ Fr [] w w' := by
  have hx : ∀ (i : Nat) (hi : i < 8) (w : World), (Instr.index 9 (.string (str t)) (.int .i64 (i : Nat))).run Tryz.prog w = .ok (.int .u8 (((t[i]'(by omega)).toNat : Nat) : Int)) w := fun i hi w => Go.Proofs.YtflcdnmhgfhmdaaGreatDoor.crc.index_str t (by omega) w
  obtain ⟨f, hf⟩ : ∃ f : Nat → Nat, ∀ (i : Nat), i < 8 → ∀ w : World, (Instr.index 9 (.string (str t)) (.int .i64 (i : Nat))).run Tryz.prog w = .ok (.int .u8 ((f i : Nat) : Int)) w := ⟨fun i => (t[i]?.getD 0).toNat, fun i hi w => by rw [hx i hi w]; simp only; rw [List.getElem?_eq_getElem (by omega)]; rfl⟩
  obtain ⟨z, hz⟩ : ∃ z, z = str t := ⟨_, rfl⟩
  rw [← hz] at hf ⊢
  have h0 : ∀ w : World, (Instr.index 9 (.string z) (.int .i64 0)).run Tryz.prog w = .ok (.int .u8 (f 0 : Nat)) w := hf 0 (by decide)
  have h1 : ∀ w : World, (Instr.index 9 (.string z) (.int .i64 1)).run Tryz.prog w = .ok (.int .u8 (f 1 : Nat)) w := hf 1 (by decide)
  have h2 : ∀ w : World, (Instr.index 9 (.string z) (.int .i64 2)).run Tryz.prog w = .ok (.int .u8 (f 2 : Nat)) w := hf 2 (by decide)
  have h3 : ∀ w : World, (Instr.index 9 (.string z) (.int .i64 3)).run Tryz.prog w = .ok (.int .u8 (f 3 : Nat)) w := hf 3 (by decide)
  have h4 : ∀ w : World, (Instr.index 9 (.string z) (.int .i64 4)).run Tryz.prog w = .ok (.int .u8 (f 4 : Nat)) w := hf 4 (by decide)
  have h5 : ∀ w : World, (Instr.index 9 (.string z) (.int .i64 5)).run Tryz.prog w = .ok (.int .u8 (f 5 : Nat)) w := hf 5 (by decide)
  have h6 : ∀ w : World, (Instr.index 9 (.string z) (.int .i64 6)).run Tryz.prog w = .ok (.int .u8 (f 6 : Nat)) w := hf 6 (by decide)
  have h7 : ∀ w : World, (Instr.index 9 (.string z) (.int .i64 7)).run Tryz.prog w = .ok (.int .u8 (f 7 : Nat)) w := hf 7 (by decide)
  clear hx hf hz h
  go_enter Tryz.func283, Tryz.ntmps283
  go_upto_region 2 with fail
  have h0 := fun n => h0 (w.drewN n)
  have h1 := fun n => h1 (w.drewN n)
  have h2 := fun n => h2 (w.drewN n)
  have h3 := fun n => h3 (w.drewN n)
  have h4 := fun n => h4 (w.drewN n)
  have h5 := fun n => h5 (w.drewN n)
  have h6 := fun n => h6 (w.drewN n)
  have h7 := fun n => h7 (w.drewN n)
  go_quiet (fail)
  go_wp2
  go_ret
  exact ⟨⟨_, rfl⟩, Fr.drewN [] w _⟩
theorem cutf (bs : List UInt8) (i : Nat) (h2 : i ≤ bs.length) (w : World) : (Instr.slice 9 (.string (str bs)) (some (.int .i64 (i : Nat))) none none).run Tryz.prog w = .ok (.string (str (bs.drop i))) w := by
  have hsz : (str bs).size = bs.length := by simp [str, ByteArray.size]
  rw [run_slice_string_l w 9 (str bs) Tryz.underlying9 .i64 i (by omega) (by rw [hsz]; omega)]
  have := str_extract bs i bs.length
  rw [List.take_of_length_le (Nat.le_refl _)] at this
  simp [hsz, this]
set_option maxHeartbeats 8000000 in
theorem valid_short (t : List UInt8) (ha : ∀ c ∈ t, c.toNat < 128) (hl : t.length ≤ 17) (w : World) : Calls Tryz.prog 197 #[.string (str t)] w fun e w' => e = .returned (.bool true) ∧ Fr [] w w' := by
  have H := Lib.hid ha
  obtain ⟨z, hz⟩ : ∃ z, z = str t := ⟨_, rfl⟩
  have HZ := Lib.hid hz
  rw [← hz]
  clear hz ha
  go_enter Tryz.func197, Tryz.ntmps197
  go_upto_block 0 with fail
  go_wp2
  go_loopg [0] t.length (fun k s0 wr => ∃ u : List UInt8, s0 = .string (str u) ∧ u.length ≤ k ∧ u.length ≤ 17 ∧ (∀ c ∈ u, c.toNat < 128) ∧ Fr [] w wr)
  case atStart => exact ⟨t, by rw [HZ.out], Nat.le_refl _, hl, H.out, Fr.refl _ _⟩
  case round =>
  obtain ⟨u, rfl, hk, h17, hu, fr⟩ := hrel
  match u, hk, h17, hu with
  | [], _, _, _ =>
    obtain ⟨y, hy⟩ : ∃ y, y = str [] := ⟨_, rfl⟩
    have hys : y.size = 0 := by rw [hy]; rfl
    rw [← hy]
    clear hy
    go_wp2
    go_ret
    exact ⟨rfl, fr⟩
  | c :: u, hk, h17, hu =>
    obtain ⟨k, rfl⟩ : ∃ k, gk = k + 1 := ⟨gk - 1, by simp at hk; omega⟩
    have hc := hu c (by simp)
    have hx : ∀ w : World, (Instr.index 9 (.string (str (c :: u))) (.int .i64 0)).run Tryz.prog w = .ok (.int .u8 (c.toNat : Nat)) w := fun w => Go.Proofs.YtflcdnmhgfhmdaaGreatDoor.crc.index_str (c :: u) (i := 0) (by simp) w
    have hs : ∀ w : World, (Instr.slice 9 (.string (str (c :: u))) (some (.int .i64 1)) none none).run Tryz.prog w = .ok (.string (str u)) w := cutf (c :: u) 1 (by simp)
    have hl1 : u.length ≤ k := by simp at hk; omega
    have hl2 : u.length ≤ 16 := by simp at h17; omega
    have hu2 : ∀ c ∈ u, c.toNat < 128 := fun d hd => hu d (List.mem_cons_of_mem _ hd)
    obtain ⟨y, hy⟩ : ∃ y, y = str (c :: u) := ⟨_, rfl⟩
    have hys : y.size = u.length + 1 := by rw [hy]; simp [str, ByteArray.size]
    obtain ⟨x, hxx⟩ : ∃ x, x = str u := ⟨_, rfl⟩
    have hxs : x.size = u.length := by rw [hxx]; simp [str, ByteArray.size]
    rw [← hy] at hx hs ⊢
    rw [← hxx] at hs
    obtain ⟨n, hn⟩ : ∃ n, n = c.toNat := ⟨_, rfl⟩
    rw [← hn] at hx hc
    obtain ⟨L, hL⟩ : ∃ L, L = u.length := ⟨_, rfl⟩
    rw [← hL] at hys hxs
    have d1 : decide ((n : Int) < 128) = true := by simp; omega
    have HR := Lib.hid (And.intro fr (And.intro hu2 (And.intro hxx hL)))
    have HRl := Lib.hid (And.intro hl1 hl2)
    clear fr hu2 hxx hL hy hn hu hk h17 hc
    by_cases h8 : L ≤ 8
    · have d2 : decide ((8 : Int) < (L : Int)) = false := by simp; omega
      go_wp2
      go_roundg k
      case measure => omega
      case rel => exact ⟨u, by rw [HR.out.2.2.1], HRl.out.1, by have := HRl.out.2; omega, HR.out.2.1, HR.out.1⟩
    · have d2 : decide ((8 : Int) < (L : Int)) = true := by simp; omega
      have hw := fun w' => word_any u (by rw [← HR.out.2.2.2]; omega) w'
      rw [← HR.out.2.2.1] at hw
      have HW := Lib.hid hw
      clear hw
      have hs8 : ∀ w : World, (Instr.slice 9 (.string x) (some (.int .i64 8)) none none).run Tryz.prog w = .ok (.string (str (u.drop 8))) w := by rw [HR.out.2.2.1]; exact cutf u 8 (by rw [← HR.out.2.2.2]; omega)
      obtain ⟨M, hM⟩ : ∃ M, M = L - 8 := ⟨_, rfl⟩
      obtain ⟨v8, hv8⟩ : ∃ v8, v8 = str (u.drop 8) := ⟨_, rfl⟩
      have hvs : v8.size = M := by rw [hv8, hM]; simp [str, ByteArray.size, ← HR.out.2.2.2]
      have hL16 : L ≤ 16 := by rw [HR.out.2.2.2]; exact HRl.out.2
      have d7 : decide ((16 : Int) < (M : Int)) = false := by simp; omega
      rw [← hv8] at hs8
      have HV := Lib.hid (And.intro hv8 hM)
      clear hv8 hM hL16
      go_wp2_with (go_at_call 283; refine (HW.out _).mono ?_; rintro e w2 ⟨⟨v, rfl⟩, f2⟩; have H2 := Lib.hid f2; clear f2)
      · go_quiet (fail)
        go_wp2
        go_roundg k
        case measure => omega
        case rel => exact ⟨u.drop 8, by rw [HV.out.1], by rw [List.length_drop]; have := HRl.out.1; omega, by rw [List.length_drop]; have := HRl.out.2; omega, fun c hc => HR.out.2.1 c (List.mem_of_mem_drop hc), (HR.out.1.trans H2.out).trans (Fr.drewN [] w2 _)⟩
      · go_roundg k
        case measure => omega
        case rel => exact ⟨u, by rw [HR.out.2.2.1], HRl.out.1, by have := HRl.out.2; omega, HR.out.2.1, HR.out.1.trans H2.out⟩
end Go.Proofs.YtflcdnmhgfhmdaaGreatDoor.fs
