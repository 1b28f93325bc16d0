/-
  deflate: written, over stored blocks.
-/
import Derived.Test.YtolkoidbkaidkaaStored
import Derived.Test.YtolkoidbkaidkaaRowsArg
namespace Go.Proofs.Ytolkoidbkaidkaa.defl
open Go Go.RowKit Go.Proofs.Ytolkoidbkaidkaa.lib Go.Proofs.Ytolkoidbkaidkaa.bm Go.Proofs.Ytolkoidbkaidkaa.bl Go.Proofs.Ytolkoidbkaidkaa.wb

def sval (r : Rv) : Value := .iface 65 (.agg #[.slice r.ao r.bs.length r.cap])
/-- What stored blocks become, one behind the other. -/
def storedAll (l : List Bool) : List (List UInt8) → List Bool
  | [] => l
  | b :: t => storedAll (storedBits l (t.isEmpty) b) t
theorem storedAll_le : ∀ (t : List (List UInt8)) (l : List Bool), l.length ≤ (storedAll l t).length
  | [], _ => Nat.le_refl _
  | b :: t, l => by
    have := storedAll_le t (storedBits l t.isEmpty b)
    rw [storedBits_length] at this
    rw [storedAll]
    omega
theorem storedAll_pos (t : List (List UInt8)) (l : List Bool) (h : 0 < t.length) : 0 < (storedAll l t).length := by
  cases t with
  | nil => simp at h
  | cons b t =>
    have := storedAll_le t (storedBits l t.isEmpty b)
    rw [storedBits_length] at this
    rw [storedAll]
    omega
theorem wb_new (w : World) : Wb (w.alloc (.cells #[.slice none 0 0, .int .u64 0, .int .i64 0] 68)) w.heap.size [w.heap.size] [] :=
  ⟨.slice none 0 0, ⟨alloc_at w _, World.ownsRow_nil _ _ _ _, by simp [Value.ownBlock], by decide⟩, rfl⟩
set_option maxRecDepth 100000 in
set_option maxHeartbeats 2000000 in
theorem written_stored (a : Option Addr) (cap : Nat) (rows : List Rv) (w : World) (hcs : Cs w a (rows.map sval)) (hle : rows.length ≤ cap) (hcap : cap ≤ maxLen)
    (hrow : ∀ r ∈ rows, lib.Rd w r.ao r.cap r.bs ∧ r.bs.length ≤ 65535) (h0 : 0 < rows.length) (hn : rows.length ≤ 100000) :
    Calls Try.prog 16 #[.slice a rows.length cap] w (NewBytes w (bytesOf (storedAll [] (rows.map Rv.bs)))) := by
  obtain ⟨n, hnn⟩ : ∃ n, n = rows.length := ⟨_, rfl⟩
  rw [← hnn] at hle h0 hn ⊢
  unfold maxLen at hcap
  obtain ⟨g0, o0, rfl, hc⟩ := hcs.at (by rw [List.length_map]; omega)
  have H := Lib.hid (And.intro hc (And.intro hrow hnn))
  clear hc hrow hnn hcs
  go_enter Try.func16, Try.ntmps16
  go_upto_block 0 with fail
  obtain ⟨p, hp⟩ : ∃ p, p = w.heap.size := ⟨_, rfl⟩
  have w0 := wb_new w
  have f0 : Fr [] w (w.alloc (.cells #[.slice none 0 0, .int .u64 0, .int .i64 0] 68)) := (Fr.refl [] w).alloc _
  rw [← hp] at w0 ⊢
  have H0 := Lib.hid (And.intro w0 (And.intro f0 hp))
  clear w0 f0 hp
  go_wp2
  go_loopg [4, 5, 6, 7, 10] n (fun k s4 s5 s6 s7 s10 wr => ∃ (i : Nat) (F : List Nat) (l : List Bool), s10 = .int .i64 (i : Nat) ∧ i + k = n ∧ Wb wr p F l ∧ Fr [] w wr ∧ (∀ x ∈ F, w.heap.size ≤ x) ∧ l.length ≤ i * 524360 ∧ storedAll l ((rows.drop i).map Rv.bs) = storedAll [] (rows.map Rv.bs))
  case atStart => exact ⟨0, [p], [], rfl, by omega, H0.out.1, H0.out.2.1, fun x hx => by simp at hx; rw [hx, H0.out.2.2]; exact Nat.le_refl _, Nat.le_refl _, rfl⟩
  case round =>
    obtain ⟨i, F, l, rfl, hik, hW, hf, hF, hl, hall⟩ := hrel
    by_cases hi : i < n
    · obtain ⟨k, rfl⟩ : ∃ k, gk = k + 1 := ⟨gk - 1, by omega⟩
      have hir : i < rows.length := by rw [← H.out.2.2]; exact hi
      have hci := hf.cell (H.out.1 i (sval rows[i]) (by rw [List.getElem?_map, List.getElem?_eq_getElem hir]; rfl)) (by simp)
      obtain ⟨hrd, hlen⟩ := H.out.2.1 rows[i] (List.getElem_mem hir)
      unfold sval at hci
      have hdr : (rows.drop i).map Rv.bs = rows[i].bs :: (rows.drop (i + 1)).map Rv.bs := by rw [List.drop_eq_getElem_cons hir, List.map_cons]
      rw [hdr, storedAll] at hall
      obtain ⟨b, hb⟩ : ∃ b, b = rows[i].bs := ⟨_, rfl⟩
      obtain ⟨ba, hba⟩ : ∃ b, b = rows[i].ao := ⟨_, rfl⟩
      obtain ⟨bc, hbc⟩ : ∃ b, b = rows[i].cap := ⟨_, rfl⟩
      obtain ⟨bn, hbn⟩ : ∃ n, n = b.length := ⟨_, rfl⟩
      rw [← hb] at hci hrd hlen hall
      rw [← hba, ← hbc, ← hbn] at hci
      rw [← hba, ← hbc] at hrd
      rw [← hbn] at hlen
      have HR := Lib.hid (And.intro hrd (And.intro hbn hall))
      have HW := Lib.hid (And.intro hW (And.intro hf (And.intro hF hl)))
      clear hrd hbn hall hW hf hF hl hdr hb hba hbc
      have d1 : decide ((65535 : Int) < bn) = false := by simp; omega
      have hta : ∀ w : World, (Instr.typeAssert (.iface 65 (.agg #[.slice ba bn bc])) 70 65 true).run Try.prog w = .ok (.tuple #[.agg #[.slice ba bn bc], .bool true]) w := fun _ => by kernel_rfl
      have hme : ∀ (f : Nat) (w : World), (method (f + 1) 65 (.agg #[.slice ba bn bc]) "stemma/deflate.write").run Try.prog w = .ok (98, .agg #[.slice ba bn bc]) w := fun _ _ => by kernel_rfl
      have hlast : ((i : Int) == (n : Int) - 1) = ((rows.drop (i + 1)).map Rv.bs).isEmpty := by
        rw [Bool.eq_iff_iff, List.isEmpty_iff]
        simp only [beq_iff_eq, List.map_eq_nil_iff, List.drop_eq_nil_iff, ← H.out.2.2]
        omega
      obtain ⟨lst, hlst⟩ : ∃ b, b = ((rows.drop (i + 1)).map Rv.bs).isEmpty := ⟨_, rfl⟩
      rw [← hlst] at hlast
      have f1 : Fr [] wr (wr.alloc (.cells #[.slice ba bn bc] 65)) := (Fr.refl [] wr).alloc _
      have hz1 : (wr.alloc (.cells #[.slice ba bn bc] 65)).heap.size = wr.heap.size + 1 := World.size_alloc _ _
      have hsw := stored_write p F l lst ba bc b _ (wb_fr HW.out.1 f1 (by simp)) ((HR.out.1.fr HW.out.2.1).fr f1) (fun hne x hx hm => by have := rd_lt HR.out.1 hne x hx; have := HW.out.2.2.1 x hm; omega) (by have := HW.out.2.2.2; omega) (by rw [← HR.out.2.1]; exact hlen)
      rw [← HR.out.2.1] at hsw
      unfold WbPost at hsw
      have HS := Lib.hid (And.intro hsw (And.intro f1 (And.intro hz1 hlst)))
      clear hsw f1 hz1 hlst
      go_wp2_with (go_at_call 98; refine HS.out.1.mono ?_; rintro e w2 ⟨rfl, f2, F2, W2, n2⟩; have H2 := Lib.hid (And.intro f2 (And.intro W2 n2)); clear f2 W2 n2)
      go_roundg k
      case measure => omega
      case rel =>
        have k1 := HW.out.2.1.size
        have k2 := HS.out.2.2.1
        refine ⟨i + 1, F2, storedBits l lst b, by go_num, by omega, H2.out.2.1, (HW.out.2.1.trans HS.out.2.1).step H2.out.1 (fun y hy => .inr (HW.out.2.2.1 y hy)), fun y hy => ?_, ?_, ?_⟩
        · rcases H2.out.2.2 y hy with h | h
          · exact HW.out.2.2.1 y h
          · omega
        · rw [storedBits_length, ← HR.out.2.1]
          have := HW.out.2.2.2
          omega
        · rw [HS.out.2.2.2]
          exact HR.out.2.2
    · obtain rfl : i = n := by omega
      have hdn : rows.drop i = [] := List.drop_eq_nil_of_le (by rw [← H.out.2.2]; exact Nat.le_refl _)
      rw [hdn] at hall
      have hby := bytes_b p F l wr hW (by
        have : 0 < l.length := by
          rw [← show storedAll l (List.map Rv.bs []) = l from rfl, hall]
          exact storedAll_pos _ _ (by rw [List.length_map, ← H.out.2.2]; exact h0)
        exact this) (by omega)
      have e : bytesOf l = bytesOf (storedAll [] (rows.map Rv.bs)) := by rw [← hall]; rfl
      rw [e] at hby
      unfold NewBytes at hby
      have HB := Lib.hid (And.intro hby hf)
      clear hby hW hf hF hl hall hdn e
      go_wp2_with (go_at_call 24; refine HB.out.1.mono ?_; rintro e w2 ⟨a2, rfl, r2, n2, f2⟩)
      go_ret
      unfold NewBytes
      exact ⟨a2, rfl, r2, fun x hx => ⟨Nat.le_trans HB.out.2.size (n2 x hx).1, (n2 x hx).2⟩, HB.out.2.trans f2⟩
end Go.Proofs.Ytolkoidbkaidkaa.defl
