/-
  deflate.plain.
-/
import Derived.Test.YtolkoidbkaidkaaWritten
import Derived.Test.YtolkoidbkaidkaaAppend
namespace Go.Proofs.Ytolkoidbkaidkaa.defl
open Go Go.RowKit Go.Proofs.Ytolkoidbkaidkaa.lib Go.Proofs.Ytolkoidbkaidkaa.bm Go.Proofs.Ytolkoidbkaidkaa.bl Go.Proofs.Ytolkoidbkaidkaa.wb

/-- Pieces of 65,535 bytes; the last one is shorter, or just so long. -/
def chunks : Nat → List UInt8 → List (List UInt8)
  | 0, b => [b]
  | f + 1, b => if 65535 < b.length then b.take 65535 :: chunks f (b.drop 65535) else [b]
theorem chunks_small {f : Nat} {b : List UInt8} (h : b.length ≤ 65535) : chunks f b = [b] := by
  cases f with
  | zero => rfl
  | succ f => rw [chunks, if_neg (by omega)]
def plainBits (b : List UInt8) : List Bool := storedAll [] (chunks b.length b)
def plainBytes (b : List UInt8) : List UInt8 := bytesOf (plainBits b)
theorem blockTy : SliceTy Try.prog 48 70 .nilIface 1 16 := SliceTy.of Try.underlying48 (by kernel_rfl) rfl (by decide)
theorem sval_one (rows : List Rv) : ∀ u ∈ rows.map sval, u.oneCell' = true := by
  intro u hu
  obtain ⟨r, _, rfl⟩ := List.mem_map.1 hu
  rfl
/-- Where plain stands. -/
structure Pl (w wr : World) (rows : List Rv) (ao : Option Addr) (c : Nat) : Prop where
  own : wr.ownsRow 0 70 1 (.slice ao rows.length c) rows.length (rows.map sval)
  fr : Fr [] w wr
  new : ∀ x ∈ blk ao, w.heap.size ≤ x
  row : ∀ r ∈ rows, lib.Rd w r.ao r.cap r.bs ∧ r.bs.length ≤ 65535
theorem Pl.push {w wr w2 : World} {rows : List Rv} {ao a2 : Option Addr} {c c2 n : Nat} (h : Pl w wr rows ao c) (r : Rv) (o : Obj) (hn : rows.length = n) (hr : lib.Rd w r.ao r.cap r.bs ∧ r.bs.length ≤ 65535)
    (A : Appended (wr.alloc o) w2 70 1 (blk ao) a2 (n + 1) c2 (rows.map sval ++ [sval r])) : Pl w w2 (rows ++ [r]) a2 c2 := by
  have f1 : Fr [] wr (wr.alloc o) := (Fr.refl [] wr).alloc o
  refine ⟨by rw [List.length_append, List.length_singleton, List.map_append, hn]; exact A.own, (h.fr.trans f1).step A.fr fun y hy => .inr (h.new y hy), fun y hy => ?_, fun x hx => ?_⟩
  · rcases A.at_ y hy with k | k
    · exact h.new y k
    · have := h.fr.size
      rw [World.size_alloc] at k
      omega
  · rcases List.mem_append.1 hx with k | k
    · exact h.row x k
    · rw [List.mem_singleton.1 k]; exact hr
theorem sum_step {m n rl t n2 r2 : Nat} (h : n * m + rl = t) (hb : m ≤ rl) (h1 : n2 = n + 1) (h2 : r2 = rl - m) : n2 * m + r2 = t := by
  subst h1 h2
  rw [Nat.succ_mul]
  omega
set_option maxRecDepth 100000 in
set_option maxHeartbeats 2000000 in
theorem plain_any (a : Option Addr) (cap : Nat) (b : List UInt8) (w : World) (h : lib.Rd w a cap b) (hlen : b.length ≤ 1000000) :
    Calls Try.prog 14 #[.slice a b.length cap] w (NewBytes w (plainBytes b)) := by
  have H := Lib.hid h
  clear h
  go_enter Try.func14, Try.ntmps14
  go_upto_block 0 with fail
  go_wp2
  go_loopg [0, 3] b.length (fun k s0 s3 wr => ∃ (a0 ao : Option Addr) (c0 c rl n : Nat) (rem : List UInt8) (rows : List Rv), s0 = .slice a0 rl c0 ∧ s3 = .slice ao n c ∧ rl = rem.length ∧ n = rows.length ∧ lib.Rd w a0 c0 rem ∧ Pl w wr rows ao c ∧ rem.length ≤ k ∧ rows.map Rv.bs ++ chunks k rem = chunks b.length b ∧ rows.length * 65535 + rem.length = b.length)
  case atStart => exact ⟨a, none, cap, 0, b.length, 0, b, [], rfl, rfl, rfl, rfl, H.out, ⟨World.ownsRow_nil _ _ _ _, Fr.refl _ _, by simp [blk], by simp⟩, Nat.le_refl _, rfl, by simp⟩
  case round =>
    obtain ⟨a0, ao, c0, c, rl, n, rem, rows, rfl, rfl, hrl, hn, hrd, hp, hk, hch, hsum⟩ := hrel
    have hle := hrd.le
    rw [← hrl] at hle hk hsum
    rw [← hn] at hsum
    have HP := Lib.hid (And.intro hrd (And.intro hp (And.intro hrl (And.intro hn hch))))
    obtain ⟨_, _, hsh, o1, o2, o3⟩ := owns_form hp.own
    simp only [Value.slice.injEq] at hsh
    obtain ⟨rfl, _, rfl⟩ := hsh
    rw [← hn] at o1
    clear hrd hp hrl hn hch
    by_cases hbig : 65535 < rl
    · have d1 : decide ((65535 : Int) < rl) = true := by simp; omega
      obtain ⟨k, rfl⟩ : ∃ k, gk = k + 1 := ⟨gk - 1, by omega⟩
      obtain ⟨m, hm⟩ : ∃ m : Nat, m = 65535 := ⟨_, rfl⟩
      have hsl := fun w => run_slice_to bits.sliceU8 65535 a0 rl c0 65535 rfl (by omega) w
      have hsl2 := fun w => run_slice_from bits.sliceU8 65535 a0 rl c0 65535 rfl (by omega) hle w
      obtain ⟨rs, hrs⟩ : ∃ rs : Rv, rs = ⟨a0, c0, rem.take 65535⟩ := ⟨_, rfl⟩
      have hrsv : sval rs = .iface 65 (.agg #[.slice a0 65535 c0]) := by
        rw [hrs, sval]
        simp only [List.length_take]
        rw [← HP.out.2.2.1, Nat.min_eq_left (by omega)]
      have hrr : lib.Rd w rs.ao rs.cap rs.bs ∧ rs.bs.length ≤ 65535 := by rw [hrs]; exact ⟨HP.out.1.take 65535, by simp only [List.length_take]; omega⟩
      have HR := Lib.hid (And.intro hrsv (And.intro hrr hrs))
      clear hrsv hrr hrs hm
      go_wp2_with (refine wpList_append blockTy rfl _ _ rfl (.slice ao n c) n (rows.map sval) (blk ao) rfl (own_blk _ _ _) (by rw [HP.out.2.2.2.1]; exact HP.out.2.1.own.alloc _) (some ⟨wr.heap.size, 0, none⟩) 1 1 [sval rs] rfl (by omega) (by simp) (by rw [HR.out.1]; exact cs_new wr _ _ _) rfl (by simp [sval, Value.oneCell']) (by omega) (by unfold maxLen; omega) ?_; intro a2 c2 w6 A2; have HA := Lib.hid A2; clear A2)
      go_roundg k
      case measure => omega
      case rel =>
        refine ⟨_, a2, _, c2, rl - 65535, n + 1, rem.drop 65535, rows ++ [rs], rfl, rfl, by rw [List.length_drop, HP.out.2.2.1], by rw [List.length_append, HP.out.2.2.2.1]; rfl, HP.out.1.drop 65535 (by rw [← HP.out.2.2.1]; omega), HP.out.2.1.push rs _ HP.out.2.2.2.1.symm HR.out.2.1 HA.out, by rw [List.length_drop, ← HP.out.2.2.1]; omega, ?_, sum_step hsum (by omega) (by rw [List.length_append, ← HP.out.2.2.2.1, List.length_singleton]) (by rw [List.length_drop, ← HP.out.2.2.1])⟩
        have h1 := HP.out.2.2.2.2
        rw [chunks, if_pos (by rw [← HP.out.2.2.1]; exact hbig)] at h1
        rw [List.map_append, List.append_assoc, ← h1, HR.out.2.2]
        rfl
    · have d1 : decide ((65535 : Int) < rl) = false := by simp; omega
      obtain ⟨rs, hrs⟩ : ∃ rs : Rv, rs = ⟨a0, c0, rem⟩ := ⟨_, rfl⟩
      have hrsv : sval rs = .iface 65 (.agg #[.slice a0 rl c0]) := by
        rw [hrs, sval, HP.out.2.2.1]
      have hrr : lib.Rd w rs.ao rs.cap rs.bs ∧ rs.bs.length ≤ 65535 := by rw [hrs]; exact ⟨HP.out.1, by rw [← HP.out.2.2.1]; omega⟩
      have hch : (rows ++ [rs]).map Rv.bs = chunks b.length b := by
        have h1 := HP.out.2.2.2.2
        rw [chunks_small (by rw [← HP.out.2.2.1]; omega)] at h1
        rw [List.map_append, ← h1, hrs]
        rfl
      have HR := Lib.hid (And.intro hrsv (And.intro hrr hch))
      clear hrsv hrr hrs hch
      go_wp2_with ((refine wpList_append blockTy rfl _ _ rfl (.slice ao n c) n (rows.map sval) (blk ao) rfl (own_blk _ _ _) (by rw [HP.out.2.2.2.1]; exact HP.out.2.1.own.alloc _) (some ⟨wr.heap.size, 0, none⟩) 1 1 [sval rs] rfl (by omega) (by simp) (by rw [HR.out.1]; exact cs_new wr _ _ _) rfl (by simp [sval, Value.oneCell']) (by omega) (by unfold maxLen; omega) ?_; intro a2 c2 w6 A2; have HP2 := Lib.hid (HP.out.2.1.push rs _ HP.out.2.2.2.1.symm HR.out.2.1 A2); have o21 := A2.le; have o22 := A2.max; clear A2))
      have hwr : Calls Try.prog 16 #[.slice a2 (n + 1) c2] w6 (NewBytes w6 (plainBytes b)) := by
        have h := written_stored a2 c2 (rows ++ [rs]) w6 (cs_owns HP2.out.own) (by rw [List.length_append, ← HP.out.2.2.2.1]; exact o21) o22 (fun r hr => ⟨((HP2.out.row r hr).1).fr HP2.out.fr, (HP2.out.row r hr).2⟩) (by rw [List.length_append, List.length_singleton]; omega) (by rw [List.length_append, ← HP.out.2.2.2.1, List.length_singleton]; omega)
        rw [HR.out.2.2, List.length_append, ← HP.out.2.2.2.1] at h
        exact h
      unfold NewBytes at hwr
      refine hwr.mono ?_
      rintro e w7 ⟨a7, rfl, r7, n7, f7⟩
      go_wp2
      go_ret
      unfold NewBytes
      exact ⟨a7, rfl, r7, fun x hx => ⟨Nat.le_trans HP2.out.fr.size (n7 x hx).1, (n7 x hx).2⟩, HP2.out.fr.trans f7⟩
end Go.Proofs.Ytolkoidbkaidkaa.defl
