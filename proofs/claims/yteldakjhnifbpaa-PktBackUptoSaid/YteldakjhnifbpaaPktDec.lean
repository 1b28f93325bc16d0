/-
  pkt.Decode.
-/
import Derived.Test.YteldakjhnifbpaaPktMem
namespace Go.Proofs.Yteldakjhnifbpaa.pkt
open Go Go.RowKit Go.Proofs.Yteldakjhnifbpaa.lib Go.Proofs.Yteldakjhnifbpaa.bm

def Decoded (w : World) (bs : List UInt8) (e : Ending) (w' : World) : Prop :=
  ∃ (a : Option Addr) (ls : List Lv), e = .returned (.tuple #[.slice a ls.length ls.length, .int .i64 (decode bs).2.1, .int .i64 (decode bs).2.2]) ∧ Lines w' a ls.length ls ∧ ls.map Lv.ln = (decode bs).1 ∧ Fr [] w w'
/-- Where the reading stands. -/
structure At (w wr : World) (bs : List UInt8) (k : Nat) (a : Option Addr) (cap : Nat) (ls : List Lv) (i : Nat) : Prop where
  grow : Grow w wr a cap ls
  le : i ≤ bs.length
  fuel : bs.length - i ≤ k
  few : ls.length ≤ i
  dec : dec k (bs.drop i) i (ls.map Lv.ln) = decode bs
theorem at_done {w wr : World} {bs : List UInt8} {k : Nat} {a : Option Addr} {cap : Nat} {ls : List Lv} {i : Nat} (h : At w wr bs k a cap ls i) (hd : pkt.dec k (bs.drop i) i (ls.map Lv.ln) = (ls.map Lv.ln, i, 0)) :
    decode bs = (ls.map Lv.ln, i, 0) := by rw [← h.dec, hd]
theorem decoded_of {w w' : World} {bs : List UInt8} {a : Option Addr} {ls : List Lv} {u x : Nat} (hd : decode bs = (ls.map Lv.ln, u, x)) (h : Lines w' a ls.length ls) (f : Fr [] w w') :
    Decoded w bs (.returned (.tuple #[.slice a ls.length ls.length, .int .i64 u, .int .i64 x])) w' := by
  unfold Decoded
  rw [hd]
  exact ⟨a, ls, rfl, h, rfl, f⟩
theorem num_take (r : List UInt8) : num (r.take 4 ++ r.drop 4) = num r := by rw [List.take_append_drop]
set_option maxRecDepth 100000 in
set_option maxHeartbeats 4000000 in
theorem decode_all (ao : Option Addr) (cap : Nat) (bs : List UInt8) (w : World) (hle : bs.length ≤ cap) (hcap : cap ≤ 9223372036854775807) (hnil : ao = none → cap = 0) (hcs : Cs w ao (bs.map bv)) (hlim : bs.length ≤ 2199023255552) :
    Calls Try.prog 8 #[.slice ao bs.length cap] w (Decoded w bs) := by
  go_enter Try.func8, Try.ntmps8
  go_upto_block 0 with fail
  go_cut [2, 3] from 7 to 8 (fun s2 s3 wz => ∃ a c ls i, s2 = .slice a ls.length c ∧ s3 = .int .i64 (i : Nat) ∧ Grow w wz a c ls ∧ decode bs = (ls.map Lv.ln, i, 0))
  case first =>
    go_wp2
    go_loopg [2, 3] bs.length (fun k s2 s3 wr => ∃ a c ls i, s2 = .slice a ls.length c ∧ s3 = .int .i64 (i : Nat) ∧ At w wr bs k a c ls i)
    case atStart => exact ⟨none, 0, [], 0, rfl, rfl, grow_nil w, Nat.zero_le _, by omega, Nat.zero_le _, rfl⟩
    case round =>
      obtain ⟨a, c, ls, i, rfl, rfl, h⟩ := hrel
      have hi := h.le
      have hw := h.fuel
      have hfew := h.few
      have H := Lib.hid h
      clear h
      by_cases h4 : bs.length - i < 4
      · have hd := at_done H.out (by cases gk with | zero => rfl | succ k => rw [dec, if_pos (by simp; omega)])
        have HD := Lib.hid hd
        clear hd
        go_wp2
        go_meet
        exact ⟨a, c, ls, i, rfl, rfl, H.out.grow, HD.out⟩
      · obtain ⟨k, rfl⟩ : ∃ k, gk = k + 1 := ⟨gk - 1, by omega⟩
        have hdec := H.out.dec
        rw [dec, if_neg (by simp; omega)] at hdec
        have hcut := ((hcs.fr H.out.grow.fr (by simp)).cut cap i bs.length hi (by simp) (by simpa using hle))
        rw [List.take_of_length_le (by simp), ← cutAtN_one] at hcut
        have hsz := size_all (cutAtN ao cap i 1) (cap - i) (bs.drop i) wr (by simp; omega) (by simp; omega) (by omega) (by rw [List.map_drop]; exact hcut)
        rw [List.length_drop] at hsz
        clear hcut
        go_upto_region 2 with fail
        go_cut [5, 6] from 11 to 18 (fun s5 s6 wz => s5 = .int .i64 (sz (bs.drop i)).1 ∧ s6 = .bool (sz (bs.drop i)).2 ∧ wr = wz)
        case first =>
          clear hdec
          go_wp2_with (first | (refine wpList_slice_from sliceU8 i rfl _ _ rfl ao bs.length cap _ rfl rfl rfl (by omega) (by omega) ?_) | (go_at_call 19; refine hsz.mono ?_; rintro e w2 ⟨rfl, hw⟩; obtain rfl := hw.symm))
          go_meet
          exact ⟨rfl, rfl, rfl⟩
        case rest =>
        clear hsz
        obtain ⟨rfl, rfl, rfl⟩ := hcut
        generalize hr : bs.drop i = r at *
        have Hr := Lib.hid hr
        clear hr
        cases hnum : num r with
        | none =>
          rw [sz_none hnum]
          rw [hnum] at hdec
          have HD := Lib.hid hdec
          clear hdec hnum
          go_wp2
          go_ret3
          exact decoded_of (ls := []) HD.out.symm (grow_nil _).lines H.out.grow.fr
        | some n =>
          rw [hnum] at hdec
          simp only at hdec
          have hnlt := num_lt hnum
          by_cases h34 : n = 3 ∨ n = 4
          · rw [sz_bad hnum h34]
            rw [if_pos h34] at hdec
            have HD := Lib.hid hdec
            clear hdec hnum
            go_wp2
            go_ret3
            exact decoded_of (ls := []) HD.out.symm (grow_nil _).lines H.out.grow.fr
          · rw [sz_good hnum h34]
            rw [if_neg h34] at hdec
            by_cases hbig : 65520 < n
            · rw [if_pos hbig] at hdec
              have HD := Lib.hid hdec
              clear hdec hnum
              go_wp2
              go_ret3
              exact decoded_of (ls := []) HD.out.symm (grow_nil _).lines H.out.grow.fr
            · rw [if_neg hbig] at hdec
              by_cases hsmall : n < 3
              · rw [if_pos hsmall] at hdec
                have HD := Lib.hid hdec
                have hrl : r.length = bs.length - i := by rw [← Hr.out, List.length_drop]
                clear hdec hnum
                obtain ⟨S, hS⟩ : ∃ S, S = blk a := ⟨_, rfl⟩
                have HS := Lib.hid hS
                clear hS
                have ownA := ownsRow_fr H.out.grow.own ((Fr.refl [] wr).alloc (.cells #[.int .i64 (2 + (n : Int)), .slice none 0 0] 28)) (by simp)
                have cA : Cs (wr.alloc (.cells #[.int .i64 (2 + (n : Int)), .slice none 0 0] 28)) (some ⟨wr.heap.size, 0, none⟩) (lcells [⟨2 + (n : Int), none, 0, []⟩]) :=
                  .inr ⟨wr.heap.size, 0, rfl, fun j u hj => by rw [cell_of (alloc_at wr _)]; simpa [lcells] using hj⟩
                have HA := Lib.hid (And.intro ownA cA)
                clear ownA cA
                go_wp2_with (refine wpList_append sliceLine rfl _ _ rfl (.slice a ls.length c) ls.length (lcells ls) S rfl (by rw [own_blk, HS.out]) HA.out.1 (some ⟨wr.heap.size, 0, none⟩) 1 1 _ rfl (by decide) (by simp) HA.out.2 (by rfl) (lcells_one _) (by omega) (by unfold maxLen; omega) ?_; intro a2 c2 w2 A1)
                go_roundg k
                case measure => omega
                case rel =>
                  have h := H.out
                  have f1 : Fr [] wr (wr.alloc (.cells #[.int .i64 (2 + (n : Int)), .slice none 0 0] 28)) := (Fr.refl [] wr).alloc _
                  rw [HS.out] at A1
                  have hg := (h.grow.fr0 f1).more A1 (x := ⟨2 + (n : Int), none, 0, []⟩) ⟨.inl rfl, Nat.le_refl _, fun _ => rfl, Nat.zero_le _⟩ (by simp [blk]) (by simp [blk])
                  refine ⟨a2, c2, ls ++ [⟨2 + (n : Int), none, 0, []⟩], i + 4, by simp, by go_num, hg, by omega, by omega, by simp; omega, ?_⟩
                  rw [← HD.out, ← Hr.out, List.drop_drop]
                  simp [Lv.ln]
              · rw [if_neg hsmall] at hdec
                by_cases hlong : r.length < n
                · rw [if_pos hlong] at hdec
                  have HD := Lib.hid hdec
                  have hrl : r.length = bs.length - i := by rw [← Hr.out, List.length_drop]
                  clear hdec hnum
                  go_wp2
                  go_meet
                  exact ⟨a, c, ls, i, rfl, rfl, H.out.grow, HD.out.symm⟩
                · rw [if_neg hlong] at hdec
                  have HD := Lib.hid hdec
                  have hrl : r.length = bs.length - i := by rw [← Hr.out, List.length_drop]
                  clear hdec hnum
                  obtain ⟨S, hS⟩ : ∃ S, S = blk a := ⟨_, rfl⟩
                  have HS := Lib.hid hS
                  clear hS
                  obtain ⟨m, hm⟩ : ∃ m, n = m + 4 := ⟨n - 4, by omega⟩
                  obtain ⟨ds, hds⟩ : ∃ ds, ds = (bs.drop (i + 4)).take m := ⟨_, rfl⟩
                  have hdl : ds.length = m := by rw [hds, List.length_take, List.length_drop]; omega
                  have hcut := ((hcs.fr H.out.grow.fr (by simp)).cut cap (i + 4) (i + n) (by omega) (by simp; omega) (by simpa using hle))
                  rw [show i + n - (i + 4) = m from by omega, ← List.map_drop, ← List.map_take, ← hds] at hcut
                  have hcl := clone_any (cutAt ao cap (i + 4)) (cap - (i + 4)) ds wr hcut (by omega) (fun h => by have := hnil (cutAt_none h); omega) (by omega)
                  unfold Copied at hcl
                  rw [hdl] at hcl
                  have HDS := Lib.hid (And.intro hds hdl)
                  have HM := Lib.hid hm
                  clear hcut hds hdl hm
                  have hmn : (i : Int) + n = ((i + 4 : Nat) : Int) + m := by have := HM.out; omega
                  go_upto_region 11 with fail
                  go_cut [2] from 19 to 54 (fun s2 wz => ∃ a2 c2 y, s2 = .slice a2 (ls.length + 1) c2 ∧ Lv.ln y = (1, ds) ∧ Grow w wz a2 c2 (ls ++ [y]))
                  case first =>
                    go_wp2_with (first | (refine wpList_slice_lh sliceU8 (i + 4) m rfl _ _ _ rfl ao bs.length cap _ _ rfl rfl rfl (by omega) (by have := HM.out; omega) (by have := HM.out; omega) ?_) | (go_at_call 20; refine hcl.mono ?_; rintro e w1 ⟨a1, c1, rfl, g1, l1, m1, n1, b1, f1⟩; have ownA := ownsRow_fr H.out.grow.own (f1.alloc (.cells #[.int .i64 1, .slice a1 m m] 28)) (by simp); have cA : Cs (w1.alloc (.cells #[.int .i64 1, .slice a1 m m] 28)) (some ⟨w1.heap.size, 0, none⟩) [.int .i64 1, .slice a1 m m] := (.inr ⟨w1.heap.size, 0, rfl, fun j u hj => by rw [cell_of (alloc_at w1 _)]; simpa using hj⟩); have HA := Lib.hid (And.intro ownA cA); clear ownA cA) | (go_at_call 18; refine (clip_any a1 m c1 _ l1 m1).mono ?_; rintro e w2 ⟨rfl, hw⟩; obtain rfl := hw.symm) | (refine wpList_append sliceLine rfl _ _ rfl (.slice a ls.length c) ls.length (lcells ls) S rfl (by rw [own_blk, HS.out]) HA.out.1 (some ⟨w1.heap.size, 0, none⟩) 1 1 [.int .i64 1, .slice a1 m m] rfl (by decide) (by simp) HA.out.2 (by rfl) (by simp [Value.oneCell']) (by omega) (by unfold maxLen; omega) ?_; intro a2 c2 w2 A1))
                    go_meet
                    have f2 : Fr [] wr (w1.alloc (.cells #[.int .i64 1, .slice a1 m m] 28)) := f1.alloc _
                    have hcs1 := g1.cs.fr ((Fr.refl [] w1).alloc (.cells #[.int .i64 1, .slice a1 m m] 28)) (by simp)
                    rw [HS.out] at A1
                    have hlt : ∀ y ∈ blk a, y < wr.heap.size := fun y hy => owns_lt H.out.grow.own (blk_own hy)
                    have hl := HDS.out.2
                    have hg := (H.out.grow.fr0 f2).more (x := ⟨1, a1, m, ds⟩) (by simpa [lcells, hl] using A1) ⟨hcs1, by simp only; omega, fun h => by have := n1 h; simp only; omega, by simp only; omega⟩ (fun y hy h => by have := (b1 y hy).1; have := hlt y h; omega) (fun y hy => Nat.lt_of_lt_of_le (b1 y hy).2 ((Fr.refl [] w1).alloc (.cells #[.int .i64 1, .slice a1 m m] 28)).size)
                    exact ⟨a2, c2, ⟨1, a1, m, ds⟩, rfl, rfl, hg⟩
                  case rest =>
                  clear hcl
                  obtain ⟨a2, c2, y, rfl, hy, hg⟩ := hcut
                  have HG := Lib.hid (And.intro hy hg)
                  clear hy hg
                  go_wp2
                  go_roundg k
                  case measure => omega
                  case rel =>
                    refine ⟨a2, c2, ls ++ [y], i + n, by simp, by go_num, HG.out.2, by omega, by omega, by simp; omega, ?_⟩
                    rw [← HD.out, ← Hr.out, List.drop_drop]
                    have e : ((bs.drop i).take n).drop 4 = ds := by
                      rw [List.drop_take, List.drop_drop, HDS.out.1]
                      congr 1
                      have := HM.out
                      omega
                    rw [e, List.map_append, List.map_cons, List.map_nil, HG.out.1]
  case rest =>
  obtain ⟨a, c, ls, i, rfl, rfl, h, hd⟩ := hcut
  obtain ⟨h1, h2, _⟩ := h.shape
  have H := Lib.hid h
  have HD := Lib.hid hd
  clear h hd
  go_wp2_with (go_at_call 21; refine (clip_lines a ls.length c _ h1 h2).mono ?_; rintro e w2 ⟨rfl, hw⟩; obtain rfl := hw.symm)
  go_ret3
  exact decoded_of HD.out H.out.lines H.out.fr
end Go.Proofs.Yteldakjhnifbpaa.pkt
