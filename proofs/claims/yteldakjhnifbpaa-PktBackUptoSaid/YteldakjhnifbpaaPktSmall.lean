/-
  pkt.Text("hi"), Flush, Delim; stemmalaw17.awake.
-/
import Derived.Test.YteldakjhnifbpaaPktEnc
import Derived.Test.YteldakjhnifbpaaPktDec
import Derived.Laws.IdiomStrings
import Derived.Laws.Rows
import Derived.Lib.SlBytesConst
namespace Go.Proofs.Yteldakjhnifbpaa.lib
open Go Go.RowKit
/-- []byte(s). -/
theorem wpList_bytes_of {P : Program} {w : World} {ops : Array Oper} {rest : List Oper} {o : Oper} {a : Act} {Q : Exit → Act → World → Prop} {src dst e : TypeId} (hs : P.underlying src = some .string) (hd : P.underlying dst = some (.slice e)) (he : P.underlying e = some (.int .u8))
    (hgd : o.guard = none) (x : Operand) (ho : o.op = .convert src dst x) (bs : List UInt8) (hx : a.eval x = .string (str bs)) (hm : bs.length ≤ maxLen)
    (h : ∀ cap w', bs.length ≤ cap → cap ≤ maxLen → Cs w' (some ⟨w.heap.size, 0, none⟩) (bs.map bv) → Fr [] w w' → w.heap.size < w'.heap.size → wpList P ops Q rest (a.put o.dst (.slice (some ⟨w.heap.size, 0, none⟩) bs.length cap)) w') : wpList P ops Q (o :: rest) a w := by
  have hr := run_bytes_of_string (P := P) w src dst e (str bs) hs hd he
  have hsz : (str bs).size = bs.length := by simp [str, ByteArray.size]
  rw [hsz] at hr
  have h1 := grownCap_ge w bs.length 0 e
  have h2 := grownCap_le_maxLen w bs.length 0 e hm
  generalize grownCap w bs.length 0 e = cap at *
  refine wpList_plain hgd fun K hK => ?_
  unfold Oper.wp execOp
  simp only [ho, hx, Sem.run_bind, Result.andThen_ok, Sem.run_pure, hr]
  refine hK _ _ (h cap _ h1 h2 (.inr ⟨w.heap.size, 0, rfl, fun j v hj => ?_⟩) ((Fr.drew1 [] w).alloc _) (by rw [World.size_alloc]; exact Nat.lt_succ_self _))
  have hb := alloc_at w.drew (.cells (bytesRow (str bs) cap) e ((bytesRow (str bs) cap).size, (bytesRow (str bs) cap).size + 1))
  rw [Nat.zero_add]
  refine Eq.trans (cell_of (w := w.drew.alloc _) hb j) ?_
  have hj1 : j < bs.length := by simpa using (List.getElem?_eq_some_iff.1 hj).1
  unfold bytesRow
  rw [Array.getElem?_append_left (by simp [str]; exact hj1)]
  simpa [str, bv] using hj
end Go.Proofs.Yteldakjhnifbpaa.lib
namespace Go.Proofs.Yteldakjhnifbpaa.pkt
open Go Go.RowKit Go.Proofs.Yteldakjhnifbpaa.lib Go.Proofs.Yteldakjhnifbpaa.bm

def TextHi (w : World) (e : Ending) (w' : World) : Prop := ∃ a, e = .returned (.agg #[.int .i64 1, .slice (some a) 3 3]) ∧ Cs w' (some a) (([104, 105, 10] : List UInt8).map bv) ∧ Fr [] w w'
theorem infoLine : (Try.prog.info? 28).map (·.size) = some 2 := by kernel_rfl
theorem results_line {fn : Func} {p : Tmp} (h : fn.results = #[.cell p 28]) (tmps : Array Value) (w : World) (g : Nat) (cs : Array Value) (fr : Nat × Nat)
    (hp : tmps.getD p undef = .pointer (some ⟨g, 0, none⟩)) (hg : w.heap[g]? = some (.cells cs 28 fr)) (hs : cs.size = 2) : (results fn tmps).run Try.prog w = .ok (.agg cs) w :=
  results_cell_row h tmps w g 28 cs fr _ hp hg Try.underlying28 rfl (by rw [infoLine, hs])
theorem flush_any (w : World) : Calls Try.prog 23 #[] w fun e w' => e = .returned (.agg #[.int .i64 2, .slice none 0 0]) ∧ Fr [] w w' := by
  go_enter Try.func23, Try.ntmps23
  go_wp2
  (try simp only [Exit.inBlock, Exit.then])
  refine bodyPost_ret (results_line rfl _ _ w.heap.size _ (0, 0) rfl (alloc_at w _) rfl) rfl ?_
  exact ⟨rfl, (Fr.refl _ w).alloc _⟩
theorem delim_any (w : World) : Calls Try.prog 24 #[] w fun e w' => e = .returned (.agg #[.int .i64 3, .slice none 0 0]) ∧ Fr [] w w' := by
  go_enter Try.func24, Try.ntmps24
  go_wp2
  (try simp only [Exit.inBlock, Exit.then])
  refine bodyPost_ret (results_line rfl _ _ w.heap.size _ (0, 0) rfl (alloc_at w _) rfl) rfl ?_
  exact ⟨rfl, (Fr.refl _ w).alloc _⟩
theorem text_hi (w : World) : Calls Try.prog 22 #[.string ⟨#[104, 105]⟩] w (TextHi w) := by
  have f0 : Fr [] w (w.alloc (.cells #[.int .i64 0, .slice none 0 0] 28)) := (Fr.refl [] w).alloc _
  have ha := alloc_at w (.cells #[.int .i64 0, .slice none 0 0] 28)
  have hlt : w.heap.size < (w.alloc (.cells #[.int .i64 0, .slice none 0 0] 28)).heap.size := by rw [World.size_alloc]; omega
  go_enter Try.func22, Try.ntmps22
  go_upto_region 1 with fail
  generalize (w.alloc (.cells #[.int .i64 0, .slice none 0 0] 28)) = w1 at *
  generalize hk : w.heap.size = k at *
  go_wp2_with (first | (refine wpList_bytes_of Try.underlying9 Try.underlying23 Try.underlying5 rfl _ rfl [104, 105, 10] rfl (by decide) ?_; intro cap w2 hc1 hc2 hcs f2 hl2; have h2 := f2.blk ha (by simp); have a0 := cell_of h2 0; have a1 := cell_of h2 1; have z0 := frozen_of h2 0; have z1 := frozen_of h2 1; simp only [List.getElem?_toArray, List.getElem?_cons_zero, List.getElem?_cons_succ] at a0 a1; have H2 := Lib.hid (And.intro h2 (And.intro hcs (And.intro f2 hl2))); clear h2 hcs f2 hl2) | (go_at_call 18; refine (clip_any _ 3 cap _ hc1 hc2).mono ?_; rintro e w3 ⟨rfl, hw⟩; obtain rfl := hw.symm))
  (try simp only [Exit.inBlock, Exit.then])
  have h := H2.out
  have hbk : ((w2.setCell ⟨k, 0, none⟩ (.int .i64 1)).setCell ⟨k, 1, none⟩ (.slice (some ⟨w1.heap.size, 0, none⟩) 3 3)).heap[k]? = some (.cells #[.int .i64 1, .slice (some ⟨w1.heap.size, 0, none⟩) 3 3] 28 (0, 0)) := (setCell_of (setCell_of h.1 _) _).trans rfl
  refine bodyPost_ret (results_line rfl _ _ k _ (0, 0) rfl hbk rfl) rfl ?_
  have frk : Fr [k] w2 ((w2.setCell ⟨k, 0, none⟩ (.int .i64 1)).setCell ⟨k, 1, none⟩ (.slice (some ⟨w1.heap.size, 0, none⟩) 3 3)) := ((Fr.refl [k] w2).setCell (by simp) _).setCell (by simp) _
  exact ⟨⟨w1.heap.size, 0, none⟩, rfl, h.2.1.fr frk (by simp [blk]; omega), (f0.trans h.2.2.1).step frk fun x hx => .inr (by simp at hx; omega)⟩
def hiBytes : List UInt8 := [48, 48, 48, 55, 104, 105, 10, 48, 48, 48, 48, 48, 48, 48, 49]
def hiLines (a : Addr) : List Lv := [⟨1, some a, 3, [104, 105, 10]⟩, ⟨2, none, 0, []⟩, ⟨3, none, 0, []⟩]
theorem enc_hi (a : Addr) : enc ((hiLines a).map Lv.ln) = (hiBytes, 0) := by
  show enc [((1 : Int), ([104, 105, 10] : List UInt8)), (2, []), (3, [])] = _
  decide
theorem encode_hi (w : World) (a : Addr) (hcs : Cs w (some a) (([104, 105, 10] : List UInt8).map bv)) :
    Calls Try.prog 7 #[.slice (some ⟨w.heap.size, 0, none⟩) 3 3] (w.alloc (.cells #[.int .i64 1, .slice (some a) 3 3, .int .i64 2, .slice none 0 0, .int .i64 3, .slice none 0 0] 28))
      fun e w' => ∃ a', e = .returned (.tuple #[.slice a' 15 15, .int .i64 0]) ∧ Cs w' a' (hiBytes.map bv) ∧ Fr [] w w' := by
  have f0 : Fr [] w (w.alloc (.cells #[.int .i64 1, .slice (some a) 3 3, .int .i64 2, .slice none 0 0, .int .i64 3, .slice none 0 0] 28)) := (Fr.refl [] w).alloc _
  have L : Lines (w.alloc (.cells #[.int .i64 1, .slice (some a) 3 3, .int .i64 2, .slice none 0 0, .int .i64 3, .slice none 0 0] 28)) (some ⟨w.heap.size, 0, none⟩) 3 (hiLines a) := by
    refine ⟨.inr ⟨w.heap.size, 0, rfl, fun j u hj => by rw [cell_of (alloc_at w _)]; simpa [hiLines, lcells] using hj⟩, by simp [hiLines], by simp, by decide, fun x hx => ?_⟩
    simp only [hiLines, List.mem_cons, List.not_mem_nil, or_false] at hx
    rcases hx with rfl | rfl | rfl
    · exact ⟨hcs.fr f0 (by simp), by simp, by simp, show 3 ≤ maxLen from by decide⟩
    · exact ⟨.inl rfl, by decide, fun _ => rfl, by decide⟩
    · exact ⟨.inl rfl, by decide, fun _ => rfl, by decide⟩
  refine (encode_all (some ⟨w.heap.size, 0, none⟩) 3 (hiLines a) _ L (by simp [hiLines, tot, Lv.ln])).mono ?_
  unfold Encoded
  rw [enc_hi a]
  rintro e w' ⟨a', n, rfl, hn, h1, h2, f⟩
  obtain rfl : 15 = n := hn
  exact ⟨a', rfl, h1, f0.trans f⟩
theorem cs_const (w : World) (C : Array Value) (fr : Nat × Nat) (bs : List UInt8) (h : C.toList = bs.map bv) : Cs (w.alloc (.cells C 5 fr)) (some ⟨w.heap.size, 0, none⟩) (bs.map bv) :=
  .inr ⟨w.heap.size, 0, rfl, fun j u hj => by rw [cell_of (alloc_at w _), Nat.zero_add, ← Array.getElem?_toList, h]; exact hj⟩
set_option maxRecDepth 100000 in
set_option maxHeartbeats 2000000 in
theorem awake_any (w : World) : Calls Try.prog 9 #[] w fun e w' => e = .returned (.bool true) ∧ Fr [] w w' := by
  have kc := fun (w : World) (C : Array Value) (n c : Nat) => Lib.run_convert_bytes_const (P := Try.prog) w 23 5 C n c Try.underlying23 Try.underlying5
  go_enter Try.func9, Try.ntmps9
  go_upto_region 1 with fail
  go_cut [1, 2] from 9 to 16 (fun s1 s2 wz => ∃ a, s1 = .slice a 15 15 ∧ s2 = .int .i64 0 ∧ Cs wz a (hiBytes.map bv) ∧ Fr [] w wz)
  case first =>
    clear kc
    go_wp2_with (first | (go_at_call 22; refine (text_hi _).mono ?_; rintro e w1 ⟨a, rfl, hcs1, f1⟩) | (go_at_call 23; refine (flush_any _).mono ?_; rintro e w2 ⟨rfl, f2⟩) | (go_at_call 24; refine (delim_any _).mono ?_; rintro e w3 ⟨rfl, f3⟩) | (go_at_call 7; refine (encode_hi w3 a (hcs1.fr (f2.trans f3) (by simp))).mono ?_; rintro e w4 ⟨a4, rfl, hcs4, f4⟩))
    go_meet
    exact ⟨a4, rfl, rfl, hcs4, ((f1.trans f2).trans f3).trans f4⟩
  case rest =>
  obtain ⟨a, rfl, rfl, hcs, f1⟩ := hcut
  go_upto_region 2 with fail
  go_cut [5] from 17 to 23 (fun s5 wz => s5 = .int .i64 3 ∧ Fr [] wc wz)
  case first =>
    have hd := decode_all (some ⟨wc.heap.size, 0, none⟩) 4 [48, 48, 48, 51] _ (by decide) (by decide) (by simp) (cs_const wc #[.int .u8 48, .int .u8 48, .int .u8 48, .int .u8 51] (4, 5) [48, 48, 48, 51] rfl) (by decide)
    unfold Decoded at hd
    rw [show decode [48, 48, 48, 51] = ([], 0, 3) from by decide] at hd
    have f0 : Fr [] wc (wc.alloc (.cells #[.int .u8 48, .int .u8 48, .int .u8 48, .int .u8 51] 5 (4, 5))) := (Fr.refl [] wc).alloc _
    go_wp2_with (go_at_call 8; refine hd.mono ?_; rintro e w1 ⟨a1, ls, rfl, _, hls, f2⟩)
    go_meet
    exact ⟨rfl, f0.trans f2⟩
  case rest =>
  obtain ⟨rfl, f2⟩ := hcut
  have hcs := hcs.fr f2 (by simp)
  have f1 := f1.trans f2
  clear f2
  go_upto_region 3 with fail
  go_cut [6, 7, 8] from 24 to 30 (fun s6 s7 s8 wz => ∃ a1, s6 = .slice a1 0 0 ∧ s7 = .int .i64 0 ∧ s8 = .int .i64 0 ∧ Fr [] wc wz)
  case first =>
    have hd := decode_all (some ⟨wc.heap.size, 0, none⟩) 3 [48, 48, 48] _ (by decide) (by decide) (by simp) (cs_const wc #[.int .u8 48, .int .u8 48, .int .u8 48] (3, 4) [48, 48, 48] rfl) (by decide)
    unfold Decoded at hd
    rw [show decode [48, 48, 48] = ([], 0, 0) from by decide] at hd
    have f0 : Fr [] wc (wc.alloc (.cells #[.int .u8 48, .int .u8 48, .int .u8 48] 5 (3, 4))) := (Fr.refl [] wc).alloc _
    go_wp2_with (go_at_call 8; refine hd.mono ?_; rintro e w1 ⟨a1, ls, rfl, _, hls, f2⟩)
    go_meet
    obtain rfl : ls = [] := by simpa using hls
    exact ⟨a1, rfl, rfl, rfl, f0.trans f2⟩
  case rest =>
  obtain ⟨a1, rfl, rfl, rfl, f2⟩ := hcut
  have hcs := hcs.fr f2 (by simp)
  have f1 := f1.trans f2
  have cv := run_conv wc Try.underlying23 Try.underlying5 Try.underlying9 (n := 15) (bs := hiBytes) rfl hcs
  have hst := str_toList hiBytes
  clear f2 kc
  go_wp2
  go_ret
  exact ⟨by simp [hiBytes], f1⟩
end Go.Proofs.Yteldakjhnifbpaa.pkt
