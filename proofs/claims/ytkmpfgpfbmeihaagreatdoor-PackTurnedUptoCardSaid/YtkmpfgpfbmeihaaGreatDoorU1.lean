/-
  Texts of this proof, one behind the other: Lib, Append, Ops, Ops2, Args, Args2, Bytes, PackLaw, BitsMath, BitList, HuffLaw, HuffN, BitMore.
-/
import Derived.Test.YtkmpfgpfbmeihaaGreatDoorRows
import Derived.WalkKit
import Derived.ProofKit
import Derived.OpenShut
import Derived.BigQuiet
import Derived.Lib.Hide
import Derived.ShutString
import Derived.Maps.AppendAt
import Derived.Deep.RegionLaw
import Derived.SizedLaws
import Derived.Deep.CondSized
import Derived.JoinedCond
import Derived.ChangeOld
set_option maxHeartbeats 16000000
set_option maxRecDepth 100000
set_option linter.unusedVariables false
set_option linter.unusedSimpArgs false
namespace Go.Proofs.YtkmpfgpfbmeihaaGreatDoor
theorem ah {α : Sort _} (a : α) : ∃ x, x = a := ⟨a, rfl⟩
theorem af {p : Prop} (h : p) : Go.RowKit.Hid p := h
theorem ak {p0 p1 : Prop} (h0 : p0) (h1 : p1) : Go.RowKit.Hid (p0 /\ p1) := (⟨h0, h1⟩ : p0 /\ p1)
theorem au {p0 p1 p2 : Prop} (h0 : p0) (h1 : p1) (h2 : p2) : Go.RowKit.Hid (p0 /\ p1 /\ p2) := (⟨h0, h1, h2⟩ : p0 /\ p1 /\ p2)
theorem aF {p0 p1 p2 p3 : Prop} (h0 : p0) (h1 : p1) (h2 : p2) (h3 : p3) : Go.RowKit.Hid (p0 /\ p1 /\ p2 /\ p3) := (⟨h0, h1, h2, h3⟩ : p0 /\ p1 /\ p2 /\ p3)
theorem aP {p0 p1 p2 p3 p4 : Prop} (h0 : p0) (h1 : p1) (h2 : p2) (h3 : p3) (h4 : p4) : Go.RowKit.Hid (p0 /\ p1 /\ p2 /\ p3 /\ p4) := (⟨h0, h1, h2, h3, h4⟩ : p0 /\ p1 /\ p2 /\ p3 /\ p4)
theorem bJ {p0 p1 p2 p3 p4 p5 : Prop} (h0 : p0) (h1 : p1) (h2 : p2) (h3 : p3) (h4 : p4) (h5 : p5) : Go.RowKit.Hid (p0 /\ p1 /\ p2 /\ p3 /\ p4 /\ p5) := (⟨h0, h1, h2, h3, h4, h5⟩ : p0 /\ p1 /\ p2 /\ p3 /\ p4 /\ p5)
theorem cz {p0 p1 p2 p3 p4 p5 p6 : Prop} (h0 : p0) (h1 : p1) (h2 : p2) (h3 : p3) (h4 : p4) (h5 : p5) (h6 : p6) : Go.RowKit.Hid (p0 /\ p1 /\ p2 /\ p3 /\ p4 /\ p5 /\ p6) := (⟨h0, h1, h2, h3, h4, h5, h6⟩ : p0 /\ p1 /\ p2 /\ p3 /\ p4 /\ p5 /\ p6)
theorem lJ {p0 p1 p2 p3 p4 p5 p6 p7 : Prop} (h0 : p0) (h1 : p1) (h2 : p2) (h3 : p3) (h4 : p4) (h5 : p5) (h6 : p6) (h7 : p7) : Go.RowKit.Hid (p0 /\ p1 /\ p2 /\ p3 /\ p4 /\ p5 /\ p6 /\ p7) := (⟨h0, h1, h2, h3, h4, h5, h6, h7⟩ : p0 /\ p1 /\ p2 /\ p3 /\ p4 /\ p5 /\ p6 /\ p7)
theorem oG {p0 p1 p2 p3 p4 p5 p6 p7 p8 : Prop} (h0 : p0) (h1 : p1) (h2 : p2) (h3 : p3) (h4 : p4) (h5 : p5) (h6 : p6) (h7 : p7) (h8 : p8) : Go.RowKit.Hid (p0 /\ p1 /\ p2 /\ p3 /\ p4 /\ p5 /\ p6 /\ p7 /\ p8) := (⟨h0, h1, h2, h3, h4, h5, h6, h7, h8⟩ : p0 /\ p1 /\ p2 /\ p3 /\ p4 /\ p5 /\ p6 /\ p7 /\ p8)
theorem pB {p0 p1 p2 p3 p4 p5 p6 p7 p8 p9 : Prop} (h0 : p0) (h1 : p1) (h2 : p2) (h3 : p3) (h4 : p4) (h5 : p5) (h6 : p6) (h7 : p7) (h8 : p8) (h9 : p9) : Go.RowKit.Hid (p0 /\ p1 /\ p2 /\ p3 /\ p4 /\ p5 /\ p6 /\ p7 /\ p8 /\ p9) := (⟨h0, h1, h2, h3, h4, h5, h6, h7, h8, h9⟩ : p0 /\ p1 /\ p2 /\ p3 /\ p4 /\ p5 /\ p6 /\ p7 /\ p8 /\ p9)
theorem mH {p0 p1 p2 p3 p4 p5 p6 p7 p8 p9 gI : Prop} (h0 : p0) (h1 : p1) (h2 : p2) (h3 : p3) (h4 : p4) (h5 : p5) (h6 : p6) (h7 : p7) (h8 : p8) (h9 : p9) (BQ : gI) : Go.RowKit.Hid (p0 /\ p1 /\ p2 /\ p3 /\ p4 /\ p5 /\ p6 /\ p7 /\ p8 /\ p9 /\ gI) := (⟨h0, h1, h2, h3, h4, h5, h6, h7, h8, h9, BQ⟩ : p0 /\ p1 /\ p2 /\ p3 /\ p4 /\ p5 /\ p6 /\ p7 /\ p8 /\ p9 /\ gI)
theorem rV {p0 p1 p2 p3 p4 p5 p6 p7 p8 p9 gI jk : Prop} (h0 : p0) (h1 : p1) (h2 : p2) (h3 : p3) (h4 : p4) (h5 : p5) (h6 : p6) (h7 : p7) (h8 : p8) (h9 : p9) (BQ : gI) (vT : jk) : Go.RowKit.Hid (p0 /\ p1 /\ p2 /\ p3 /\ p4 /\ p5 /\ p6 /\ p7 /\ p8 /\ p9 /\ gI /\ jk) := (⟨h0, h1, h2, h3, h4, h5, h6, h7, h8, h9, BQ, vT⟩ : p0 /\ p1 /\ p2 /\ p3 /\ p4 /\ p5 /\ p6 /\ p7 /\ p8 /\ p9 /\ gI /\ jk)
theorem ZD {p0 p1 p2 p3 p4 p5 p6 p7 p8 p9 gI jk lb : Prop} (h0 : p0) (h1 : p1) (h2 : p2) (h3 : p3) (h4 : p4) (h5 : p5) (h6 : p6) (h7 : p7) (h8 : p8) (h9 : p9) (BQ : gI) (vT : jk) (BP : lb) : Go.RowKit.Hid (p0 /\ p1 /\ p2 /\ p3 /\ p4 /\ p5 /\ p6 /\ p7 /\ p8 /\ p9 /\ gI /\ jk /\ lb) := (⟨h0, h1, h2, h3, h4, h5, h6, h7, h8, h9, BQ, vT, BP⟩ : p0 /\ p1 /\ p2 /\ p3 /\ p4 /\ p5 /\ p6 /\ p7 /\ p8 /\ p9 /\ gI /\ jk /\ lb)
theorem ZC {p0 p1 p2 p3 p4 p5 p6 p7 p8 p9 gI jk lb oK : Prop} (h0 : p0) (h1 : p1) (h2 : p2) (h3 : p3) (h4 : p4) (h5 : p5) (h6 : p6) (h7 : p7) (h8 : p8) (h9 : p9) (BQ : gI) (vT : jk) (BP : lb) (BO : oK) : Go.RowKit.Hid (p0 /\ p1 /\ p2 /\ p3 /\ p4 /\ p5 /\ p6 /\ p7 /\ p8 /\ p9 /\ gI /\ jk /\ lb /\ oK) := (⟨h0, h1, h2, h3, h4, h5, h6, h7, h8, h9, BQ, vT, BP, BO⟩ : p0 /\ p1 /\ p2 /\ p3 /\ p4 /\ p5 /\ p6 /\ p7 /\ p8 /\ p9 /\ gI /\ jk /\ lb /\ oK)
theorem ZB {p0 p1 p2 p3 p4 p5 p6 p7 p8 p9 gI jk lb oK uC : Prop} (h0 : p0) (h1 : p1) (h2 : p2) (h3 : p3) (h4 : p4) (h5 : p5) (h6 : p6) (h7 : p7) (h8 : p8) (h9 : p9) (BQ : gI) (vT : jk) (BP : lb) (BO : oK) (PI : uC) : Go.RowKit.Hid (p0 /\ p1 /\ p2 /\ p3 /\ p4 /\ p5 /\ p6 /\ p7 /\ p8 /\ p9 /\ gI /\ jk /\ lb /\ oK /\ uC) := (⟨h0, h1, h2, h3, h4, h5, h6, h7, h8, h9, BQ, vT, BP, BO, PI⟩ : p0 /\ p1 /\ p2 /\ p3 /\ p4 /\ p5 /\ p6 /\ p7 /\ p8 /\ p9 /\ gI /\ jk /\ lb /\ oK /\ uC)
theorem ZA {p0 p1 p2 p3 p4 p5 p6 p7 p8 p9 gI jk lb oK uC DM : Prop} (h0 : p0) (h1 : p1) (h2 : p2) (h3 : p3) (h4 : p4) (h5 : p5) (h6 : p6) (h7 : p7) (h8 : p8) (h9 : p9) (BQ : gI) (vT : jk) (BP : lb) (BO : oK) (PI : uC) (sN : DM) : Go.RowKit.Hid (p0 /\ p1 /\ p2 /\ p3 /\ p4 /\ p5 /\ p6 /\ p7 /\ p8 /\ p9 /\ gI /\ jk /\ lb /\ oK /\ uC /\ DM) := (⟨h0, h1, h2, h3, h4, h5, h6, h7, h8, h9, BQ, vT, BP, BO, PI, sN⟩ : p0 /\ p1 /\ p2 /\ p3 /\ p4 /\ p5 /\ p6 /\ p7 /\ p8 /\ p9 /\ gI /\ jk /\ lb /\ oK /\ uC /\ DM)
theorem _root_.Go.RowKit.Hid.o0 {p0 q : Prop} (h : Go.RowKit.Hid (p0 /\ q)) : p0 := h.out.1
theorem _root_.Go.RowKit.Hid.o1 {p0 p1 q : Prop} (h : Go.RowKit.Hid (p0 /\ p1 /\ q)) : p1 := h.out.2.1
theorem _root_.Go.RowKit.Hid.o2 {p0 p1 p2 q : Prop} (h : Go.RowKit.Hid (p0 /\ p1 /\ p2 /\ q)) : p2 := h.out.2.2.1
theorem _root_.Go.RowKit.Hid.o3 {p0 p1 p2 p3 q : Prop} (h : Go.RowKit.Hid (p0 /\ p1 /\ p2 /\ p3 /\ q)) : p3 := h.out.2.2.2.1
theorem _root_.Go.RowKit.Hid.o4 {p0 p1 p2 p3 p4 q : Prop} (h : Go.RowKit.Hid (p0 /\ p1 /\ p2 /\ p3 /\ p4 /\ q)) : p4 := h.out.2.2.2.2.1
theorem _root_.Go.RowKit.Hid.o5 {p0 p1 p2 p3 p4 p5 q : Prop} (h : Go.RowKit.Hid (p0 /\ p1 /\ p2 /\ p3 /\ p4 /\ p5 /\ q)) : p5 := h.out.2.2.2.2.2.1
theorem _root_.Go.RowKit.Hid.o6 {p0 p1 p2 p3 p4 p5 p6 q : Prop} (h : Go.RowKit.Hid (p0 /\ p1 /\ p2 /\ p3 /\ p4 /\ p5 /\ p6 /\ q)) : p6 := h.out.2.2.2.2.2.2.1
theorem _root_.Go.RowKit.Hid.o7 {p0 p1 p2 p3 p4 p5 p6 p7 q : Prop} (h : Go.RowKit.Hid (p0 /\ p1 /\ p2 /\ p3 /\ p4 /\ p5 /\ p6 /\ p7 /\ q)) : p7 := h.out.2.2.2.2.2.2.2.1
theorem _root_.Go.RowKit.Hid.o8 {p0 p1 p2 p3 p4 p5 p6 p7 p8 q : Prop} (h : Go.RowKit.Hid (p0 /\ p1 /\ p2 /\ p3 /\ p4 /\ p5 /\ p6 /\ p7 /\ p8 /\ q)) : p8 := h.out.2.2.2.2.2.2.2.2.1
theorem _root_.Go.RowKit.Hid.o9 {p0 p1 p2 p3 p4 p5 p6 p7 p8 p9 q : Prop} (h : Go.RowKit.Hid (p0 /\ p1 /\ p2 /\ p3 /\ p4 /\ p5 /\ p6 /\ p7 /\ p8 /\ p9 /\ q)) : p9 := h.out.2.2.2.2.2.2.2.2.2.1
theorem _root_.Go.RowKit.Hid.o10 {p0 p1 p2 p3 p4 p5 p6 p7 p8 p9 gI q : Prop} (h : Go.RowKit.Hid (p0 /\ p1 /\ p2 /\ p3 /\ p4 /\ p5 /\ p6 /\ p7 /\ p8 /\ p9 /\ gI /\ q)) : gI := h.out.2.2.2.2.2.2.2.2.2.2.1
theorem _root_.Go.RowKit.Hid.o11 {p0 p1 p2 p3 p4 p5 p6 p7 p8 p9 gI jk q : Prop} (h : Go.RowKit.Hid (p0 /\ p1 /\ p2 /\ p3 /\ p4 /\ p5 /\ p6 /\ p7 /\ p8 /\ p9 /\ gI /\ jk /\ q)) : jk := h.out.2.2.2.2.2.2.2.2.2.2.2.1
theorem _root_.Go.RowKit.Hid.M4 {p0 p1 p2 p3 p4 p5 p6 p7 p8 p9 gI jk lb q : Prop} (h : Go.RowKit.Hid (p0 /\ p1 /\ p2 /\ p3 /\ p4 /\ p5 /\ p6 /\ p7 /\ p8 /\ p9 /\ gI /\ jk /\ lb /\ q)) : lb := h.out.2.2.2.2.2.2.2.2.2.2.2.2.1
theorem _root_.Go.RowKit.Hid.o13 {p0 p1 p2 p3 p4 p5 p6 p7 p8 p9 gI jk lb oK q : Prop} (h : Go.RowKit.Hid (p0 /\ p1 /\ p2 /\ p3 /\ p4 /\ p5 /\ p6 /\ p7 /\ p8 /\ p9 /\ gI /\ jk /\ lb /\ oK /\ q)) : oK := h.out.2.2.2.2.2.2.2.2.2.2.2.2.2.1
theorem _root_.Go.RowKit.Hid.o14 {p0 p1 p2 p3 p4 p5 p6 p7 p8 p9 gI jk lb oK uC q : Prop} (h : Go.RowKit.Hid (p0 /\ p1 /\ p2 /\ p3 /\ p4 /\ p5 /\ p6 /\ p7 /\ p8 /\ p9 /\ gI /\ jk /\ lb /\ oK /\ uC /\ q)) : uC := h.out.2.2.2.2.2.2.2.2.2.2.2.2.2.2.1
theorem _root_.Go.RowKit.Hid.M3 {p0 p1 p2 p3 p4 p5 p6 p7 p8 p9 gI jk lb oK uC DM q : Prop} (h : Go.RowKit.Hid (p0 /\ p1 /\ p2 /\ p3 /\ p4 /\ p5 /\ p6 /\ p7 /\ p8 /\ p9 /\ gI /\ jk /\ lb /\ oK /\ uC /\ DM /\ q)) : DM := h.out.2.2.2.2.2.2.2.2.2.2.2.2.2.2.2.1
theorem _root_.Go.RowKit.Hid.l1 {p0 p1 : Prop} (h : Go.RowKit.Hid (p0 /\ p1)) : p1 := h.out.2
theorem _root_.Go.RowKit.Hid.l2 {p0 p1 p2 : Prop} (h : Go.RowKit.Hid (p0 /\ p1 /\ p2)) : p2 := h.out.2.2
theorem _root_.Go.RowKit.Hid.l3 {p0 p1 p2 p3 : Prop} (h : Go.RowKit.Hid (p0 /\ p1 /\ p2 /\ p3)) : p3 := h.out.2.2.2
theorem _root_.Go.RowKit.Hid.l4 {p0 p1 p2 p3 p4 : Prop} (h : Go.RowKit.Hid (p0 /\ p1 /\ p2 /\ p3 /\ p4)) : p4 := h.out.2.2.2.2
theorem _root_.Go.RowKit.Hid.l5 {p0 p1 p2 p3 p4 p5 : Prop} (h : Go.RowKit.Hid (p0 /\ p1 /\ p2 /\ p3 /\ p4 /\ p5)) : p5 := h.out.2.2.2.2.2
theorem _root_.Go.RowKit.Hid.l6 {p0 p1 p2 p3 p4 p5 p6 : Prop} (h : Go.RowKit.Hid (p0 /\ p1 /\ p2 /\ p3 /\ p4 /\ p5 /\ p6)) : p6 := h.out.2.2.2.2.2.2
theorem _root_.Go.RowKit.Hid.l7 {p0 p1 p2 p3 p4 p5 p6 p7 : Prop} (h : Go.RowKit.Hid (p0 /\ p1 /\ p2 /\ p3 /\ p4 /\ p5 /\ p6 /\ p7)) : p7 := h.out.2.2.2.2.2.2.2
theorem _root_.Go.RowKit.Hid.l8 {p0 p1 p2 p3 p4 p5 p6 p7 p8 : Prop} (h : Go.RowKit.Hid (p0 /\ p1 /\ p2 /\ p3 /\ p4 /\ p5 /\ p6 /\ p7 /\ p8)) : p8 := h.out.2.2.2.2.2.2.2.2
theorem _root_.Go.RowKit.Hid.l9 {p0 p1 p2 p3 p4 p5 p6 p7 p8 p9 : Prop} (h : Go.RowKit.Hid (p0 /\ p1 /\ p2 /\ p3 /\ p4 /\ p5 /\ p6 /\ p7 /\ p8 /\ p9)) : p9 := h.out.2.2.2.2.2.2.2.2.2
theorem _root_.Go.RowKit.Hid.l10 {p0 p1 p2 p3 p4 p5 p6 p7 p8 p9 gI : Prop} (h : Go.RowKit.Hid (p0 /\ p1 /\ p2 /\ p3 /\ p4 /\ p5 /\ p6 /\ p7 /\ p8 /\ p9 /\ gI)) : gI := h.out.2.2.2.2.2.2.2.2.2.2
theorem _root_.Go.RowKit.Hid.l11 {p0 p1 p2 p3 p4 p5 p6 p7 p8 p9 gI jk : Prop} (h : Go.RowKit.Hid (p0 /\ p1 /\ p2 /\ p3 /\ p4 /\ p5 /\ p6 /\ p7 /\ p8 /\ p9 /\ gI /\ jk)) : jk := h.out.2.2.2.2.2.2.2.2.2.2.2
theorem _root_.Go.RowKit.Hid.l12 {p0 p1 p2 p3 p4 p5 p6 p7 p8 p9 gI jk lb : Prop} (h : Go.RowKit.Hid (p0 /\ p1 /\ p2 /\ p3 /\ p4 /\ p5 /\ p6 /\ p7 /\ p8 /\ p9 /\ gI /\ jk /\ lb)) : lb := h.out.2.2.2.2.2.2.2.2.2.2.2.2
theorem _root_.Go.RowKit.Hid.l13 {p0 p1 p2 p3 p4 p5 p6 p7 p8 p9 gI jk lb oK : Prop} (h : Go.RowKit.Hid (p0 /\ p1 /\ p2 /\ p3 /\ p4 /\ p5 /\ p6 /\ p7 /\ p8 /\ p9 /\ gI /\ jk /\ lb /\ oK)) : oK := h.out.2.2.2.2.2.2.2.2.2.2.2.2.2
theorem _root_.Go.RowKit.Hid.l14 {p0 p1 p2 p3 p4 p5 p6 p7 p8 p9 gI jk lb oK uC : Prop} (h : Go.RowKit.Hid (p0 /\ p1 /\ p2 /\ p3 /\ p4 /\ p5 /\ p6 /\ p7 /\ p8 /\ p9 /\ gI /\ jk /\ lb /\ oK /\ uC)) : uC := h.out.2.2.2.2.2.2.2.2.2.2.2.2.2.2
theorem _root_.Go.RowKit.Hid.l15 {p0 p1 p2 p3 p4 p5 p6 p7 p8 p9 gI jk lb oK uC DM : Prop} (h : Go.RowKit.Hid (p0 /\ p1 /\ p2 /\ p3 /\ p4 /\ p5 /\ p6 /\ p7 /\ p8 /\ p9 /\ gI /\ jk /\ lb /\ oK /\ uC /\ DM)) : DM := h.out.2.2.2.2.2.2.2.2.2.2.2.2.2.2.2
theorem aZ:type_of% @Array.getElem?_setIfInBounds_ne:=@Array.getElem?_setIfInBounds_ne
theorem xH:type_of% @List.drop_succ_cons:=@List.drop_succ_cons
theorem aV:type_of% @List.getElem?_cons_zero:=@List.getElem?_cons_zero
theorem qY:type_of% @List.take_succ_cons:=@List.take_succ_cons
theorem aK:type_of% @List.length_append:=@List.length_append
theorem aw:type_of% @Nat.le_refl:=@Nat.le_refl
theorem yU:type_of% @List.drop_zero:=@List.drop_zero
theorem gW:type_of% @List.map_cons:=@List.map_cons
theorem bO:type_of% @List.getElem?_eq_getElem:=@List.getElem?_eq_getElem
theorem bw:type_of% @List.getElem?_toArray:=@List.getElem?_toArray
theorem bN:type_of% @List.getElem?_cons_succ:=@List.getElem?_cons_succ
theorem oJ:type_of% @List.map_nil:=@List.map_nil
theorem DK:type_of% @List.take_zero:=@List.take_zero
theorem iu:type_of% @Array.getElem?_setIfInBounds_self_of_lt:=@Array.getElem?_setIfInBounds_self_of_lt
theorem cQ:type_of% @List.length_cons:=@List.length_cons
theorem cN:type_of% @List.length_map:=@List.length_map
theorem bS:type_of% @Nat.le_trans:=@Nat.le_trans
theorem eT:type_of% @Nat.lt_of_lt_of_le:=@Nat.lt_of_lt_of_le
theorem yT:type_of% @List.getD_cons_zero:=@List.getD_cons_zero
theorem yS:type_of% @List.getD_cons_succ:=@List.getD_cons_succ
theorem eS:type_of% @Option.some.injEq:=@Option.some.injEq
theorem eJ:type_of% @List.length_take:=@List.length_take
theorem eQ:type_of% @List.length_drop:=@List.length_drop
theorem eZ:type_of% @Go.World.size_alloc:=@Go.World.size_alloc
theorem iC:type_of% @List.mem_of_getElem?:=@List.mem_of_getElem?
theorem lA:type_of% @List.getElem?_eq_some_iff:=@List.getElem?_eq_some_iff
theorem gH:type_of% @List.append_assoc:=@List.append_assoc
theorem mC:type_of% @List.setIfInBounds_toArray:=@List.setIfInBounds_toArray
theorem iQ:type_of% @List.mem_singleton:=@List.mem_singleton
theorem kr:type_of% @Nat.pow_le_pow_right:=@Nat.pow_le_pow_right
theorem gB:type_of% @List.map_append:=@List.map_append
theorem gA:type_of% @Except.ok.injEq:=@Except.ok.injEq
theorem fj:type_of% @Prod.mk.injEq:=@Prod.mk.injEq
theorem dZ:type_of% @Nat.zero_le:=@Nat.zero_le
theorem j5:type_of% @List.getElem?_map:=@List.getElem?_map
theorem gw:type_of% @List.mem_cons:=@List.mem_cons
theorem fM:type_of% @Nat.zero_add:=@Nat.zero_add
theorem iB:type_of% @UInt8.toNat_lt:=@UInt8.toNat_lt
theorem jy:type_of% @List.mem_append:=@List.mem_append
theorem R2:type_of% @List.drop_nil:=@List.drop_nil
theorem oI:type_of% @List.take_of_length_le:=@List.take_of_length_le
theorem mB:type_of% @List.set_cons_zero:=@List.set_cons_zero
theorem qX:type_of% @Array.size_setIfInBounds:=@Array.size_setIfInBounds
theorem lN:type_of% @Go.Value.slice.injEq:=@Go.Value.slice.injEq
theorem nC:type_of% @List.set_cons_succ:=@List.set_cons_succ
theorem lM:type_of% @Bool.and_eq_true:=@Bool.and_eq_true
theorem qW:type_of% @Array.getElem?_toList:=@Array.getElem?_toList
theorem lL:type_of% @Option.some.inj:=@Option.some.inj
theorem lK:type_of% @List.length_nil:=@List.length_nil
theorem wk:type_of% @List.eq_nil_of_length_eq_zero:=@List.eq_nil_of_length_eq_zero
theorem oY:type_of% @List.getElem?_take:=@List.getElem?_take
theorem jS:type_of% @Nat.add_zero:=@Nat.add_zero
theorem jR:type_of% @List.mem_map:=@List.mem_map
theorem oh:type_of% @Go.IntKind.wrap_i64:=@Go.IntKind.wrap_i64
theorem nF:type_of% @List.append_nil:=@List.append_nil
theorem oZ:type_of% @Nat.two_pow_pos:=@Nat.two_pow_pos
theorem xG:type_of% @Array.getElem?_eq_getElem:=@Array.getElem?_eq_getElem
theorem uz:type_of% @Nat.mul_le_mul_right:=@Nat.mul_le_mul_right
theorem tV:type_of% @List.pairwise_cons:=@List.pairwise_cons
theorem wg:type_of% @List.getElem?_eq_none:=@List.getElem?_eq_none
theorem ux:type_of% @Go.Calls.quiet_of_same:=@Go.Calls.quiet_of_same
theorem nE:type_of% @Nat.mul_comm:=@Nat.mul_comm
theorem og:type_of% @Nat.lt_or_ge:=@Nat.lt_or_ge
theorem nA:type_of% @Nat.pow_add:=@Nat.pow_add
theorem xF:type_of% @List.mem_of_mem_take:=@List.mem_of_mem_take
theorem DJ:type_of% @List.take_succ_eq_append_getElem:=@List.take_succ_eq_append_getElem
theorem xE:type_of% @Go.World.ownsRow.cellAt:=@Go.World.ownsRow.cellAt
theorem yR:type_of% @List.length_singleton:=@List.length_singleton
theorem AF:type_of% @List.drop_eq_getElem_cons:=@List.drop_eq_getElem_cons
theorem qU:type_of% @Go.Addr.mk.injEq:=@Go.Addr.mk.injEq
theorem tU:type_of% @Nat.min_eq_left:=@Nat.min_eq_left
theorem pK:type_of% @Nat.pow_succ:=@Nat.pow_succ
theorem vJ:type_of% @List.getElem_mem:=@List.getElem_mem
theorem v8:type_of% @Go.World.ownsRow_nil:=@Go.World.ownsRow_nil
theorem yQ:type_of% @List.mem_map_of_mem:=@List.mem_map_of_mem
theorem CJ:type_of% @List.getElem?_append_left:=@List.getElem?_append_left
theorem v7:type_of% @List.not_mem_nil:=@List.not_mem_nil
theorem vI:type_of% @List.nil_append:=@List.nil_append
theorem qV:type_of% @Nat.mul_one:=@Nat.mul_one
theorem jg:type_of% @Ne.symm:=@Ne.symm
theorem rC:type_of% @Nat.add_mul:=@Nat.add_mul
theorem CK:type_of% @List.drop_eq_nil_of_le:=@List.drop_eq_nil_of_le
theorem uy:type_of% @Nat.add_assoc:=@Nat.add_assoc
theorem vH:type_of% @Nat.mul_assoc:=@Nat.mul_assoc
theorem zG:type_of% @List.take_add_one:=@List.take_add_one
theorem FE:type_of% @Array.getElem?_eq_some_iff:=@Array.getElem?_eq_some_iff
theorem AA:type_of% @UInt8.toNat_ofNat':=@UInt8.toNat_ofNat'
theorem Az:type_of% @Nat.lt_of_le_of_lt:=@Nat.lt_of_le_of_lt
theorem FD:type_of% @List.pairwise_iff_getElem:=@List.pairwise_iff_getElem
theorem xD:type_of% @List.mem_range:=@List.mem_range
theorem CF:type_of% @Go.Region.noSelect_spec:=@Go.Region.noSelect_spec
theorem CD:type_of% @List.map_congr_left:=@List.map_congr_left
theorem DG:type_of% @List.mem_iff_getElem?:=@List.mem_iff_getElem?
theorem Aw:type_of% @List.length_range:=@List.length_range
theorem DF:type_of% @List.length_filter_le:=@List.length_filter_le
theorem Av:type_of% @List.flatMap_cons:=@List.flatMap_cons
theorem CI:type_of% @Nat.add_sub_cancel:=@Nat.add_sub_cancel
theorem CH:type_of% @List.getElem?_drop:=@List.getElem?_drop
theorem CG:type_of% @List.filter_append:=@List.filter_append
theorem FF:type_of% @Int.eq_ofNat_of_zero_le:=@Int.eq_ofNat_of_zero_le
theorem DH:type_of% @List.mem_cons_of_mem:=@List.mem_cons_of_mem
theorem Aq:type_of% @Nat.mod_eq_of_lt:=@Nat.mod_eq_of_lt
theorem Ie:type_of% @List.getElem?_append_right:=@List.getElem?_append_right
theorem Cy:type_of% @Int.toNat_natCast:=@Int.toNat_natCast
theorem Fz:type_of% @List.take_append_drop:=@List.take_append_drop
theorem xC:type_of% @List.map_map:=@List.map_map
theorem Ao:type_of% @Int.natCast_pow:=@Int.natCast_pow
theorem Fv:type_of% @List.pairwise_append:=@List.pairwise_append
theorem Fu:type_of% @List.mem_append_left:=@List.mem_append_left
theorem CB:type_of% @Go.Region.free_spec:=@Go.Region.free_spec
theorem CA:type_of% @Option.map_some:=@Option.map_some
theorem Cz:type_of% @Int.natCast_mul:=@Int.natCast_mul
theorem FB:type_of% @Array.length_toList:=@Array.length_toList
theorem KG:type_of% @Nat.mod_two_eq_zero_or_one:=@Nat.mod_two_eq_zero_or_one
theorem vZ:type_of% @Nat.mod_lt:=@Nat.mod_lt
theorem Hz:type_of% @Nat.div_lt_iff_lt_mul:=@Nat.div_lt_iff_lt_mul
theorem Hy:type_of% @List.length_replicate:=@List.length_replicate
theorem Fq:type_of% @Bool.false_eq_true:=@Bool.false_eq_true
theorem Hx:type_of% @List.replicate_succ':=@List.replicate_succ'
theorem Fp:type_of% @List.cons_eq_cons:=@List.cons_eq_cons
theorem Ft:type_of% @Int.emod_add_emod:=@Int.emod_add_emod
theorem Fs:type_of% @Int.add_emod_emod:=@Int.add_emod_emod
theorem MG:type_of% @Nat.and_two_pow_sub_one_eq_mod:=@Nat.and_two_pow_sub_one_eq_mod
theorem Hu:type_of% @List.flatMap_append:=@List.flatMap_append
theorem Ht:type_of% @Int.toNat_of_nonneg:=@Int.toNat_of_nonneg
theorem Fg:type_of% @Nat.div_eq_of_lt:=@Nat.div_eq_of_lt
theorem MF:type_of% @List.drop_append_of_le_length:=@List.drop_append_of_le_length
theorem Hw:type_of% @List.mem_cons_self:=@List.mem_cons_self
theorem KC:type_of% @Go.World.block_lt_of_cell?:=@Go.World.block_lt_of_cell?
theorem Cq:type_of% @Nat.sub_zero:=@Nat.sub_zero
theorem Ah:type_of% @Nat.mul_add:=@Nat.mul_add
theorem KA:type_of% @List.mem_append_right:=@List.mem_append_right
theorem Dr:type_of% @List.sum_cons:=@List.sum_cons
theorem He:type_of% @List.pairwise_map:=@List.pairwise_map
theorem Hc:type_of% @List.count_append:=@List.count_append
theorem G9:type_of% @List.take_length:=@List.take_length
theorem G8:type_of% @List.filter_cons:=@List.filter_cons
theorem G7:type_of% @List.cons_append:=@List.cons_append
theorem G6:type_of% @Int.natCast_ediv:=@Int.natCast_ediv
theorem Ha:type_of% @Go.Result.andThen_ok:=@Go.Result.andThen_ok
theorem Kw:type_of% @List.length_reverse:=@List.length_reverse
theorem Kv:type_of% @List.length_pos_iff:=@List.length_pos_iff
theorem Ko:type_of% @List.mem_replicate:=@List.mem_replicate
theorem G5:type_of% @List.mem_filter:=@List.mem_filter
theorem E7:type_of% @List.map_take:=@List.map_take
theorem Dm:type_of% @Go.Sem.run_bind:=@Go.Sem.run_bind
theorem Ma:type_of% @Nat.div_div_eq_div_mul:=@Nat.div_div_eq_div_mul
theorem E6:type_of% @Nat.dvd_refl:=@Nat.dvd_refl
theorem QQ:type_of% @List.take_append_of_le_length:=@List.take_append_of_le_length
theorem Kk:type_of% @List.all_eq_true:=@List.all_eq_true
theorem LY:type_of% @Nat.add_mul_div_left:=@Nat.add_mul_div_left
theorem LX:type_of% @List.count_le_length:=@List.count_le_length
theorem G1:type_of% @List.map_drop:=@List.map_drop
theorem Kh:type_of% @UInt8.toNat_inj:=@UInt8.toNat_inj
theorem LW:type_of% @Nat.mul_le_mul_left:=@Nat.mul_le_mul_left
theorem E5:type_of% @Nat.dvd_add:=@Nat.dvd_add
theorem Kg:type_of% @List.range_succ:=@List.range_succ
theorem Kf:type_of% @List.length_set:=@List.length_set
theorem Ke:type_of% @List.foldl_cons:=@List.foldl_cons
theorem Kd:type_of% @List.find?_cons:=@List.find?_cons
theorem LV:type_of% @Array.getElem?_push:=@Array.getElem?_push
theorem G0:type_of% @Nat.add_comm:=@Nat.add_comm
theorem J9:type_of% @Nat.mul_le_mul:=@Nat.mul_le_mul
theorem J8:type_of% @List.drop_drop:=@List.drop_drop
theorem J7:type_of% @Bool.false_and:=@Bool.false_and
theorem aU:(type_of% @qY.{0})/\(type_of% @DK.{0})/\(type_of% @xH.{0})/\(type_of% @yU.{0})/\(type_of% @gW.{0,0})/\(type_of% @oJ.{0,0}):=⟨@qY.{0},@DK.{0},@xH.{0},@yU.{0},@gW.{0,0},@oJ.{0,0}⟩
theorem iw:(type_of% @gW.{0,0})/\(type_of% @oJ.{0,0})/\(type_of% @yT.{0})/\(type_of% @yS.{0})/\(type_of% @xH.{0})/\(type_of% @yU.{0})/\(type_of% @R2.{0}):=⟨@gW.{0,0},@oJ.{0,0},@yT.{0},@yS.{0},@xH.{0},@yU.{0},@R2.{0}⟩
theorem uj:(type_of% @qY.{0})/\(type_of% @DK.{0})/\(type_of% @xH.{0})/\(type_of% @yU.{0}):=⟨@qY.{0},@DK.{0},@xH.{0},@yU.{0}⟩
namespace lib
open Go Go.RowKit
structure Fr (S:List Nat) (w w':World):Prop where
 os:w'.os=w.os
 tape:w'.tape=w.tape
 output:w'.output=w.output
 size:w.heap.size<=w'.heap.size
 block:∀k,k<w.heap.size->k∉S->w'.heap[k]?=w.heap[k]?
theorem Fr.refl (S:List Nat) (w:World):Fr S w w:=⟨rfl,rfl,rfl,aw _,λ_ _ _=>rfl⟩
theorem Fr.drewN (S:List Nat) (w:World) (n:Nat):Fr S w (w.drewN n):=⟨rfl,rfl,rfl,aw _,λ_ _ _=>rfl⟩
theorem Fr.av (S:List Nat) (w:World):Fr S w w.drew:=⟨rfl,rfl,rfl,aw _,λ_ _ _=>rfl⟩
theorem Fr.step {S T:List Nat} {a b c:World} (h:Fr S a b) (k:Fr T b c) (hT:∀x∈T,x∈S\/a.heap.size<=x):Fr S a c:=
 ⟨k.os.trans h.os,k.tape.trans h.tape,k.output.trans h.output,bS h.size k.size,λi hi hn=>by
  rw[k.block i (eT hi h.size) (λhx=>by rcases hT i hx with h1|h1;exact hn h1;omega),h.block i hi hn]⟩
theorem Fr.trans {S:List Nat} {a b c:World} (h:Fr S a b) (k:Fr S b c):Fr S a c:=h.step k λ_ hx=>.inl hx
theorem Fr.mono {S T:List Nat} {w w':World} (h:Fr S w w') (hT:∀x∈S,x∈T\/w.heap.size<=x):Fr T w w':=
 (Fr.refl T w).step h hT
theorem Fr.alloc {S:List Nat} {a w:World} (h:Fr S a w) (o:Obj):Fr S a (w.alloc o):=
 h.step (T:=[]) ⟨rfl,rfl,rfl,by simp,λk hk _=>Below.heap_alloc _ _ _ (by omega)⟩ (by simp)
theorem Fr.drew {S:List Nat} {a w:World} (h:Fr S a w):Fr S a w.drew:=h.step (Fr.av [] w) (by simp)
theorem Fr.nQ {S:List Nat} {a w:World} (h:Fr S a w) (n:Nat):Fr S a (w.drewN n):=h.step (Fr.drewN [] w n) (by simp)
theorem Fr.setCell {S:List Nat} {a w:World} (h:Fr S a w) {p:Addr} (hp:p.block∈S\/a.heap.size<=p.block) (u:Value):Fr S a (w.setCell p u):=
 h.step (T:=[p.block]) ⟨rfl,rfl,rfl,by simp[World.setCell],λk hk hn=>Below.heap_setCell _ _ _ _ (by simpa using hn)⟩ (by simpa using hp)
theorem Fr.grown {S:List Nat} {a w w':World} {row:Option Nat} (h:Fr S a w) (hg:w.grownBy w' row) (hr:∀k,row=some k->k∈S\/a.heap.size<=k):Fr S a w':=
 h.step (T:=row.toList) ⟨hg.os,hg.tape,hg.output,hg.size,λk hk hn=>hg.block k hk (λe=>hn (by simp[<-e]))⟩ (λx hx=>hr x (by simpa using hx))
theorem Fr.below {S:List Nat} {w w':World} {B:Nat} (h:Fr S w w') (hS:∀x∈S,B<=x) (hB:B<=w.heap.size):Below B w w':=
 ⟨h.os,h.tape,h.output,h.size,λk hk=>h.block k (by omega) (λhx=>by have:=hS k hx;omega)⟩
theorem qni {w w':World} (h:Fr [] w w'):Below w.heap.size w w':=h.below (by simp) (aw _)
theorem Fr.ae {S:List Nat} {w w':World} (h:Fr S w w') {k:Nat} {o:Obj} (hk:w.heap[k]?=some o) (hn:k∉S):w'.heap[k]?=some o:=by rw[h.block k (lt_of_block hk) hn,hk]
theorem Fr.cell {S:List Nat} {w w':World} (h:Fr S w w') {a:Addr} {v:Value} (hc:w.cell? a=some v) (hn:a.block∉S):w'.cell? a=some v:=by rw[World.cell?_of_block (w:=w) (h.block a.block (KC w a hc) hn),hc]
theorem cell_of {w:World} {b:Nat} {c:Array Value} {t:TypeId} {f:Nat×Nat} (h:w.heap[b]?=some (.cells c t f)) (o:Nat):w.cell? ⟨b,o,none⟩=c[o]?:=by simp[World.cell?,h]
theorem aO {w:World} {b:Nat} {c:Array Value} {t:TypeId} (h:w.heap[b]?=some (.cells c t (0,0))) (o:Nat):w.frozen? ⟨b,o,none⟩=false:=by simp[World.frozen?,h]
theorem aX {w:World} {b o:Nat} {c:Array Value} {t:TypeId} {f:Nat×Nat} (h:w.heap[b]?=some (.cells c t f)) (v:Value) :
  (w.setCell ⟨b,o,none⟩ v).heap[b]?=some (.cells (c.setIfInBounds o v) t f):=by
 have aY:=lt_of_block h;have h':w.heap[b] = .cells c t f:=by simpa[xG aY] using h
 show (w.heap.modify b _)[b]?=_;rw[xG (by simpa using aY),Array.getElem_modify_self,h'];rfl
theorem RY {w:World} {b b' o:Nat} (bR:b'≠b) (v:Value):(w.setCell ⟨b,o,none⟩ v).heap[b']?=w.heap[b']?:=
 Below.heap_setCell w ⟨b,o,none⟩ v b' bR
theorem bx (w:World) (o:Obj):(w.alloc o).heap[w.heap.size]?=some o:=heap_alloc_new w o
theorem pJ {w:World} {b:Nat} {x:Obj} (o:Obj) (h:w.heap[b]?=some x):(w.alloc o).heap[b]?=some x:=by rw[Below.heap_alloc w o b (lt_of_block h),h]
def ae:Option Addr->List Nat
 | some a=>[a.block]
 | none=>[]
def Cs (w:World) (ao:Option Addr) (vs:List Value):Prop:=
 vs=[]\/∃g o,ao=some ⟨g,o,none⟩/\∀j v,vs[j]?=some v->w.cell? ⟨g,o+j,none⟩=some v
theorem Cs.nil (w:World) (ao:Option Addr):Cs w ao []:=.inl rfl
theorem Cs.at {w:World} {ao:Option Addr} {vs:List Value} (h:Cs w ao vs) (bR:0<vs.length):∃g o,ao=some ⟨g,o,none⟩/\∀j v,vs[j]?=some v->w.cell? ⟨g,o+j,none⟩=some v:=by
 rcases h with rfl|h
 ·simp at bR
 ·exact h
theorem Cs.keep {w w':World} {ao:Option Addr} {vs:List Value} (h:Cs w ao vs) (hk:∀a,ao=some a->w'.heap[a.block]?=w.heap[a.block]?):Cs w' ao vs:=by
 rcases h with h|⟨g,o,rfl,h⟩
 ·exact .inl h
 ·refine .inr ⟨g,o,rfl,λj v hv=>?_⟩;rw[World.cell?_of_block (w:=w) (a:=⟨g,o+j,none⟩) (hk ⟨g,o,none⟩ rfl),h j v hv]
theorem Cs.lt {w:World} {ao:Option Addr} {vs:List Value} (h:Cs w ao vs) (bR:vs≠[]):∀a,ao=some a->a.block<w.heap.size:=by
 rcases h with h|⟨g,o,rfl,h⟩
 ·exact absurd h bR
 ·intro a ha;obtain rfl:=lL ha;cases vs with
  | nil=>exact absurd rfl bR
  | cons v vs=>exact KC w _ (h 0 v rfl)
theorem Cs.fr {S:List Nat} {w w':World} {ao:Option Addr} {vs:List Value} (h:Cs w ao vs) (hf:Fr S w w') (hn:∀x∈ae ao,x∉S):Cs w' ao vs:=by
 by_cases bR:vs=[]
 ·exact .inl bR
 ·exact h.keep λa ha=>hf.block a.block (h.lt bR a ha) (hn _ (by simp[ha,ae]))
theorem Cs.below {B:Nat} {w w':World} {ao:Option Addr} {vs:List Value} (h:Cs w ao vs) (hf:Below B w w') (hn:∀x∈ae ao,x<B):Cs w' ao vs:=by refine h.keep λa ha=>hf.block a.block (hn _ (by simp[ha,ae]))
theorem Cs.Cc {w w':World} {ao:Option Addr} {vs:List Value} (h:Cs w ao vs) (hf:Below w.heap.size w w'):Cs w' ao vs:=by
 by_cases bR:vs=[]
 ·exact .inl bR
 ·exact h.keep λa ha=>hf.block a.block (h.lt bR a ha)
theorem Cx {w:World} {base:Nat} {e:TypeId} {n:Nat} {xs:List Value} {ao:Option Addr} {len cap:Nat} (h:w.ownsRow base e 1 (.slice ao len cap) n xs):Cs w ao xs:=by
 rcases h.2 with⟨h1,h2⟩|⟨g,aQ,cur,h1,hb,hg,hn,hm,hs,ht⟩
 ·left;have:=h.1;rw[h2]at this;exact wk (by simpa using this)
 ·simp only[lN]at h1;obtain⟨rfl,rfl,rfl⟩:=h1;refine .inr ⟨g,0,rfl,λj v hv=>?_⟩;rw[cell_of hg,fM];rw[<-ht,oY]at hv;split at hv
  ·simpa using hv
  ·cases hv
theorem qn1 {w:World} {base:Nat} {e:TypeId} {size:Nat} {v:Value} {n:Nat} {xs:List Value} (h:w.ownsRow base e size v n xs) :
  ∃ao cap,v = .slice ao n cap/\n<=cap/\cap<=maxLen:=by
 rcases h.2 with⟨rfl,rfl⟩|⟨g,cap,cur,rfl,hb,hg,hn,hm,hs,ht⟩
 ·exact⟨none,0,rfl,aw _,dZ _⟩
 ·exact⟨_,cap,rfl,hn,hm⟩
theorem Hv {w:World} {base:Nat} {e:TypeId} {size:Nat} {v:Value} {n:Nat} {xs:List Value} (h:w.ownsRow base e size v n xs) :
  ∃ao cap,v = .slice ao n cap/\n<=cap/\cap<=maxLen/\(ao=none->cap=0):=by
 rcases h.2 with⟨rfl,rfl⟩|⟨g,cap,cur,rfl,hb,hg,hn,hm,hs,ht⟩
 ·exact⟨none,0,rfl,aw _,dZ _,λ_=>rfl⟩
 ·exact⟨_,cap,rfl,hn,hm,λh=>by cases h⟩
theorem dr {S:List Nat} {w w':World} {base:Nat} {e:TypeId} {size:Nat} {v:Value} {n:Nat} {xs:List Value} (h:w.ownsRow base e size v n xs) (hf:Fr S w w') (hn:∀k,v.ownBlock=some k->k∉S):w'.ownsRow base e size v n xs:=by
 obtain⟨h1,h2⟩:=h;refine⟨h1,?_⟩;rcases h2 with h2|⟨g,cap,cur,rfl,hb,hg,r⟩
 ·exact .inl h2
 ·exact .inr ⟨g,cap,cur,rfl,hb,hf.ae hg (hn g rfl),r⟩
def bv (b:UInt8):Value:=.int .u8 b.toNat
theorem ZZ {u v:Value} (h:u=v):Ending.returned u=Ending.returned v:=by rw[h]
theorem int_eq {k:IntKind} {a b:Int} (h:a=b):Value.int k a=Value.int k b:=by rw[h]
theorem zej {a b:Bool} (h:a=b):Value.bool a=Value.bool b:=by rw[h]
theorem dw (ao:Option Addr) (n cap:Nat):(Value.slice ao n cap).ownBlock.toList=ae ao:=by cases ao<;>rfl
theorem pI {ao:Option Addr} {n cap:Nat} {x:Nat} (h:x∈ae ao):(Value.slice ao n cap).ownBlock=some x:=by
 cases ao with
 | none=>simp[ae]at h
 | some a=>simp[ae]at h;simp[Value.ownBlock,h]
theorem qR {w:World} {base:Nat} {e:TypeId} {size:Nat} {v:Value} {n:Nat} {xs:List Value} (h:w.ownsRow base e size v n xs) {k:Nat} (hk:v.ownBlock=some k):k<w.heap.size:=(h.lt k hk).2
def jx (w:World) (B:Nat) (e:TypeId) (ao:Option Addr) (xs:List Value):Prop:=
 xs=[]\/∃g cur,ao=some ⟨g,0,none⟩/\B<=g/\w.heap[g]?=some (.cells cur e (0,0))/\cur.toList.take xs.length=xs
theorem jx.cs {w:World} {B:Nat} {e:TypeId} {ao:Option Addr} {xs:List Value} (h:jx w B e ao xs):Cs w ao xs:=by
 rcases h with h|⟨g,cur,rfl,hB,hg,ht⟩
 ·exact .inl h
 ·refine .inr ⟨g,0,rfl,λj v hv=>?_⟩;rw[fM,cell_of hg];rw[<-ht,oY]at hv;split at hv
  ·simpa using hv
  ·cases hv
theorem jx.mono {w:World} {B B':Nat} {e:TypeId} {ao:Option Addr} {xs:List Value} (h:jx w B e ao xs) (hB:B'<=B):jx w B' e ao xs:=by
 rcases h with h|⟨g,cur,rfl,hg,r⟩
 ·exact .inl h
 ·exact .inr ⟨g,cur,rfl,bS hB hg,r⟩
theorem jx.fr {S:List Nat} {w w':World} {B:Nat} {e:TypeId} {ao:Option Addr} {xs:List Value} (h:jx w B e ao xs) (hf:Fr S w w') (hn:∀a,ao=some a->a.block∉S):jx w' B e ao xs:=by
 rcases h with h|⟨g,cur,rfl,hB,hg,ht⟩
 ·exact .inl h
 ·exact .inr ⟨g,cur,rfl,hB,hf.ae hg (hn _ rfl),ht⟩
theorem qpg {w:World} {base B:Nat} {e:TypeId} {n len cap:Nat} {xs:List Value} {ao:Option Addr} (h:w.ownsRow base e 1 (.slice ao len cap) n xs) (hB:∀k,(Value.slice ao len cap).ownBlock=some k->B<=k):jx w B e ao xs:=by
 obtain⟨h1,h2⟩:=h;rcases h2 with⟨h2,rfl⟩|⟨g,aQ,cur,h2,hb,hg,hn,hm,hs,ht⟩
 ·exact .inl (wk (by simpa using h1))
 ·simp only[lN]at h2;obtain⟨rfl,rfl,rfl⟩:=h2;exact .inr ⟨g,cur,rfl,hB g rfl,hg,by rw[h1];exact ht⟩
theorem Wf {w:World} {e:TypeId} {n cap:Nat} {xs:List Value} {ao:Option Addr} {B:Nat} (h:w.ownsRow 0 e 1 (.slice ao n cap) n xs) (hB:∀x∈ae ao,B<=x):jx w B e ao xs:=
 qpg h λk hk=>hB k (by rw[<-dw ao n cap,hk];simp)
def cutAt (ao:Option Addr) (cap lo:Nat):Option Addr:=if cap=lo then ao else ao.map (·.add lo)
theorem qvg {ao:Option Addr} {cap lo:Nat} (h:cutAt ao cap lo=none):ao=none:=by
 unfold cutAt at h;split at h
 ·exact h
 ·simpa using h
theorem Cs.cut {w:World} {ao:Option Addr} {vs:List Value} (h:Cs w ao vs) (cap lo hi:Nat) (hl:lo<=hi) (hh:hi<=vs.length) (hc:vs.length<=cap):Cs w (cutAt ao cap lo) ((vs.drop lo).take (hi-lo)):=by
 by_cases he:cap=lo
 ·left;have:hi-lo=0:=by omega
  rw[this];rfl
 ·rcases h with rfl|⟨g,o,rfl,h⟩
  ·left;simp
  ·right;refine⟨g,o+lo,?_,λj v hv=>?_⟩
   ·unfold cutAt;rw[if_neg he];simp only[CA,Addr.add];split<;>simp_all
   ·rw[oY]at hv;split at hv
    ·rw[uy];exact h _ _ (by simpa using hv)
    ·cases hv
structure ax (P:Program) (t e:TypeId) (z:Value) (size bytes:Nat):Prop where
 under:P.underlying t=some (.slice e)
 info:∃i,P.info? e=some i/\i.zero=some z/\i.size=size/\i.bytes=bytes
 cells:z.cells.size=size
 pos:0<size
theorem ax.of {P:Program} {t e:TypeId} {z:Value} {size bytes:Nat} (h:P.underlying t=some (.slice e))
  (hi:(P.info? e).map (λi=>(i.zero,i.size,i.bytes))=some (some z,size,bytes)) (hz:z.cells.size=size) (hp:0<size):ax P t e z size bytes:=by
 obtain⟨i,h1,h2,h3,h4⟩:=info_parts hi;exact⟨h,⟨i,h1,h2,h3,h4⟩,hz,hp⟩
structure aW (w w':World) (e:TypeId) (size:Nat) (S:List Nat) (ao:Option Addr) (len cap:Nat) (xs:List Value):Prop where
 own:w'.ownsRow 0 e size (.slice ao len cap) len xs
 fr:Fr S w w'
 at_:∀x∈ae ao,x∈S\/x=w.heap.size
 le:len<=cap
 max:cap<=maxLen
 nil:ao=none->cap=0
theorem aW.lt {w w':World} {e:TypeId} {size:Nat} {S:List Nat} {ao:Option Addr} {len cap:Nat} {xs:List Value} (h:aW w w' e size S ao len cap xs):∀x∈ae ao,x<w'.heap.size:=
 λ_ hx=>qR h.own (pI hx)
section
variable {P : Program} {w : World} {t e : TypeId} {z : Value} {size bytes : Nat}
theorem Aj (g o j:Nat):(⟨g,o,none⟩:Addr).add j=⟨g,o+j,none⟩:=by unfold Addr.add;split<;>simp_all
theorem qnx (T:ax P t e z size bytes) (ty:TypeId) (v:Value) (n:Nat) (xs:List Value) (S:List Nat) (hS:v.ownBlock.toList=S) (aA:w.ownsRow 0 e size v n xs)
  (ao:Option Addr) (m c:Nat) (news:List Value) (rj:m<=c) (bY:ao=none->c=0) (hc:Cs w ao news) (hl:news.length=m*size) (h1:∀u∈news,u.oneCell'=true)
  (hb:(n+m)*bytes<=140737488355328) (oF:n+m<=maxLen) :
  ∃lr aQ w',(Builtin.append_ #[t,t] ty #[v,.slice ao m c]).run P w = .ok (.slice lr (n+m) aQ) w'/\aW w w' e size S lr (n+m) aQ (xs++news):=by
 obtain⟨hu,⟨i,hi,hz,hs,kg⟩,tY,hp⟩:=T;subst hS;have key:∀v' w',w'.ownsRow 0 e size v' (n+m) (xs++news)->w.grownBy w' v.ownBlock->(v'.ownBlock=v.ownBlock\/v'.ownBlock=some w.heap.size)->∃lr aQ,v' = .slice lr (n+m) aQ/\aW w w' e size v.ownBlock.toList lr (n+m) aQ (xs++news):=by
  intro v' w' h2 h3 h4;obtain⟨lr,aQ,rfl,h5,h6⟩:=qn1 h2;refine⟨lr,aQ,rfl,h2,(Fr.refl _ w).grown h3 (λk hk=>.inl (by simp[hk])),?_,h5,h6,?_⟩
  ·intro x hx;have zM:=pI (n:=n+m) (cap:=aQ) hx;rcases h4 with h|h
   ·left;rw[<-h,zM];simp
   ·right;rw[h]at zM;exact (lL zM).symm
  ·rintro rfl;rcases h2.2 with⟨h,_⟩|⟨g,cap,cur,h,_⟩
   ·simp only[lN]at h;exact h.2.2
   ·simp at h
 cases ao with
 | none=>
  have bW:=bY rfl;obtain rfl:m=0:=by omega
  subst bW;have hn:news=[]:=wk (by simpa using hl);subst hn;have hr:=run_append_owned_none (P:=P) (w:=w) 0 t ty e i size hu hi v n xs aA;obtain⟨lr,aQ,rfl,hA⟩:=key v w (by simpa using aA) ⟨rfl,rfl,rfl,aw _,λ_ _ _=>rfl⟩ (.inl rfl);exact⟨lr,aQ,w,hr,hA⟩
 | some a=>
  have Jg:∀j u,news[j]?=some u->w.cell? (a.add j)=some u:=by
   intro j u hj;rcases hc with rfl|⟨g,o,ha,hc⟩
   ·simp at hj
   ·obtain rfl:=lL ha;rw[Aj];exact hc j u hj
  obtain⟨v',w',hr,h2,h3,h4,h5⟩:=run_append_own_at (P:=P) w 0 t ty e i z size bytes hu hi hz hs kg tY hp v n xs aA a m c news hl Jg h1 oF hb (dZ _);obtain⟨lr,aQ,rfl,hA⟩:=key v' w' h2 h3 h5;exact⟨lr,aQ,w',hr,hA⟩
theorem uv (T:ax P t e z size bytes) {o:Oper} {a:Act} {K:Act->World->Prop} {Q:Exit->Act->World->Prop} (s x:Operand)
  (ho:o.op = .call { callee:=.builtin .append,args:=#[s,x],argTypes:=#[t,t] })
  (v:Value) (n:Nat) (xs:List Value) (S:List Nat) (hs:a.eval s=v) (hS:v.ownBlock.toList=S) (aA:w.ownsRow 0 e size v n xs)
  (ao:Option Addr) (m c:Nat) (news:List Value) (hx:a.eval x = .slice ao m c) (rj:m<=c) (bY:ao=none->c=0) (hc:Cs w ao news) (hl:news.length=m*size) (h1:∀u∈news,u.oneCell'=true)
  (hb:(n+m)*bytes<=140737488355328) (oF:n+m<=maxLen)
  (h:∀lr aQ w',aW w w' e size S lr (n+m) aQ (xs++news)->K (a.put o.dst (.slice lr (n+m) aQ)) w'):o.wp P a w K Q:=by
 obtain⟨lr,aQ,w',hr,h2⟩:=qnx (P:=P) T o.type v n xs S hS aA ao m c news rj bY hc hl h1 hb oF;unfold Oper.wp execOp;simp only[ho,resolve,invoke,builtin,Dm,Sem.run_pure,Ha,List.map_toArray,gW,oJ,hs,hx,hr];exact h lr aQ w' h2
theorem iq (T:ax P t e z size bytes) {ops:Array Oper} {rest:List Oper} {o:Oper} {a:Act} {Q:Exit->Act->World->Prop} (qv:o.guard=none) (s x:Operand)
  (ho:o.op = .call { callee:=.builtin .append,args:=#[s,x],argTypes:=#[t,t] })
  (v:Value) (n:Nat) (xs:List Value) (S:List Nat) (hs:a.eval s=v) (hS:v.ownBlock.toList=S) (aA:w.ownsRow 0 e size v n xs)
  (ao:Option Addr) (m c:Nat) (news:List Value) (hx:a.eval x = .slice ao m c) (rj:m<=c) (bY:ao=none->c=0) (hc:Cs w ao news) (hl:news.length=m*size) (h1:∀u∈news,u.oneCell'=true)
  (hb:(n+m)*bytes<=140737488355328) (oF:n+m<=maxLen)
  (h:∀lr aQ w',aW w w' e size S lr (n+m) aQ (xs++news)->wpList P ops Q rest (a.put o.dst (.slice lr (n+m) aQ)) w'):wpList P ops Q (o::rest) a w:=
 wpList_plain qv λ_ hK=>uv T s x ho v n xs S hs hS aA ao m c news hx rj bY hc hl h1 hb oF λlr aQ w' h2=>hK _ _ (h lr aQ w' h2)
theorem step_append (T:ax P t e z size bytes) {ops:Array Oper} {o:Oper} {a:Act} {K:Act->World->Prop} {Q:Exit->Act->World->Prop} {E:Prop} (qv:o.guard=none) (s x:Operand)
  (ho:o.op = .call { callee:=.builtin .append,args:=#[s,x],argTypes:=#[t,t] })
  (v:Value) (n:Nat) (xs:List Value) (S:List Nat) (hs:a.eval s=v) (hS:v.ownBlock.toList=S) (aA:w.ownsRow 0 e size v n xs)
  (ao:Option Addr) (m c:Nat) (news:List Value) (hx:a.eval x = .slice ao m c) (rj:m<=c) (bY:ao=none->c=0) (hc:Cs w ao news) (hl:news.length=m*size) (h1:∀u∈news,u.oneCell'=true)
  (hb:(n+m)*bytes<=140737488355328) (oF:n+m<=maxLen)
  (h:∀lr aQ w',aW w w' e size S lr (n+m) aQ (xs++news)->K (a.put o.dst (.slice lr (n+m) aQ)) w') :
  if Region.wanted o (yielded ops a.tmps)=true then Oper.wp P o a w K Q else E:=by
 have hw:Region.wanted o (yielded ops a.tmps)=true:=by simp[Region.wanted,qv]
 rw[if_pos hw];exact uv T s x ho v n xs S hs hS aA ao m c news hx rj bY hc hl h1 hb oF h
end
theorem ny (w:World) (B:Nat) (v:Value) (t:TypeId) (h:w.heap[B]?=some (.cells #[v] t (0,0))):Cs w (some ⟨B,0,none⟩) [v]:=
 .inr ⟨B,0,rfl,λj u hj=>by
  match j,hj with
  | 0,hj=>rw[cell_of h];simpa using hj⟩
end lib
namespace lib
open Go Go.RowKit
section
variable {P : Program} {w : World} {ops : Array Oper} {rest : List Oper} {o : Oper} {a : Act} {Q : Exit -> Act -> World -> Prop}
theorem MQ (v:Value) (qv:o.guard=none) (hr:(execOp a.eval o).run P w = .ok (.value v) w) (h:wpList P ops Q rest (a.put o.dst v) w):wpList P ops Q (o::rest) a w:=
 wpList_plain qv λK hK=>by unfold Oper.wp;rw[hr];exact hK _ _ h
theorem MT (m:Int) (qv:o.guard=none) (x y:Operand) (ts:Array TypeId) (ho:o.op = .call { callee:=.builtin .min,args:=#[x,y],argTypes:=ts }) (i j:Int)
  (hx:a.eval x = .int .i64 i) (hy:a.eval y = .int .i64 j) (hm:m=if j<i then j else i) (h:wpList P ops Q rest (a.put o.dst (.int .i64 m)) w):wpList P ops Q (o::rest) a w:=by
 subst hm;refine MQ _ qv ?_ h;simp[execOp,ho,resolve,invoke,builtin,hx,hy,Builtin.min_,Builtin.min2]
theorem Fy (m:Int) (qv:o.guard=none) (x y:Operand) (ts:Array TypeId) (ho:o.op = .call { callee:=.builtin .max,args:=#[x,y],argTypes:=ts }) (i j:Int)
  (hx:a.eval x = .int .i64 i) (hy:a.eval y = .int .i64 j) (hm:m=if j>i then j else i) (h:wpList P ops Q rest (a.put o.dst (.int .i64 m)) w):wpList P ops Q (o::rest) a w:=by
 subst hm;refine MQ _ qv ?_ h;simp[execOp,ho,resolve,invoke,builtin,hx,hy,Builtin.max_,Builtin.max2]
end
section
variable {P : Program} {w : World} {ops : Array Oper} {rest : List Oper} {o : Oper} {a : Act} {Q : Exit -> Act -> World -> Prop} {t e : TypeId} {z : Value} {bytes : Nat}
theorem qls (T:ax P t e z 1 bytes) (l m:Nat) (qv:o.guard=none) (x lo hi:Operand) (ho:o.op = .slice t x (some lo) (some hi) none) (ao:Option Addr) (len cap:Nat) (il ih:Int)
  (hx:a.eval x = .slice ao len cap) (rJ:a.eval lo = .int .i64 il) (Lk:a.eval hi = .int .i64 ih) (hl:il=l) (hh:ih=l+m) (hc:l+m<=cap)
  (h:wpList P ops Q rest (a.put o.dst (.slice (cutAt ao cap l) m (cap-l))) w):wpList P ops Q (o::rest) a w:=by
 obtain⟨hu,⟨i,iK,_,hs,_⟩,_,_⟩:=T;subst hl;obtain rfl:ih=((l+m:Nat):Int):=by omega
 refine MQ _ qv ?_ h;have c1:(0:Int)<=(l:Int)+m/\(l:Int)+m<=(cap:Int):=by omega
 have e2:((l:Int)+m).toNat=l+m:=by omega
 have e1:l+m-l=m:=by omega
 simp[execOp,ho,Instr.sliceAt,run_underlying hu,hx,rJ,Lk,Instr.slice,Instr.sliceBounds,Instr.sliceBound,asIntOf,c1,e2,sizeOf,typeInfo,iK,hs,cutAt,e1,Result.andThen]
end
def str (bs:List UInt8):ByteArray:=⟨bs.toArray⟩
theorem bu (bs:List UInt8):(str bs).toList=bs:=by rw[ByteArray.toList_eq];rfl
theorem zdd (a b:List UInt8):(str a==str b)=(a==b):=by have h:(str a==str b)=(a.toArray==b.toArray):=rfl;rw[h,Bool.eq_iff_iff,beq_iff_eq,beq_iff_eq];exact⟨λh=>by simpa using h,λh=>by rw[h]⟩
theorem yK {P:Program} (w:World) {src dst e:TypeId} (hs:P.underlying src=some (.slice e)) (he:P.underlying e=some (.int .u8)) (hd:P.underlying dst=some .string)
  {ao:Option Addr} {n:Nat} {bs:List UInt8} (hn:bs.length=n) (hcs:Cs w ao (bs.map bv)) :
  ∀cap,(convert src dst (.slice ao n cap)).run P w = .ok (.string (str bs)) w:=by
 intro cap;have tr:∀(ao:Option Addr),bs=[]->(convert src dst (.slice ao n cap)).run P w = .ok (.string (str bs)) w:=by
  intro ao hb;subst hb;obtain rfl:n=0:=by simpa using hn.symm
  rw[run_convert_bytes_string w src dst e ao 0 cap hs he hd];cases ao with
  | none=>rfl
  | some a=>rfl
 rcases hcs with h|⟨g,o,rfl,h⟩
 ·exact tr ao (by simpa using h)
 ·have hr:=run_convert_bytes_arg (P:=P) w src e hs he g o n cap (bs.map λb=>(b.toNat:Int)) (by simpa using hn) (λi hi=>by
   have h2:=h i (bv (bs.getD i 0)) (by simp[List.getD,show i<bs.length by omega])
   rw[h2]
   have iK:i<bs.length:=by omega
   simp[bv,List.getD,iK]) dst hd
  rw[hr];congr 2;unfold strOfNums str;congr 1;rw[xC];have:((λn:Int=>UInt8.ofNat n.toNat)∘λb:UInt8=>(b.toNat:Int))=id:=by funext b;simp
  rw[this,List.map_id]
end lib
namespace lib
open Go Go.RowKit
def aL (ao:Option Addr) (cap lo size:Nat):Option Addr:=if cap=lo then ao else ao.map (·.add (lo*size))
theorem qnb {ao:Option Addr} {cap lo size:Nat} (h:aL ao cap lo size=none):ao=none:=by
 unfold aL at h;split at h
 ·exact h
 ·simpa using h
theorem Rx (ao:Option Addr) (cap lo size:Nat):ae (aL ao cap lo size)=ae ao:=by
 unfold aL;split
 ·rfl
 ·cases ao with
  | none=>rfl
  | some a=>simp only[CA,ae,Addr.add];split<;>rfl
theorem qoa (ao:Option Addr) (cap lo:Nat):aL ao cap lo 1=cutAt ao cap lo:=by unfold aL cutAt;rw[qV]
section
variable {P : Program} {w : World} {ops : Array Oper} {rest : List Oper} {o : Oper} {a : Act} {Q : Exit -> Act -> World -> Prop} {t e : TypeId} {z : Value} {size bytes : Nat}
theorem qhx (T:ax P t e z size bytes) (m:Nat) (qv:o.guard=none) (x hi:Operand) (ho:o.op = .slice t x none (some hi) none) (ao:Option Addr) (len cap:Nat) (ih:Int)
  (hx:a.eval x = .slice ao len cap) (Lk:a.eval hi = .int .i64 ih) (hh:ih=m) (hc:m<=cap)
  (h:wpList P ops Q rest (a.put o.dst (.slice ao m cap)) w):wpList P ops Q (o::rest) a w:=by
 obtain⟨hu,⟨i,iK,_,hs,_⟩,_,_⟩:=T;subst hh;refine MQ _ qv ?_ h;have c1:(0:Int)<=(m:Int)/\(m:Int)<=(cap:Int):=by omega
 have JQ:∀x:Addr,x.add 0=x:=λx=>rfl
 cases ao<;>simp[execOp,ho,Instr.sliceAt,run_underlying hu,hx,Lk,Instr.slice,Instr.sliceBounds,Instr.sliceBound,asIntOf,c1,hc,sizeOf,typeInfo,iK,hs,Result.andThen,JQ]
theorem vK (T:ax P t e z size bytes) (l:Nat) (qv:o.guard=none) (x lo:Operand) (ho:o.op = .slice t x (some lo) none none) (ao:Option Addr) (len cap:Nat) (il:Int)
  (hx:a.eval x = .slice ao len cap) (rJ:a.eval lo = .int .i64 il) (hl:il=l) (hc:l<=len) (sC:len<=cap)
  (h:wpList P ops Q rest (a.put o.dst (.slice (aL ao cap l size) (len-l) (cap-l))) w):wpList P ops Q (o::rest) a w:=by
 obtain⟨hu,⟨i,iK,_,hs,_⟩,_,_⟩:=T;subst hl;refine MQ _ qv ?_ h;have c1:(0:Int)<=(l:Int)/\(l:Int)<=(len:Int):=by omega
 have c2:(len:Int)<=(cap:Int):=by omega
 simp[execOp,ho,Instr.sliceAt,run_underlying hu,hx,rJ,Instr.slice,Instr.sliceBounds,Instr.sliceBound,asIntOf,c1,c2,hc,sC,sizeOf,typeInfo,iK,hs,aL,Result.andThen]
end
end lib
namespace lib
open Go Go.RowKit Go.ChangeShapes Go.WideShapes
theorem wf_u8 {n:Int} (h:(Lit.int .u8 n).wf=true):0<=n/\n<=255:=by simpa[Lit.wf,IntKind.min,IntKind.max,IntKind.signed,IntKind.bits] using h
theorem wf_u32 {n:Int} (h:(Lit.int .u32 n).wf=true):0<=n/\n<=4294967295:=by simpa[Lit.wf,IntKind.min,IntKind.max,IntKind.signed,IntKind.bits] using h
theorem wf_i64 {n:Int} (h:(Lit.int .i64 n).wf=true) : -9223372036854775808<=n/\n<=9223372036854775807:=by simpa[Lit.wf,IntKind.min,IntKind.max,IntKind.signed,IntKind.bits] using h
structure ES (k:IntKind) (w:World) (a:Option Addr) (len cap:Nat) (xs:List Int):Prop where
 le:len<=cap
 max:cap<=maxLen
 nil:a=none->cap=0
 length:xs.length=len
 cs:Cs w a (xs.map (Value.int k))
 wf:∀x∈xs,(Lit.int k x).wf=true
 lt:∀x∈ae a,cap≠0->x<w.heap.size
theorem TQ {x:Addr} (h:x.spot=none) (j:Nat):x.add j=⟨x.block,x.off+j,none⟩:=by obtain⟨b,o,s⟩:=x;simp only at h;subst h;unfold Addr.add;split<;>simp_all
section
variable {H : Type} {enc : TypeId × Value -> H} {P : Program} {w : World}
theorem zbc {t e:TypeId} {k:IntKind} {a:Option Addr} {len cap:Nat} {d:DataW H} {p:List MemPlace} (ht:P.underlying t=some (.slice e)) (he:P.underlying e=some (.int k)) (hc:P.cellsOf e=1)
  (h:DataW.Trod enc P w 0 (λ_=>true) true t (.slice a len cap) d p) :
  ∃xs sp:List Int,ES k w a len cap xs/\sp.length=cap-len/\(d = .nil/\cap=0\/d = .slice (lits k xs) (lits k sp)):=by
 obtain⟨fuel,hf⟩:=h;rcases open_ints ht he hc hf with⟨hcs,hx⟩|⟨x,l,c,zs,hcs,_,hl,hm,hz,hx,hcell,hwz⟩
 ·simp[Value.cells]at hcs;obtain⟨rfl,rfl,rfl⟩:=hcs;simp at hx;exact⟨[],[],⟨aw _,dZ _,λ_=>rfl,rfl,.inl rfl,by simp,by simp[ae]⟩,rfl,.inl ⟨hx.1,rfl⟩⟩
 ·simp[Value.cells]at hcs;obtain⟨rfl,rfl,rfl⟩:=hcs;simp only[if_true]at hz;simp at hx;have fH:∀i v,(zs.map (Value.int k))[i]?=some v->w.cell? (x.add i)=some v:=by
   intro i v hv;have hi:i<zs.length:=by have:=(lA.1 hv).1;simpa using this
   rw[hcell i hi];simp[hi]at hv;simp[List.getD,hi,hv]
  have spot:0<zs.length->x.spot=none:=by
   intro h0;have h1:=hcell 0 h0;have h2:x.add 0=x:=by simp[Addr.add]
   rw[h2]at h1;cases hs:x.spot with
   | none=>rfl
   | some s=>simp only[World.cell?,hs,Option.isSome_some,if_true]at h1;split at h1<;>cases h1
  have X7:Cs w (some x) (zs.map (Value.int k)):=by
   by_cases h0:zs=[]
   ·left;simp[h0]
   ·right;have hp:0<zs.length:=Kv.2 h0;have hs:=spot hp;refine⟨x.block,x.off,by rw[<-hs],λj v hv=>?_⟩;have h3:=fH j v hv;have h4:x.add j=⟨x.block,x.off+j,none⟩:=by exact TQ hs j
    rwa [h4]at h3
  refine⟨zs.take len,zs.drop len,⟨hl,hm,(λh=>by cases h),(by simp;omega),?_,λy hy=>hwz y (xF hy),?_⟩,(by simp;omega),.inr hx.1⟩
  ·rcases X7 with h0|⟨g,o,ha,h0⟩
   ·left;have:zs=[]:=by simpa using h0
    simp[this]
   ·refine .inr ⟨g,o,ha,λj v hv=>h0 j v ?_⟩;rw[E7,oY]at hv;split at hv
    ·exact hv
    ·cases hv
  ·intro y hy bR;simp[ae]at hy;subst hy;have h0:0<zs.length:=by omega
   exact KC w _ (by have:=hcell 0 h0;simpa[Addr.add] using this)
theorem qjj (hl:laidOutB P=true) {W W':World} (hb:Below W.heap.size W W'):∀{ts:List TypeId} {vs:List Value} {ds:List (DataW H)} {ps:List MemPlace},
  (ts.all λt=>P.readableRec t&&decide (t<P.types.size))=true->(∀x∈ps,x.block<W.heap.size)->DataW.TrodAll enc P W 0 (λ_=>true) true ts vs ds ps->DataW.TrodAll enc P W' 0 (λb=>decide (b<W.heap.size)) true ts vs ds ps
 | [],[],[],_,_,_,h=>h
 | t::ts,v::vs,d::ds,ps,hr,aY,h=>by
  simp only[List.all_cons,lM,decide_eq_true_eq]at hr;obtain⟨v',vs',d',ds',p,q,hv,hd,rfl,h1,h2⟩:=trodAll_cons h;obtain⟨rfl,rfl⟩:=List.cons.inj hv;obtain⟨rfl,rfl⟩:=List.cons.inj hd;exact trodAll_cons_mk (Below.trod hl hr.1.1 hr.1.2 h1 hb (λx hx=>aY x (by simp[hx]))) (qjj hl hb hr.2 (λx hx=>aY x (by simp[hx])) h2)
 | [],_::_,_,_,_,_,h=>by simp[DataW.TrodAll]at h
 | [],[],_::_,_,_,_,h=>by simp[DataW.TrodAll]at h
 | _::_,[],_,_,_,_,h=>by simp[DataW.TrodAll]at h
 | _::_,_::_,[],_,_,_,h=>by simp[DataW.TrodAll]at h
theorem qqr {s:ChangeSpec} {f:FuncId} {fn:Func} {W:World} {args:Array Value} {ds gs:List (DataW H)} {before:List MemPlace} {tb:TypeId}
  (hl:laidOutB P=true) (cu:(fn.params.toList.all λt=>P.readableRec t&&decide (t<P.types.size))=true) (uL:s.vars=[]) (cU:fn.resultTypes=#[tb]) (nL:P.underlying tb=some .bool)
  (hW:DataW.Whole enc P fn.params.toList s.vars false W args.toList ds gs before) (Bq:∀gs,s.vars=[]->gs=[]->s.fn H (ds++gs)={ results:=[.lit (.bool true)],args:=ds })
  (hc:Calls P f args W λe W'=>e = .returned (.bool true)/\Below W.heap.size W W') :
  Calls P f args W λe W'=>∃v,e = .returned v/\s.post enc P fn false true false false W args v W':=by
 have SU:=hW;obtain⟨p,q,hA,hV,rfl,Bp,Eg⟩:=hW;have hV':=hV;rw[uL]at hV';obtain⟨rfl,rfl⟩:=trodVars_none hV';have aY:∀x∈p,x.block<W.heap.size:=λx hx=>by simpa using SU.lt x (by simpa using hx)
 refine hc.mono λe W' ⟨he,hb⟩=>⟨_,he,_,_,_,[],p,[],SU,?_,?_,?_,hb.frame _,λh=>by cases h⟩
 ·rw[Bq [] uL rfl,cU];exact trodAll_mk1 (shut_bool nL _)
 ·rw[Bq [] uL rfl];exact qjj hl hb cu aY hA
 ·rw[uL,Bq [] uL rfl];rfl
end
end lib
namespace lib
open Go Go.RowKit Go.ChangeShapes Go.WideShapes
section
variable {H : Type} {enc : TypeId × Value -> H} {P : Program} {w : World}
def gG (P:Program) (t:TypeId) (d:DataW H):Prop:=(DataW.weights P t d).all (·<=reachBytes)=true
theorem U9 {e:TypeId}:∀{ds:List (DataW H)},(DataW.weightsAll P e ds).all (·<=reachBytes)=true->∀d∈ds,gG P e d
 | [],_,d,hd=>by cases hd
 | x::r,h,d,hd=>by
  rw[DataW.weightsAll,List.all_append,lM]at h;rcases gw.1 hd with rfl|hd
  ·exact h.1
  ·exact U9 h.2 d hd
theorem qn6 {ts:List TypeId} {ds:List (DataW H)} (h:(DataW.weightsEach P ts ds).all (·<=reachBytes)=true) {j:Nat} {t:TypeId} {d:DataW H} (ht:ts[j]?=some t) (hd:ds[j]?=some d):gG P t d:=
 Kk.2 λn hn=>Kk.1 h n (DataW.weights_mem_each ht hd n hn)
theorem qsk {t e:TypeId} {elems spare:List (DataW H)} (ht:P.underlying t=some (.slice e)) (h:gG P t (.slice elems spare)) :
  (elems.length+spare.length)*P.bytesOf e<=reachBytes/\(∀d∈elems,gG P e d)/\∀d∈spare,gG P e d:=by
 unfold gG at h;rw[DataW.weights,ht]at h;simp only[List.all_cons,List.all_append,lM,decide_eq_true_eq]at h;exact⟨h.1,U9 h.2.1,U9 h.2.2⟩
theorem qqp {t:TypeId} {fs:Array Field} {parts:List (DataW H)} (ht:P.underlying t=some (.struct fs)) (h:gG P t (.agg parts)) {j:Nat} {u:TypeId} {d:DataW H} (hu:(fs.toList.map (·.type))[j]?=some u) (hd:parts[j]?=some d):gG P u d:=by unfold gG at h;rw[DataW.weights,ht]at h;exact qn6 h hu hd
theorem zb7 (d:DataW H):1<=Rows.uptoBulk d:=by
 cases d with
 | lit l=>cases l<;>simp[Rows.uptoBulk]
 | nil=>simp[Rows.uptoBulk]
 | ptr d=>simp[Rows.uptoBulk]
 | slice elems spare=>simp[Rows.uptoBulk]
 | agg parts=>simp[Rows.uptoBulk]
 | iface t d=>simp[Rows.uptoBulk]
 | map entries=>simp[Rows.uptoBulk]
 | held h=>simp[Rows.uptoBulk]
theorem qzc {d:DataW H} {l:List (DataW H)} (h:d∈l):Rows.uptoBulk d<=Rows.uptoBulkAll l:=by
 induction l with
 | nil=>cases h
 | cons x r ih=>
  simp only[Rows.uptoBulkAll];cases gw.1 h with
  | inl e=>subst e;omega
  | inr e=>have:=ih e;omega
theorem qsy (l:List (DataW H)):l.length<=Rows.uptoBulkAll l:=by
 induction l with
 | nil=>simp[Rows.uptoBulkAll]
 | cons x r ih=>have:=zb7 x;simp only[Rows.uptoBulkAll,cQ];omega
theorem qzd {d:DataW H} {elems spare:List (DataW H)} (h:d∈elems):Rows.uptoBulk d<=Rows.uptoBulk (.slice elems spare):=by have:=qzc h;simp only[Rows.uptoBulk];omega
theorem qvk (elems spare:List (DataW H)):elems.length<=Rows.uptoBulk (.slice elems spare):=by have:=qsy elems;simp only[Rows.uptoBulk];omega
theorem qp4 {t e:TypeId} {a:Option Addr} {len cap s:Nat} {d:DataW H} {p:List MemPlace} (ht:P.underlying t=some (.slice e)) (hs:P.cellsOf e=s) (h0:0<s)
  (h:DataW.Trod enc P w 0 (λ_=>true) true t (.slice a len cap) d p) (hL:gG P t d) :
  len<=cap/\cap<=maxLen/\(a=none->cap=0)/\len*P.bytesOf e<=140737488351232/\len<=Rows.uptoBulk d/\(len=0\/∃g o,a=some ⟨g,o,none⟩/\∀i,i<len->∃(cs:List Value) (y:DataW H×List MemPlace) (n:Nat),
   cs.length=s/\(∀j v,cs[j]?=some v->w.cell? ⟨g,o+i*s+j,none⟩=some v)/\DataW.trod enc P w 0 (λ_=>true) true n e cs=some y/\gG P e y.1/\Rows.uptoBulk y.1<=Rows.uptoBulk d):=by
 have er:reachBytes=140737488351232:=by decide
 obtain⟨fuel,hf⟩:=h;rcases DataW.trod_slice ht hf with⟨hcs,hx⟩|⟨x,l,c,elems,rest,n,_,hcs,hx,_,hl,hm,hlen,Lm,_⟩
 ·simp[Value.cells]at hcs;obtain⟨rfl,rfl,rfl⟩:=hcs;exact⟨aw _,dZ _,λ_=>rfl,by simp,dZ _,.inl rfl⟩
 ·simp[Value.cells]at hcs;obtain⟨rfl,rfl,rfl⟩:=hcs;simp only[fj]at hx;obtain⟨rfl,_⟩:=hx;obtain⟨hw,hle,_⟩:=qsk ht hL;simp only[cN]at hw;refine⟨hl,hm,(λh=>by cases h),?_,by have:=qvk (elems.map (·.1)) (rest.map (·.1));simp at this;omega,?_⟩
  ·have h1:len*P.bytesOf e<=(elems.length+rest.length)*P.bytesOf e:=uz _ (by omega);omega
  ·by_cases hz:len=0
   ·exact .inl hz
   ·right;have get:∀i,i<len->∃(cs:List Value) (y:DataW H×List MemPlace),cs.length=s/\(∀j v,cs[j]?=some v->w.cell? ((x.add (i*s)).add j)=some v)/\DataW.trod enc P w 0 (λ_=>true) true n e cs=some y/\gG P e y.1/\Rows.uptoBulk y.1<=Rows.uptoBulk (.slice (elems.map (·.1)) (rest.map (·.1))):=by
     intro i hi;have h1:=Lm i hi;rw[hs]at h1;have XP:i<elems.length:=by omega
     rw[bO XP]at h1;obtain⟨cs,cL,ky⟩:=Option.bind_eq_some_iff.1 h1;obtain⟨_,vR,Yg⟩:=World.cells?_some cL;exact⟨cs,elems[i],vR,λj v hv=>by rw[Yg j (by have:=(lA.1 hv).1;omega),hv],ky,hle _ (jR.2 ⟨_,vJ XP,rfl⟩),qzd (jR.2 ⟨_,vJ XP,rfl⟩)⟩
    have spot:x.spot=none:=by
     obtain⟨cs,y,h1,h2,_⟩:=get 0 (by omega);have h3:0<cs.length:=by omega
     have h4:=h2 0 cs[0] (by simp[h3]);simp only[Nat.zero_mul]at h4;have h5:(x.add 0).add 0=x:=by simp[Addr.add]
     rw[h5]at h4;cases hs:x.spot with
     | none=>rfl
     | some s=>simp only[World.cell?,hs,Option.isSome_some,if_true]at h4;split at h4<;>cases h4
    refine⟨x.block,x.off,by rw[<-spot],λi hi=>?_⟩;obtain⟨cs,y,h1,h2,h3,h4⟩:=get i hi;refine⟨cs,y,n,h1,λj v hv=>?_,h3,h4⟩;have h5:=h2 j v hv;rw[TQ spot,TQ rfl]at h5;exact h5
structure qP (w:World) (a:Option Addr) (len cap:Nat) (bs:List UInt8):Prop where
 le:len<=cap
 max:cap<=maxLen
 nil:a=none->cap=0
 length:bs.length=len
 cs:Cs w a (bs.map bv)
 lim:len<=140737488351232
 lt:∀x∈ae a,bs≠[]->x<w.heap.size
theorem qy8 {t e:TypeId} {a:Option Addr} {len cap:Nat} {d:DataW H} {p:List MemPlace} (ht:P.underlying t=some (.slice e)) (he:P.underlying e=some (.int .u8)) (hc:P.cellsOf e=1) (kg:P.bytesOf e=1)
  (h:DataW.Trod enc P w 0 (λ_=>true) true t (.slice a len cap) d p) (hL:gG P t d):∃bs,qP w a len cap bs/\len<=Rows.uptoBulk d:=by
 obtain⟨xs,_,A,_⟩:=zbc ht he hc h;obtain⟨_,_,_,wU,ye,_⟩:=qp4 ht hc (by decide) h hL;have key:Cs w a ((xs.map λx=>UInt8.ofNat x.toNat).map bv):=by
  have e:(xs.map λx=>UInt8.ofNat x.toNat).map bv=xs.map (Value.int .u8):=by rw[xC];apply CD;intro x hx;have:=wf_u8 (A.wf x hx);simp only[Function.comp,bv,AA];exact int_eq (by omega)
  rw[e];exact A.cs
 refine⟨xs.map λx=>UInt8.ofNat x.toNat,⟨A.le,A.max,A.nil,by simp[A.length],key,by rw[kg]at wU;omega,λx hx bR=>?_⟩,ye⟩;cases a with
 | none=>simp[ae]at hx
 | some a=>simp[ae]at hx;subst hx;exact key.lt (by simpa using bR) a rfl
theorem qvj {t e:TypeId} {n:Nat} {cs:List Value} {y:DataW H×List MemPlace} (ht:P.underlying t=some (.slice e)) (he:P.underlying e=some (.int .u8)) (hc:P.cellsOf e=1) (kg:P.bytesOf e=1)
  (h:DataW.trod enc P w 0 (λ_=>true) true n t cs=some y) (hL:gG P t y.1):∃a len cap bs,cs=[.slice a len cap]/\qP w a len cap bs/\len<=Rows.uptoBulk y.1:=by
 have qA:∃a l c,cs=[.slice a l c]:=by
  rcases DataW.trod_slice ht h with⟨hcs,_⟩|⟨a',zaI,aQ,_,_,_,_,hcs,_⟩
  ·exact⟨_,_,_,hcs⟩
  ·exact⟨_,_,_,hcs⟩
 obtain⟨a,l,c,rfl⟩:=qA;obtain⟨bs,hb⟩:=qy8 (enc:=enc) (a:=a) (len:=l) (cap:=c) (d:=y.1) (p:=y.2) ht he hc kg ⟨n,h⟩ hL;exact⟨a,l,c,bs,rfl,hb⟩
end
end lib
namespace lib
open Go Go.RowKit
structure Rd (w:World) (a:Option Addr) (cap:Nat) (bs:List UInt8):Prop where
 cs:Cs w a (bs.map bv)
 le:bs.length<=cap
 max:cap<=maxLen
 nil:a=none->cap=0
theorem Rd.fr {w w':World} {a:Option Addr} {cap:Nat} {bs:List UInt8} (h:Rd w a cap bs) (f:Fr [] w w'):Rd w' a cap bs:=⟨h.cs.fr f (by simp),h.le,h.max,h.nil⟩
theorem Rd.gg {S:List Nat} {w w':World} {a:Option Addr} {cap:Nat} {bs:List UInt8} (h:Rd w a cap bs) (f:Fr S w w') (hn:∀x∈ae a,x∉S):Rd w' a cap bs:=⟨h.cs.fr f hn,h.le,h.max,h.nil⟩
theorem Rd.none (w:World):Rd w none 0 []:=⟨.inl rfl,aw _,dZ _,λ_=>rfl⟩
theorem Rd.Ij {w:World} {a:Option Addr} {len cap:Nat} {bs:List UInt8} (h:qP w a len cap bs):Rd w a cap bs:=⟨h.cs,by rw[h.length];exact h.le,h.max,h.nil⟩
theorem qyv {w:World} {a:Option Addr} {cap:Nat} {vs:List Value} (h:Cs w a vs) (k:Nat) (hk:k<=vs.length) (hc:vs.length<=cap):Cs w (aL a cap k 1) (vs.drop k):=by have:=h.cut cap k vs.length hk (aw _) hc;rw[oI (by simp),<-qoa]at this;exact this
theorem zby {w:World} {a:Option Addr} {vs:List Value} (h:Cs w a vs) (k:Nat):Cs w a (vs.take k):=by
 rcases h with rfl|⟨g,o,rfl,h⟩
 ·left;simp
 ·refine .inr ⟨g,o,rfl,λj v hv=>h j v ?_⟩;rw[oY]at hv;split at hv
  ·exact hv
  ·cases hv
theorem Rd.drop {w:World} {a:Option Addr} {cap:Nat} {bs:List UInt8} (h:Rd w a cap bs) (k:Nat) (hk:k<=bs.length):Rd w (aL a cap k 1) (cap-k) (bs.drop k):=by have h1:=h.le;have h2:=h.max;refine⟨?_,by rw[eQ];omega,by omega,λe=>by have:=h.nil (qnb e);omega⟩;rw[G1];exact qyv h.cs k (by simpa using hk) (by simpa using h1)
theorem Rd.take {w:World} {a:Option Addr} {cap:Nat} {bs:List UInt8} (h:Rd w a cap bs) (k:Nat):Rd w a cap (bs.take k):=by have h1:=h.le;refine⟨?_,by rw[eJ];omega,h.max,h.nil⟩;rw[E7];exact zby h.cs k
theorem Rd.mid {w:World} {a:Option Addr} {cap:Nat} {bs:List UInt8} (h:Rd w a cap bs) (l m:Nat) (hk:l+m<=bs.length):Rd w (cutAt a cap l) (cap-l) ((bs.drop l).take m):=by have h1:=(h.drop l (by omega)).take m;rw[qoa]at h1;exact h1
theorem Rd.at {w:World} {a:Option Addr} {cap:Nat} {bs:List UInt8} (h:Rd w a cap bs) {i:Nat} (hi:i<bs.length):∃g o,a=some ⟨g,o,Option.none⟩/\w.cell? ⟨g,o+i,Option.none⟩=some (.int .u8 ((bs[i].toNat:Nat):Int)):=by obtain⟨g,o,rfl,hc⟩:=h.cs.at (by simp;omega);exact⟨g,o,rfl,hc i _ (by simp[hi,bv])⟩
theorem wh {w:World} {base:Nat} {e:TypeId} {len cap:Nat} {bs:List UInt8} {a:Option Addr} (h:w.ownsRow base e 1 (.slice a len cap) len (bs.map bv)):Rd w a cap bs/\bs.length=len:=by
 have hl:bs.length=len:=by simpa using h.1
 obtain⟨_,_,he,h1,h2,h3⟩:=Hv h;simp only[lN]at he;obtain⟨rfl,_,rfl⟩:=he;exact⟨⟨Cx h,by omega,h2,h3⟩,hl⟩
section
variable {P : Program} {t e : TypeId} {z : Value} {size bytes : Nat}
theorem KL (T:ax P t e z size bytes) (l:Nat) (a:Option Addr) (len cap:Nat) (il:Int) (hl:il=l) (hc:l<=len) (sC:len<=cap) (w:World) :
  (Instr.slice t (.slice a len cap) (some (.int .i64 il)) Option.none Option.none).run P w = .ok (.slice (aL a cap l size) (len-l) (cap-l)) w:=by
 obtain⟨hu,⟨i,iK,_,hs,_⟩,_,_⟩:=T;subst hl;have c1:(0:Int)<=(l:Int)/\(l:Int)<=(len:Int):=by omega
 have c2:(len:Int)<=(cap:Int):=by omega
 simp[run_underlying hu,Instr.slice,Instr.sliceBounds,Instr.sliceBound,asIntOf,c1,c2,hc,sC,sizeOf,typeInfo,iK,hs,aL,Result.andThen]
theorem FA (T:ax P t e z size bytes) (m:Nat) (a:Option Addr) (len cap:Nat) (ih:Int) (hh:ih=m) (hc:m<=cap) (w:World) :
  (Instr.slice t (.slice a len cap) Option.none (some (.int .i64 ih)) Option.none).run P w = .ok (.slice a m cap) w:=by
 obtain⟨hu,⟨i,iK,_,hs,_⟩,_,_⟩:=T;subst hh;have c1:(0:Int)<=(m:Int)/\(m:Int)<=(cap:Int):=by omega
 have JQ:∀x:Addr,x.add 0=x:=λx=>rfl
 cases a<;>simp[run_underlying hu,Instr.slice,Instr.sliceBounds,Instr.sliceBound,asIntOf,c1,hc,sizeOf,typeInfo,iK,hs,Result.andThen,JQ]
theorem run_slice_lh (T:ax P t e z 1 bytes) (l m:Nat) (a:Option Addr) (len cap:Nat) (il ih:Int) (hl:il=l) (hh:ih=l+m) (hc:l+m<=cap) (w:World) :
  (Instr.slice t (.slice a len cap) (some (.int .i64 il)) (some (.int .i64 ih)) Option.none).run P w = .ok (.slice (cutAt a cap l) m (cap-l)) w:=by
 obtain⟨hu,⟨i,iK,_,hs,_⟩,_,_⟩:=T;subst hl;obtain rfl:ih=((l+m:Nat):Int):=by omega
 have c1:(0:Int)<=(l:Int)+m/\(l:Int)+m<=(cap:Int):=by omega
 have e2:((l:Int)+m).toNat=l+m:=by omega
 have e1:l+m-l=m:=by omega
 simp[run_underlying hu,Instr.slice,Instr.sliceBounds,Instr.sliceBound,asIntOf,c1,e2,sizeOf,typeInfo,iK,hs,cutAt,e1,Result.andThen]
end
def aD (w:World) (bs:List UInt8) (e:Ending) (w':World):Prop:=
 ∃a,e = .returned (.slice a bs.length bs.length)/\Rd w' a bs.length bs/\(∀x∈ae a,w.heap.size<=x/\x<w'.heap.size)/\Fr [] w w'
end lib
namespace pk
open Go
def tX:Nat->Nat->Nat->List UInt8
 | 0,c,_=>[UInt8.ofNat c]
 | f+1,c,n=>if n=0 then [UInt8.ofNat c] else UInt8.ofNat (c+128)::tX f (n%128) (n/128)
def hd (kind size:Nat):List UInt8:=tX size (kind%8*16+size%16) (size/16)
theorem zbj {f g:Nat}:∀{c n:Nat},n<=f->n<=g->tX f c n=tX g c n:=by
 induction f generalizing g with
 | zero=>
  intro c n h1 h2;have:n=0:=by omega
  subst this;cases g<;>simp[tX]
 | succ f ih=>
  intro c n h1 h2;by_cases h0:n=0
  ·subst h0;cases g<;>simp[tX]
  ·cases g with
   | zero=>omega
   | succ g=>unfold tX;rw[if_neg h0,if_neg h0,ih (g:=g) (by omega) (by omega)]
theorem ZS {k:Nat}:∀{f c n:Nat},n<128^k->n<=f->(tX f c n).length<=k+1:=by
 induction k with
 | zero=>
  intro f c n h _;have:n=0:=by omega
  subst this;cases f<;>simp[tX]
 | succ k ih=>
  intro f c n h hf;cases f with
  | zero=>simp[tX]
  | succ f=>
   unfold tX;split
   ·simp
   ·have h2:n/128<128^k:=by rw[pK]at h;exact Nat.div_lt_of_lt_mul (by omega)
    have:=ih (f:=f) (c:=n%128) h2 (by omega);simp only[cQ];omega
def uf:Nat->Nat->List UInt8
 | 0,_=>[]
 | f+1,m=>if m=0 then [] else UInt8.ofNat ((m-1)%128+128)::uf f ((m-1)/128)
def bk (n:Nat):List UInt8:=UInt8.ofNat (n%128)::uf n (n/128)
theorem zca {f g:Nat}:∀{m:Nat},m<=f->m<=g->uf f m=uf g m:=by
 induction f generalizing g with
 | zero=>
  intro m h1 h2;have:m=0:=by omega
  subst this;cases g<;>simp[uf]
 | succ f ih=>
  intro m h1 h2;by_cases h0:m=0
  ·subst h0;cases g<;>simp[uf]
  ·cases g with
   | zero=>omega
   | succ g=>unfold uf;rw[if_neg h0,if_neg h0,ih (g:=g) (by omega) (by omega)]
theorem Ud {k:Nat}:∀{f m:Nat},m<128^k->(uf f m).length<=k:=by
 induction k with
 | zero=>
  intro f m h;have:m=0:=by omega
  subst this;cases f<;>simp[uf]
 | succ k ih=>
  intro f m h;cases f with
  | zero=>simp[uf]
  | succ f=>
   unfold uf;split
   ·simp
   ·have h2:(m-1)/128<128^k:=by rw[pK]at h;exact Nat.div_lt_of_lt_mul (by omega)
    have:=ih (f:=f) h2;simp only[cQ];omega
theorem KJ {n:Nat} (h:n<256):(UInt8.ofNat n).toNat=n:=by simp[AA];omega
theorem zft {n:Nat} (h:n<=1073741824):(bk n).length<=5:=by
 unfold bk;have h1:n/128<128^4:=by omega
 have:=Ud (f:=n) h1;simp only[cQ];omega
theorem QN {kind size:Nat} (h:size<=2147483647):(hd kind size).length<=5:=by
 unfold hd;have h1:size/16<128^4:=by omega
 exact ZS h1 (by omega)
end pk
namespace bm
def num:List UInt8->Nat
 | []=>0
 | b::r=>b.toNat+256*num r
theorem TX:∀bs:List UInt8,num bs<2^(8*bs.length)
 | []=>by simp[num]
 | b::r=>by
  have h:=TX r;have hb:b.toNat<256:=b.toNat_lt;have e:2^(8*(b::r).length)=256*2^(8*r.length):=by rw[cQ,Ah,nA,nE]
  rw[e];simp only[num];omega
theorem qn4:∀a b:List UInt8,num (a++b)=num a+2^(8*a.length)*num b
 | [],b=>by simp[num]
 | x::a,b=>by
  have e:2^(8*(x::a).length)=256*2^(8*a.length):=by rw[cQ,Ah,nA,nE]
  rw[G7,num,num,qn4 a b,e,vH,Ah,uy]
theorem zax (bs:List UInt8) (i:Nat) (h:i<=bs.length):num bs/2^(8*i)=num (bs.drop i):=by have e:=qn4 (bs.take i) (bs.drop i);rw[Fz]at e;have hl:=TX (bs.take i);rw[eJ,tU h]at e hl;rw[e,LY _ _ (oZ _),Fg hl,fM]
theorem chunk (bs:List UInt8) (a k:Nat) (h:a/8<bs.length) (hk:a%8+k<=8) :
  num bs/2^a%2^k=(bs.getD (a/8) 0).toNat/2^(a%8)%2^k:=by
 have e:num bs/2^a=num (bs.drop (a/8))/2^(a%8):=by rw[<-zax bs (a/8) (by omega),Ma,<-nA,Nat.div_add_mod]
 have hd:bs.drop (a/8)=bs[a/8]::bs.drop (a/8+1):=AF h;have hg:bs.getD (a/8) 0=bs[a/8]:=by simp[List.getD,h]
 rw[e,hd,hg,num];generalize num (bs.drop (a/8+1))=r;generalize (bs[a/8]).toNat=b;have Y4:256*r=2^(a%8)*(2^k*(2^(8-a%8-k)*r)):=by rw[<-vH,<-vH,<-nA,<-nA,show a%8+k+(8-a%8-k)=8 from by omega]
 rw[Y4,LY _ _ (oZ _),Nat.add_mul_mod_self_left]
theorem more (x a i k:Nat):x/2^a%2^(i+k)=x/2^a%2^i+2^i*(x/2^(a+i)%2^k):=by rw[nA 2 i k,Nat.mod_mul,Ma,<-nA]
def lj:Nat->Nat->List UInt8
 | 0,_=>[]
 | k+1,m=>UInt8.ofNat m::lj k (m/256)
theorem Ry:∀k m:Nat,(lj k m).length=k
 | 0,_=>rfl
 | k+1,m=>by simp[lj,Ry k]
theorem LN (k:Nat):2^(8*(k+1))=256*2^(8*k):=by rw[Ah,nA,nE]
theorem Ug:∀k m x:Nat,lj k (m+2^(8*k)*x)=lj k m
 | 0,m,x=>rfl
 | k+1,m,x=>by
  rw[lj,lj,LN,vH];have h1:UInt8.ofNat (m+256*(2^(8*k)*x))=UInt8.ofNat m:=Kh.1 (by simp[AA]);have h2:(m+256*(2^(8*k)*x))/256=m/256+2^(8*k)*x:=by omega
  rw[h1,h2,Ug k]
theorem VG:∀k j m:Nat,lj (k+j) m=lj k m++lj j (m/2^(8*k))
 | 0,j,m=>by simp[lj]
 | k+1,j,m=>by rw[Nat.add_right_comm,lj,lj,VG k j,G7,Ma,LN]
theorem qua (k m:Nat):lj (k+1) m=lj k m++[UInt8.ofNat (m/2^(8*k))]:=by rw[VG k 1 m];simp[lj]
theorem qyq:∀bs:List UInt8,lj bs.length (num bs)=bs
 | []=>rfl
 | b::r=>by
  have hb:b.toNat<256:=b.toNat_lt;rw[cQ,lj,num];have h1:UInt8.ofNat (b.toNat+256*num r)=b:=Kh.1 (by rw[AA];omega);have h2:(b.toNat+256*num r)/256=num r:=by omega
  rw[h1,h2,qyq r]
def jP (v n:Nat):Nat->Nat
 | 0=>0
 | k+1=>jP v n k+2^k*(v/2^(n-1-k)%2)
theorem qy1 (M L v n k:Nat):M+2^L*jP v n k+2^(L+k)*(v/2^(n-1-k)%2)=M+2^L*jP v n (k+1):=by rw[jP,Ah,nA,vH,uy]
theorem zdl (q M:Nat) (bs:List UInt8) (hM:M<2^(8*q)):lj (q+bs.length) (M+2^(8*q)*num bs)=lj q M++bs:=by rw[VG,Ug,LY _ _ (oZ _),Fg hM,fM,qyq]
theorem ZY (q M:Nat) (bs:List UInt8) (hM:M<2^(8*q)):M+2^(8*q)*num bs<2^(8*q+8*bs.length):=by
 have h:=TX bs;rw[nA];calc M+2^(8*q)*num bs<2^(8*q)+2^(8*q)*num bs:=by omega
  _=2^(8*q)*(num bs+1):=by rw[Ah,qV,G0]
  _<=2^(8*q)*2^(8*bs.length):=LW _ h
end bm
namespace bl
open Go bm
def yt (b:Bool):Nat:=if b then 1 else 0
def cW:List Bool->Nat
 | []=>0
 | b::t=>yt b+2*cW t
theorem TS (b:Bool):yt b<2:=by cases b<;>decide
theorem Fw:∀a b:List Bool,cW (a++b)=cW a+2^a.length*cW b
 | [],b=>by simp[cW]
 | x::a,b=>by rw[G7,cW,cW,Fw a b,cQ,pK];generalize 2^a.length=p;rw[nE p 2,vH];generalize p*cW b=q;omega
theorem qza:∀l:List Bool,cW l<2^l.length
 | []=>by simp[cW]
 | x::l=>by have:=qza l;have:=TS x;rw[cW,cQ,pK];omega
def fD:Nat->Nat->List Bool
 | 0,_=>[]
 | n+1,x=>(x%2==1)::fD n (x/2)
theorem aH:∀n x:Nat,(fD n x).length=n
 | 0,_=>rfl
 | n+1,x=>by rw[fD,cQ,aH]
theorem qzj (x:Nat):yt (x%2==1)=x%2:=by rcases KG x with h|h<;>rw[h]<;>rfl
theorem UD:∀n x:Nat,cW (fD n x)=x%2^n
 | 0,x=>by simp[fD,cW,Nat.mod_one]
 | n+1,x=>by rw[fD,cW,UD n,qzj,pK,nE (2^n),Nat.mod_mul]
theorem qof:∀n:Nat,cW (List.replicate n false)=0
 | 0=>rfl
 | n+1=>by rw[List.replicate_succ,cW,qof n];rfl
def msb (n x:Nat):List Bool:=(fD n x).reverse
theorem KI (n x:Nat):(msb n x).length=n:=by rw[msb,Kw,aH]
theorem qxn:∀(n x i:Nat) (h:i<(fD n x).length),(fD n x)[i]=(x/2^i%2==1)
 | 0,x,i,h=>by simp[fD]at h
 | n+1,x,0,_=>by simp[fD]
 | n+1,x,i+1,h=>by simp only[fD,List.getElem_cons_succ];rw[qxn n (x/2) i,Ma,pK,nE 2]
theorem qqn (x n:Nat):∀k,k<=n->cW ((msb n x).take k)=jP x n k
 | 0,_=>by simp[cW,jP]
 | k+1,h=>by
  have hl:k<(msb n x).length:=by rw[KI];omega
  rw[DJ hl,Fw,qqn x n k (by omega),eJ,KI,tU (by omega),jP];congr 2;have e:(msb n x)[k]=(x/2^(n-1-k)%2==1):=by simp only[msb,List.getElem_reverse,aH];rw[qxn]
  rw[e,cW,cW,Nat.mul_zero,jS,qzj]
theorem zb6 (n x:Nat):cW (msb n x)=jP x n n:=by have:=qqn x n n (aw _);rwa [oI (by rw[KI];exact aw _)]at this
def aC (bs:List UInt8):List Bool:=bs.flatMap λc=>fD 8 c.toNat
theorem qi0 (c:UInt8) (bs:List UInt8):aC (c::bs)=fD 8 c.toNat++aC bs:=rfl
theorem AE:∀bs:List UInt8,(aC bs).length=8*bs.length
 | []=>rfl
 | c::bs=>by rw[qi0,aK,aH,AE bs,cQ];omega
theorem VY:∀bs:List UInt8,cW (aC bs)=num bs
 | []=>rfl
 | c::bs=>by have:=iB c;rw[qi0,Fw,aH,VY bs,UD,num,Aq (by omega)]
def pad (n:Nat):Nat:=(8-n%8)%8
def iR (l:List Bool):List Bool:=l++List.replicate (pad l.length) false
theorem RX (l:List Bool):(iR l).length=(l.length+7)/8*8:=by unfold iR pad;rw[aK,Hy];omega
theorem zb5 (l:List Bool):cW (iR l)=cW l:=by unfold iR;rw[Fw,qof];omega
def bytesOf (l:List Bool):List UInt8:=lj ((l.length+7)/8) (cW l)
theorem bytesOf_length (l:List Bool):(bytesOf l).length=(l.length+7)/8:=Ry _ _
theorem qw3 (l:List Bool) (h:l.length%8=0):iR l=l:=by unfold iR pad;rw[h];simp
end bl
namespace huf
open Go bm bl
def ai (ls:List Nat) (i:Nat):Nat:=ls[i]?.getD 0
def iF (ls:List Nat):Nat->Nat
 | 0=>0
 | l+1=>2*(iF ls l+if l=0 then 0 else ls.count l)
def code (ls:List Nat) (i:Nat):Nat:=iF ls (ai ls i)+(ls.take i).count (ai ls i)
def share (ls:List Nat):Nat->Nat
 | 0=>0
 | l+1=>share ls l+if l=0 then 0 else ls.count l*2^(15-l)
def weight:List Nat->Nat
 | []=>0
 | l::t=>(if l=0 then 0 else 2^(15-l))+weight t
theorem Vc (ls:List Nat):∀l,l<=15->iF ls l*2^(15-l)=share ls l
 | 0,_=>by simp[iF,share]
 | l+1,h=>by
  have ih:=Vc ls l (by omega);have e:2^(15-l)=2*2^(15-(l+1)):=by rw[show 15-l=15-(l+1)+1 from by omega,pK,nE]
  rw[iF,share,<-ih,e];generalize 2^(15-(l+1))=p;split<;>simp only[Ah,rC,jS,vH,Nat.mul_left_comm]
theorem qnw (x:Nat) (t:List Nat):∀m,share (x::t) m=share t m+if 0<x/\x<m then 2^(15-x) else 0
 | 0=>by simp[share]
 | m+1=>by
  rw[share,share,qnw x t m,List.count_cons];by_cases h0:m=0
  ·subst h0;simp only[if_true];rw[if_neg (by omega),if_neg (by omega)]
  ·rw[if_neg h0,if_neg h0];by_cases hx:x=m
   ·subst hx;simp only[beq_self_eq_true,if_true];rw[if_neg (by omega),if_pos (by omega),rC,Nat.one_mul];omega
   ·have hb:(x==m)=false:=by simpa using hx
    rw[hb];simp only[Fq,if_false,jS];by_cases hc:0<x/\x<m
    ·rw[if_pos hc,if_pos (by omega)];omega
    ·rw[if_neg hc,if_neg (by omega)];omega
theorem qp6:∀m,share [] m=0
 | 0=>rfl
 | m+1=>by rw[share,qp6 m];simp
theorem Wa:∀ls:List Nat,(∀l∈ls,l<=15)->share ls 16=weight ls
 | [],_=>qp6 16
 | x::t,h=>by
  have hx:=h x (by simp);rw[qnw,weight,Wa t λl hl=>h l (by simp[hl])];by_cases h0:x=0
  ·rw[if_neg (by omega),if_pos h0];omega
  ·rw[if_pos (by omega),if_neg h0];omega
theorem qnv (ls:List Nat):∀(k l:Nat),share ls l<=share ls (l+k)
 | 0,_=>aw _
 | k+1,l=>by have:=qnv ls k l;rw[<-uy,share];omega
theorem qtg (ls:List Nat) {l m:Nat} (h:l<=m):share ls l<=share ls m:=by obtain⟨k,rfl⟩:∃k,m=l+k:=⟨m-l,by omega⟩;exact qnv ls k l
theorem Fi {ls:List Nat} {i:Nat} (h:0<ai ls i):i<ls.length:=by
 unfold ai at h;rcases og i ls.length with k|k
 ·exact k
 ·rw[wg k]at h;simp at h
theorem KE {ls:List Nat} {i:Nat} (h:i<ls.length):ai ls i∈ls:=by unfold ai;rw[bO h];exact vJ h
theorem R0 (ls:List Nat) (i x:Nat) (h:i<ls.length):(ls.take (i+1)).count x=(ls.take i).count x+if ai ls i=x then 1 else 0:=by rw[DJ h,Hc,List.count_singleton];unfold ai;rw[bO h];simp only[Option.getD_some,beq_iff_eq]
theorem qpm (ls:List Nat) (i x:Nat):(ls.take i).count x<=ls.count x:=(List.take_sublist i ls).count_le x
theorem qnc (ls:List Nat) (x:Nat) {i j:Nat} (h:i<=j):(ls.take i).count x<=(ls.take j).count x:=by
 have:ls.take i=(ls.take j).take i:=by rw[List.take_take,tU h]
 rw[this];exact (List.take_sublist i (ls.take j)).count_le x
def lo (ls:List Nat) (i:Nat):Nat:=code ls i*2^(15-ai ls i)
theorem zf5 (ls:List Nat) (i:Nat) (h:ai ls i<=15):lo ls i=share ls (ai ls i)+(ls.take i).count (ai ls i)*2^(15-ai ls i):=by rw[lo,code,rC,Vc ls _ h]
theorem zf6 (ls:List Nat) (i:Nat) (h0:0<ai ls i) (h:ai ls i<=15):lo ls i+2^(15-ai ls i)<=share ls (ai ls i+1):=by have hi:=Fi h0;have h1:=R0 ls i (ai ls i) hi;rw[if_pos rfl]at h1;have h2:=qpm ls (i+1) (ai ls i);rw[zf5 ls i h,share,if_neg (by omega)];have h3:((ls.take i).count (ai ls i)+1)*2^(15-ai ls i)<=ls.count (ai ls i)*2^(15-ai ls i):=uz _ (by omega);rw[rC,Nat.one_mul]at h3;omega
theorem zbz (ls:List Nat) {i j:Nat} (h0:0<ai ls i) (h:ai ls i=ai ls j) (hc:code ls i=code ls j):i=j:=by
 have key:∀{i j:Nat},0<ai ls i->ai ls i=ai ls j->code ls i=code ls j->¬i<j:=λ{i j} h0 h hc jW=>by have h1:=R0 ls i (ai ls i) (Fi h0);rw[if_pos rfl]at h1;have h2:=qnc ls (ai ls i) (show i+1<=j from jW);unfold code at hc;rw[<-h]at hc;omega
 rcases Nat.lt_trichotomy i j with k|k|k
 ·exact absurd k (key h0 h hc)
 ·exact k
 ·exact absurd k (key (by omega) h.symm hc.symm)
theorem zeh (ls:List Nat) (i:Nat) (hle:∀l∈ls,l<=15) (hw:weight ls<=32768) (h0:0<ai ls i):code ls i<2^ai ls i:=by
 have sN:=hle _ (KE (Fi h0));have h1:=zf6 ls i h0 sN;have h2:=qtg ls (show ai ls i+1<=16 by omega);rw[Wa ls hle]at h2;unfold lo at h1;have e:2^15=2^ai ls i*2^(15-ai ls i):=by rw[<-nA];congr 1;omega
 have h3:(code ls i+1)*2^(15-ai ls i)<=2^ai ls i*2^(15-ai ls i):=by rw[<-e,rC,Nat.one_mul];exact bS (bS h1 h2) hw
 have:=Nat.le_of_mul_le_mul_right h3 (oZ _);omega
def iW (ls:List Nat) (n v:Nat):Option Nat:=(List.range ls.length).find? λi=>decide (0<n)&&(ai ls i==n&&code ls i==v)
def ej (ls:List Nat) (n v:Nat):Bool:=(List.range ls.length).any λi=>decide (n<ai ls i)&&code ls i/2^(ai ls i-n)==v
def cu (ls:List Nat):Nat->Nat->Nat->List Bool->Nat×Nat×Nat
 | 0,n,v,_=>match iW ls n v with
  | some s=>(s,n,0)
  | none=>(0,n,3)
 | f+1,n,v,bits=>match iW ls n v with
  | some s=>(s,n,0)
  | none=>if ej ls n v then (match bits with
   | []=>(0,n,4)
   | b::t=>cu ls f (n+1) (2*v+yt b) t) else (0,n,3)
theorem MA {ls:List Nat} {f n v s:Nat} {bits:List Bool} (h:iW ls n v=some s):cu ls f n v bits=(s,n,0):=by cases f<;>simp[cu,h]
theorem VL {ls:List Nat} {f n v:Nat} {b:Bool} {t:List Bool} (h:iW ls n v=none) (hm:ej ls n v=true):cu ls (f+1) n v (b::t)=cu ls f (n+1) (2*v+yt b) t:=by simp[cu,h,hm]
theorem VM {ls:List Nat} {f n v:Nat} (h:iW ls n v=none) (hm:ej ls n v=true):cu ls (f+1) n v []=(0,n,4):=by simp[cu,h,hm]
theorem VJ {ls:List Nat} {f n v:Nat} {bits:List Bool} (h:iW ls n v=none) (hm:ej ls n v=false):cu ls f n v bits=(0,n,3):=by cases f<;>simp[cu,h,hm]
theorem Vq {ls:List Nat} {n v:Nat} {bits:List Bool} (h:iW ls n v=none):cu ls 0 n v bits=(0,n,3):=by simp[cu,h]
theorem zd9 (ls:List Nat) (s:Nat) (h0:0<ai ls s):iW ls (ai ls s) (code ls s)=some s:=by
 unfold iW;cases hf:(List.range ls.length).find? λi=>decide (0<ai ls s)&&(ai ls i==ai ls s&&code ls i==code ls s) with
 | none=>
  have:=List.find?_eq_none.1 hf s (xD.2 (Fi h0));simp[h0]at this
 | some i=>have h1:=List.find?_some hf;simp only[lM,decide_eq_true_eq,beq_iff_eq]at h1;rw[zbz ls (by omega) h1.2.1 h1.2.2]
end huf
namespace huf
open Go
def syms (ls:List Nat) (l i:Nat):List Nat:=(List.range i).filter λj=>ai ls j==l
theorem Vt (ls:List Nat) (l:Nat):syms ls l 0=[]:=rfl
theorem VC (ls:List Nat) (l i:Nat):syms ls l (i+1)=syms ls l i++if ai ls i=l then [i] else []:=by
 unfold syms;rw[Kg,CG];by_cases h:ai ls i=l
 ·simp[h]
 ·simp[h]
theorem V4 (ls:List Nat) (l:Nat):∀i,i<=ls.length->(syms ls l i).length=(ls.take i).count l
 | 0,_=>by simp[Vt]
 | i+1,h=>by rw[VC,aK,V4 ls l i (by omega),R0 ls i l (by omega)];split<;>simp
theorem UT (ls:List Nat) (l:Nat):∀(i:Nat),i<=ls.length->∀(t s:Nat),(syms ls l i)[t]?=some s->ai ls s=l/\(ls.take s).count l=t/\s<i
 | 0,_,t,s,h=>by simp[Vt]at h
 | i+1,hi,t,s,h=>by
  rw[VC,List.getElem?_append]at h;split at h
  ·have:=UT ls l i (by omega) t s h;exact⟨this.1,this.2.1,by omega⟩
  ·rename_i aY;split at h
   ·rename_i hl;have ht:t-(syms ls l i).length=0:=by have:=(lA.1 h).1;simp at this;omega
    rw[ht]at h;simp at h;subst h;have:=V4 ls l i (by omega);exact⟨hl,by omega,by omega⟩
   ·simp at h
theorem qpz {ls:List Nat} {l t s:Nat} (h:(syms ls l ls.length)[t]?=some s):ai ls s=l/\code ls s=iF ls l+t/\s<ls.length:=by obtain⟨h1,h2,h3⟩:=UT ls l ls.length (aw _) t s h;exact⟨h1,by unfold code;rw[h1,h2],h3⟩
theorem qtb {ls:List Nat} {s:Nat} (hs:s<ls.length):(syms ls (ai ls s) ls.length)[(ls.take s).count (ai ls s)]?=some s:=by
 have dz:s∈syms ls (ai ls s) ls.length:=by simp[syms,hs]
 obtain⟨t,ht,e⟩:=List.getElem_of_mem dz;have h2:=(UT ls _ ls.length (aw _) t s (by rw[bO ht,e])).2.1;rw[h2,bO ht,e]
theorem qx8 {ls:List Nat} {n v s:Nat} (hn:0<n) (hv:iF ls n<=v) (h:(syms ls n ls.length)[v-iF ls n]?=some s):iW ls n v=some s:=by
 obtain⟨h1,h2,h3⟩:=qpz h;have hc:code ls s=v:=by omega
 have:=zd9 ls s (by omega);rw[h1,hc]at this;exact this
theorem qx9 {ls:List Nat} {n v:Nat} (h:n=0\/v<iF ls n\/(syms ls n ls.length).length<=v-iF ls n):iW ls n v=none:=by
 unfold iW;rw[List.find?_eq_none];intro s hs hp;simp only[xD]at hs;simp only[lM,decide_eq_true_eq,beq_iff_eq]at hp;obtain⟨h0,h1,h2⟩:=hp;have hg:=qtb hs;rw[h1]at hg;have aY:=(lA.1 hg).1;have hc:code ls s=iF ls n+(ls.take s).count n:=by unfold code;rw[h1]
 omega
def meets (ls:List Nat) (n v l:Nat):Bool:=decide (0<(syms ls l ls.length).length)&&(decide (iF ls l<(v+1)*2^(l-n))&&decide (v*2^(l-n)<iF ls l+(syms ls l ls.length).length))
theorem qu0 {ls:List Nat} {n v l:Nat} (hl:n<l) (h:meets ls n v l=true):ej ls n v=true:=by
 simp only[meets,lM,decide_eq_true_eq]at h;obtain⟨h0,h1,h2⟩:=h;have hp:0<2^(l-n):=oZ _;obtain⟨t,ht,WQ⟩:∃t,t<(syms ls l ls.length).length/\(iF ls l+t)/2^(l-n)=v:=by
  by_cases hc:v*2^(l-n)<=iF ls l
  ·exact⟨0,h0,by rw[jS];exact Nat.div_eq_of_lt_le hc h1⟩
  ·refine⟨v*2^(l-n)-iF ls l,by omega,?_⟩;rw[show iF ls l+(v*2^(l-n)-iF ls l)=v*2^(l-n) by omega];exact Nat.mul_div_cancel _ hp
 obtain⟨s,hs⟩:∃s,(syms ls l ls.length)[t]?=some s:=⟨_,bO ht⟩;obtain⟨k1,k2,k3⟩:=qpz hs;unfold ej;rw[List.any_eq_true];refine⟨s,xD.2 k3,?_⟩;simp only[lM,decide_eq_true_eq,beq_iff_eq];rw[k1,k2];exact⟨hl,WQ⟩
theorem qsg {ls:List Nat} {n v:Nat} {m:Nat} (hm:∀s,s<ls.length->ai ls s<=m) (h:∀l,n<l->l<=m->meets ls n v l=false):ej ls n v=false:=by
 unfold ej;rw[List.any_eq_false];intro s hs hp;simp only[xD]at hs;simp only[lM,decide_eq_true_eq,beq_iff_eq]at hp;obtain⟨h1,h2⟩:=hp;have hx:=h (ai ls s) h1 (hm s hs);have hg:=qtb hs;have aY:=(lA.1 hg).1;have hc:code ls s=iF ls (ai ls s)+(ls.take s).count (ai ls s):=rfl;have hp:0<2^(ai ls s-n):=oZ _;have rJ:v*2^(ai ls s-n)<=code ls s:=by rw[<-h2];exact Nat.div_mul_le_self _ _
 have Lk:code ls s<(v+1)*2^(ai ls s-n):=(Hz hp).1 (by rw[h2];exact Nat.lt_succ_self v);have:meets ls n v (ai ls s)=true:=by simp only[meets,lM,decide_eq_true_eq];exact⟨by omega,by omega,by omega⟩
 rw[this]at hx;cases hx
end huf
namespace bl
open Go bm
theorem qog (l:List Bool) (k:Nat) (h:k<=l.length):cW l=cW (l.take k)+2^k*cW (l.drop k):=by have h1:=Fw (l.take k) (l.drop k);rw[Fz,eJ,tU h]at h1;exact h1
theorem RT (l:List Bool) (k:Nat):cW (l.take k)<2^k:=by have h1:=qza (l.take k);have h2:2^(l.take k).length<=2^k:=kr (by decide) (by rw[eJ];omega);omega
theorem qzb (l:List Bool) (k:Nat) (h:k<=l.length):cW l/2^k=cW (l.drop k):=by rw[qog l k h,LY _ _ (oZ k),Fg (RT l k),fM]
theorem qy9 (l:List Bool) (k:Nat) (h:k<=l.length):cW l%2^k=cW (l.take k):=by rw[qog l k h,Nat.add_mul_mod_self_left,Aq (RT l k)]
theorem zay (bs:List UInt8) (a n:Nat) (h:a+n<=8*bs.length):num bs/2^a%2^n=cW (((aC bs).drop a).take n):=by rw[<-VY,qzb _ _ (by rw[AE];omega),qy9 _ _ (by rw[eQ,AE];omega)]
end bl

end Go.Proofs.YtkmpfgpfbmeihaaGreatDoor