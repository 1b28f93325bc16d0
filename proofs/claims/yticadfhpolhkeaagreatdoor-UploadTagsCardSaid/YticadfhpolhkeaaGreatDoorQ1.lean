/-
  Texts of this proof, one behind the other: Lib, Append, Ops, AppStr, Ops2, Args, Bytes, Tail, MapP, FsMap, RdMore, AppFull, AppMid, OwnB.
-/
import Derived.Test.YticadfhpolhkeaaGreatDoorRows
import Derived.WalkKit
import Derived.ProofKit
import Derived.OpenShut
import Derived.BigQuiet
import Derived.Lib.Hide
import Derived.ShutString
import Derived.Maps.AppendAt
import Derived.Deep.RegionLaw
import Derived.Lib.AppendStr
import Derived.SizedLaws
import Derived.Deep.CondSized
import Derived.JoinedCond
import Derived.ChangeOld
import Derived.StillTailTactics
import Derived.Maps.OwnSet
import Derived.Laws.CopyRow
set_option maxHeartbeats 16000000
set_option maxRecDepth 100000
set_option linter.unusedVariables false
set_option linter.unusedSimpArgs false
namespace Go.Proofs.YticadfhpolhkeaaGreatDoor
abbrev OA:=Option Addr
abbrev LB:=List UInt8
abbrev LN:=List Nat
abbrev AV:=Array Value
abbrev LV:=List Value
theorem ah {α : Sort _} (a : α) : ∃ x, x = a := ⟨a, rfl⟩
theorem af {p : Prop} (h : p) : Go.RowKit.Hid p := h
theorem ai {p0 p1 : Prop} (h0 : p0) (h1 : p1) : Go.RowKit.Hid (p0 /\ p1) := (⟨h0, h1⟩ : p0 /\ p1)
theorem aq {p0 p1 p2 : Prop} (h0 : p0) (h1 : p1) (h2 : p2) : Go.RowKit.Hid (p0 /\ p1 /\ p2) := (⟨h0, h1, h2⟩ : p0 /\ p1 /\ p2)
theorem aA {p0 p1 p2 p3 : Prop} (h0 : p0) (h1 : p1) (h2 : p2) (h3 : p3) : Go.RowKit.Hid (p0 /\ p1 /\ p2 /\ p3) := (⟨h0, h1, h2, h3⟩ : p0 /\ p1 /\ p2 /\ p3)
theorem aQ {p0 p1 p2 p3 p4 : Prop} (h0 : p0) (h1 : p1) (h2 : p2) (h3 : p3) (h4 : p4) : Go.RowKit.Hid (p0 /\ p1 /\ p2 /\ p3 /\ p4) := (⟨h0, h1, h2, h3, h4⟩ : p0 /\ p1 /\ p2 /\ p3 /\ p4)
theorem cU {p0 p1 p2 p3 p4 p5 : Prop} (h0 : p0) (h1 : p1) (h2 : p2) (h3 : p3) (h4 : p4) (h5 : p5) : Go.RowKit.Hid (p0 /\ p1 /\ p2 /\ p3 /\ p4 /\ p5) := (⟨h0, h1, h2, h3, h4, h5⟩ : p0 /\ p1 /\ p2 /\ p3 /\ p4 /\ p5)
theorem eW {p0 p1 p2 p3 p4 p5 p6 : Prop} (h0 : p0) (h1 : p1) (h2 : p2) (h3 : p3) (h4 : p4) (h5 : p5) (h6 : p6) : Go.RowKit.Hid (p0 /\ p1 /\ p2 /\ p3 /\ p4 /\ p5 /\ p6) := (⟨h0, h1, h2, h3, h4, h5, h6⟩ : p0 /\ p1 /\ p2 /\ p3 /\ p4 /\ p5 /\ p6)
theorem lf {p0 p1 p2 p3 p4 p5 p6 p7 : Prop} (h0 : p0) (h1 : p1) (h2 : p2) (h3 : p3) (h4 : p4) (h5 : p5) (h6 : p6) (h7 : p7) : Go.RowKit.Hid (p0 /\ p1 /\ p2 /\ p3 /\ p4 /\ p5 /\ p6 /\ p7) := (⟨h0, h1, h2, h3, h4, h5, h6, h7⟩ : p0 /\ p1 /\ p2 /\ p3 /\ p4 /\ p5 /\ p6 /\ p7)
theorem pY {p0 p1 p2 p3 p4 p5 p6 p7 p8 : Prop} (h0 : p0) (h1 : p1) (h2 : p2) (h3 : p3) (h4 : p4) (h5 : p5) (h6 : p6) (h7 : p7) (h8 : p8) : Go.RowKit.Hid (p0 /\ p1 /\ p2 /\ p3 /\ p4 /\ p5 /\ p6 /\ p7 /\ p8) := (⟨h0, h1, h2, h3, h4, h5, h6, h7, h8⟩ : p0 /\ p1 /\ p2 /\ p3 /\ p4 /\ p5 /\ p6 /\ p7 /\ p8)
theorem sM {p0 p1 p2 p3 p4 p5 p6 p7 p8 p9 : Prop} (h0 : p0) (h1 : p1) (h2 : p2) (h3 : p3) (h4 : p4) (h5 : p5) (h6 : p6) (h7 : p7) (h8 : p8) (h9 : p9) : Go.RowKit.Hid (p0 /\ p1 /\ p2 /\ p3 /\ p4 /\ p5 /\ p6 /\ p7 /\ p8 /\ p9) := (⟨h0, h1, h2, h3, h4, h5, h6, h7, h8, h9⟩ : p0 /\ p1 /\ p2 /\ p3 /\ p4 /\ p5 /\ p6 /\ p7 /\ p8 /\ p9)
theorem sL {p0 p1 p2 p3 p4 p5 p6 p7 p8 p9 gD : Prop} (h0 : p0) (h1 : p1) (h2 : p2) (h3 : p3) (h4 : p4) (h5 : p5) (h6 : p6) (h7 : p7) (h8 : p8) (h9 : p9) (iC : gD) : Go.RowKit.Hid (p0 /\ p1 /\ p2 /\ p3 /\ p4 /\ p5 /\ p6 /\ p7 /\ p8 /\ p9 /\ gD) := (⟨h0, h1, h2, h3, h4, h5, h6, h7, h8, h9, iC⟩ : p0 /\ p1 /\ p2 /\ p3 /\ p4 /\ p5 /\ p6 /\ p7 /\ p8 /\ p9 /\ gD)
theorem JM {p0 p1 p2 p3 p4 p5 p6 p7 p8 p9 gD jf : Prop} (h0 : p0) (h1 : p1) (h2 : p2) (h3 : p3) (h4 : p4) (h5 : p5) (h6 : p6) (h7 : p7) (h8 : p8) (h9 : p9) (iC : gD) (sJ : jf) : Go.RowKit.Hid (p0 /\ p1 /\ p2 /\ p3 /\ p4 /\ p5 /\ p6 /\ p7 /\ p8 /\ p9 /\ gD /\ jf) := (⟨h0, h1, h2, h3, h4, h5, h6, h7, h8, h9, iC, sJ⟩ : p0 /\ p1 /\ p2 /\ p3 /\ p4 /\ p5 /\ p6 /\ p7 /\ p8 /\ p9 /\ gD /\ jf)
theorem Xe {p0 p1 p2 p3 p4 p5 p6 p7 p8 p9 gD jf kK : Prop} (h0 : p0) (h1 : p1) (h2 : p2) (h3 : p3) (h4 : p4) (h5 : p5) (h6 : p6) (h7 : p7) (h8 : p8) (h9 : p9) (iC : gD) (sJ : jf) (GD : kK) : Go.RowKit.Hid (p0 /\ p1 /\ p2 /\ p3 /\ p4 /\ p5 /\ p6 /\ p7 /\ p8 /\ p9 /\ gD /\ jf /\ kK) := (⟨h0, h1, h2, h3, h4, h5, h6, h7, h8, h9, iC, sJ, GD⟩ : p0 /\ p1 /\ p2 /\ p3 /\ p4 /\ p5 /\ p6 /\ p7 /\ p8 /\ p9 /\ gD /\ jf /\ kK)
theorem Xd {p0 p1 p2 p3 p4 p5 p6 p7 p8 p9 gD jf kK nG : Prop} (h0 : p0) (h1 : p1) (h2 : p2) (h3 : p3) (h4 : p4) (h5 : p5) (h6 : p6) (h7 : p7) (h8 : p8) (h9 : p9) (iC : gD) (sJ : jf) (GD : kK) (zK : nG) : Go.RowKit.Hid (p0 /\ p1 /\ p2 /\ p3 /\ p4 /\ p5 /\ p6 /\ p7 /\ p8 /\ p9 /\ gD /\ jf /\ kK /\ nG) := (⟨h0, h1, h2, h3, h4, h5, h6, h7, h8, h9, iC, sJ, GD, zK⟩ : p0 /\ p1 /\ p2 /\ p3 /\ p4 /\ p5 /\ p6 /\ p7 /\ p8 /\ p9 /\ gD /\ jf /\ kK /\ nG)
theorem Xc {p0 p1 p2 p3 p4 p5 p6 p7 p8 p9 gD jf kK nG sX : Prop} (h0 : p0) (h1 : p1) (h2 : p2) (h3 : p3) (h4 : p4) (h5 : p5) (h6 : p6) (h7 : p7) (h8 : p8) (h9 : p9) (iC : gD) (sJ : jf) (GD : kK) (zK : nG) (NN : sX) : Go.RowKit.Hid (p0 /\ p1 /\ p2 /\ p3 /\ p4 /\ p5 /\ p6 /\ p7 /\ p8 /\ p9 /\ gD /\ jf /\ kK /\ nG /\ sX) := (⟨h0, h1, h2, h3, h4, h5, h6, h7, h8, h9, iC, sJ, GD, zK, NN⟩ : p0 /\ p1 /\ p2 /\ p3 /\ p4 /\ p5 /\ p6 /\ p7 /\ p8 /\ p9 /\ gD /\ jf /\ kK /\ nG /\ sX)
theorem Xb {p0 p1 p2 p3 p4 p5 p6 p7 p8 p9 gD jf kK nG sX BV : Prop} (h0 : p0) (h1 : p1) (h2 : p2) (h3 : p3) (h4 : p4) (h5 : p5) (h6 : p6) (h7 : p7) (h8 : p8) (h9 : p9) (iC : gD) (sJ : jf) (GD : kK) (zK : nG) (NN : sX) (pX : BV) : Go.RowKit.Hid (p0 /\ p1 /\ p2 /\ p3 /\ p4 /\ p5 /\ p6 /\ p7 /\ p8 /\ p9 /\ gD /\ jf /\ kK /\ nG /\ sX /\ BV) := (⟨h0, h1, h2, h3, h4, h5, h6, h7, h8, h9, iC, sJ, GD, zK, NN, pX⟩ : p0 /\ p1 /\ p2 /\ p3 /\ p4 /\ p5 /\ p6 /\ p7 /\ p8 /\ p9 /\ gD /\ jf /\ kK /\ nG /\ sX /\ BV)
theorem _root_.Go.RowKit.Hid.o0 {p0 q : Prop} (h : Go.RowKit.Hid (p0 /\ q)) : p0 := h.out.1
theorem _root_.Go.RowKit.Hid.o1 {p0 p1 q : Prop} (h : Go.RowKit.Hid (p0 /\ p1 /\ q)) : p1 := h.out.2.1
theorem _root_.Go.RowKit.Hid.o2 {p0 p1 p2 q : Prop} (h : Go.RowKit.Hid (p0 /\ p1 /\ p2 /\ q)) : p2 := h.out.2.2.1
theorem _root_.Go.RowKit.Hid.o3 {p0 p1 p2 p3 q : Prop} (h : Go.RowKit.Hid (p0 /\ p1 /\ p2 /\ p3 /\ q)) : p3 := h.out.2.2.2.1
theorem _root_.Go.RowKit.Hid.o4 {p0 p1 p2 p3 p4 q : Prop} (h : Go.RowKit.Hid (p0 /\ p1 /\ p2 /\ p3 /\ p4 /\ q)) : p4 := h.out.2.2.2.2.1
theorem _root_.Go.RowKit.Hid.o5 {p0 p1 p2 p3 p4 p5 q : Prop} (h : Go.RowKit.Hid (p0 /\ p1 /\ p2 /\ p3 /\ p4 /\ p5 /\ q)) : p5 := h.out.2.2.2.2.2.1
theorem _root_.Go.RowKit.Hid.o6 {p0 p1 p2 p3 p4 p5 p6 q : Prop} (h : Go.RowKit.Hid (p0 /\ p1 /\ p2 /\ p3 /\ p4 /\ p5 /\ p6 /\ q)) : p6 := h.out.2.2.2.2.2.2.1
theorem _root_.Go.RowKit.Hid.o7 {p0 p1 p2 p3 p4 p5 p6 p7 q : Prop} (h : Go.RowKit.Hid (p0 /\ p1 /\ p2 /\ p3 /\ p4 /\ p5 /\ p6 /\ p7 /\ q)) : p7 := h.out.2.2.2.2.2.2.2.1
theorem _root_.Go.RowKit.Hid.o8 {p0 p1 p2 p3 p4 p5 p6 p7 p8 q : Prop} (h : Go.RowKit.Hid (p0 /\ p1 /\ p2 /\ p3 /\ p4 /\ p5 /\ p6 /\ p7 /\ p8 /\ q)) : p8 := h.out.2.2.2.2.2.2.2.2.1
theorem _root_.Go.RowKit.Hid.o9 {p0 p1 p2 p3 p4 p5 p6 p7 p8 p9 q : Prop} (h : Go.RowKit.Hid (p0 /\ p1 /\ p2 /\ p3 /\ p4 /\ p5 /\ p6 /\ p7 /\ p8 /\ p9 /\ q)) : p9 := h.out.2.2.2.2.2.2.2.2.2.1
theorem _root_.Go.RowKit.Hid.o10 {p0 p1 p2 p3 p4 p5 p6 p7 p8 p9 gD q : Prop} (h : Go.RowKit.Hid (p0 /\ p1 /\ p2 /\ p3 /\ p4 /\ p5 /\ p6 /\ p7 /\ p8 /\ p9 /\ gD /\ q)) : gD := h.out.2.2.2.2.2.2.2.2.2.2.1
theorem _root_.Go.RowKit.Hid.o11 {p0 p1 p2 p3 p4 p5 p6 p7 p8 p9 gD jf q : Prop} (h : Go.RowKit.Hid (p0 /\ p1 /\ p2 /\ p3 /\ p4 /\ p5 /\ p6 /\ p7 /\ p8 /\ p9 /\ gD /\ jf /\ q)) : jf := h.out.2.2.2.2.2.2.2.2.2.2.2.1
theorem _root_.Go.RowKit.Hid.o12 {p0 p1 p2 p3 p4 p5 p6 p7 p8 p9 gD jf kK q : Prop} (h : Go.RowKit.Hid (p0 /\ p1 /\ p2 /\ p3 /\ p4 /\ p5 /\ p6 /\ p7 /\ p8 /\ p9 /\ gD /\ jf /\ kK /\ q)) : kK := h.out.2.2.2.2.2.2.2.2.2.2.2.2.1
theorem _root_.Go.RowKit.Hid.o13 {p0 p1 p2 p3 p4 p5 p6 p7 p8 p9 gD jf kK nG q : Prop} (h : Go.RowKit.Hid (p0 /\ p1 /\ p2 /\ p3 /\ p4 /\ p5 /\ p6 /\ p7 /\ p8 /\ p9 /\ gD /\ jf /\ kK /\ nG /\ q)) : nG := h.out.2.2.2.2.2.2.2.2.2.2.2.2.2.1
theorem _root_.Go.RowKit.Hid.o14 {p0 p1 p2 p3 p4 p5 p6 p7 p8 p9 gD jf kK nG sX q : Prop} (h : Go.RowKit.Hid (p0 /\ p1 /\ p2 /\ p3 /\ p4 /\ p5 /\ p6 /\ p7 /\ p8 /\ p9 /\ gD /\ jf /\ kK /\ nG /\ sX /\ q)) : sX := h.out.2.2.2.2.2.2.2.2.2.2.2.2.2.2.1
theorem _root_.Go.RowKit.Hid.o15 {p0 p1 p2 p3 p4 p5 p6 p7 p8 p9 gD jf kK nG sX BV q : Prop} (h : Go.RowKit.Hid (p0 /\ p1 /\ p2 /\ p3 /\ p4 /\ p5 /\ p6 /\ p7 /\ p8 /\ p9 /\ gD /\ jf /\ kK /\ nG /\ sX /\ BV /\ q)) : BV := h.out.2.2.2.2.2.2.2.2.2.2.2.2.2.2.2.1
theorem _root_.Go.RowKit.Hid.l1 {p0 p1 : Prop} (h : Go.RowKit.Hid (p0 /\ p1)) : p1 := h.out.2
theorem _root_.Go.RowKit.Hid.l2 {p0 p1 p2 : Prop} (h : Go.RowKit.Hid (p0 /\ p1 /\ p2)) : p2 := h.out.2.2
theorem _root_.Go.RowKit.Hid.l3 {p0 p1 p2 p3 : Prop} (h : Go.RowKit.Hid (p0 /\ p1 /\ p2 /\ p3)) : p3 := h.out.2.2.2
theorem _root_.Go.RowKit.Hid.l4 {p0 p1 p2 p3 p4 : Prop} (h : Go.RowKit.Hid (p0 /\ p1 /\ p2 /\ p3 /\ p4)) : p4 := h.out.2.2.2.2
theorem _root_.Go.RowKit.Hid.l5 {p0 p1 p2 p3 p4 p5 : Prop} (h : Go.RowKit.Hid (p0 /\ p1 /\ p2 /\ p3 /\ p4 /\ p5)) : p5 := h.out.2.2.2.2.2
theorem _root_.Go.RowKit.Hid.l6 {p0 p1 p2 p3 p4 p5 p6 : Prop} (h : Go.RowKit.Hid (p0 /\ p1 /\ p2 /\ p3 /\ p4 /\ p5 /\ p6)) : p6 := h.out.2.2.2.2.2.2
theorem _root_.Go.RowKit.Hid.l7 {p0 p1 p2 p3 p4 p5 p6 p7 : Prop} (h : Go.RowKit.Hid (p0 /\ p1 /\ p2 /\ p3 /\ p4 /\ p5 /\ p6 /\ p7)) : p7 := h.out.2.2.2.2.2.2.2
theorem _root_.Go.RowKit.Hid.l8 {p0 p1 p2 p3 p4 p5 p6 p7 p8 : Prop} (h : Go.RowKit.Hid (p0 /\ p1 /\ p2 /\ p3 /\ p4 /\ p5 /\ p6 /\ p7 /\ p8)) : p8 := h.out.2.2.2.2.2.2.2.2
theorem _root_.Go.RowKit.Hid.l9 {p0 p1 p2 p3 p4 p5 p6 p7 p8 p9 : Prop} (h : Go.RowKit.Hid (p0 /\ p1 /\ p2 /\ p3 /\ p4 /\ p5 /\ p6 /\ p7 /\ p8 /\ p9)) : p9 := h.out.2.2.2.2.2.2.2.2.2
theorem _root_.Go.RowKit.Hid.l10 {p0 p1 p2 p3 p4 p5 p6 p7 p8 p9 gD : Prop} (h : Go.RowKit.Hid (p0 /\ p1 /\ p2 /\ p3 /\ p4 /\ p5 /\ p6 /\ p7 /\ p8 /\ p9 /\ gD)) : gD := h.out.2.2.2.2.2.2.2.2.2.2
theorem _root_.Go.RowKit.Hid.l11 {p0 p1 p2 p3 p4 p5 p6 p7 p8 p9 gD jf : Prop} (h : Go.RowKit.Hid (p0 /\ p1 /\ p2 /\ p3 /\ p4 /\ p5 /\ p6 /\ p7 /\ p8 /\ p9 /\ gD /\ jf)) : jf := h.out.2.2.2.2.2.2.2.2.2.2.2
theorem _root_.Go.RowKit.Hid.l12 {p0 p1 p2 p3 p4 p5 p6 p7 p8 p9 gD jf kK : Prop} (h : Go.RowKit.Hid (p0 /\ p1 /\ p2 /\ p3 /\ p4 /\ p5 /\ p6 /\ p7 /\ p8 /\ p9 /\ gD /\ jf /\ kK)) : kK := h.out.2.2.2.2.2.2.2.2.2.2.2.2
theorem _root_.Go.RowKit.Hid.l13 {p0 p1 p2 p3 p4 p5 p6 p7 p8 p9 gD jf kK nG : Prop} (h : Go.RowKit.Hid (p0 /\ p1 /\ p2 /\ p3 /\ p4 /\ p5 /\ p6 /\ p7 /\ p8 /\ p9 /\ gD /\ jf /\ kK /\ nG)) : nG := h.out.2.2.2.2.2.2.2.2.2.2.2.2.2
theorem _root_.Go.RowKit.Hid.l14 {p0 p1 p2 p3 p4 p5 p6 p7 p8 p9 gD jf kK nG sX : Prop} (h : Go.RowKit.Hid (p0 /\ p1 /\ p2 /\ p3 /\ p4 /\ p5 /\ p6 /\ p7 /\ p8 /\ p9 /\ gD /\ jf /\ kK /\ nG /\ sX)) : sX := h.out.2.2.2.2.2.2.2.2.2.2.2.2.2.2
theorem _root_.Go.RowKit.Hid.l15 {p0 p1 p2 p3 p4 p5 p6 p7 p8 p9 gD jf kK nG sX BV : Prop} (h : Go.RowKit.Hid (p0 /\ p1 /\ p2 /\ p3 /\ p4 /\ p5 /\ p6 /\ p7 /\ p8 /\ p9 /\ gD /\ jf /\ kK /\ nG /\ sX /\ BV)) : BV := h.out.2.2.2.2.2.2.2.2.2.2.2.2.2.2.2
theorem aG:type_of% @List.length_append:=@List.length_append
theorem cV:type_of% @Array.getElem?_setIfInBounds_ne:=@Array.getElem?_setIfInBounds_ne
theorem nY:type_of% @List.drop_succ_cons:=@List.drop_succ_cons
theorem ax:type_of% @Nat.le_refl:=@Nat.le_refl
theorem lh:type_of% @List.take_succ_cons:=@List.take_succ_cons
theorem dm:type_of% @List.getElem?_eq_getElem:=@List.getElem?_eq_getElem
theorem dk:type_of% @List.getElem?_cons_zero:=@List.getElem?_cons_zero
theorem nE:type_of% @List.drop_zero:=@List.drop_zero
theorem jL:type_of% @List.map_cons:=@List.map_cons
theorem dU:type_of% @List.getElem?_cons_succ:=@List.getElem?_cons_succ
theorem dJ:type_of% @List.getElem?_toArray:=@List.getElem?_toArray
theorem qg:type_of% @List.map_nil:=@List.map_nil
theorem sW:type_of% @List.take_zero:=@List.take_zero
theorem dw:type_of% @List.length_cons:=@List.length_cons
theorem bP:type_of% @Nat.le_trans:=@Nat.le_trans
theorem eF:type_of% @List.mem_singleton:=@List.mem_singleton
theorem fM:type_of% @Nat.lt_of_lt_of_le:=@Nat.lt_of_lt_of_le
theorem fI:type_of% @Option.some.injEq:=@Option.some.injEq
theorem oI:type_of% @Array.getElem?_setIfInBounds_self_of_lt:=@Array.getElem?_setIfInBounds_self_of_lt
theorem fU:type_of% @List.append_assoc:=@List.append_assoc
theorem fH:type_of% @List.length_take:=@List.length_take
theorem BS:type_of% @List.getD_cons_zero:=@List.getD_cons_zero
theorem BR:type_of% @List.getD_cons_succ:=@List.getD_cons_succ
theorem eX:type_of% @List.mem_cons:=@List.mem_cons
theorem gN:type_of% @List.length_drop:=@List.length_drop
theorem j5:type_of% @List.mem_of_getElem?:=@List.mem_of_getElem?
theorem gx:type_of% @List.length_map:=@List.length_map
theorem ik:type_of% @Go.World.size_alloc:=@Go.World.size_alloc
theorem lL:type_of% @List.take_of_length_le:=@List.take_of_length_le
theorem ig:type_of% @Option.some.inj:=@Option.some.inj
theorem nF:type_of% @List.getElem?_eq_some_iff:=@List.getElem?_eq_some_iff
theorem gq:type_of% @Prod.mk.injEq:=@Prod.mk.injEq
theorem eE:type_of% @Nat.zero_le:=@Nat.zero_le
theorem jd:type_of% @List.map_append:=@List.map_append
theorem jc:type_of% @Except.ok.injEq:=@Except.ok.injEq
theorem lJ:type_of% @Nat.pow_le_pow_right:=@Nat.pow_le_pow_right
theorem pS:type_of% @List.setIfInBounds_toArray:=@List.setIfInBounds_toArray
theorem jo:type_of% @List.mem_append:=@List.mem_append
theorem jK:type_of% @List.length_nil:=@List.length_nil
theorem kJ:type_of% @Go.Value.slice.injEq:=@Go.Value.slice.injEq
theorem sr:type_of% @List.eq_nil_of_length_eq_zero:=@List.eq_nil_of_length_eq_zero
theorem kI:type_of% @Bool.and_eq_true:=@Bool.and_eq_true
theorem iN:type_of% @Nat.zero_add:=@Nat.zero_add
theorem oH:type_of% @List.mem_cons_of_mem:=@List.mem_cons_of_mem
theorem nW:type_of% @Option.some_ne_none:=@Option.some_ne_none
theorem nV:type_of% @List.set_cons_succ:=@List.set_cons_succ
theorem Ld:type_of% @List.drop_nil:=@List.drop_nil
theorem oG:type_of% @List.getElem?_take:=@List.getElem?_take
theorem mC:type_of% @Nat.two_pow_pos:=@Nat.two_pow_pos
theorem mV:type_of% @List.not_mem_nil:=@List.not_mem_nil
theorem pQ:type_of% @List.set_cons_zero:=@List.set_cons_zero
theorem x7:type_of% @List.take_succ_eq_append_getElem:=@List.take_succ_eq_append_getElem
theorem oE:type_of% @Go.World.ownsRow_nil:=@Go.World.ownsRow_nil
theorem sq:type_of% @List.getElem?_eq_none:=@List.getElem?_eq_none
theorem kT:type_of% @Nat.lt_or_ge:=@Nat.lt_or_ge
theorem qe:type_of% @List.getElem?_map:=@List.getElem?_map
theorem qd:type_of% @List.flatMap_cons:=@List.flatMap_cons
theorem mW:type_of% @UInt8.toNat_lt:=@UInt8.toNat_lt
theorem nX:type_of% @List.append_nil:=@List.append_nil
theorem sV:type_of% @List.mem_of_mem_take:=@List.mem_of_mem_take
theorem xg:type_of% @List.drop_eq_getElem_cons:=@List.drop_eq_getElem_cons
theorem sU:type_of% @Go.Calls.quiet_of_same:=@Go.Calls.quiet_of_same
theorem sT:type_of% @List.mem_cons_self:=@List.mem_cons_self
theorem mU:type_of% @List.mem_map:=@List.mem_map
theorem mB:type_of% @Nat.pow_add:=@Nat.pow_add
theorem sk:type_of% @List.getElem_mem:=@List.getElem_mem
theorem pP:type_of% @Nat.add_assoc:=@Nat.add_assoc
theorem vO:type_of% @Go.World.ownsRow.cellAt:=@Go.World.ownsRow.cellAt
theorem uo:type_of% @List.cons_append:=@List.cons_append
theorem pO:type_of% @Nat.mul_comm:=@Nat.mul_comm
theorem pN:type_of% @Nat.add_zero:=@Nat.add_zero
theorem vN:type_of% @List.pairwise_cons:=@List.pairwise_cons
theorem sS:type_of% @List.nil_append:=@List.nil_append
theorem Ay:type_of% @List.getElem?_append_left:=@List.getElem?_append_left
theorem oD:type_of% @Nat.add_mul:=@Nat.add_mul
theorem xd:type_of% @UInt8.toNat_ofNat':=@UInt8.toNat_ofNat'
theorem rB:type_of% @Go.Addr.mk.injEq:=@Go.Addr.mk.injEq
theorem qJ:type_of% @Nat.pow_succ:=@Nat.pow_succ
theorem yP:type_of% @List.length_replicate:=@List.length_replicate
theorem yO:type_of% @Array.getElem?_toList:=@Array.getElem?_toList
theorem DF:type_of% @List.take_append_of_le_length:=@List.take_append_of_le_length
theorem Ax:type_of% @List.drop_eq_nil_of_le:=@List.drop_eq_nil_of_le
theorem vP:type_of% @Nat.min_eq_left:=@Nat.min_eq_left
theorem yQ:type_of% @List.flatMap_append:=@List.flatMap_append
theorem uH:type_of% @List.mem_range:=@List.mem_range
theorem uq:type_of% @Nat.mul_assoc:=@Nat.mul_assoc
theorem xZ:type_of% @Int.toNat_natCast:=@Int.toNat_natCast
theorem xe:type_of% @Go.IntKind.wrap_i64:=@Go.IntKind.wrap_i64
theorem Aw:type_of% @Nat.mul_le_mul_right:=@Nat.mul_le_mul_right
theorem Av:type_of% @Go.Region.noSelect_spec:=@Go.Region.noSelect_spec
theorem BP:type_of% @List.take_append_drop:=@List.take_append_drop
theorem BO:type_of% @List.length_singleton:=@List.length_singleton
theorem BN:type_of% @List.length_filter_le:=@List.length_filter_le
theorem Dz:type_of% @Int.eq_ofNat_of_zero_le:=@Int.eq_ofNat_of_zero_le
theorem BK:type_of% @List.mem_append_left:=@List.mem_append_left
theorem Dy:type_of% @Nat.div_lt_iff_lt_mul:=@Nat.div_lt_iff_lt_mul
theorem Dx:type_of% @List.mem_iff_getElem?:=@List.mem_iff_getElem?
theorem Dv:type_of% @List.mem_append_right:=@List.mem_append_right
theorem uG:type_of% @Nat.mul_one:=@Nat.mul_one
theorem Aq:type_of% @Go.Region.free_spec:=@Go.Region.free_spec
theorem BJ:type_of% @List.take_add_one:=@List.take_add_one
theorem IU:type_of% @List.getElem?_append_right:=@List.getElem?_append_right
theorem Du:type_of% @Nat.add_sub_cancel:=@Nat.add_sub_cancel
theorem Dt:type_of% @List.filter_append:=@List.filter_append
theorem E5:type_of% @List.pairwise_append:=@List.pairwise_append
theorem Df:type_of% @List.count_append:=@List.count_append
theorem De:type_of% @List.cons_eq_cons:=@List.cons_eq_cons
theorem KN:type_of% @Nat.and_two_pow_sub_one_eq_mod:=@Nat.and_two_pow_sub_one_eq_mod
theorem pM:type_of% @Ne.symm:=@Ne.symm
theorem KJ:type_of% @List.drop_append_of_le_length:=@List.drop_append_of_le_length
theorem BF:type_of% @List.drop_drop:=@List.drop_drop
theorem IE:type_of% @Nat.div_div_eq_div_mul:=@Nat.div_div_eq_div_mul
theorem EZ:type_of% @List.getElem?_drop:=@List.getElem?_drop
theorem C9:type_of% @UInt8.toNat_inj:=@UInt8.toNat_inj
theorem yD:type_of% @Nat.mul_add:=@Nat.mul_add
theorem C8:type_of% @List.mem_filter:=@List.mem_filter
theorem Dc:type_of% @List.length_set:=@List.length_set
theorem Db:type_of% @List.find?_cons:=@List.find?_cons
theorem xS:type_of% @Nat.mod_lt:=@Nat.mod_lt
theorem EW:type_of% @List.length_range:=@List.length_range
theorem IA:type_of% @List.replicate_succ':=@List.replicate_succ'
theorem C5:type_of% @List.drop_take:=@List.drop_take
theorem Ku:type_of% @Array.getElem?_eq_getElem:=@Array.getElem?_eq_getElem
theorem ES:type_of% @Option.getD_some:=@Option.getD_some
theorem ER:type_of% @List.all_eq_true:=@List.all_eq_true
theorem EP:type_of% @Go.Result.andThen_ok:=@Go.Result.andThen_ok
theorem Ix:type_of% @List.mem_map_of_mem:=@List.mem_map_of_mem
theorem EO:type_of% @Option.map_some:=@Option.map_some
theorem Io:type_of% @Nat.lt_of_le_of_lt:=@Nat.lt_of_le_of_lt
theorem Im:type_of% @List.mem_replicate:=@List.mem_replicate
theorem CZ:type_of% @List.map_drop:=@List.map_drop
theorem Kk:type_of% @List.getElem?_replicate:=@List.getElem?_replicate
theorem Bz:type_of% @Go.Sem.run_bind:=@Go.Sem.run_bind
theorem J8:type_of% @Array.getElem?_eq_none:=@Array.getElem?_eq_none
theorem Ii:type_of% @Option.mem_toList:=@Option.mem_toList
theorem Ih:type_of% @List.ext_getElem?:=@List.ext_getElem?
theorem EM:type_of% @List.take_take:=@List.take_take
theorem CY:type_of% @Nat.sub_zero:=@Nat.sub_zero
theorem Ic:type_of% @Nat.mod_eq_of_lt:=@Nat.mod_eq_of_lt
theorem Ib:type_of% @Nat.div_eq_of_lt:=@Nat.div_eq_of_lt
theorem Ia:type_of% @List.take_length:=@List.take_length
theorem Hz:type_of% @List.any_eq_true:=@List.any_eq_true
theorem JY:type_of% @Nat.add_mul_div_left:=@Nat.add_mul_div_left
theorem JX:type_of% @List.count_le_length:=@List.count_le_length
theorem EJ:type_of% @List.map_take:=@List.map_take
theorem EI:type_of% @List.cons.inj:=@List.cons.inj
theorem CX:type_of% @Nat.one_mul:=@Nat.one_mul
theorem Hu:type_of% @Nat.div_add_mod:=@Nat.div_add_mod
theorem Ht:type_of% @List.cons.injEq:=@List.cons.injEq
theorem Hs:type_of% @Bool.or_eq_true:=@Bool.or_eq_true
theorem JW:type_of% @Array.length_toList:=@Array.length_toList
theorem Oz:type_of% @List.isPrefixOf_iff_prefix:=@List.isPrefixOf_iff_prefix
theorem Oy:type_of% @Array.getElem?_eq_some_iff:=@Array.getElem?_eq_some_iff
theorem Ex:type_of% @Nat.le_of_eq:=@Nat.le_of_eq
theorem Ew:type_of% @List.map_map:=@List.map_map
theorem Ov:type_of% @Option.isSome_iff_ne_none:=@Option.isSome_iff_ne_none
theorem Hk:type_of% @Nat.mul_le_mul:=@Nat.mul_le_mul
theorem Ou:type_of% @List.pairwise_iff_getElem:=@List.pairwise_iff_getElem
theorem cT:(type_of% @lh.{0})/\(type_of% @sW.{0})/\(type_of% @nY.{0})/\(type_of% @nE.{0})/\(type_of% @jL.{0,0})/\(type_of% @qg.{0,0}):=⟨@lh.{0},@sW.{0},@nY.{0},@nE.{0},@jL.{0,0},@qg.{0,0}⟩
theorem kQ:(type_of% @jL.{0,0})/\(type_of% @qg.{0,0})/\(type_of% @BS.{0})/\(type_of% @BR.{0})/\(type_of% @nY.{0})/\(type_of% @nE.{0})/\(type_of% @Ld.{0}):=⟨@jL.{0,0},@qg.{0,0},@BS.{0},@BR.{0},@nY.{0},@nE.{0},@Ld.{0}⟩
namespace lib
open Go Go.RowKit
variable {S T:LN} {a w w':World} {B b base cap k len n o size:Nat} {c:AV} {f:Nat×Nat} {ao:OA} {vs xs:LV} {v:Value}
structure Fr (S:LN) (w w':World):Prop where
 os:w'.os=w.os
 tape:w'.tape=w.tape
 output:w'.output=w.output
 size:w.heap.size<=w'.heap.size
 block:∀k,k<w.heap.size->k∉S->w'.heap[k]?=w.heap[k]?
theorem Fr.refl (S:LN) (w:World):Fr S w w:=⟨rfl,rfl,rfl,ax _,λ_ _ _=>rfl⟩
theorem Fr.drewN (S:LN) (w:World) (n:Nat):Fr S w (w.drewN n):=⟨rfl,rfl,rfl,ax _,λ_ _ _=>rfl⟩
theorem Fr.aB (S:LN) (w:World):Fr S w w.drew:=⟨rfl,rfl,rfl,ax _,λ_ _ _=>rfl⟩
theorem Fr.step {b c:World} (h:Fr S a b) (k:Fr T b c) (hT:∀x∈T,x∈S\/a.heap.size<=x):Fr S a c:=
 ⟨k.os.trans h.os,k.tape.trans h.tape,k.output.trans h.output,bP h.size k.size,λi hi hn=>by
  rw[k.block i (fM hi h.size) (λhx=>by rcases hT i hx with h1|h1;exact hn h1;omega),h.block i hi hn]⟩
theorem Fr.trans {b c:World} (h:Fr S a b) (k:Fr S b c):Fr S a c:=h.step k λ_ hx=>.inl hx
theorem Fr.mono (h:Fr S w w') (hT:∀x∈S,x∈T\/w.heap.size<=x):Fr T w w':=
 (Fr.refl T w).step h hT
theorem Fr.alloc {S:LN} {a w:World} (h:Fr S a w) (o:Obj):Fr S a (w.alloc o):=
 h.step (T:=[]) ⟨rfl,rfl,rfl,by simp,λk hk _=>Below.heap_alloc _ _ _ (by omega)⟩ (by simp)
theorem Fr.drew {S:LN} {a w:World} (h:Fr S a w):Fr S a w.drew:=h.step (Fr.aB [] w) (by simp)
theorem Fr.py (h:Fr S a w) (n:Nat):Fr S a (w.drewN n):=h.step (Fr.drewN [] w n) (by simp)
theorem Fr.setCell {S:LN} {a w:World} (h:Fr S a w) {p:Addr} (hp:p.block∈S\/a.heap.size<=p.block) (u:Value):Fr S a (w.setCell p u):=
 h.step (T:=[p.block]) ⟨rfl,rfl,rfl,by simp[World.setCell],λk hk hn=>Below.heap_setCell _ _ _ _ (by simpa using hn)⟩ (by simpa using hp)
theorem Fr.grown {row:Option Nat} (h:Fr S a w) (hg:w.grownBy w' row) (hr:∀k,row=some k->k∈S\/a.heap.size<=k):Fr S a w':=
 h.step (T:=row.toList) ⟨hg.os,hg.tape,hg.output,hg.size,λk hk hn=>hg.block k hk (λe=>hn (by simp[<-e]))⟩ (λx hx=>hr x (by simpa using hx))
theorem Fr.below (h:Fr S w w') (hS:∀x∈S,B<=x) (hB:B<=w.heap.size):Below B w w':=
 ⟨h.os,h.tape,h.output,h.size,λk hk=>h.block k (by omega) (λhx=>by have:=hS k hx;omega)⟩
theorem Fr.oL (h:Below w.heap.size w w') (S:LN):Fr S w w':=
 ⟨h.os,h.tape,h.output,h.size,λk hk _=>h.block k hk⟩
theorem Ub (h:Fr [] w w'):Below w.heap.size w w':=h.below (by simp) (ax _)
theorem Fr.ag (h:Fr S w w') {o:Obj} (hk:w.heap[k]?=some o) (hn:k∉S):w'.heap[k]?=some o:=by rw[h.block k (lt_of_block hk) hn,hk]
theorem Fr.cell {S:LN} {w w':World} (h:Fr S w w') {a:Addr} {v:Value} (hc:w.cell? a=some v) (hn:a.block∉S):w'.cell? a=some v:=by rw[World.cell?_of_block (w:=w) (h.block a.block (World.block_lt_of_cell? w a hc) hn),hc]
theorem cell_of {t:TypeId} (h:w.heap[b]?=some (.cells c t f)) (o:Nat):w.cell? ⟨b,o,none⟩=c[o]?:=by simp[World.cell?,h]
theorem aT {t:TypeId} (h:w.heap[b]?=some (.cells c t (0,0))) (o:Nat):w.frozen? ⟨b,o,none⟩=false:=by simp[World.frozen?,h]
theorem df {t:TypeId} (h:w.heap[b]?=some (.cells c t f)) (v:Value) :
  (w.setCell ⟨b,o,none⟩ v).heap[b]?=some (.cells (c.setIfInBounds o v) t f):=by
 have bF:=lt_of_block h;have h':w.heap[b] = .cells c t f:=by simpa[Ku bF] using h
 show (w.heap.modify b _)[b]?=_;rw[Ku (by simpa using bF),Array.getElem_modify_self,h'];rfl
theorem DB {b':Nat} (bg:b'≠b) (v:Value):(w.setCell ⟨b,o,none⟩ v).heap[b']?=w.heap[b']?:=
 Below.heap_setCell w ⟨b,o,none⟩ v b' bg
theorem aV (w:World) (o:Obj):(w.alloc o).heap[w.heap.size]?=some o:=heap_alloc_new w o
theorem alloc_old {x:Obj} (o:Obj) (h:w.heap[b]?=some x):(w.alloc o).heap[b]?=some x:=by rw[Below.heap_alloc w o b (lt_of_block h),h]
def ag:Option Addr->List Nat
 | some a=>[a.block]
 | none=>[]
def Cs (w:World) (ao:OA) (vs:LV):Prop:=
 vs=[]\/∃g o,ao=some ⟨g,o,none⟩/\∀j v,vs[j]?=some v->w.cell? ⟨g,o+j,none⟩=some v
theorem Cs.nil (w:World) (ao:OA):Cs w ao []:=.inl rfl
theorem Cs.at {w:World} {ao:OA} {vs:LV} (h:Cs w ao vs) (bg:0<vs.length):∃g o,ao=some ⟨g,o,none⟩/\∀j v,vs[j]?=some v->w.cell? ⟨g,o+j,none⟩=some v:=by
 rcases h with rfl|h
 ·simp at bg
 ·exact h
theorem Cs.keep (h:Cs w ao vs) (hk:∀a,ao=some a->w'.heap[a.block]?=w.heap[a.block]?):Cs w' ao vs:=by
 rcases h with h|⟨g,o,rfl,h⟩
 ·exact .inl h
 ·refine .inr ⟨g,o,rfl,λj v hv=>?_⟩;rw[World.cell?_of_block (w:=w) (a:=⟨g,o+j,none⟩) (hk ⟨g,o,none⟩ rfl),h j v hv]
theorem Cs.lt (h:Cs w ao vs) (bg:vs≠[]):∀a,ao=some a->a.block<w.heap.size:=by
 rcases h with h|⟨g,o,rfl,h⟩
 ·exact absurd h bg
 ·intro a ha;obtain rfl:=ig ha;cases vs with
  | nil=>exact absurd rfl bg
  | cons v vs=>exact World.block_lt_of_cell? w _ (h 0 v rfl)
theorem Cs.fr (h:Cs w ao vs) (hf:Fr S w w') (hn:∀x∈ag ao,x∉S):Cs w' ao vs:=by
 by_cases bg:vs=[]
 ·exact .inl bg
 ·exact h.keep λa ha=>hf.block a.block (h.lt bg a ha) (hn _ (by simp[ha,ag]))
theorem Cs.below (h:Cs w ao vs) (hf:Below B w w') (hn:∀x∈ag ao,x<B):Cs w' ao vs:=by refine h.keep λa ha=>hf.block a.block (hn _ (by simp[ha,ag]))
theorem Cs.uf (h:Cs w ao vs) (hf:Below w.heap.size w w'):Cs w' ao vs:=by
 by_cases bg:vs=[]
 ·exact .inl bg
 ·exact h.keep λa ha=>hf.block a.block (h.lt bg a ha)
theorem qK {e:TypeId} (h:w.ownsRow base e 1 (.slice ao len cap) n xs):Cs w ao xs:=by
 rcases h.2 with⟨h1,h2⟩|⟨g,aM,cur,h1,hb,hg,hn,hm,hs,ht⟩
 ·left;have:=h.1;rw[h2]at this;exact sr (by simpa using this)
 ·simp only[kJ]at h1;obtain⟨rfl,rfl,rfl⟩:=h1;refine .inr ⟨g,0,rfl,λj v hv=>?_⟩;rw[cell_of hg,iN];rw[<-ht,oG]at hv;split at hv
  ·simpa using hv
  ·cases hv
theorem um {e:TypeId} (h:w.ownsRow base e size v n xs) :
  ∃ao cap,v = .slice ao n cap/\n<=cap/\cap<=maxLen:=by
 rcases h.2 with⟨rfl,rfl⟩|⟨g,cap,cur,rfl,hb,hg,hn,hm,hs,ht⟩
 ·exact⟨none,0,rfl,ax _,eE _⟩
 ·exact⟨_,cap,rfl,hn,hm⟩
theorem Pv {e:TypeId} (h:w.ownsRow base e size v n xs) :
  ∃ao cap,v = .slice ao n cap/\n<=cap/\cap<=maxLen/\(ao=none->cap=0):=by
 rcases h.2 with⟨rfl,rfl⟩|⟨g,cap,cur,rfl,hb,hg,hn,hm,hs,ht⟩
 ·exact⟨none,0,rfl,ax _,eE _,λ_=>rfl⟩
 ·exact⟨_,cap,rfl,hn,hm,λh=>by cases h⟩
theorem dp {e:TypeId} (h:w.ownsRow base e size v n xs) (hf:Fr S w w') (hn:∀k,v.ownBlock=some k->k∉S):w'.ownsRow base e size v n xs:=by
 obtain⟨h1,h2⟩:=h;refine⟨h1,?_⟩;rcases h2 with h2|⟨g,cap,cur,rfl,hb,hg,r⟩
 ·exact .inl h2
 ·exact .inr ⟨g,cap,cur,rfl,hb,hf.ag hg (hn g rfl),r⟩
def bv (b:UInt8):Value:=.int .u8 b.toNat
theorem Xt {u:Value} (h:u=v):Ending.returned u=Ending.returned v:=by rw[h]
theorem int_eq {k:IntKind} {a b:Int} (h:a=b):Value.int k a=Value.int k b:=by rw[h]
theorem zh3 {a b:Bool} (h:a=b):Value.bool a=Value.bool b:=by rw[h]
theorem cY (ao:OA) (n cap:Nat):(Value.slice ao n cap).ownBlock.toList=ag ao:=by cases ao<;>rfl
theorem rz {x:Nat} (h:x∈ag ao):(Value.slice ao n cap).ownBlock=some x:=by
 cases ao with
 | none=>simp[ag]at h
 | some a=>simp[ag]at h;simp[Value.ownBlock,h]
theorem si {e:TypeId} (h:w.ownsRow base e size v n xs) (hk:v.ownBlock=some k):k<w.heap.size:=(h.lt k hk).2
def iL (w:World) (B:Nat) (e:TypeId) (ao:OA) (xs:LV):Prop:=
 xs=[]\/∃g cur,ao=some ⟨g,0,none⟩/\B<=g/\w.heap[g]?=some (.cells cur e (0,0))/\cur.toList.take xs.length=xs
theorem iL.cs {e:TypeId} (h:iL w B e ao xs):Cs w ao xs:=by
 rcases h with h|⟨g,cur,rfl,hB,hg,ht⟩
 ·exact .inl h
 ·refine .inr ⟨g,0,rfl,λj v hv=>?_⟩;rw[iN,cell_of hg];rw[<-ht,oG]at hv;split at hv
  ·simpa using hv
  ·cases hv
theorem iL.mono {B':Nat} {e:TypeId} (h:iL w B e ao xs) (hB:B'<=B):iL w B' e ao xs:=by
 rcases h with h|⟨g,cur,rfl,hg,r⟩
 ·exact .inl h
 ·exact .inr ⟨g,cur,rfl,bP hB hg,r⟩
theorem iL.fr {e:TypeId} (h:iL w B e ao xs) (hf:Fr S w w') (hn:∀a,ao=some a->a.block∉S):iL w' B e ao xs:=by
 rcases h with h|⟨g,cur,rfl,hB,hg,ht⟩
 ·exact .inl h
 ·exact .inr ⟨g,cur,rfl,hB,hf.ag hg (hn _ rfl),ht⟩
theorem qp0 {e:TypeId} (h:w.ownsRow base e 1 (.slice ao len cap) n xs) (hB:∀k,(Value.slice ao len cap).ownBlock=some k->B<=k):iL w B e ao xs:=by
 obtain⟨h1,h2⟩:=h;rcases h2 with⟨h2,rfl⟩|⟨g,aM,cur,h2,hb,hg,hn,hm,hs,ht⟩
 ·exact .inl (sr (by simpa using h1))
 ·simp only[kJ]at h2;obtain⟨rfl,rfl,rfl⟩:=h2;exact .inr ⟨g,cur,rfl,hB g rfl,hg,by rw[h1];exact ht⟩
theorem P9 {e:TypeId} (h:w.ownsRow 0 e 1 (.slice ao n cap) n xs) (hB:∀x∈ag ao,B<=x):iL w B e ao xs:=
 qp0 h λk hk=>hB k (by rw[<-cY ao n cap,hk];simp)
def cutAt (ao:OA) (cap lo:Nat):Option Addr:=if cap=lo then ao else ao.map (·.add lo)
theorem qom {lo:Nat} (h:cutAt ao cap lo=none):ao=none:=by
 unfold cutAt at h;split at h
 ·exact h
 ·simpa using h
theorem Cs.cut (h:Cs w ao vs) (cap lo hi:Nat) (hl:lo<=hi) (hh:hi<=vs.length) (hc:vs.length<=cap):Cs w (cutAt ao cap lo) ((vs.drop lo).take (hi-lo)):=by
 by_cases he:cap=lo
 ·left;have:hi-lo=0:=by omega
  rw[this];rfl
 ·rcases h with rfl|⟨g,o,rfl,h⟩
  ·left;simp
  ·right;refine⟨g,o+lo,?_,λj v hv=>?_⟩
   ·unfold cutAt;rw[if_neg he];simp only[EO,Addr.add];split<;>simp_all
   ·rw[oG]at hv;split at hv
    ·rw[pP];exact h _ _ (by simpa using hv)
    ·cases hv
structure aw (P:Program) (t e:TypeId) (z:Value) (size bytes:Nat):Prop where
 under:P.underlying t=some (.slice e)
 info:∃i,P.info? e=some i/\i.zero=some z/\i.size=size/\i.bytes=bytes
 cells:z.cells.size=size
 pos:0<size
theorem aw.of {P:Program} {t e:TypeId} {z:Value} {bytes:Nat} (h:P.underlying t=some (.slice e))
  (hi:(P.info? e).map (λi=>(i.zero,i.size,i.bytes))=some (some z,size,bytes)) (hz:z.cells.size=size) (hp:0<size):aw P t e z size bytes:=by
 obtain⟨i,h1,h2,h3,h4⟩:=info_parts hi;exact⟨h,⟨i,h1,h2,h3,h4⟩,hz,hp⟩
structure aN (w w':World) (e:TypeId) (size:Nat) (S:LN) (ao:OA) (len cap:Nat) (xs:LV):Prop where
 own:w'.ownsRow 0 e size (.slice ao len cap) len xs
 fr:Fr S w w'
 at_:∀x∈ag ao,x∈S\/x=w.heap.size
 le:len<=cap
 max:cap<=maxLen
 nil:ao=none->cap=0
theorem aN.lt {e:TypeId} (h:aN w w' e size S ao len cap xs):∀x∈ag ao,x<w'.heap.size:=
 λ_ hx=>si h.own (rz hx)
section
variable {P : Program} {w : World} {t e : TypeId} {z : Value} {size bytes : Nat}
theorem Kl (g o j:Nat):(⟨g,o,none⟩:Addr).add j=⟨g,o+j,none⟩:=by unfold Addr.add;split<;>simp_all
theorem qnz (T:aw P t e z size bytes) (ty:TypeId) (v:Value) (n:Nat) (xs:LV) (S:LN) (hS:v.ownBlock.toList=S) (aK:w.ownsRow 0 e size v n xs)
  (ao:OA) (m c:Nat) (news:LV) (pT:m<=c) (bU:ao=none->c=0) (hc:Cs w ao news) (hl:news.length=m*size) (h1:∀u∈news,u.oneCell'=true)
  (hb:(n+m)*bytes<=140737488355328) (pW:n+m<=maxLen) :
  ∃kO aM w',(Builtin.append_ #[t,t] ty #[v,.slice ao m c]).run P w = .ok (.slice kO (n+m) aM) w'/\aN w w' e size S kO (n+m) aM (xs++news):=by
 obtain⟨hu,⟨i,hi,hz,hs,mr⟩,sC,hp⟩:=T;subst hS;have key:∀v' w',w'.ownsRow 0 e size v' (n+m) (xs++news)->w.grownBy w' v.ownBlock->(v'.ownBlock=v.ownBlock\/v'.ownBlock=some w.heap.size)->∃kO aM,v' = .slice kO (n+m) aM/\aN w w' e size v.ownBlock.toList kO (n+m) aM (xs++news):=by
  intro v' w' h2 h3 h4;obtain⟨kO,aM,rfl,h5,h6⟩:=um h2;refine⟨kO,aM,rfl,h2,(Fr.refl _ w).grown h3 (λk hk=>.inl (by simp[hk])),?_,h5,h6,?_⟩
  ·intro x hx;have vW:=rz (n:=n+m) (cap:=aM) hx;rcases h4 with h|h
   ·left;rw[<-h,vW];simp
   ·right;rw[h]at vW;exact (ig vW).symm
  ·rintro rfl;rcases h2.2 with⟨h,_⟩|⟨g,cap,cur,h,_⟩
   ·simp only[kJ]at h;exact h.2.2
   ·simp at h
 cases ao with
 | none=>
  have dB:=bU rfl;obtain rfl:m=0:=by omega
  subst dB;have hn:news=[]:=sr (by simpa using hl);subst hn;have hr:=run_append_owned_none (P:=P) (w:=w) 0 t ty e i size hu hi v n xs aK;obtain⟨kO,aM,rfl,hA⟩:=key v w (by simpa using aK) ⟨rfl,rfl,rfl,ax _,λ_ _ _=>rfl⟩ (.inl rfl);exact⟨kO,aM,w,hr,hA⟩
 | some a=>
  have Gm:∀j u,news[j]?=some u->w.cell? (a.add j)=some u:=by
   intro j u hj;rcases hc with rfl|⟨g,o,ha,hc⟩
   ·simp at hj
   ·obtain rfl:=ig ha;rw[Kl];exact hc j u hj
  obtain⟨v',w',hr,h2,h3,h4,h5⟩:=run_append_own_at (P:=P) w 0 t ty e i z size bytes hu hi hz hs mr sC hp v n xs aK a m c news hl Gm h1 pW hb (eE _);obtain⟨kO,aM,rfl,hA⟩:=key v' w' h2 h3 h5;exact⟨kO,aM,w',hr,hA⟩
theorem sj (T:aw P t e z size bytes) {o:Oper} {a:Act} {K:Act->World->Prop} {Q:Exit->Act->World->Prop} (s x:Operand)
  (ho:o.op = .call { callee:=.builtin .append,args:=#[s,x],argTypes:=#[t,t] })
  (v:Value) (n:Nat) (xs:LV) (S:LN) (hs:a.eval s=v) (hS:v.ownBlock.toList=S) (aK:w.ownsRow 0 e size v n xs)
  (ao:OA) (m c:Nat) (news:LV) (hx:a.eval x = .slice ao m c) (pT:m<=c) (bU:ao=none->c=0) (hc:Cs w ao news) (hl:news.length=m*size) (h1:∀u∈news,u.oneCell'=true)
  (hb:(n+m)*bytes<=140737488355328) (pW:n+m<=maxLen)
  (h:∀kO aM w',aN w w' e size S kO (n+m) aM (xs++news)->K (a.put o.dst (.slice kO (n+m) aM)) w'):o.wp P a w K Q:=by
 obtain⟨kO,aM,w',hr,h2⟩:=qnz (P:=P) T o.type v n xs S hS aK ao m c news pT bU hc hl h1 hb pW;unfold Oper.wp execOp;simp only[ho,resolve,invoke,builtin,Bz,Sem.run_pure,EP,List.map_toArray,jL,qg,hs,hx,hr];exact h kO aM w' h2
theorem fq (T:aw P t e z size bytes) {ops:Array Oper} {rest:List Oper} {o:Oper} {a:Act} {Q:Exit->Act->World->Prop} (qR:o.guard=none) (s x:Operand)
  (ho:o.op = .call { callee:=.builtin .append,args:=#[s,x],argTypes:=#[t,t] })
  (v:Value) (n:Nat) (xs:LV) (S:LN) (hs:a.eval s=v) (hS:v.ownBlock.toList=S) (aK:w.ownsRow 0 e size v n xs)
  (ao:OA) (m c:Nat) (news:LV) (hx:a.eval x = .slice ao m c) (pT:m<=c) (bU:ao=none->c=0) (hc:Cs w ao news) (hl:news.length=m*size) (h1:∀u∈news,u.oneCell'=true)
  (hb:(n+m)*bytes<=140737488355328) (pW:n+m<=maxLen)
  (h:∀kO aM w',aN w w' e size S kO (n+m) aM (xs++news)->wpList P ops Q rest (a.put o.dst (.slice kO (n+m) aM)) w'):wpList P ops Q (o::rest) a w:=
 wpList_plain qR λ_ hK=>sj T s x ho v n xs S hs hS aK ao m c news hx pT bU hc hl h1 hb pW λkO aM w' h2=>hK _ _ (h kO aM w' h2)
theorem step_append (T:aw P t e z size bytes) {ops:Array Oper} {o:Oper} {a:Act} {K:Act->World->Prop} {Q:Exit->Act->World->Prop} {E:Prop} (qR:o.guard=none) (s x:Operand)
  (ho:o.op = .call { callee:=.builtin .append,args:=#[s,x],argTypes:=#[t,t] })
  (v:Value) (n:Nat) (xs:LV) (S:LN) (hs:a.eval s=v) (hS:v.ownBlock.toList=S) (aK:w.ownsRow 0 e size v n xs)
  (ao:OA) (m c:Nat) (news:LV) (hx:a.eval x = .slice ao m c) (pT:m<=c) (bU:ao=none->c=0) (hc:Cs w ao news) (hl:news.length=m*size) (h1:∀u∈news,u.oneCell'=true)
  (hb:(n+m)*bytes<=140737488355328) (pW:n+m<=maxLen)
  (h:∀kO aM w',aN w w' e size S kO (n+m) aM (xs++news)->K (a.put o.dst (.slice kO (n+m) aM)) w') :
  if Region.wanted o (yielded ops a.tmps)=true then Oper.wp P o a w K Q else E:=by
 have hw:Region.wanted o (yielded ops a.tmps)=true:=by simp[Region.wanted,qR]
 rw[if_pos hw];exact sj T s x ho v n xs S hs hS aK ao m c news hx pT bU hc hl h1 hb pW h
end
theorem nD (w:World) (B:Nat) (v:Value) (t:TypeId) (h:w.heap[B]?=some (.cells #[v] t (0,0))):Cs w (some ⟨B,0,none⟩) [v]:=
 .inr ⟨B,0,rfl,λj u hj=>by
  match j,hj with
  | 0,hj=>rw[cell_of h];simpa using hj⟩
end lib
namespace lib
open Go Go.RowKit
section
variable {P : Program} {w : World} {ops : Array Oper} {rest : List Oper} {o : Oper} {a : Act} {Q : Exit -> Act -> World -> Prop}
theorem P7 (v:Value) (qR:o.guard=none) (hr:(execOp a.eval o).run P w = .ok (.value v) w) (h:wpList P ops Q rest (a.put o.dst v) w):wpList P ops Q (o::rest) a w:=
 wpList_plain qR λK hK=>by unfold Oper.wp;rw[hr];exact hK _ _ h
theorem qsr (m:Int) (qR:o.guard=none) (x y:Operand) (ts:Array TypeId) (ho:o.op = .call { callee:=.builtin .min,args:=#[x,y],argTypes:=ts }) (i j:Int)
  (hx:a.eval x = .int .i64 i) (hy:a.eval y = .int .i64 j) (hm:m=if j<i then j else i) (h:wpList P ops Q rest (a.put o.dst (.int .i64 m)) w):wpList P ops Q (o::rest) a w:=by
 subst hm;refine P7 _ qR ?_ h;simp[execOp,ho,resolve,invoke,builtin,hx,hy,Builtin.min_,Builtin.min2]
theorem qss (m:Int) (qR:o.guard=none) (x y:Operand) (ts:Array TypeId) (ho:o.op = .call { callee:=.builtin .max,args:=#[x,y],argTypes:=ts }) (i j:Int)
  (hx:a.eval x = .int .i64 i) (hy:a.eval y = .int .i64 j) (hm:m=if j>i then j else i) (h:wpList P ops Q rest (a.put o.dst (.int .i64 m)) w):wpList P ops Q (o::rest) a w:=by
 subst hm;refine P7 _ qR ?_ h;simp[execOp,ho,resolve,invoke,builtin,hx,hy,Builtin.max_,Builtin.max2]
end
section
variable {P : Program} {w : World} {ops : Array Oper} {rest : List Oper} {o : Oper} {a : Act} {Q : Exit -> Act -> World -> Prop} {t e : TypeId} {z : Value} {bytes : Nat}
theorem qli (T:aw P t e z 1 bytes) (l m:Nat) (qR:o.guard=none) (x lo hi:Operand) (ho:o.op = .slice t x (some lo) (some hi) none) (ao:OA) (len cap:Nat) (il ih:Int)
  (hx:a.eval x = .slice ao len cap) (oX:a.eval lo = .int .i64 il) (Qz:a.eval hi = .int .i64 ih) (hl:il=l) (hh:ih=l+m) (hc:l+m<=cap)
  (h:wpList P ops Q rest (a.put o.dst (.slice (cutAt ao cap l) m (cap-l))) w):wpList P ops Q (o::rest) a w:=by
 obtain⟨hu,⟨i,km,_,hs,_⟩,_,_⟩:=T;subst hl;obtain rfl:ih=((l+m:Nat):Int):=by omega
 refine P7 _ qR ?_ h;have c1:(0:Int)<=(l:Int)+m/\(l:Int)+m<=(cap:Int):=by omega
 have e2:((l:Int)+m).toNat=l+m:=by omega
 have e1:l+m-l=m:=by omega
 simp[execOp,ho,Instr.sliceAt,run_underlying hu,hx,oX,Qz,Instr.slice,Instr.sliceBounds,Instr.sliceBound,asIntOf,c1,e2,sizeOf,typeInfo,km,hs,cutAt,e1,Result.andThen]
end
def str (bs:LB):ByteArray:=⟨bs.toArray⟩
theorem ay (bs:LB):(str bs).toList=bs:=by rw[ByteArray.toList_eq];rfl
theorem xX {P:Program} (w:World) {src dst e:TypeId} (hs:P.underlying src=some (.slice e)) (he:P.underlying e=some (.int .u8)) (hd:P.underlying dst=some .string)
  {ao:OA} {n:Nat} {bs:LB} (hn:bs.length=n) (hcs:Cs w ao (bs.map bv)) :
  ∀cap,(convert src dst (.slice ao n cap)).run P w = .ok (.string (str bs)) w:=by
 intro cap;have uT:∀(ao:OA),bs=[]->(convert src dst (.slice ao n cap)).run P w = .ok (.string (str bs)) w:=by
  intro ao hb;subst hb;obtain rfl:n=0:=by simpa using hn.symm
  rw[run_convert_bytes_string w src dst e ao 0 cap hs he hd];cases ao with
  | none=>rfl
  | some a=>rfl
 rcases hcs with h|⟨g,o,rfl,h⟩
 ·exact uT ao (by simpa using h)
 ·have hr:=run_convert_bytes_arg (P:=P) w src e hs he g o n cap (bs.map λb=>(b.toNat:Int)) (by simpa using hn) (λi hi=>by
   have h2:=h i (bv (bs.getD i 0)) (by simp[List.getD,show i<bs.length by omega])
   rw[h2]
   have km:i<bs.length:=by omega
   simp[bv,List.getD,km]) dst hd
  rw[hr];congr 2;unfold strOfNums str;congr 1;rw[Ew];have:((λn:Int=>UInt8.ofNat n.toNat)∘λb:UInt8=>(b.toNat:Int))=id:=by funext b;simp
  rw[this,List.map_id]
end lib
namespace lib
open Go Go.RowKit
theorem aj (bs:LB):(str bs).size=bs.length:=by simp[str,ByteArray.size]
section
variable {P : Program} {w : World} {t u e : TypeId}
end
section
variable {P : Program} {w : World} {ops : Array Oper} {rest : List Oper} {o : Oper} {a : Act} {Q : Exit -> Act -> World -> Prop} {t : TypeId}
theorem IW (bs:LB) (l h:Nat):(str bs).extract l h=str ((bs.take h).drop l):=by apply ByteArray.ext;simp only[ByteArray.data_extract,str];apply Array.ext';simp[List.extract_eq_take_drop,C5]
theorem gH (a b:LB):str a++str b=str (a++b):=by apply ByteArray.ext;simp[str,ByteArray.data_append]
end
end lib
namespace lib
open Go Go.RowKit
def bh (ao:OA) (cap lo size:Nat):Option Addr:=if cap=lo then ao else ao.map (·.add (lo*size))
theorem qm3 {ao:OA} {cap lo size:Nat} (h:bh ao cap lo size=none):ao=none:=by
 unfold bh at h;split at h
 ·exact h
 ·simpa using h
theorem TW (ao:OA) (cap lo size:Nat):ag (bh ao cap lo size)=ag ao:=by
 unfold bh;split
 ·rfl
 ·cases ao with
  | none=>rfl
  | some a=>simp only[EO,ag,Addr.add];split<;>rfl
theorem TX (ao:OA) (cap lo:Nat):bh ao cap lo 1=cutAt ao cap lo:=by unfold bh cutAt;rw[uG]
section
variable {P : Program} {w : World} {ops : Array Oper} {rest : List Oper} {o : Oper} {a : Act} {Q : Exit -> Act -> World -> Prop} {t e : TypeId} {z : Value} {size bytes : Nat}
theorem Uv (T:aw P t e z size bytes) (l:Nat) (qR:o.guard=none) (x lo:Operand) (ho:o.op = .slice t x (some lo) none none) (ao:OA) (len cap:Nat) (il:Int)
  (hx:a.eval x = .slice ao len cap) (oX:a.eval lo = .int .i64 il) (hl:il=l) (hc:l<=len) (nn:len<=cap)
  (h:wpList P ops Q rest (a.put o.dst (.slice (bh ao cap l size) (len-l) (cap-l))) w):wpList P ops Q (o::rest) a w:=by
 obtain⟨hu,⟨i,km,_,hs,_⟩,_,_⟩:=T;subst hl;refine P7 _ qR ?_ h;have c1:(0:Int)<=(l:Int)/\(l:Int)<=(len:Int):=by omega
 have c2:(len:Int)<=(cap:Int):=by omega
 simp[execOp,ho,Instr.sliceAt,run_underlying hu,hx,oX,Instr.slice,Instr.sliceBounds,Instr.sliceBound,asIntOf,c1,c2,hc,nn,sizeOf,typeInfo,km,hs,bh,Result.andThen]
end
end lib
namespace lib
open Go Go.RowKit Go.ChangeShapes Go.WideShapes
theorem wf_u32 {n:Int} (h:(Lit.int .u32 n).wf=true):0<=n/\n<=4294967295:=by simpa[Lit.wf,IntKind.min,IntKind.max,IntKind.signed,IntKind.bits] using h
theorem wf_i64 {n:Int} (h:(Lit.int .i64 n).wf=true) : -9223372036854775808<=n/\n<=9223372036854775807:=by simpa[Lit.wf,IntKind.min,IntKind.max,IntKind.signed,IntKind.bits] using h
section
variable {H : Type} {enc : TypeId × Value -> H} {P : Program} {w : World}
theorem qiq (hl:laidOutB P=true) {W W':World} (hb:Below W.heap.size W W'):∀{ts:List TypeId} {vs:LV} {ds:List (DataW H)} {ps:List MemPlace},
  (ts.all λt=>P.readableRec t&&decide (t<P.types.size))=true->(∀x∈ps,x.block<W.heap.size)->DataW.TrodAll enc P W 0 (λ_=>true) true ts vs ds ps->DataW.TrodAll enc P W' 0 (λb=>decide (b<W.heap.size)) true ts vs ds ps
 | [],[],[],_,_,_,h=>h
 | t::ts,v::vs,d::ds,ps,hr,bF,h=>by
  simp only[List.all_cons,kI,decide_eq_true_eq]at hr;obtain⟨v',CU,d',ds',p,q,hv,hd,rfl,h1,h2⟩:=trodAll_cons h;obtain⟨rfl,rfl⟩:=EI hv;obtain⟨rfl,rfl⟩:=EI hd;exact trodAll_cons_mk (Below.trod hl hr.1.1 hr.1.2 h1 hb (λx hx=>bF x (by simp[hx]))) (qiq hl hb hr.2 (λx hx=>bF x (by simp[hx])) h2)
 | [],_::_,_,_,_,_,h=>by simp[DataW.TrodAll]at h
 | [],[],_::_,_,_,_,h=>by simp[DataW.TrodAll]at h
 | _::_,[],_,_,_,_,h=>by simp[DataW.TrodAll]at h
 | _::_,_::_,[],_,_,_,h=>by simp[DataW.TrodAll]at h
theorem qrj {s:ChangeSpec} {f:FuncId} {fn:Func} {W:World} {args:AV} {ds gs:List (DataW H)} {before:List MemPlace} {tb:TypeId}
  (hl:laidOutB P=true) (bT:(fn.params.toList.all λt=>P.readableRec t&&decide (t<P.types.size))=true) (tu:s.vars=[]) (fk:fn.resultTypes=#[tb]) (rD:P.underlying tb=some .bool)
  (hW:DataW.Whole enc P fn.params.toList s.vars false W args.toList ds gs before) (AZ:∀gs,s.vars=[]->gs=[]->s.fn H (ds++gs)={ results:=[.lit (.bool true)],args:=ds })
  (hc:Calls P f args W λe W'=>e = .returned (.bool true)/\Below W.heap.size W W') :
  Calls P f args W λe W'=>∃v,e = .returned v/\s.post enc P fn false true false false W args v W':=by
 have QR:=hW;obtain⟨p,q,hA,hV,rfl,qU,wg⟩:=hW;have hV':=hV;rw[tu]at hV';obtain⟨rfl,rfl⟩:=trodVars_none hV';have bF:∀x∈p,x.block<W.heap.size:=λx hx=>by simpa using QR.lt x (by simpa using hx)
 refine hc.mono λe W' ⟨he,hb⟩=>⟨_,he,_,_,_,[],p,[],QR,?_,?_,?_,hb.frame _,λh=>by cases h⟩
 ·rw[AZ [] tu rfl,fk];exact trodAll_mk1 (shut_bool rD _)
 ·rw[AZ [] tu rfl];exact qiq hl hb bT bF hA
 ·rw[tu,AZ [] tu rfl];rfl
end
end lib
namespace lib
open Go Go.RowKit
variable {w:World} {a:OA} {cap:Nat} {bs:LB}
structure Rd (w:World) (a:OA) (cap:Nat) (bs:LB):Prop where
 cs:Cs w a (bs.map bv)
 le:bs.length<=cap
 max:cap<=maxLen
 nil:a=none->cap=0
theorem Rd.fr {w w':World} {a:OA} {cap:Nat} {bs:LB} (h:Rd w a cap bs) (f:Fr [] w w'):Rd w' a cap bs:=⟨h.cs.fr f (by simp),h.le,h.max,h.nil⟩
theorem Rd.uD {S:LN} {w':World} (h:Rd w a cap bs) (f:Fr S w w') (hn:∀x∈ag a,x∉S):Rd w' a cap bs:=⟨h.cs.fr f hn,h.le,h.max,h.nil⟩
theorem Rd.none (w:World):Rd w none 0 []:=⟨.inl rfl,ax _,eE _,λ_=>rfl⟩
theorem XG {vs:LV} (h:Cs w a vs) (k:Nat) (hk:k<=vs.length) (hc:vs.length<=cap):Cs w (bh a cap k 1) (vs.drop k):=by have:=h.cut cap k vs.length hk (ax _) hc;rw[lL (by simp),<-TX]at this;exact this
theorem zfk {vs:LV} (h:Cs w a vs) (k:Nat):Cs w a (vs.take k):=by
 rcases h with rfl|⟨g,o,rfl,h⟩
 ·left;simp
 ·refine .inr ⟨g,o,rfl,λj v hv=>h j v ?_⟩;rw[oG]at hv;split at hv
  ·exact hv
  ·cases hv
theorem Rd.drop {w:World} {a:OA} {cap:Nat} {bs:LB} (h:Rd w a cap bs) (k:Nat) (hk:k<=bs.length):Rd w (bh a cap k 1) (cap-k) (bs.drop k):=by have h1:=h.le;have h2:=h.max;refine⟨?_,by rw[gN];omega,by omega,λe=>by have:=h.nil (qm3 e);omega⟩;rw[CZ];exact XG h.cs k (by simpa using hk) (by simpa using h1)
theorem Rd.take {w:World} {a:OA} {cap:Nat} {bs:LB} (h:Rd w a cap bs) (k:Nat):Rd w a cap (bs.take k):=by have h1:=h.le;refine⟨?_,by rw[fH];omega,h.max,h.nil⟩;rw[EJ];exact zfk h.cs k
theorem Rd.mid (h:Rd w a cap bs) (l m:Nat) (hk:l+m<=bs.length):Rd w (cutAt a cap l) (cap-l) ((bs.drop l).take m):=by have h1:=(h.drop l (by omega)).take m;rw[TX]at h1;exact h1
theorem Rd.at {w:World} {a:OA} {cap:Nat} {bs:LB} (h:Rd w a cap bs) {i:Nat} (hi:i<bs.length):∃g o,a=some ⟨g,o,Option.none⟩/\w.cell? ⟨g,o+i,Option.none⟩=some (.int .u8 ((bs[i].toNat:Nat):Int)):=by obtain⟨g,o,rfl,hc⟩:=h.cs.at (by simp;omega);exact⟨g,o,rfl,hc i _ (by simp[hi,bv])⟩
theorem qn2 {base:Nat} {e:TypeId} {len:Nat} (h:w.ownsRow base e 1 (.slice a len cap) len (bs.map bv)):Rd w a cap bs/\bs.length=len:=by
 have hl:bs.length=len:=by simpa using h.1
 obtain⟨_,_,he,h1,h2,h3⟩:=Pv h;simp only[kJ]at he;obtain⟨rfl,_,rfl⟩:=he;exact⟨⟨qK h,by omega,h2,h3⟩,hl⟩
section
variable {P : Program} {t e : TypeId} {z : Value} {size bytes : Nat}
theorem La (T:aw P t e z size bytes) (l:Nat) (a:OA) (len cap:Nat) (il:Int) (hl:il=l) (hc:l<=len) (nn:len<=cap) (w:World) :
  (Instr.slice t (.slice a len cap) (some (.int .i64 il)) Option.none Option.none).run P w = .ok (.slice (bh a cap l size) (len-l) (cap-l)) w:=by
 obtain⟨hu,⟨i,km,_,hs,_⟩,_,_⟩:=T;subst hl;have c1:(0:Int)<=(l:Int)/\(l:Int)<=(len:Int):=by omega
 have c2:(len:Int)<=(cap:Int):=by omega
 simp[run_underlying hu,Instr.slice,Instr.sliceBounds,Instr.sliceBound,asIntOf,c1,c2,hc,nn,sizeOf,typeInfo,km,hs,bh,Result.andThen]
theorem Ur (T:aw P t e z size bytes) (m:Nat) (a:OA) (len cap:Nat) (ih:Int) (hh:ih=m) (hc:m<=cap) (w:World) :
  (Instr.slice t (.slice a len cap) Option.none (some (.int .i64 ih)) Option.none).run P w = .ok (.slice a m cap) w:=by
 obtain⟨hu,⟨i,km,_,hs,_⟩,_,_⟩:=T;subst hh;have c1:(0:Int)<=(m:Int)/\(m:Int)<=(cap:Int):=by omega
 have WB:∀x:Addr,x.add 0=x:=λx=>rfl
 cases a<;>simp[run_underlying hu,Instr.slice,Instr.sliceBounds,Instr.sliceBound,asIntOf,c1,hc,sizeOf,typeInfo,km,hs,Result.andThen,WB]
end
def aZ (w:World) (bs:LB) (e:Ending) (w':World):Prop:=
 ∃a,e = .returned (.slice a bs.length bs.length)/\Rd w' a bs.length bs/\(∀x∈ag a,w.heap.size<=x/\x<w'.heap.size)/\Fr [] w w'
end lib
namespace lib
open Go
theorem Uu {P:Program} {ops:Array Oper} {w:World} {L:Act->Prop}:∀(l:List Oper) (a:Act),wpQuiet P ops (λw'=>w'=w) L l a->wpStill P ops w L l a
 | [],_,h=>h
 | o::rest,a,h=>by
  unfold wpQuiet at h;unfold wpStill;by_cases hw:Region.wanted o (yielded ops a.tmps)=true
  ·rw[if_pos hw]at h ⊢;obtain⟨v,h1,h2⟩:=h;have h3:=h1 w rfl;have h4:=Uu rest _ h2;unfold Oper.quietAt at h3;unfold Oper.still;generalize (execOp a.eval o).run P w=r at *;cases r with
   | ok n w'=>
    cases n<;>simp only[Oper.quietUpon]at h3<;>simp only[Oper.stillUpon];case value u=>exact⟨h3.1,h3.2▸h4⟩
    case skip=>exact⟨h3.1,h3.2▸h4⟩
    case enter f args=>exact⟨h3.1,v,h3.2,h4⟩
   | halt x w'=>simp only[Oper.quietUpon]at h3
  ·rw[if_neg hw]at h ⊢;exact Uu rest _ h
theorem xY {P:Program} {id:Nat} {Q:Exit->Act->World->Prop} {a:Act} {w:World} {l:List Oper} (n:Nat) (hm:P.follows .mixedOrders=true) (hB:Region.lexTailB .any l.toArray n=true)
  (h:wpQuiet P l.toArray (λw'=>w'=w.drew) (λa'=>wpList P l.toArray Q (l.drop n) a' w.drew) (l.take n) a):(Code.region id l.toArray true).wp P Q a w:=
 wp_region_still_tail n hm hB (Uu _ _ h)
end lib
namespace pk
open Go Go.RowKit lib
def pV (q:Option Nat):Value:=.pointer (q.map λb=>⟨b,0,none⟩)
def pD:Option Nat->DataW Unit
 | none=>.nil
 | some b=>.lit (.int .i64 b)
def pR:Value->Option (DataW Unit×List MemPlace)
 | .pointer none=>some (.nil,[])
 | .pointer (some a)=>if a=⟨a.block,0,none⟩ then some (.lit (.int .i64 (a.block:Nat)),[]) else none
 | _=>none
theorem RC (q:Option Nat):pR (pV q)=some (pD q,[]):=by
 cases q with
 | none=>rfl
 | some b=>simp[pR,pV,pD]
theorem Xq {v:Value} {z:DataW Unit×List MemPlace} (h:pR v=some z):∃q,v=pV q/\z=(pD q,[]):=by
 unfold pR at h;split at h
 ·exact⟨none,rfl,(ig h).symm⟩
 ·rename_i a;split at h
  ·rename_i he;refine⟨some a.block,?_,(ig h).symm⟩;unfold pV;rw[he];rfl
  ·cases h
 ·cases h
theorem R4 {a b:Option Nat} (h:pD a=pD b):a=b:=by
 cases a with
 | none=>cases b with
  | none=>rfl
  | some b=>cases h
 | some a=>cases b with
  | none=>cases h
  | some b=>
   simp only[pD,DataW.lit.injEq,Lit.int.injEq,true_and]at h
   rw[Int.ofNat.inj h]
def zZ (w:World) (b:Nat):Prop:=∃es c,w.heap[b]?=some (.map es c)
theorem zZ.ne {w:World} {b x:Nat} {c:AV} {t:TypeId} {f:Nat×Nat} (h:zZ w b) (hx:w.heap[x]?=some (.cells c t f)):x≠b:=by rintro rfl;obtain⟨es,c,h⟩:=h;rw[h]at hx;cases hx
theorem Ds:Maps.Keyed Tryz.prog 9:=Maps.string_keyed Tryz.underlying9
theorem IP {w w':World} {S:LN} {P:Program} {k:TypeId} {R:Value->Option (DataW Unit×List MemPlace)} {b n:Nat} {D:DataW Unit} (h:w.ownsMap P k R b n D) (f:Fr S w w') (hb:b∉S):w'.ownsMap P k R b n D:=by obtain⟨es,clock,h1,h2⟩:=h;exact⟨es,clock,f.ag h1 hb,h2⟩
theorem OX (id:LB) (h:id.length<=1000000):keyOf Tryz.prog 9 (.string (str id))=some (.string id):=by have:=WideMaps.keyOf_string_mk (P:=Tryz.prog) Tryz.underlying9 (s:=str id) (by rw[show (str id).size=id.length by simp[str,ByteArray.size]];unfold maxLen;omega);exact this
end pk
namespace fs
open Go Go.RowKit lib pk
variable {w w':World} {B n:Nat}
set_option maxRecDepth 100000
abbrev Nm:=List UInt8
theorem Py:Tryz.prog.underlying 92=some (.map 9 217):=by kernel_rfl
theorem qyk (w:World):(zeroValue 217).run Tryz.prog w = .ok (.pointer none) w:=by kernel_rfl
def Es (D:DataW Unit) (g:Nm->Option Nat):Prop:=∀k:Nm,(g k=none->Maps.has D (.string k)=false)/\∀p,g k=some p->Maps.has D (.string k)=true/\D.atKey (.string k) .nil=pD (some p)
def Names (w:World) (B n:Nat) (g:Nm->Option Nat):Prop:=∃D,w.ownsMap Tryz.prog 9 pR B n D/\Es D g
theorem Names.fr {S:LN} {g:Nm->Option Nat} (h:Names w B n g) (f:Fr S w w') (hB:B∉S):Names w' B n g:=by obtain⟨D,h1,h2⟩:=h;exact⟨D,IP h1 f hB,h2⟩
theorem Names.at_ {g:Nm->Option Nat} (h:Names w B n g):zZ w B:=by obtain⟨D,⟨es,clock,h1,_⟩,_⟩:=h;exact⟨es,clock,h1⟩
theorem Names.made (w:World):Names (w.alloc (.map #[] 0)) w.heap.size 0 (λ_=>none):=
 ⟨.map [],World.ownsMap_made w _ _ _,λk=>⟨λ_=>rfl,λp h=>by cases h⟩⟩
theorem Names.look {g:Nm->Option Nat} (h:Names w B n g) (k:Nm) (hk:k.length<=1000000):(Instr.lookup 92 (.map (some B)) (.string (str k)) false).run Tryz.prog w = .ok (pV (g k)) w:=by
 obtain⟨D,h1,h2⟩:=h;obtain⟨v,ps,tv,hv⟩:=h1.lookup Ds Py (qyk w) (RC none) (OX k hk);obtain⟨q,rfl,hq⟩:=Xq hv;obtain⟨v1,v2⟩:=h2 k;cases hg:g k with
 | none=>
  rw[Maps.atKey_of_not_has (v1 hg)]at hq;simp only[gq]at hq;rw[tv,R4 hq.1]
 | some p=>have rE:=congrArg Prod.fst hq;simp only at rE;rw[show pD none=(.nil:DataW Unit) from rfl,(v2 p hg).2]at rE;rw[tv,R4 rE]
def set (g:Nm->Option Nat) (k:Nm) (v:Option Nat):Nm->Option Nat:=λx=>if x=k then v else g x
theorem Tv (h:w.mapTurned w' B):Fr [B] w w':=by obtain⟨h1,h2,h3,h4,h5⟩:=h.grown;exact⟨h1,h2,h3,h4,λk hk hB=>h5 k hk (λe=>hB (by rw[<-ig e];simp))⟩
theorem Names.store {w:World} {B n:Nat} {g:Nm->Option Nat} (h:Names w B n g) (hn:n<1000) (k:Nm) (hk:k.length<=1000000) (p:Nat) :
  ∃w',(Instr.mapUpdate 92 (.map (some B)) (.string (str k)) (pV (some p))).run Tryz.prog w = .ok () w'/\Names w' B (n+1) (set g k (some p))/\Fr [B] w w':=by
 obtain⟨D,h1,h2⟩:=h;obtain⟨w',tv,h3,h4⟩:=h1.store Ds Py (by unfold maxLen;omega) (OX k hk) (RC (some p));refine⟨w',tv,⟨_,h3,λx=>?_⟩,Tv h4⟩;have hm:=h1.isMap;by_cases hx:x=k
 ·subst hx;unfold set;rw[if_pos rfl];refine⟨λe=>(by cases e),λq e=>?_⟩;obtain rfl:=ig e;exact⟨Maps.has_put_same hm (by simp[WideAt.IsKeyLit]) _,Maps.atKey_put_same hm (by simp[WideAt.IsKeyLit]) _ _⟩
 ·have bg:Lit.string x≠Lit.string k:=by simp[hx]
  unfold set;rw[if_neg hx,Maps.has_put_other bg,Maps.atKey_put_other bg];exact h2 x
theorem Names.drop {w:World} {B n:Nat} {g:Nm->Option Nat} (h:Names w B n g) (k:Nm) (hk:k.length<=1000000) (ty:TypeId) :
  ∃w',(Builtin.delete_ #[92,9] ty #[.map (some B),.string (str k)]).run Tryz.prog w = .ok (.tuple #[]) w'/\Names w' B n (set g k none)/\Fr [B] w w':=by
 obtain⟨D,h1,h2⟩:=h;obtain⟨w',tv,h3,h4⟩:=h1.drop Ds Py (OX k hk) ty;refine⟨w',tv,⟨_,h3,λx=>?_⟩,Tv h4⟩;by_cases hx:x=k
 ·subst hx;unfold set;rw[if_pos rfl];exact⟨λ_=>Maps.has_del_same,λq e=>by cases e⟩
 ·have bg:Lit.string x≠Lit.string k:=by simp[hx]
  unfold set;rw[if_neg hx,Maps.has_del_other bg,Maps.atKey_del_other bg];exact h2 x
end fs
namespace lib
open Go Go.RowKit
variable {w:World} {cap size:Nat}
theorem C4 {S:LN} {w':World} {a:OA} {bs:LB} (h:Rd w a cap bs) (f:Fr S w w') (hn:bs≠[]->∀x∈ag a,x∉S):Rd w' a cap bs:=by
 by_cases hb:bs=[]
 ·exact⟨.inl (by rw[hb];rfl),h.le,h.max,h.nil⟩
 ·exact h.uD f (hn hb)
theorem Hy {a:OA} {bs:LB} (h:Rd w a cap bs) (hb:bs≠[]):∀x∈ag a,x<w.heap.size:=by
 intro x hx;cases a with
 | none=>simp[ag]at hx
 | some a=>simp[ag]at hx;rw[hx];exact h.cs.lt (by simpa using hb) a rfl
theorem Up {P:Program} {t e:TypeId} {z:Value} {bytes:Nat} (T:aw P t e z size bytes) (n:Nat) (a:OA) (cap:Nat) (hc:n<=cap) (w:World) :
  (Instr.slice t (.slice a n cap) Option.none (some (.int .i64 n)) (some (.int .i64 n))).run P w = .ok (.slice a n n) w:=by
 obtain⟨hu,⟨i,km,_,hs,_⟩,_,_⟩:=T;have c1:(0:Int)<=(n:Int)/\(n:Int)<=(cap:Int):=by omega
 have WB:∀x:Addr,x.add 0=x:=λx=>rfl
 cases a<;>simp[run_underlying hu,Instr.slice,Instr.sliceBounds,Instr.sliceBound,asIntOf,c1,hc,sizeOf,typeInfo,km,hs,Result.andThen,WB]
theorem Sf {base:Nat} {e:TypeId} {n:Nat} {xs:LV} {ao:OA} {len:Nat} (h:w.ownsRow base e size (.slice ao len cap) n xs):Cs w ao xs:=by
 rcases h.2 with⟨h1,h2⟩|⟨g,aM,cur,h1,hb,hg,hn,hm,hs,ht⟩
 ·left;have:=h.1;rw[h2]at this;exact sr (by simpa using this)
 ·simp only[kJ]at h1;obtain⟨rfl,rfl,rfl⟩:=h1;refine .inr ⟨g,0,rfl,λj v hv=>?_⟩;rw[cell_of hg,iN];rw[<-ht,oG]at hv;split at hv
  ·simpa using hv
  ·cases hv
theorem oC (w:World) (C:AV) (t:TypeId) (fr:Nat×Nat):Cs (w.alloc (.cells C t fr)) (some ⟨w.heap.size,0,none⟩) C.toList:=
 .inr ⟨w.heap.size,0,rfl,λj v hv=>by rw[cell_of (aV w _),iN,<-yO];exact hv⟩
section
variable {P : Program} {w : World} {t e : TypeId} {z : Value} {size bytes : Nat}
theorem RG {g o:Nat} {vs:LV} (h:∀j v,vs[j]?=some v->w.cell? ⟨g,o+j,none⟩=some v):∀j v,vs[j]?=some v->w.cell? ((⟨g,o,none⟩:Addr).add j)=some v:=λj v hv=>by rw[Kl];exact h j v hv
theorem qg7 (T:aw P t e z size bytes) (ty:TypeId) (b:OA) (n c:Nat) (td:LV) (hb:Cs w b td) (sx:td.length=n*size) (hnc:n<=c) (qZ:b=none->c=0)
  (ao:OA) (m c':Nat) (news:LV) (hc:Cs w ao news) (hl:news.length=m*size) (qV:c<n+m)
  (mr:(n+m)*bytes<=140737488355328) (pW:n+m<=maxLen) :
  ∃aM w',(Builtin.append_ #[t,t] ty #[.slice b n c,.slice ao m c']).run P w = .ok (.slice (some ⟨w.heap.size,0,none⟩) (n+m) aM) w'/\aN w w' e size [] (some ⟨w.heap.size,0,none⟩) (n+m) aM (td++news):=by
 obtain⟨hu,⟨i,hi,hz,hs,xD⟩,sC,hp⟩:=T;have mK:n+m<=9223372036854775807:=by simp only[maxLen]at pW;omega
 have bg:0<news.length:=by rw[hl];exact Nat.mul_pos (by omega) hp
 obtain⟨g,o,rfl,ju⟩:=hc.at bg;have xu:=RG ju;have key:∀(old:Nat),old<n+m->aN w (w.drew.alloc (.cells (td.toArray++news.toArray++Builtin.zeroCells z.cells (grownCap w (n+m) old e-(n+m))) e)) e size []
   (some ⟨w.heap.size,0,none⟩) (n+m) (grownCap w (n+m) old e) (td++news):=by
  intro old ho
  have Gf:=grownCap_ge w (n+m) old e
  have kE:grownCap w (n+m) old e<=maxLen:=grownCap_le_maxLen w (n+m) old e pW
  refine⟨⟨by rw[aG,sx,hl,oD],.inr ⟨w.heap.size,_,_,rfl,eE _,heap_alloc_new w.drew _,Gf,kE,?_,?_⟩⟩,(Fr.aB [] w).alloc _,λx hx=>by right;simpa[ag] using hx,Gf,kE,λh=>by cases h⟩
  ·simp only[Array.size_append,List.size_toArray,size_zeroCells,sC,sx,hl]
   rw[<-oD,<-oD]
   congr 1
   omega
  ·simp only[Array.toList_append]
   rw[DF (by simp[sx,hl,oD])]
   rw[lL (by simp[sx,hl,oD])]
 cases b with
 | none=>
  have dB:=qZ rfl;subst dB;obtain rfl:n=0:=by omega
  obtain rfl:td=[]:=sr (by simpa using sx);have hr:=run_append_nil (P:=P) w t ty e i z hu hi hz ⟨g,o,none⟩ m c' news (by rw[hs];exact hl) xu (by omega) (by omega) (by rw[xD];simp at mr;omega);have hk:=key 0 (by omega);simp only[iN,sS,Array.empty_append]at hk ⊢;exact⟨_,_,hr,hk⟩
 | some a=>
  have ho:∀j v,td[j]?=some v->w.cell? (a.add j)=some v:=by
   intro j v hv;rcases hb with rfl|⟨g',o',ha,hb⟩
   ·simp at hv
   ·obtain rfl:=ig ha;rw[Kl];exact hb j v hv
  have VD:Builtin.nextslicecap (n+m) c*i.bytes<=281474976710656:=by rw[xD];exact growslice_fits (by omega) (by omega)
  have hr:=run_append_grow (P:=P) w t ty e i z hu hi hz a n c td (by rw[hs];exact sx) ho ⟨g,o,none⟩ m c' news (by rw[hs];exact hl) xu qV (by omega) VD;exact⟨_,_,hr,key c qV⟩
end
end lib
namespace lib
open Go Go.RowKit
variable {w:World} {a:OA} {cap:Nat} {xs:LV}
def ek (w:World) (e:TypeId) (a:OA) (cap:Nat) (xs:LV):Prop:=
 (a=none/\cap=0/\xs=[])\/∃g o cur,a=some ⟨g,o,none⟩/\w.heap[g]?=some (.cells cur e (0,0))/\xs.length<=cap/\cap<=maxLen/\o+cap<=cur.size/\(cur.toList.drop o).take xs.length=xs
theorem ek.nil (w:World) (e:TypeId):ek w e none 0 []:=.inl ⟨rfl,rfl,rfl⟩
theorem ek.shape {e:TypeId} (h:ek w e a cap xs):xs.length<=cap/\cap<=maxLen/\(a=none->cap=0):=by
 rcases h with⟨_,rfl,rfl⟩|⟨g,o,cur,rfl,_,h1,h2,_⟩
 ·exact⟨ax _,eE _,λ_=>rfl⟩
 ·exact⟨h1,h2,λh=>by cases h⟩
theorem ek.cs {e:TypeId} (h:ek w e a cap xs):Cs w a xs:=by
 rcases h with⟨_,_,rfl⟩|⟨g,o,cur,rfl,hg,h1,h2,h3,h4⟩
 ·exact .inl rfl
 ·refine .inr ⟨g,o,rfl,λj v hv=>?_⟩;rw[cell_of hg,<-yO];rw[<-h4,oG]at hv;split at hv
  ·simpa using hv
  ·cases hv
theorem ek.fr {S:LN} {w':World} {e:TypeId} (h:ek w e a cap xs) (f:Fr S w w') (hn:∀x∈ag a,x∉S):ek w' e a cap xs:=by
 rcases h with h|⟨g,o,cur,rfl,hg,r⟩
 ·exact .inl h
 ·exact .inr ⟨g,o,cur,rfl,f.ag hg (hn g (by simp[ag])),r⟩
theorem ek.lt {e:TypeId} (h:ek w e a cap xs):∀x∈ag a,x<w.heap.size:=by
 rcases h with⟨rfl,_⟩|⟨g,o,cur,rfl,hg,r⟩
 ·simp[ag]
 ·intro x hx;simp[ag]at hx;rw[hx];exact lt_of_block hg
theorem ek.rd {e:TypeId} {bs:LB} (h:ek w e a cap (bs.map bv)):Rd w a cap bs:=by obtain⟨h1,h2,h3⟩:=h.shape;exact⟨h.cs,by simpa using h1,h2,h3⟩
theorem TI {e:TypeId} {n:Nat} (h:w.ownsRow 0 e 1 (.slice a n cap) n xs):ek w e a cap xs/\xs.length=n:=by
 have hl:xs.length=n:=by simpa using h.1
 refine⟨?_,hl⟩;rcases h.2 with⟨h1,h2⟩|⟨g,aM,cur,h1,hb,hg,hn,hm,hs,ht⟩
 ·simp only[kJ]at h1;obtain⟨rfl,h3,rfl⟩:=h1;exact .inl ⟨rfl,rfl,sr (by omega)⟩
 ·simp only[kJ]at h1;obtain⟨rfl,_,rfl⟩:=h1;refine .inr ⟨g,0,cur,rfl,hg,by omega,hm,by omega,?_⟩;rw[nE,hl];simpa using ht
theorem ek.take {w:World} {e:TypeId} {a:OA} {cap:Nat} {xs:LV} (h:ek w e a cap xs) (k:Nat):ek w e a cap (xs.take k):=by
 rcases h with⟨h1,h2,rfl⟩|⟨g,o,cur,rfl,hg,h1,h2,h3,h4⟩
 ·exact .inl ⟨h1,h2,by simp⟩
 ·refine .inr ⟨g,o,cur,rfl,hg,by rw[fH];omega,h2,h3,?_⟩;have e1:xs.take k=((cur.toList.drop o).take xs.length).take k:=by rw[h4]
  rw[e1,EM,fH];congr 1;have:=congrArg List.length h4;rw[fH]at this;omega
theorem ek.drop {w:World} {e:TypeId} {a:OA} {cap:Nat} {xs:LV} (h:ek w e a cap xs) (k:Nat) (hk:k<=xs.length):ek w e (bh a cap k 1) (cap-k) (xs.drop k):=by
 rcases h with⟨rfl,rfl,rfl⟩|⟨g,o,cur,rfl,hg,h1,h2,h3,h4⟩
 ·obtain rfl:k=0:=by simpa using hk
  exact .inl ⟨rfl,rfl,rfl⟩
 ·unfold bh;by_cases hc:cap=k
  ·rw[if_pos hc];have hx:xs.drop k=[]:=Ax (by omega);rw[hx];exact .inr ⟨g,o,cur,rfl,hg,by simp,by omega,by omega,rfl⟩
  ·rw[if_neg hc];refine .inr ⟨g,o+k,cur,by simp only[EO,Kl,uG],hg,by rw[gN];omega,by omega,by omega,?_⟩;have e1:xs.drop k=((cur.toList.drop o).take xs.length).drop k:=by rw[h4]
   rw[e1,C5,BF,fH,gN];congr 1;have:=congrArg List.length h4;rw[fH,gN]at this;simp only[JW]at *;omega
section
variable {P : Program} {w : World} {t e : TypeId} {z : Value} {bytes : Nat}
structure gG (w w':World) (e:TypeId) (a a':OA) (aM:Nat) (xs:LV):Prop where
 own:ek w' e a' aM xs
 fr:Fr (ag a) w w'
 at_:∀x∈ag a',x∈ag a\/w.heap.size<=x
theorem qhz (T:aw P t e z 1 bytes) (ty:TypeId) (a:OA) (n cap:Nat) (xs:LV) (aK:ek w e a cap xs) (hn:xs.length=n)
  (ao:OA) (m c:Nat) (news:LV) (pT:m<=c) (bU:ao=none->c=0) (hc:Cs w ao news) (hl:news.length=m) (h1:∀u∈news,u.oneCell'=true)
  (mr:(n+m)*bytes<=140737488355328) (pW:n+m<=maxLen) :
  ∃a' aM w',(Builtin.append_ #[t,t] ty #[.slice a n cap,.slice ao m c]).run P w = .ok (.slice a' (n+m) aM) w'/\gG w w' e a a' aM (xs++news):=by
 subst hn;rcases aK with⟨rfl,rfl,rfl⟩|⟨g,o,cur,rfl,hg,k1,k2,k3,k4⟩
 ·obtain⟨a',aM,w',hr,A⟩:=qnz (P:=P) T ty (.slice none 0 0) 0 [] [] rfl (oE w 0 e 1) ao m c news pT bU hc (by omega) h1 (by simpa using mr) (by simpa using pW);obtain⟨o1,_⟩:=TI A.own;exact⟨a',aM,w',by simpa using hr,o1,A.fr,λx hx=>.inr (Ex (by have:=A.at_ x hx;simp at this;exact this.symm))⟩
 ·have cZ:xs.length<=cur.size-o:=by have:=congrArg List.length k4;rw[fH,gN]at this;simp only[JW]at this;omega
  by_cases AU:m=0
  ·subst AU;obtain rfl:news=[]:=sr hl;obtain⟨hu,⟨i,hi,hz,hs,xD⟩,sC,hp⟩:=T;refine⟨some ⟨g,o,none⟩,cap,w,?_,by rw[nX];exact .inr ⟨g,o,cur,rfl,hg,k1,k2,k3,k4⟩,Fr.refl _ _,λx hx=>.inl hx⟩;cases ao with
   | none=>
    have dB:=bU rfl;simp[Builtin.append_,run_underlying hu,sizeOf,typeInfo,hi,Builtin.lenOf,k1,Builtin.firstCells,storeCells]
   | some b=>have hf:=run_firstCells_some (P:=P) w i.size 0 b 0 c [] (by simp) (by simp);simp[Builtin.append_,run_underlying hu,sizeOf,typeInfo,hi,Builtin.lenOf,k1,hf,storeCells]
  ·by_cases dh:xs.length+m<=cap
   ·obtain⟨hu,⟨i,hi,hz,hs,xD⟩,sC,hp⟩:=T;obtain⟨g',o',rfl,ju⟩:=hc.at (by omega);have xu:=RG ju;have hf:=run_firstCells_some (P:=P) w i.size m ⟨g',o',none⟩ m c news (by rw[hs];omega) xu;have aW:=run_storeCells_at P g (o+xs.length*i.size) e news 0 cur w hg (by rw[hs];omega) h1;simp only[pN]at aW;refine⟨some ⟨g,o,none⟩,cap,_,?_,⟨.inr ⟨g,o,_,rfl,setRow_heap w g cur (cur.toList.take (o+xs.length*i.size)++news++cur.toList.drop (o+xs.length*i.size+news.length)).toArray e (0,0) hg,by rw[aG,hl];exact dh,k2,?_,?_⟩,⟨rfl,rfl,rfl,by simp,λk _ hk=>setRow_other w g k _ (λe=>hk (by simp[ag,e]))⟩,λx hx=>.inl hx⟩⟩
    ·simp[Builtin.append_,run_underlying hu,sizeOf,typeInfo,hi,Builtin.lenOf,dh,hf,Addr.add_lit,aW]
    ·simp only[List.size_toArray,aG,fH,gN,JW,hs];omega
    ·simp only[hs,uG];rw[KJ (by simp;omega),KJ (by simp;omega),C5,Nat.add_sub_cancel_left,k4,aG,hl];rw[DF (by simp[hl]),lL (by simp[hl])]
   ·have hcs:Cs w (some ⟨g,o,none⟩) xs:=ek.cs (.inr ⟨g,o,cur,rfl,hg,k1,k2,k3,k4⟩);obtain⟨aM,w',hr,A⟩:=qg7 (P:=P) T ty (some ⟨g,o,none⟩) xs.length cap xs hcs (by omega) k1 (by simp) ao m c news hc (by omega) (by omega) mr pW;obtain⟨o1,_⟩:=TI A.own;exact⟨_,aM,w',hr,o1,A.fr.mono (by simp),λx hx=>.inr (Ex (by have:=A.at_ x hx;simp at this;exact this.symm))⟩
theorem qoz (T:aw P t e z 1 bytes) {o:Oper} {A:Act} {K:Act->World->Prop} {Q:Exit->Act->World->Prop} (s x:Operand)
  (ho:o.op = .call { callee:=.builtin .append,args:=#[s,x],argTypes:=#[t,t] })
  (a:OA) (n cap:Nat) (xs:LV) (hs:A.eval s = .slice a n cap) (aK:ek w e a cap xs) (hn:xs.length=n)
  (ao:OA) (m c:Nat) (news:LV) (hx:A.eval x = .slice ao m c) (pT:m<=c) (bU:ao=none->c=0) (hc:Cs w ao news) (hl:news.length=m) (h1:∀u∈news,u.oneCell'=true)
  (mr:(n+m)*bytes<=140737488355328) (pW:n+m<=maxLen)
  (h:∀a' aM w',gG w w' e a a' aM (xs++news)->K (A.put o.dst (.slice a' (n+m) aM)) w'):o.wp P A w K Q:=by
 obtain⟨a',aM,w',hr,h2⟩:=qhz (P:=P) T o.type a n cap xs aK hn ao m c news pT bU hc hl h1 mr pW;unfold Oper.wp execOp;simp only[ho,resolve,invoke,builtin,Bz,Sem.run_pure,EP,List.map_toArray,jL,qg,hs,hx,hr];exact h a' aM w' h2
theorem E8 (T:aw P t e z 1 bytes) {ops:Array Oper} {rest:List Oper} {o:Oper} {A:Act} {Q:Exit->Act->World->Prop} (qR:o.guard=none) (s x:Operand)
  (ho:o.op = .call { callee:=.builtin .append,args:=#[s,x],argTypes:=#[t,t] })
  (a:OA) (n cap:Nat) (xs:LV) (hs:A.eval s = .slice a n cap) (aK:ek w e a cap xs) (hn:xs.length=n)
  (ao:OA) (m c:Nat) (news:LV) (hx:A.eval x = .slice ao m c) (pT:m<=c) (bU:ao=none->c=0) (hc:Cs w ao news) (hl:news.length=m) (h1:∀u∈news,u.oneCell'=true)
  (mr:(n+m)*bytes<=140737488355328) (pW:n+m<=maxLen)
  (h:∀a' aM w',gG w w' e a a' aM (xs++news)->wpList P ops Q rest (A.put o.dst (.slice a' (n+m) aM)) w'):wpList P ops Q (o::rest) A w:=
 wpList_plain qR λ_ hK=>qoz T s x ho a n cap xs hs aK hn ao m c news hx pT bU hc hl h1 mr pW λa' aM w' h2=>hK _ _ (h a' aM w' h2)
theorem gG.two {w1 w2 w3:World} {a a2 a3:OA} {c2 c3:Nat} {xs ys:LV} (A:gG w1 w2 e a a2 c2 xs) (B:gG w2 w3 e a2 a3 c3 ys):gG w1 w3 e a a3 c3 ys:=by
 refine⟨B.own,A.fr.step B.fr λy hy=>A.at_ y hy,λy hy=>?_⟩;rcases B.at_ y hy with h|h
 ·exact A.at_ y h
 ·exact .inr (bP A.fr.size h)
end
end lib
namespace lib
open Go Go.RowKit
theorem qt4 {w:World} {b:Nat} {c:AV} {t:TypeId} {f:Nat×Nat} (h:w.heap[b]?=some (.cells c t f)) (hf:f=(0,0)\/c.size<=f.1) (o:Nat) (ho:o<c.size):w.frozen? ⟨b,o,none⟩=false:=by
 rcases hf with rfl|hf
 ·exact aT h o
 ·simp[World.frozen?,h];intro h1;omega
section
variable {P : Program}
theorem qfr (g o:Nat) (t:TypeId) (f:Nat×Nat):∀(vs:LV) (i:Nat) (cur:AV) (w:World),w.heap[g]?=some (.cells cur t f)->(f=(0,0)\/cur.size<=f.1)->o+i+vs.length<=cur.size->(∀v∈vs,v.oneCell'=true)->
  (storeCells ⟨g,o,none⟩ vs i).run P w = .ok () (w.setRow g (cur.toList.take (o+i)++vs++cur.toList.drop (o+i+vs.length)).toArray)
 | [],i,cur,w,hg,_,_,_=>by
  simp only[storeCells,nX,jK,pN,BP,Array.toArray_toList];rw[setRow_self w g cur t f hg];rfl
 | v::rest,i,cur,w,hg,hf,hl,h1=>by
  have hi:o+i<cur.size:=by simp at hl;omega
  have VM:(⟨g,o,none⟩:Addr).add i=⟨g,o+i,none⟩:=by unfold Addr.add;split<;>simp_all
  have hcell:w.cell? ⟨g,o+i,none⟩=some cur[o+i]:=by simp[World.cell?,hg,hi]
  have VA:w.frozen? ⟨g,o+i,none⟩=false:=qt4 hg hf _ hi;have aW:(store ((⟨g,o,none⟩:Addr).add i) v).run P w = .ok () (w.setRow g (cur.setIfInBounds (o+i) v)):=by rw[VM,run_store P w _ v _ (h1 v (by simp)),hcell];simp[VA,setCell_eq_setRow w g (o+i) cur t f v hg]
  have ih:=qfr g o t f rest (i+1) (cur.setIfInBounds (o+i) v) (w.setRow g (cur.setIfInBounds (o+i) v)) (setRow_heap w g cur _ t _ hg) (by rw[Array.size_setIfInBounds];exact hf) (by simp at hl ⊢;omega) (λx hx=>h1 x (by simp[hx]));simp only[storeCells,Bz,aW,EP,ih,setRow_setRow];congr 3;have e:=list_seg_step cur.toList (o+i) v rest (by simp at hl ⊢;omega);simpa[Array.toList_setIfInBounds,pP] using e
end
def iY (w:World) (e:TypeId) (a:OA) (cap:Nat) (xs:LV):Prop:=
 (a=none/\cap=0/\xs=[])\/∃g o cur f,a=some ⟨g,o,none⟩/\w.heap[g]?=some (.cells cur e f)/\(f=(0,0)\/cur.size<=f.1)/\xs.length<=cap/\cap<=maxLen/\o+cap<=cur.size/\(cur.toList.drop o).take xs.length=xs
theorem ek.b {w:World} {e:TypeId} {a:OA} {cap:Nat} {xs:LV} (h:ek w e a cap xs):iY w e a cap xs:=by
 rcases h with h|⟨g,o,cur,rfl,hg,r⟩
 ·exact .inl h
 ·exact .inr ⟨g,o,cur,_,rfl,hg,.inl rfl,r⟩
theorem iY.shape {w:World} {e:TypeId} {a:OA} {cap:Nat} {xs:LV} (h:iY w e a cap xs):xs.length<=cap/\cap<=maxLen/\(a=none->cap=0):=by
 rcases h with⟨_,rfl,rfl⟩|⟨g,o,cur,f,rfl,_,_,h1,h2,_⟩
 ·exact⟨ax _,eE _,λ_=>rfl⟩
 ·exact⟨h1,h2,λh=>by cases h⟩
theorem iY.cs {w:World} {e:TypeId} {a:OA} {cap:Nat} {xs:LV} (h:iY w e a cap xs):Cs w a xs:=by
 rcases h with⟨_,_,rfl⟩|⟨g,o,cur,f,rfl,hg,_,h1,h2,h3,h4⟩
 ·exact .inl rfl
 ·refine .inr ⟨g,o,rfl,λj v hv=>?_⟩;rw[cell_of hg,<-yO];rw[<-h4,oG]at hv;split at hv
  ·simpa using hv
  ·cases hv
theorem iY.fr {S:LN} {w w':World} {e:TypeId} {a:OA} {cap:Nat} {xs:LV} (h:iY w e a cap xs) (f:Fr S w w') (hn:∀x∈ag a,x∉S):iY w' e a cap xs:=by
 rcases h with h|⟨g,o,cur,z,rfl,hg,r⟩
 ·exact .inl h
 ·exact .inr ⟨g,o,cur,z,rfl,f.ag hg (hn g (by simp[ag])),r⟩
theorem iY.lt {w:World} {e:TypeId} {a:OA} {cap:Nat} {xs:LV} (h:iY w e a cap xs):∀x∈ag a,x<w.heap.size:=by
 rcases h with⟨rfl,_⟩|⟨g,o,cur,f,rfl,hg,r⟩
 ·simp[ag]
 ·intro x hx;simp[ag]at hx;rw[hx];exact lt_of_block hg
theorem iY.rd {w:World} {e:TypeId} {a:OA} {cap:Nat} {bs:LB} (h:iY w e a cap (bs.map bv)):Rd w a cap bs:=by obtain⟨h1,h2,h3⟩:=h.shape;exact⟨h.cs,by simpa using h1,h2,h3⟩
section
variable {P : Program} {w : World} {t e : TypeId} {z : Value} {bytes : Nat}
structure Er (w w':World) (e:TypeId) (a a':OA) (aM:Nat) (xs:LV):Prop where
 own:iY w' e a' aM xs
 fr:Fr (ag a) w w'
 at_:∀x∈ag a',x∈ag a\/w.heap.size<=x
theorem qqv (T:aw P t e z 1 bytes) (ty:TypeId) (a:OA) (n cap:Nat) (xs:LV) (aK:iY w e a cap xs) (hn:xs.length=n)
  (ao:OA) (m c:Nat) (news:LV) (pT:m<=c) (bU:ao=none->c=0) (hc:Cs w ao news) (hl:news.length=m) (h1:∀u∈news,u.oneCell'=true)
  (mr:(n+m)*bytes<=140737488355328) (pW:n+m<=maxLen) :
  ∃a' aM w',(Builtin.append_ #[t,t] ty #[.slice a n cap,.slice ao m c]).run P w = .ok (.slice a' (n+m) aM) w'/\Er w w' e a a' aM (xs++news):=by
 subst hn;have hcs:=aK.cs;rcases aK with⟨rfl,rfl,rfl⟩|⟨g,o,cur,f,rfl,hg,kf,k1,k2,k3,k4⟩
 ·obtain⟨a',aM,w',hr,A⟩:=qhz (P:=P) T ty none 0 0 [] (ek.nil w e) rfl ao m c news pT bU hc hl h1 (by simpa using mr) (by simpa using pW);exact⟨a',aM,w',hr,A.own.b,A.fr,A.at_⟩
 ·by_cases AU:m=0
  ·subst AU;obtain rfl:news=[]:=sr hl;obtain⟨hu,⟨i,hi,hz,hs,xD⟩,sC,hp⟩:=T;refine⟨some ⟨g,o,none⟩,cap,w,?_,by rw[nX];exact .inr ⟨g,o,cur,f,rfl,hg,kf,k1,k2,k3,k4⟩,Fr.refl _ _,λx hx=>.inl hx⟩;cases ao with
   | none=>
    have dB:=bU rfl;simp[Builtin.append_,run_underlying hu,sizeOf,typeInfo,hi,Builtin.lenOf,k1,Builtin.firstCells,storeCells]
   | some b=>have hf:=run_firstCells_some (P:=P) w i.size 0 b 0 c [] (by simp) (by simp);simp[Builtin.append_,run_underlying hu,sizeOf,typeInfo,hi,Builtin.lenOf,k1,hf,storeCells]
  ·by_cases dh:xs.length+m<=cap
   ·obtain⟨hu,⟨i,hi,hz,hs,xD⟩,sC,hp⟩:=T;obtain⟨g',o',rfl,ju⟩:=hc.at (by omega);have xu:=RG ju;have hf:=run_firstCells_some (P:=P) w i.size m ⟨g',o',none⟩ m c news (by rw[hs];omega) xu;have aW:=qfr (P:=P) g (o+xs.length*i.size) e f news 0 cur w hg kf (by rw[hs];omega) h1;simp only[pN]at aW;refine⟨some ⟨g,o,none⟩,cap,_,?_,⟨.inr ⟨g,o,_,f,rfl,setRow_heap w g cur (cur.toList.take (o+xs.length*i.size)++news++cur.toList.drop (o+xs.length*i.size+news.length)).toArray e f hg,?_,by rw[aG,hl];exact dh,k2,?_,?_⟩,⟨rfl,rfl,rfl,by simp,λk _ hk=>setRow_other w g k _ (λe=>hk (by simp[ag,e]))⟩,λx hx=>.inl hx⟩⟩
    ·simp[Builtin.append_,run_underlying hu,sizeOf,typeInfo,hi,Builtin.lenOf,dh,hf,Addr.add_lit,aW]
    ·refine kf.imp id λk=>?_
     simp only[List.size_toArray,aG,fH,gN,JW,hs];omega
    ·simp only[List.size_toArray,aG,fH,gN,JW,hs];omega
    ·simp only[hs,uG];rw[KJ (by simp;omega),KJ (by simp;omega),C5,Nat.add_sub_cancel_left,k4,aG,hl];rw[DF (by simp[hl]),lL (by simp[hl])]
   ·obtain⟨aM,w',hr,A⟩:=qg7 (P:=P) T ty (some ⟨g,o,none⟩) xs.length cap xs hcs (by omega) k1 (by simp) ao m c news hc (by omega) (by omega) mr pW;obtain⟨o1,_⟩:=TI A.own;exact⟨_,aM,w',hr,o1.b,A.fr.mono (by simp),λx hx=>.inr (Ex (by have:=A.at_ x hx;simp at this;exact this.symm))⟩
theorem qg2 (T:aw P t e z 1 bytes) {ops:Array Oper} {rest:List Oper} {o:Oper} {A:Act} {Q:Exit->Act->World->Prop} (qR:o.guard=none) (s x:Operand)
  (ho:o.op = .call { callee:=.builtin .append,args:=#[s,x],argTypes:=#[t,t] })
  (a:OA) (n cap:Nat) (xs:LV) (hs:A.eval s = .slice a n cap) (aK:iY w e a cap xs) (hn:xs.length=n)
  (ao:OA) (m c:Nat) (news:LV) (hx:A.eval x = .slice ao m c) (pT:m<=c) (bU:ao=none->c=0) (hc:Cs w ao news) (hl:news.length=m) (h1:∀u∈news,u.oneCell'=true)
  (mr:(n+m)*bytes<=140737488355328) (pW:n+m<=maxLen)
  (h:∀a' aM w',Er w w' e a a' aM (xs++news)->wpList P ops Q rest (A.put o.dst (.slice a' (n+m) aM)) w'):wpList P ops Q (o::rest) A w:=
 wpList_plain qR λ_ hK=>by obtain⟨a',aM,w',hr,h2⟩:=qqv (P:=P) T o.type a n cap xs aK hn ao m c news pT bU hc hl h1 mr pW;unfold Oper.wp execOp;simp only[ho,resolve,invoke,builtin,Bz,Sem.run_pure,EP,List.map_toArray,jL,qg,hs,hx,hr];exact hK _ _ (h a' aM w' h2)
theorem IY {ops:Array Oper} {rest:List Oper} {o:Oper} {a:Act} {Q:Exit->Act->World->Prop} {src dst:TypeId} (hs:P.underlying src=some .string) (hd:P.underlying dst=some (.slice e)) (he:P.underlying e=some (.int .u8))
  (qR:o.guard=none) (x:Operand) (ho:o.op = .convert src dst x) (bs:LB) (hx:a.eval x = .string (str bs)) (hm:bs.length<=maxLen)
  (h:∀cap w',bs.length<=cap->iY w' e (some ⟨w.heap.size,0,none⟩) cap (bs.map bv)->Fr [] w w'->w.heap.size<w'.heap.size->wpList P ops Q rest (a.put o.dst (.slice (some ⟨w.heap.size,0,none⟩) bs.length cap)) w'):wpList P ops Q (o::rest) a w:=by
 have hr:=run_bytes_of_string (P:=P) w src dst e (str bs) hs hd he;have cZ:(str bs).size=bs.length:=by simp[str,ByteArray.size]
 rw[cZ]at hr;have h1:=grownCap_ge w bs.length 0 e;have h2:=grownCap_le_maxLen w bs.length 0 e hm;generalize grownCap w bs.length 0 e=cap at *;refine wpList_plain qR λK hK=>?_
 unfold Oper.wp execOp;simp only[ho,hx,Bz,EP,Sem.run_pure,hr];have hb:=aV w.drew (.cells (bytesRow (str bs) cap) e ((bytesRow (str bs) cap).size,(bytesRow (str bs) cap).size+1));have ec:(bytesRow (str bs) cap).toList.take bs.length=bs.map bv/\(bytesRow (str bs) cap).size=cap:=by
  constructor
  ·unfold bytesRow;rw[Array.toList_append,DF (by simp[str]),lL (by simp[str])];simp[str,bv]
  ·unfold bytesRow;simp;omega
 refine hK _ _ (h cap _ h1 (.inr ⟨w.heap.size,0,_,_,rfl,hb,.inr (ax _),by simpa using h1,h2,by rw[ec.2];omega,?_⟩) ((Fr.aB [] w).alloc _) (by rw[ik];exact Nat.lt_succ_self _));rw[nE,gx];exact ec.1
end
end lib

end Go.Proofs.YticadfhpolhkeaaGreatDoor