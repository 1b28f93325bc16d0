/-
  Texts of this proof, one behind the other: Lib, Append, Ops, Ops2, Args, Args2, Bytes, PackLaw, BitsMath, BitList, HuffLaw.
-/
import Derived.Test.YtkmpfgpfbmeihaaGreatDoorRows
import Derived.WalkKit
import Derived.ProofKit
import Derived.OpenShut
import Derived.BigQuiet
import Derived.Lib.Hide
import Derived.ShutString
import Derived.Maps.AppendAt
import Derived.Deep.RegionLaw
import Derived.SizedLaws
import Derived.Deep.CondSized
import Derived.JoinedCond
import Derived.ChangeOld
set_option maxHeartbeats 16000000
set_option maxRecDepth 100000
set_option linter.unusedVariables false
set_option linter.unusedSimpArgs false
namespace Go.Proofs.YtkmpfgpfbmeihaaGreatDoor
abbrev OA:=Option Addr
abbrev LB:=List UInt8
abbrev LN:=List Nat
abbrev AV:=Array Value
abbrev LV:=List Value
theorem ai {α : Sort _} (a : α) : ∃ x, x = a := ⟨a, rfl⟩
theorem ah {p : Prop} (h : p) : Go.RowKit.Hid p := h
theorem ak {p0 p1 : Prop} (h0 : p0) (h1 : p1) : Go.RowKit.Hid (p0 /\ p1) := (⟨h0, h1⟩ : p0 /\ p1)
theorem aw {p0 p1 p2 : Prop} (h0 : p0) (h1 : p1) (h2 : p2) : Go.RowKit.Hid (p0 /\ p1 /\ p2) := (⟨h0, h1, h2⟩ : p0 /\ p1 /\ p2)
theorem aG {p0 p1 p2 p3 : Prop} (h0 : p0) (h1 : p1) (h2 : p2) (h3 : p3) : Go.RowKit.Hid (p0 /\ p1 /\ p2 /\ p3) := (⟨h0, h1, h2, h3⟩ : p0 /\ p1 /\ p2 /\ p3)
theorem aQ {p0 p1 p2 p3 p4 : Prop} (h0 : p0) (h1 : p1) (h2 : p2) (h3 : p3) (h4 : p4) : Go.RowKit.Hid (p0 /\ p1 /\ p2 /\ p3 /\ p4) := (⟨h0, h1, h2, h3, h4⟩ : p0 /\ p1 /\ p2 /\ p3 /\ p4)
theorem cJ {p0 p1 p2 p3 p4 p5 : Prop} (h0 : p0) (h1 : p1) (h2 : p2) (h3 : p3) (h4 : p4) (h5 : p5) : Go.RowKit.Hid (p0 /\ p1 /\ p2 /\ p3 /\ p4 /\ p5) := (⟨h0, h1, h2, h3, h4, h5⟩ : p0 /\ p1 /\ p2 /\ p3 /\ p4 /\ p5)
theorem dk {p0 p1 p2 p3 p4 p5 p6 : Prop} (h0 : p0) (h1 : p1) (h2 : p2) (h3 : p3) (h4 : p4) (h5 : p5) (h6 : p6) : Go.RowKit.Hid (p0 /\ p1 /\ p2 /\ p3 /\ p4 /\ p5 /\ p6) := (⟨h0, h1, h2, h3, h4, h5, h6⟩ : p0 /\ p1 /\ p2 /\ p3 /\ p4 /\ p5 /\ p6)
theorem lv {p0 p1 p2 p3 p4 p5 p6 p7 : Prop} (h0 : p0) (h1 : p1) (h2 : p2) (h3 : p3) (h4 : p4) (h5 : p5) (h6 : p6) (h7 : p7) : Go.RowKit.Hid (p0 /\ p1 /\ p2 /\ p3 /\ p4 /\ p5 /\ p6 /\ p7) := (⟨h0, h1, h2, h3, h4, h5, h6, h7⟩ : p0 /\ p1 /\ p2 /\ p3 /\ p4 /\ p5 /\ p6 /\ p7)
theorem oU {p0 p1 p2 p3 p4 p5 p6 p7 p8 : Prop} (h0 : p0) (h1 : p1) (h2 : p2) (h3 : p3) (h4 : p4) (h5 : p5) (h6 : p6) (h7 : p7) (h8 : p8) : Go.RowKit.Hid (p0 /\ p1 /\ p2 /\ p3 /\ p4 /\ p5 /\ p6 /\ p7 /\ p8) := (⟨h0, h1, h2, h3, h4, h5, h6, h7, h8⟩ : p0 /\ p1 /\ p2 /\ p3 /\ p4 /\ p5 /\ p6 /\ p7 /\ p8)
theorem pY {p0 p1 p2 p3 p4 p5 p6 p7 p8 p9 : Prop} (h0 : p0) (h1 : p1) (h2 : p2) (h3 : p3) (h4 : p4) (h5 : p5) (h6 : p6) (h7 : p7) (h8 : p8) (h9 : p9) : Go.RowKit.Hid (p0 /\ p1 /\ p2 /\ p3 /\ p4 /\ p5 /\ p6 /\ p7 /\ p8 /\ p9) := (⟨h0, h1, h2, h3, h4, h5, h6, h7, h8, h9⟩ : p0 /\ p1 /\ p2 /\ p3 /\ p4 /\ p5 /\ p6 /\ p7 /\ p8 /\ p9)
theorem pX {p0 p1 p2 p3 p4 p5 p6 p7 p8 p9 gR : Prop} (h0 : p0) (h1 : p1) (h2 : p2) (h3 : p3) (h4 : p4) (h5 : p5) (h6 : p6) (h7 : p7) (h8 : p8) (h9 : p9) (zU : gR) : Go.RowKit.Hid (p0 /\ p1 /\ p2 /\ p3 /\ p4 /\ p5 /\ p6 /\ p7 /\ p8 /\ p9 /\ gR) := (⟨h0, h1, h2, h3, h4, h5, h6, h7, h8, h9, zU⟩ : p0 /\ p1 /\ p2 /\ p3 /\ p4 /\ p5 /\ p6 /\ p7 /\ p8 /\ p9 /\ gR)
theorem xT {p0 p1 p2 p3 p4 p5 p6 p7 p8 p9 gR jy : Prop} (h0 : p0) (h1 : p1) (h2 : p2) (h3 : p3) (h4 : p4) (h5 : p5) (h6 : p6) (h7 : p7) (h8 : p8) (h9 : p9) (zU : gR) (uD : jy) : Go.RowKit.Hid (p0 /\ p1 /\ p2 /\ p3 /\ p4 /\ p5 /\ p6 /\ p7 /\ p8 /\ p9 /\ gR /\ jy) := (⟨h0, h1, h2, h3, h4, h5, h6, h7, h8, h9, zU, uD⟩ : p0 /\ p1 /\ p2 /\ p3 /\ p4 /\ p5 /\ p6 /\ p7 /\ p8 /\ p9 /\ gR /\ jy)
theorem zaL {p0 p1 p2 p3 p4 p5 p6 p7 p8 p9 gR jy lC : Prop} (h0 : p0) (h1 : p1) (h2 : p2) (h3 : p3) (h4 : p4) (h5 : p5) (h6 : p6) (h7 : p7) (h8 : p8) (h9 : p9) (zU : gR) (uD : jy) (zT : lC) : Go.RowKit.Hid (p0 /\ p1 /\ p2 /\ p3 /\ p4 /\ p5 /\ p6 /\ p7 /\ p8 /\ p9 /\ gR /\ jy /\ lC) := (⟨h0, h1, h2, h3, h4, h5, h6, h7, h8, h9, zU, uD, zT⟩ : p0 /\ p1 /\ p2 /\ p3 /\ p4 /\ p5 /\ p6 /\ p7 /\ p8 /\ p9 /\ gR /\ jy /\ lC)
theorem zaK {p0 p1 p2 p3 p4 p5 p6 p7 p8 p9 gR jy lC oZ : Prop} (h0 : p0) (h1 : p1) (h2 : p2) (h3 : p3) (h4 : p4) (h5 : p5) (h6 : p6) (h7 : p7) (h8 : p8) (h9 : p9) (zU : gR) (uD : jy) (zT : lC) (Ct : oZ) : Go.RowKit.Hid (p0 /\ p1 /\ p2 /\ p3 /\ p4 /\ p5 /\ p6 /\ p7 /\ p8 /\ p9 /\ gR /\ jy /\ lC /\ oZ) := (⟨h0, h1, h2, h3, h4, h5, h6, h7, h8, h9, zU, uD, zT, Ct⟩ : p0 /\ p1 /\ p2 /\ p3 /\ p4 /\ p5 /\ p6 /\ p7 /\ p8 /\ p9 /\ gR /\ jy /\ lC /\ oZ)
theorem zaJ {p0 p1 p2 p3 p4 p5 p6 p7 p8 p9 gR jy lC oZ uR : Prop} (h0 : p0) (h1 : p1) (h2 : p2) (h3 : p3) (h4 : p4) (h5 : p5) (h6 : p6) (h7 : p7) (h8 : p8) (h9 : p9) (zU : gR) (uD : jy) (zT : lC) (Ct : oZ) (QI : uR) : Go.RowKit.Hid (p0 /\ p1 /\ p2 /\ p3 /\ p4 /\ p5 /\ p6 /\ p7 /\ p8 /\ p9 /\ gR /\ jy /\ lC /\ oZ /\ uR) := (⟨h0, h1, h2, h3, h4, h5, h6, h7, h8, h9, zU, uD, zT, Ct, QI⟩ : p0 /\ p1 /\ p2 /\ p3 /\ p4 /\ p5 /\ p6 /\ p7 /\ p8 /\ p9 /\ gR /\ jy /\ lC /\ oZ /\ uR)
theorem zaI {p0 p1 p2 p3 p4 p5 p6 p7 p8 p9 gR jy lC oZ uR Eg : Prop} (h0 : p0) (h1 : p1) (h2 : p2) (h3 : p3) (h4 : p4) (h5 : p5) (h6 : p6) (h7 : p7) (h8 : p8) (h9 : p9) (zU : gR) (uD : jy) (zT : lC) (Ct : oZ) (QI : uR) (pz : Eg) : Go.RowKit.Hid (p0 /\ p1 /\ p2 /\ p3 /\ p4 /\ p5 /\ p6 /\ p7 /\ p8 /\ p9 /\ gR /\ jy /\ lC /\ oZ /\ uR /\ Eg) := (⟨h0, h1, h2, h3, h4, h5, h6, h7, h8, h9, zU, uD, zT, Ct, QI, pz⟩ : p0 /\ p1 /\ p2 /\ p3 /\ p4 /\ p5 /\ p6 /\ p7 /\ p8 /\ p9 /\ gR /\ jy /\ lC /\ oZ /\ uR /\ Eg)
theorem _root_.Go.RowKit.Hid.o0 {p0 q : Prop} (h : Go.RowKit.Hid (p0 /\ q)) : p0 := h.out.1
theorem _root_.Go.RowKit.Hid.o1 {p0 p1 q : Prop} (h : Go.RowKit.Hid (p0 /\ p1 /\ q)) : p1 := h.out.2.1
theorem _root_.Go.RowKit.Hid.o2 {p0 p1 p2 q : Prop} (h : Go.RowKit.Hid (p0 /\ p1 /\ p2 /\ q)) : p2 := h.out.2.2.1
theorem _root_.Go.RowKit.Hid.o3 {p0 p1 p2 p3 q : Prop} (h : Go.RowKit.Hid (p0 /\ p1 /\ p2 /\ p3 /\ q)) : p3 := h.out.2.2.2.1
theorem _root_.Go.RowKit.Hid.o4 {p0 p1 p2 p3 p4 q : Prop} (h : Go.RowKit.Hid (p0 /\ p1 /\ p2 /\ p3 /\ p4 /\ q)) : p4 := h.out.2.2.2.2.1
theorem _root_.Go.RowKit.Hid.o5 {p0 p1 p2 p3 p4 p5 q : Prop} (h : Go.RowKit.Hid (p0 /\ p1 /\ p2 /\ p3 /\ p4 /\ p5 /\ q)) : p5 := h.out.2.2.2.2.2.1
theorem _root_.Go.RowKit.Hid.o6 {p0 p1 p2 p3 p4 p5 p6 q : Prop} (h : Go.RowKit.Hid (p0 /\ p1 /\ p2 /\ p3 /\ p4 /\ p5 /\ p6 /\ q)) : p6 := h.out.2.2.2.2.2.2.1
theorem _root_.Go.RowKit.Hid.o7 {p0 p1 p2 p3 p4 p5 p6 p7 q : Prop} (h : Go.RowKit.Hid (p0 /\ p1 /\ p2 /\ p3 /\ p4 /\ p5 /\ p6 /\ p7 /\ q)) : p7 := h.out.2.2.2.2.2.2.2.1
theorem _root_.Go.RowKit.Hid.o8 {p0 p1 p2 p3 p4 p5 p6 p7 p8 q : Prop} (h : Go.RowKit.Hid (p0 /\ p1 /\ p2 /\ p3 /\ p4 /\ p5 /\ p6 /\ p7 /\ p8 /\ q)) : p8 := h.out.2.2.2.2.2.2.2.2.1
theorem _root_.Go.RowKit.Hid.o9 {p0 p1 p2 p3 p4 p5 p6 p7 p8 p9 q : Prop} (h : Go.RowKit.Hid (p0 /\ p1 /\ p2 /\ p3 /\ p4 /\ p5 /\ p6 /\ p7 /\ p8 /\ p9 /\ q)) : p9 := h.out.2.2.2.2.2.2.2.2.2.1
theorem _root_.Go.RowKit.Hid.o10 {p0 p1 p2 p3 p4 p5 p6 p7 p8 p9 gR q : Prop} (h : Go.RowKit.Hid (p0 /\ p1 /\ p2 /\ p3 /\ p4 /\ p5 /\ p6 /\ p7 /\ p8 /\ p9 /\ gR /\ q)) : gR := h.out.2.2.2.2.2.2.2.2.2.2.1
theorem _root_.Go.RowKit.Hid.o11 {p0 p1 p2 p3 p4 p5 p6 p7 p8 p9 gR jy q : Prop} (h : Go.RowKit.Hid (p0 /\ p1 /\ p2 /\ p3 /\ p4 /\ p5 /\ p6 /\ p7 /\ p8 /\ p9 /\ gR /\ jy /\ q)) : jy := h.out.2.2.2.2.2.2.2.2.2.2.2.1
theorem _root_.Go.RowKit.Hid.N8 {p0 p1 p2 p3 p4 p5 p6 p7 p8 p9 gR jy lC q : Prop} (h : Go.RowKit.Hid (p0 /\ p1 /\ p2 /\ p3 /\ p4 /\ p5 /\ p6 /\ p7 /\ p8 /\ p9 /\ gR /\ jy /\ lC /\ q)) : lC := h.out.2.2.2.2.2.2.2.2.2.2.2.2.1
theorem _root_.Go.RowKit.Hid.o13 {p0 p1 p2 p3 p4 p5 p6 p7 p8 p9 gR jy lC oZ q : Prop} (h : Go.RowKit.Hid (p0 /\ p1 /\ p2 /\ p3 /\ p4 /\ p5 /\ p6 /\ p7 /\ p8 /\ p9 /\ gR /\ jy /\ lC /\ oZ /\ q)) : oZ := h.out.2.2.2.2.2.2.2.2.2.2.2.2.2.1
theorem _root_.Go.RowKit.Hid.o14 {p0 p1 p2 p3 p4 p5 p6 p7 p8 p9 gR jy lC oZ uR q : Prop} (h : Go.RowKit.Hid (p0 /\ p1 /\ p2 /\ p3 /\ p4 /\ p5 /\ p6 /\ p7 /\ p8 /\ p9 /\ gR /\ jy /\ lC /\ oZ /\ uR /\ q)) : uR := h.out.2.2.2.2.2.2.2.2.2.2.2.2.2.2.1
theorem _root_.Go.RowKit.Hid.N7 {p0 p1 p2 p3 p4 p5 p6 p7 p8 p9 gR jy lC oZ uR Eg q : Prop} (h : Go.RowKit.Hid (p0 /\ p1 /\ p2 /\ p3 /\ p4 /\ p5 /\ p6 /\ p7 /\ p8 /\ p9 /\ gR /\ jy /\ lC /\ oZ /\ uR /\ Eg /\ q)) : Eg := h.out.2.2.2.2.2.2.2.2.2.2.2.2.2.2.2.1
theorem _root_.Go.RowKit.Hid.l1 {p0 p1 : Prop} (h : Go.RowKit.Hid (p0 /\ p1)) : p1 := h.out.2
theorem _root_.Go.RowKit.Hid.l2 {p0 p1 p2 : Prop} (h : Go.RowKit.Hid (p0 /\ p1 /\ p2)) : p2 := h.out.2.2
theorem _root_.Go.RowKit.Hid.l3 {p0 p1 p2 p3 : Prop} (h : Go.RowKit.Hid (p0 /\ p1 /\ p2 /\ p3)) : p3 := h.out.2.2.2
theorem _root_.Go.RowKit.Hid.l4 {p0 p1 p2 p3 p4 : Prop} (h : Go.RowKit.Hid (p0 /\ p1 /\ p2 /\ p3 /\ p4)) : p4 := h.out.2.2.2.2
theorem _root_.Go.RowKit.Hid.l5 {p0 p1 p2 p3 p4 p5 : Prop} (h : Go.RowKit.Hid (p0 /\ p1 /\ p2 /\ p3 /\ p4 /\ p5)) : p5 := h.out.2.2.2.2.2
theorem _root_.Go.RowKit.Hid.l6 {p0 p1 p2 p3 p4 p5 p6 : Prop} (h : Go.RowKit.Hid (p0 /\ p1 /\ p2 /\ p3 /\ p4 /\ p5 /\ p6)) : p6 := h.out.2.2.2.2.2.2
theorem _root_.Go.RowKit.Hid.l7 {p0 p1 p2 p3 p4 p5 p6 p7 : Prop} (h : Go.RowKit.Hid (p0 /\ p1 /\ p2 /\ p3 /\ p4 /\ p5 /\ p6 /\ p7)) : p7 := h.out.2.2.2.2.2.2.2
theorem _root_.Go.RowKit.Hid.l8 {p0 p1 p2 p3 p4 p5 p6 p7 p8 : Prop} (h : Go.RowKit.Hid (p0 /\ p1 /\ p2 /\ p3 /\ p4 /\ p5 /\ p6 /\ p7 /\ p8)) : p8 := h.out.2.2.2.2.2.2.2.2
theorem _root_.Go.RowKit.Hid.l9 {p0 p1 p2 p3 p4 p5 p6 p7 p8 p9 : Prop} (h : Go.RowKit.Hid (p0 /\ p1 /\ p2 /\ p3 /\ p4 /\ p5 /\ p6 /\ p7 /\ p8 /\ p9)) : p9 := h.out.2.2.2.2.2.2.2.2.2
theorem _root_.Go.RowKit.Hid.l10 {p0 p1 p2 p3 p4 p5 p6 p7 p8 p9 gR : Prop} (h : Go.RowKit.Hid (p0 /\ p1 /\ p2 /\ p3 /\ p4 /\ p5 /\ p6 /\ p7 /\ p8 /\ p9 /\ gR)) : gR := h.out.2.2.2.2.2.2.2.2.2.2
theorem _root_.Go.RowKit.Hid.l11 {p0 p1 p2 p3 p4 p5 p6 p7 p8 p9 gR jy : Prop} (h : Go.RowKit.Hid (p0 /\ p1 /\ p2 /\ p3 /\ p4 /\ p5 /\ p6 /\ p7 /\ p8 /\ p9 /\ gR /\ jy)) : jy := h.out.2.2.2.2.2.2.2.2.2.2.2
theorem _root_.Go.RowKit.Hid.l12 {p0 p1 p2 p3 p4 p5 p6 p7 p8 p9 gR jy lC : Prop} (h : Go.RowKit.Hid (p0 /\ p1 /\ p2 /\ p3 /\ p4 /\ p5 /\ p6 /\ p7 /\ p8 /\ p9 /\ gR /\ jy /\ lC)) : lC := h.out.2.2.2.2.2.2.2.2.2.2.2.2
theorem _root_.Go.RowKit.Hid.l13 {p0 p1 p2 p3 p4 p5 p6 p7 p8 p9 gR jy lC oZ : Prop} (h : Go.RowKit.Hid (p0 /\ p1 /\ p2 /\ p3 /\ p4 /\ p5 /\ p6 /\ p7 /\ p8 /\ p9 /\ gR /\ jy /\ lC /\ oZ)) : oZ := h.out.2.2.2.2.2.2.2.2.2.2.2.2.2
theorem _root_.Go.RowKit.Hid.l14 {p0 p1 p2 p3 p4 p5 p6 p7 p8 p9 gR jy lC oZ uR : Prop} (h : Go.RowKit.Hid (p0 /\ p1 /\ p2 /\ p3 /\ p4 /\ p5 /\ p6 /\ p7 /\ p8 /\ p9 /\ gR /\ jy /\ lC /\ oZ /\ uR)) : uR := h.out.2.2.2.2.2.2.2.2.2.2.2.2.2.2
theorem _root_.Go.RowKit.Hid.l15 {p0 p1 p2 p3 p4 p5 p6 p7 p8 p9 gR jy lC oZ uR Eg : Prop} (h : Go.RowKit.Hid (p0 /\ p1 /\ p2 /\ p3 /\ p4 /\ p5 /\ p6 /\ p7 /\ p8 /\ p9 /\ gR /\ jy /\ lC /\ oZ /\ uR /\ Eg)) : Eg := h.out.2.2.2.2.2.2.2.2.2.2.2.2.2.2.2
theorem aX:type_of% @Array.getElem?_setIfInBounds_ne:=@Array.getElem?_setIfInBounds_ne
theorem aA:type_of% @List.length_append:=@List.length_append
theorem aT:type_of% @List.getElem?_cons_zero:=@List.getElem?_cons_zero
theorem wO:type_of% @List.drop_succ_cons:=@List.drop_succ_cons
theorem br:type_of% @List.getElem?_eq_getElem:=@List.getElem?_eq_getElem
theorem qs:type_of% @List.take_succ_cons:=@List.take_succ_cons
theorem ay:type_of% @Nat.le_refl:=@Nat.le_refl
theorem bP:type_of% @List.getElem?_cons_succ:=@List.getElem?_cons_succ
theorem bF:type_of% @List.getElem?_toArray:=@List.getElem?_toArray
theorem yf:type_of% @List.drop_zero:=@List.drop_zero
theorem gX:type_of% @List.map_cons:=@List.map_cons
theorem qq:type_of% @List.map_nil:=@List.map_nil
theorem Dk:type_of% @List.take_zero:=@List.take_zero
theorem iG:type_of% @Array.getElem?_setIfInBounds_self_of_lt:=@Array.getElem?_setIfInBounds_self_of_lt
theorem bU:type_of% @List.length_cons:=@List.length_cons
theorem bW:type_of% @List.length_map:=@List.length_map
theorem dU:type_of% @List.length_take:=@List.length_take
theorem eE:type_of% @List.append_assoc:=@List.append_assoc
theorem ck:type_of% @Nat.le_trans:=@Nat.le_trans
theorem eW:type_of% @Nat.lt_of_lt_of_le:=@Nat.lt_of_lt_of_le
theorem eJ:type_of% @Option.some.injEq:=@Option.some.injEq
theorem jq:type_of% @List.getElem?_eq_some_iff:=@List.getElem?_eq_some_iff
theorem gB:type_of% @List.mem_of_getElem?:=@List.mem_of_getElem?
theorem eV:type_of% @List.length_drop:=@List.length_drop
theorem Bq:type_of% @List.getD_cons_zero:=@List.getD_cons_zero
theorem Bp:type_of% @List.getD_cons_succ:=@List.getD_cons_succ
theorem fD:type_of% @Go.World.size_alloc:=@Go.World.size_alloc
theorem iH:type_of% @List.mem_singleton:=@List.mem_singleton
theorem nR:type_of% @List.setIfInBounds_toArray:=@List.setIfInBounds_toArray
theorem kh:type_of% @Nat.pow_le_pow_right:=@Nat.pow_le_pow_right
theorem fj:type_of% @Prod.mk.injEq:=@Prod.mk.injEq
theorem gF:type_of% @List.map_append:=@List.map_append
theorem iM:type_of% @List.getElem?_map:=@List.getElem?_map
theorem ep:type_of% @Nat.zero_le:=@Nat.zero_le
theorem gW:type_of% @Except.ok.injEq:=@Except.ok.injEq
theorem fP:type_of% @List.mem_cons:=@List.mem_cons
theorem mL:type_of% @List.take_of_length_le:=@List.take_of_length_le
theorem ft:type_of% @Nat.zero_add:=@Nat.zero_add
theorem jw:type_of% @List.mem_append:=@List.mem_append
theorem iL:type_of% @UInt8.toNat_lt:=@UInt8.toNat_lt
theorem nU:type_of% @List.getElem?_eq_none:=@List.getElem?_eq_none
theorem kg:type_of% @List.length_nil:=@List.length_nil
theorem Tc:type_of% @List.drop_nil:=@List.drop_nil
theorem rA:type_of% @Array.size_setIfInBounds:=@Array.size_setIfInBounds
theorem rO:type_of% @List.getElem?_append_left:=@List.getElem?_append_left
theorem oY:type_of% @Array.getElem?_toList:=@Array.getElem?_toList
theorem ie:type_of% @Nat.add_zero:=@Nat.add_zero
theorem nP:type_of% @List.set_cons_zero:=@List.set_cons_zero
theorem lQ:type_of% @Bool.and_eq_true:=@Bool.and_eq_true
theorem tr:type_of% @Array.getElem?_eq_getElem:=@Array.getElem?_eq_getElem
theorem mV:type_of% @Go.Value.slice.injEq:=@Go.Value.slice.injEq
theorem lA:type_of% @Option.some.inj:=@Option.some.inj
theorem oD:type_of% @List.set_cons_succ:=@List.set_cons_succ
theorem jo:type_of% @List.mem_map:=@List.mem_map
theorem oX:type_of% @List.getElem?_take:=@List.getElem?_take
theorem wN:type_of% @List.eq_nil_of_length_eq_zero:=@List.eq_nil_of_length_eq_zero
theorem mW:type_of% @List.append_nil:=@List.append_nil
theorem nQ:type_of% @Nat.two_pow_pos:=@Nat.two_pow_pos
theorem oE:type_of% @Go.IntKind.wrap_i64:=@Go.IntKind.wrap_i64
theorem kI:type_of% @Nat.lt_or_ge:=@Nat.lt_or_ge
theorem tu:type_of% @List.mem_cons_of_mem:=@List.mem_cons_of_mem
theorem ye:type_of% @List.getElem?_append_right:=@List.getElem?_append_right
theorem mf:type_of% @Nat.mul_comm:=@Nat.mul_comm
theorem um:type_of% @List.length_reverse:=@List.length_reverse
theorem uN:type_of% @Nat.mul_le_mul_right:=@Nat.mul_le_mul_right
theorem tq:type_of% @List.pairwise_cons:=@List.pairwise_cons
theorem uM:type_of% @List.mem_of_mem_take:=@List.mem_of_mem_take
theorem qj:type_of% @List.nil_append:=@List.nil_append
theorem uL:type_of% @List.mem_map_of_mem:=@List.mem_map_of_mem
theorem uK:type_of% @Go.Calls.quiet_of_same:=@Go.Calls.quiet_of_same
theorem oW:type_of% @Nat.add_assoc:=@Nat.add_assoc
theorem uJ:type_of% @List.mem_cons_self:=@List.mem_cons_self
theorem tk:type_of% @List.getElem_mem:=@List.getElem_mem
theorem Al:type_of% @List.drop_eq_getElem_cons:=@List.drop_eq_getElem_cons
theorem mU:type_of% @Nat.pow_add:=@Nat.pow_add
theorem yd:type_of% @List.length_singleton:=@List.length_singleton
theorem Ef:type_of% @List.take_succ_eq_append_getElem:=@List.take_succ_eq_append_getElem
theorem yb:type_of% @Go.World.ownsRow.cellAt:=@Go.World.ownsRow.cellAt
theorem pH:type_of% @Nat.pow_succ:=@Nat.pow_succ
theorem vX:type_of% @List.flatMap_cons:=@List.flatMap_cons
theorem ru:type_of% @Go.Addr.mk.injEq:=@Go.Addr.mk.injEq
theorem td:type_of% @List.mem_range:=@List.mem_range
theorem oV:type_of% @Nat.add_mul:=@Nat.add_mul
theorem uP:type_of% @Nat.min_eq_left:=@Nat.min_eq_left
theorem Am:type_of% @List.length_replicate:=@List.length_replicate
theorem wM:type_of% @Go.World.ownsRow_nil:=@Go.World.ownsRow_nil
theorem pI:type_of% @Nat.mul_one:=@Nat.mul_one
theorem wL:type_of% @List.not_mem_nil:=@List.not_mem_nil
theorem zk:type_of% @UInt8.toNat_ofNat':=@UInt8.toNat_ofNat'
theorem uk:type_of% @Nat.mul_assoc:=@Nat.mul_assoc
theorem x9:type_of% @Nat.mod_eq_of_lt:=@Nat.mod_eq_of_lt
theorem zj:type_of% @List.take_add_one:=@List.take_add_one
theorem Ec:type_of% @List.pairwise_iff_getElem:=@List.pairwise_iff_getElem
theorem Dh:type_of% @List.drop_eq_nil_of_le:=@List.drop_eq_nil_of_le
theorem Ai:type_of% @List.getElem?_drop:=@List.getElem?_drop
theorem Dg:type_of% @Nat.div_lt_iff_lt_mul:=@Nat.div_lt_iff_lt_mul
theorem Df:type_of% @List.take_append_drop:=@List.take_append_drop
theorem Bm:type_of% @List.flatMap_append:=@List.flatMap_append
theorem zi:type_of% @List.cons_append:=@List.cons_append
theorem kC:type_of% @Ne.symm:=@Ne.symm
theorem De:type_of% @Go.Region.noSelect_spec:=@Go.Region.noSelect_spec
theorem IG:type_of% @List.take_append_of_le_length:=@List.take_append_of_le_length
theorem Ee:type_of% @List.mem_iff_getElem?:=@List.mem_iff_getElem?
theorem vW:type_of% @List.map_map:=@List.map_map
theorem Aj:type_of% @Option.map_some:=@Option.map_some
theorem Dj:type_of% @Nat.lt_of_le_of_lt:=@Nat.lt_of_le_of_lt
theorem Ga:type_of% @Int.eq_ofNat_of_zero_le:=@Int.eq_ofNat_of_zero_le
theorem Di:type_of% @Bool.false_eq_true:=@Bool.false_eq_true
theorem Ea:type_of% @List.pairwise_append:=@List.pairwise_append
theorem Bi:type_of% @Option.getD_some:=@Option.getD_some
theorem IC:type_of% @Array.getElem?_eq_some_iff:=@Array.getElem?_eq_some_iff
theorem D9:type_of% @List.map_congr_left:=@List.map_congr_left
theorem Da:type_of% @List.length_range:=@List.length_range
theorem C9:type_of% @Int.toNat_natCast:=@Int.toNat_natCast
theorem FY:type_of% @List.length_filter_le:=@List.length_filter_le
theorem Bh:type_of% @Int.natCast_pow:=@Int.natCast_pow
theorem D8:type_of% @List.filter_append:=@List.filter_append
theorem F9:type_of% @List.mem_append_left:=@List.mem_append_left
theorem C7:type_of% @Go.Region.free_spec:=@Go.Region.free_spec
theorem D6:type_of% @List.pairwise_map:=@List.pairwise_map
theorem D4:type_of% @List.ext_getElem?:=@List.ext_getElem?
theorem FO:type_of% @Int.toNat_of_nonneg:=@Int.toNat_of_nonneg
theorem C6:type_of% @Int.natCast_mul:=@Int.natCast_mul
theorem Ls:type_of% @Nat.mod_two_eq_zero_or_one:=@Nat.mod_two_eq_zero_or_one
theorem wH:type_of% @Nat.mod_lt:=@Nat.mod_lt
theorem DY:type_of% @Nat.div_eq_of_lt:=@Nat.div_eq_of_lt
theorem Be:type_of% @List.sum_cons:=@List.sum_cons
theorem C5:type_of% @List.drop_drop:=@List.drop_drop
theorem Ix:type_of% @List.replicate_succ':=@List.replicate_succ'
theorem DW:type_of% @List.foldl_cons:=@List.foldl_cons
theorem FF:type_of% @List.count_append:=@List.count_append
theorem FE:type_of% @List.cons_eq_cons:=@List.cons_eq_cons
theorem FD:type_of% @Int.emod_add_emod:=@Int.emod_add_emod
theorem FC:type_of% @Int.add_emod_emod:=@Int.add_emod_emod
theorem NJ:type_of% @Nat.and_two_pow_sub_one_eq_mod:=@Nat.and_two_pow_sub_one_eq_mod
theorem Iv:type_of% @List.getElem?_range:=@List.getElem?_range
theorem NI:type_of% @List.drop_append_of_le_length:=@List.drop_append_of_le_length
theorem Lm:type_of% @Nat.div_div_eq_div_mul:=@Nat.div_div_eq_div_mul
theorem Ir:type_of% @Nat.add_sub_cancel:=@Nat.add_sub_cancel
theorem Lp:type_of% @Go.World.block_lt_of_cell?:=@Go.World.block_lt_of_cell?
theorem Ba:type_of% @Nat.mul_add:=@Nat.mul_add
theorem Lo:type_of% @List.mem_append_right:=@List.mem_append_right
theorem Ie:type_of% @List.take_length:=@List.take_length
theorem Ic:type_of% @List.all_eq_true:=@List.all_eq_true
theorem Ib:type_of% @Int.natCast_ediv:=@Int.natCast_ediv
theorem Ia:type_of% @Go.Result.andThen_ok:=@Go.Result.andThen_ok
theorem Ld:type_of% @List.length_pos_iff:=@List.length_pos_iff
theorem Lc:type_of% @Array.length_toList:=@Array.length_toList
theorem DT:type_of% @Nat.sub_zero:=@Nat.sub_zero
theorem DS:type_of% @Nat.sub_self:=@Nat.sub_self
theorem KY:type_of% @List.mem_replicate:=@List.mem_replicate
theorem Hz:type_of% @List.mem_filter:=@List.mem_filter
theorem Fw:type_of% @List.map_take:=@List.map_take
theorem Nn:type_of% @List.getElem?_replicate:=@List.getElem?_replicate
theorem KZ:type_of% @List.find?_eq_none:=@List.find?_eq_none
theorem DR:type_of% @Go.Sem.run_bind:=@Go.Sem.run_bind
theorem DQ:type_of% @Nat.one_mul:=@Nat.one_mul
theorem Hx:type_of% @List.take_take:=@List.take_take
theorem KV:type_of% @List.filter_cons:=@List.filter_cons
theorem MZ:type_of% @Nat.add_mul_div_left:=@Nat.add_mul_div_left
theorem MY:type_of% @List.count_le_length:=@List.count_le_length
theorem Hu:type_of% @List.map_drop:=@List.map_drop
theorem KS:type_of% @UInt8.toNat_inj:=@UInt8.toNat_inj
theorem KP:type_of% @Nat.one_ne_zero:=@Nat.one_ne_zero
theorem KO:type_of% @Nat.div_add_mod:=@Nat.div_add_mod
theorem KN:type_of% @List.length_set:=@List.length_set
theorem KM:type_of% @List.find?_cons:=@List.find?_cons
theorem KL:type_of% @List.cons.injEq:=@List.cons.injEq
theorem MX:type_of% @Array.getElem?_push:=@Array.getElem?_push
theorem Hg:type_of% @Nat.add_comm:=@Nat.add_comm
theorem KF:type_of% @Nat.mul_le_mul:=@Nat.mul_le_mul
theorem KE:type_of% @List.drop_left:=@List.drop_left
theorem KD:type_of% @Bool.false_and:=@Bool.false_and
theorem bD:(type_of% @qs.{0})/\(type_of% @Dk.{0})/\(type_of% @wO.{0})/\(type_of% @yf.{0})/\(type_of% @gX.{0,0})/\(type_of% @qq.{0,0}):=⟨@qs.{0},@Dk.{0},@wO.{0},@yf.{0},@gX.{0,0},@qq.{0,0}⟩
theorem jm:(type_of% @gX.{0,0})/\(type_of% @qq.{0,0})/\(type_of% @Bq.{0})/\(type_of% @Bp.{0})/\(type_of% @wO.{0})/\(type_of% @yf.{0})/\(type_of% @Tc.{0}):=⟨@gX.{0,0},@qq.{0,0},@Bq.{0},@Bp.{0},@wO.{0},@yf.{0},@Tc.{0}⟩
theorem uF:(type_of% @qs.{0})/\(type_of% @Dk.{0})/\(type_of% @wO.{0})/\(type_of% @yf.{0}):=⟨@qs.{0},@Dk.{0},@wO.{0},@yf.{0}⟩
namespace lib
open Go Go.RowKit
structure Fr (S:LN) (w w':World):Prop where
 os:w'.os=w.os
 tape:w'.tape=w.tape
 output:w'.output=w.output
 size:w.heap.size<=w'.heap.size
 block:∀k,k<w.heap.size->k∉S->w'.heap[k]?=w.heap[k]?
theorem Fr.refl (S:LN) (w:World):Fr S w w:=⟨rfl,rfl,rfl,ay _,λ_ _ _=>rfl⟩
theorem Fr.drewN (S:LN) (w:World) (n:Nat):Fr S w (w.drewN n):=⟨rfl,rfl,rfl,ay _,λ_ _ _=>rfl⟩
theorem Fr.av (S:LN) (w:World):Fr S w w.drew:=⟨rfl,rfl,rfl,ay _,λ_ _ _=>rfl⟩
theorem Fr.step {S T:LN} {a b c:World} (h:Fr S a b) (k:Fr T b c) (hT:∀x∈T,x∈S\/a.heap.size<=x):Fr S a c:=
 ⟨k.os.trans h.os,k.tape.trans h.tape,k.output.trans h.output,ck h.size k.size,λi hi hn=>by
  rw[k.block i (eW hi h.size) (λhx=>by rcases hT i hx with h1|h1;exact hn h1;omega),h.block i hi hn]⟩
theorem Fr.trans {S:LN} {a b c:World} (h:Fr S a b) (k:Fr S b c):Fr S a c:=h.step k λ_ hx=>.inl hx
theorem Fr.mono {S T:LN} {w w':World} (h:Fr S w w') (hT:∀x∈S,x∈T\/w.heap.size<=x):Fr T w w':=
 (Fr.refl T w).step h hT
theorem Fr.alloc {S:LN} {a w:World} (h:Fr S a w) (o:Obj):Fr S a (w.alloc o):=
 h.step (T:=[]) ⟨rfl,rfl,rfl,by simp,λk hk _=>Below.heap_alloc _ _ _ (by omega)⟩ (by simp)
theorem Fr.drew {S:LN} {a w:World} (h:Fr S a w):Fr S a w.drew:=h.step (Fr.av [] w) (by simp)
theorem Fr.jg {S:LN} {a w:World} (h:Fr S a w) (n:Nat):Fr S a (w.drewN n):=h.step (Fr.drewN [] w n) (by simp)
theorem Fr.setCell {S:LN} {a w:World} (h:Fr S a w) {p:Addr} (hp:p.block∈S\/a.heap.size<=p.block) (u:Value):Fr S a (w.setCell p u):=
 h.step (T:=[p.block]) ⟨rfl,rfl,rfl,by simp[World.setCell],λk hk hn=>Below.heap_setCell _ _ _ _ (by simpa using hn)⟩ (by simpa using hp)
theorem Fr.grown {S:LN} {a w w':World} {row:Option Nat} (h:Fr S a w) (hg:w.grownBy w' row) (hr:∀k,row=some k->k∈S\/a.heap.size<=k):Fr S a w':=
 h.step (T:=row.toList) ⟨hg.os,hg.tape,hg.output,hg.size,λk hk hn=>hg.block k hk (λe=>hn (by simp[<-e]))⟩ (λx hx=>hr x (by simpa using hx))
theorem Fr.below {S:LN} {w w':World} {B:Nat} (h:Fr S w w') (hS:∀x∈S,B<=x) (hB:B<=w.heap.size):Below B w w':=
 ⟨h.os,h.tape,h.output,h.size,λk hk=>h.block k (by omega) (λhx=>by have:=hS k hx;omega)⟩
theorem qoc {w w':World} (h:Fr [] w w'):Below w.heap.size w w':=h.below (by simp) (ay _)
theorem Fr.af {S:LN} {w w':World} (h:Fr S w w') {k:Nat} {o:Obj} (hk:w.heap[k]?=some o) (hn:k∉S):w'.heap[k]?=some o:=by rw[h.block k (lt_of_block hk) hn,hk]
theorem Fr.cell {S:LN} {w w':World} (h:Fr S w w') {a:Addr} {v:Value} (hc:w.cell? a=some v) (hn:a.block∉S):w'.cell? a=some v:=by rw[World.cell?_of_block (w:=w) (h.block a.block (Lp w a hc) hn),hc]
theorem cell_of {w:World} {b:Nat} {c:AV} {t:TypeId} {f:Nat×Nat} (h:w.heap[b]?=some (.cells c t f)) (o:Nat):w.cell? ⟨b,o,none⟩=c[o]?:=by simp[World.cell?,h]
theorem aW {w:World} {b:Nat} {c:AV} {t:TypeId} (h:w.heap[b]?=some (.cells c t (0,0))) (o:Nat):w.frozen? ⟨b,o,none⟩=false:=by simp[World.frozen?,h]
theorem bI {w:World} {b o:Nat} {c:AV} {t:TypeId} {f:Nat×Nat} (h:w.heap[b]?=some (.cells c t f)) (v:Value) :
  (w.setCell ⟨b,o,none⟩ v).heap[b]?=some (.cells (c.setIfInBounds o v) t f):=by
 have bg:=lt_of_block h;have h':w.heap[b] = .cells c t f:=by simpa[tr bg] using h
 show (w.heap.modify b _)[b]?=_;rw[tr (by simpa using bg),Array.getElem_modify_self,h'];rfl
theorem S5 {w:World} {b b' o:Nat} (cQ:b'≠b) (v:Value):(w.setCell ⟨b,o,none⟩ v).heap[b']?=w.heap[b']?:=
 Below.heap_setCell w ⟨b,o,none⟩ v b' cQ
theorem bC (w:World) (o:Obj):(w.alloc o).heap[w.heap.size]?=some o:=heap_alloc_new w o
theorem qm {w:World} {b:Nat} {x:Obj} (o:Obj) (h:w.heap[b]?=some x):(w.alloc o).heap[b]?=some x:=by rw[Below.heap_alloc w o b (lt_of_block h),h]
def af:Option Addr->List Nat
 | some a=>[a.block]
 | none=>[]
def Cs (w:World) (ao:OA) (vs:LV):Prop:=
 vs=[]\/∃g o,ao=some ⟨g,o,none⟩/\∀j v,vs[j]?=some v->w.cell? ⟨g,o+j,none⟩=some v
theorem Cs.nil (w:World) (ao:OA):Cs w ao []:=.inl rfl
theorem Cs.at {w:World} {ao:OA} {vs:LV} (h:Cs w ao vs) (cQ:0<vs.length):∃g o,ao=some ⟨g,o,none⟩/\∀j v,vs[j]?=some v->w.cell? ⟨g,o+j,none⟩=some v:=by
 rcases h with rfl|h
 ·simp at cQ
 ·exact h
theorem Cs.keep {w w':World} {ao:OA} {vs:LV} (h:Cs w ao vs) (hk:∀a,ao=some a->w'.heap[a.block]?=w.heap[a.block]?):Cs w' ao vs:=by
 rcases h with h|⟨g,o,rfl,h⟩
 ·exact .inl h
 ·refine .inr ⟨g,o,rfl,λj v hv=>?_⟩;rw[World.cell?_of_block (w:=w) (a:=⟨g,o+j,none⟩) (hk ⟨g,o,none⟩ rfl),h j v hv]
theorem Cs.lt {w:World} {ao:OA} {vs:LV} (h:Cs w ao vs) (cQ:vs≠[]):∀a,ao=some a->a.block<w.heap.size:=by
 rcases h with h|⟨g,o,rfl,h⟩
 ·exact absurd h cQ
 ·intro a ha;obtain rfl:=lA ha;cases vs with
  | nil=>exact absurd rfl cQ
  | cons v vs=>exact Lp w _ (h 0 v rfl)
theorem Cs.fr {S:LN} {w w':World} {ao:OA} {vs:LV} (h:Cs w ao vs) (hf:Fr S w w') (hn:∀x∈af ao,x∉S):Cs w' ao vs:=by
 by_cases cQ:vs=[]
 ·exact .inl cQ
 ·exact h.keep λa ha=>hf.block a.block (h.lt cQ a ha) (hn _ (by simp[ha,af]))
theorem Cs.below {B:Nat} {w w':World} {ao:OA} {vs:LV} (h:Cs w ao vs) (hf:Below B w w') (hn:∀x∈af ao,x<B):Cs w' ao vs:=by refine h.keep λa ha=>hf.block a.block (hn _ (by simp[ha,af]))
theorem Cs.CL {w w':World} {ao:OA} {vs:LV} (h:Cs w ao vs) (hf:Below w.heap.size w w'):Cs w' ao vs:=by
 by_cases cQ:vs=[]
 ·exact .inl cQ
 ·exact h.keep λa ha=>hf.block a.block (h.lt cQ a ha)
theorem C8 {w:World} {base:Nat} {e:TypeId} {n:Nat} {xs:LV} {ao:OA} {len cap:Nat} (h:w.ownsRow base e 1 (.slice ao len cap) n xs):Cs w ao xs:=by
 rcases h.2 with⟨h1,h2⟩|⟨g,aS,cur,h1,hb,hg,hn,hm,hs,ht⟩
 ·left;have:=h.1;rw[h2]at this;exact wN (by simpa using this)
 ·simp only[mV]at h1;obtain⟨rfl,rfl,rfl⟩:=h1;refine .inr ⟨g,0,rfl,λj v hv=>?_⟩;rw[cell_of hg,ft];rw[<-ht,oX]at hv;split at hv
  ·simpa using hv
  ·cases hv
theorem qoy {w:World} {base:Nat} {e:TypeId} {size:Nat} {v:Value} {n:Nat} {xs:LV} (h:w.ownsRow base e size v n xs) :
  ∃ao cap,v = .slice ao n cap/\n<=cap/\cap<=maxLen:=by
 rcases h.2 with⟨rfl,rfl⟩|⟨g,cap,cur,rfl,hb,hg,hn,hm,hs,ht⟩
 ·exact⟨none,0,rfl,ay _,ep _⟩
 ·exact⟨_,cap,rfl,hn,hm⟩
theorem Iw {w:World} {base:Nat} {e:TypeId} {size:Nat} {v:Value} {n:Nat} {xs:LV} (h:w.ownsRow base e size v n xs) :
  ∃ao cap,v = .slice ao n cap/\n<=cap/\cap<=maxLen/\(ao=none->cap=0):=by
 rcases h.2 with⟨rfl,rfl⟩|⟨g,cap,cur,rfl,hb,hg,hn,hm,hs,ht⟩
 ·exact⟨none,0,rfl,ay _,ep _,λ_=>rfl⟩
 ·exact⟨_,cap,rfl,hn,hm,λh=>by cases h⟩
theorem dr {S:LN} {w w':World} {base:Nat} {e:TypeId} {size:Nat} {v:Value} {n:Nat} {xs:LV} (h:w.ownsRow base e size v n xs) (hf:Fr S w w') (hn:∀k,v.ownBlock=some k->k∉S):w'.ownsRow base e size v n xs:=by
 obtain⟨h1,h2⟩:=h;refine⟨h1,?_⟩;rcases h2 with h2|⟨g,cap,cur,rfl,hb,hg,r⟩
 ·exact .inl h2
 ·exact .inr ⟨g,cap,cur,rfl,hb,hf.af hg (hn g rfl),r⟩
def bv (b:UInt8):Value:=.int .u8 b.toNat
theorem ze1 {u v:Value} (h:u=v):Ending.returned u=Ending.returned v:=by rw[h]
theorem int_eq {k:IntKind} {a b:Int} (h:a=b):Value.int k a=Value.int k b:=by rw[h]
theorem zhf {a b:Bool} (h:a=b):Value.bool a=Value.bool b:=by rw[h]
theorem dD (ao:OA) (n cap:Nat):(Value.slice ao n cap).ownBlock.toList=af ao:=by cases ao<;>rfl
theorem qi {ao:OA} {n cap:Nat} {x:Nat} (h:x∈af ao):(Value.slice ao n cap).ownBlock=some x:=by
 cases ao with
 | none=>simp[af]at h
 | some a=>simp[af]at h;simp[Value.ownBlock,h]
theorem rr {w:World} {base:Nat} {e:TypeId} {size:Nat} {v:Value} {n:Nat} {xs:LV} (h:w.ownsRow base e size v n xs) {k:Nat} (hk:v.ownBlock=some k):k<w.heap.size:=(h.lt k hk).2
def jK (w:World) (B:Nat) (e:TypeId) (ao:OA) (xs:LV):Prop:=
 xs=[]\/∃g cur,ao=some ⟨g,0,none⟩/\B<=g/\w.heap[g]?=some (.cells cur e (0,0))/\cur.toList.take xs.length=xs
theorem jK.cs {w:World} {B:Nat} {e:TypeId} {ao:OA} {xs:LV} (h:jK w B e ao xs):Cs w ao xs:=by
 rcases h with h|⟨g,cur,rfl,hB,hg,ht⟩
 ·exact .inl h
 ·refine .inr ⟨g,0,rfl,λj v hv=>?_⟩;rw[ft,cell_of hg];rw[<-ht,oX]at hv;split at hv
  ·simpa using hv
  ·cases hv
theorem jK.mono {w:World} {B B':Nat} {e:TypeId} {ao:OA} {xs:LV} (h:jK w B e ao xs) (hB:B'<=B):jK w B' e ao xs:=by
 rcases h with h|⟨g,cur,rfl,hg,r⟩
 ·exact .inl h
 ·exact .inr ⟨g,cur,rfl,ck hB hg,r⟩
theorem jK.fr {S:LN} {w w':World} {B:Nat} {e:TypeId} {ao:OA} {xs:LV} (h:jK w B e ao xs) (hf:Fr S w w') (hn:∀a,ao=some a->a.block∉S):jK w' B e ao xs:=by
 rcases h with h|⟨g,cur,rfl,hB,hg,ht⟩
 ·exact .inl h
 ·exact .inr ⟨g,cur,rfl,hB,hf.af hg (hn _ rfl),ht⟩
theorem qqh {w:World} {base B:Nat} {e:TypeId} {n len cap:Nat} {xs:LV} {ao:OA} (h:w.ownsRow base e 1 (.slice ao len cap) n xs) (hB:∀k,(Value.slice ao len cap).ownBlock=some k->B<=k):jK w B e ao xs:=by
 obtain⟨h1,h2⟩:=h;rcases h2 with⟨h2,rfl⟩|⟨g,aS,cur,h2,hb,hg,hn,hm,hs,ht⟩
 ·exact .inl (wN (by simpa using h1))
 ·simp only[mV]at h2;obtain⟨rfl,rfl,rfl⟩:=h2;exact .inr ⟨g,cur,rfl,hB g rfl,hg,by rw[h1];exact ht⟩
theorem Xx {w:World} {e:TypeId} {n cap:Nat} {xs:LV} {ao:OA} {B:Nat} (h:w.ownsRow 0 e 1 (.slice ao n cap) n xs) (hB:∀x∈af ao,B<=x):jK w B e ao xs:=
 qqh h λk hk=>hB k (by rw[<-dD ao n cap,hk];simp)
def cutAt (ao:OA) (cap lo:Nat):Option Addr:=if cap=lo then ao else ao.map (·.add lo)
theorem qw9 {ao:OA} {cap lo:Nat} (h:cutAt ao cap lo=none):ao=none:=by
 unfold cutAt at h;split at h
 ·exact h
 ·simpa using h
theorem Cs.cut {w:World} {ao:OA} {vs:LV} (h:Cs w ao vs) (cap lo hi:Nat) (hl:lo<=hi) (hh:hi<=vs.length) (hc:vs.length<=cap):Cs w (cutAt ao cap lo) ((vs.drop lo).take (hi-lo)):=by
 by_cases he:cap=lo
 ·left;have:hi-lo=0:=by omega
  rw[this];rfl
 ·rcases h with rfl|⟨g,o,rfl,h⟩
  ·left;simp
  ·right;refine⟨g,o+lo,?_,λj v hv=>?_⟩
   ·unfold cutAt;rw[if_neg he];simp only[Aj,Addr.add];split<;>simp_all
   ·rw[oX]at hv;split at hv
    ·rw[oW];exact h _ _ (by simpa using hv)
    ·cases hv
structure az (P:Program) (t e:TypeId) (z:Value) (size bytes:Nat):Prop where
 under:P.underlying t=some (.slice e)
 info:∃i,P.info? e=some i/\i.zero=some z/\i.size=size/\i.bytes=bytes
 cells:z.cells.size=size
 pos:0<size
theorem az.of {P:Program} {t e:TypeId} {z:Value} {size bytes:Nat} (h:P.underlying t=some (.slice e))
  (hi:(P.info? e).map (λi=>(i.zero,i.size,i.bytes))=some (some z,size,bytes)) (hz:z.cells.size=size) (hp:0<size):az P t e z size bytes:=by
 obtain⟨i,h1,h2,h3,h4⟩:=info_parts hi;exact⟨h,⟨i,h1,h2,h3,h4⟩,hz,hp⟩
structure aV (w w':World) (e:TypeId) (size:Nat) (S:LN) (ao:OA) (len cap:Nat) (xs:LV):Prop where
 own:w'.ownsRow 0 e size (.slice ao len cap) len xs
 fr:Fr S w w'
 at_:∀x∈af ao,x∈S\/x=w.heap.size
 le:len<=cap
 max:cap<=maxLen
 nil:ao=none->cap=0
theorem aV.lt {w w':World} {e:TypeId} {size:Nat} {S:LN} {ao:OA} {len cap:Nat} {xs:LV} (h:aV w w' e size S ao len cap xs):∀x∈af ao,x<w'.heap.size:=
 λ_ hx=>rr h.own (qi hx)
section
variable {P : Program} {w : World} {t e : TypeId} {z : Value} {size bytes : Nat}
theorem Bb (g o j:Nat):(⟨g,o,none⟩:Addr).add j=⟨g,o+j,none⟩:=by unfold Addr.add;split<;>simp_all
theorem qot (T:az P t e z size bytes) (ty:TypeId) (v:Value) (n:Nat) (xs:LV) (S:LN) (hS:v.ownBlock.toList=S) (aI:w.ownsRow 0 e size v n xs)
  (ao:OA) (m c:Nat) (news:LV) (rC:m<=c) (cz:ao=none->c=0) (hc:Cs w ao news) (hl:news.length=m*size) (h1:∀u∈news,u.oneCell'=true)
  (hb:(n+m)*bytes<=140737488355328) (oR:n+m<=maxLen) :
  ∃lN aS w',(Builtin.append_ #[t,t] ty #[v,.slice ao m c]).run P w = .ok (.slice lN (n+m) aS) w'/\aV w w' e size S lN (n+m) aS (xs++news):=by
 obtain⟨hu,⟨i,hi,hz,hs,kA⟩,uv,hp⟩:=T;subst hS;have key:∀v' w',w'.ownsRow 0 e size v' (n+m) (xs++news)->w.grownBy w' v.ownBlock->(v'.ownBlock=v.ownBlock\/v'.ownBlock=some w.heap.size)->∃lN aS,v' = .slice lN (n+m) aS/\aV w w' e size v.ownBlock.toList lN (n+m) aS (xs++news):=by
  intro v' w' h2 h3 h4;obtain⟨lN,aS,rfl,h5,h6⟩:=qoy h2;refine⟨lN,aS,rfl,h2,(Fr.refl _ w).grown h3 (λk hk=>.inl (by simp[hk])),?_,h5,h6,?_⟩
  ·intro x hx;have Aw:=qi (n:=n+m) (cap:=aS) hx;rcases h4 with h|h
   ·left;rw[<-h,Aw];simp
   ·right;rw[h]at Aw;exact (lA Aw).symm
  ·rintro rfl;rcases h2.2 with⟨h,_⟩|⟨g,cap,cur,h,_⟩
   ·simp only[mV]at h;exact h.2.2
   ·simp at h
 cases ao with
 | none=>
  have bZ:=cz rfl;obtain rfl:m=0:=by omega
  subst bZ;have hn:news=[]:=wN (by simpa using hl);subst hn;have hr:=run_append_owned_none (P:=P) (w:=w) 0 t ty e i size hu hi v n xs aI;obtain⟨lN,aS,rfl,hA⟩:=key v w (by simpa using aI) ⟨rfl,rfl,rfl,ay _,λ_ _ _=>rfl⟩ (.inl rfl);exact⟨lN,aS,w,hr,hA⟩
 | some a=>
  have JH:∀j u,news[j]?=some u->w.cell? (a.add j)=some u:=by
   intro j u hj;rcases hc with rfl|⟨g,o,ha,hc⟩
   ·simp at hj
   ·obtain rfl:=lA ha;rw[Bb];exact hc j u hj
  obtain⟨v',w',hr,h2,h3,h4,h5⟩:=run_append_own_at (P:=P) w 0 t ty e i z size bytes hu hi hz hs kA uv hp v n xs aI a m c news hl JH h1 oR hb (ep _);obtain⟨lN,aS,rfl,hA⟩:=key v' w' h2 h3 h5;exact⟨lN,aS,w',hr,hA⟩
theorem uj (T:az P t e z size bytes) {o:Oper} {a:Act} {K:Act->World->Prop} {Q:Exit->Act->World->Prop} (s x:Operand)
  (ho:o.op = .call { callee:=.builtin .append,args:=#[s,x],argTypes:=#[t,t] })
  (v:Value) (n:Nat) (xs:LV) (S:LN) (hs:a.eval s=v) (hS:v.ownBlock.toList=S) (aI:w.ownsRow 0 e size v n xs)
  (ao:OA) (m c:Nat) (news:LV) (hx:a.eval x = .slice ao m c) (rC:m<=c) (cz:ao=none->c=0) (hc:Cs w ao news) (hl:news.length=m*size) (h1:∀u∈news,u.oneCell'=true)
  (hb:(n+m)*bytes<=140737488355328) (oR:n+m<=maxLen)
  (h:∀lN aS w',aV w w' e size S lN (n+m) aS (xs++news)->K (a.put o.dst (.slice lN (n+m) aS)) w'):o.wp P a w K Q:=by
 obtain⟨lN,aS,w',hr,h2⟩:=qot (P:=P) T o.type v n xs S hS aI ao m c news rC cz hc hl h1 hb oR;unfold Oper.wp execOp;simp only[ho,resolve,invoke,builtin,DR,Sem.run_pure,Ia,List.map_toArray,gX,qq,hs,hx,hr];exact h lN aS w' h2
theorem gM (T:az P t e z size bytes) {ops:Array Oper} {rest:List Oper} {o:Oper} {a:Act} {Q:Exit->Act->World->Prop} (oe:o.guard=none) (s x:Operand)
  (ho:o.op = .call { callee:=.builtin .append,args:=#[s,x],argTypes:=#[t,t] })
  (v:Value) (n:Nat) (xs:LV) (S:LN) (hs:a.eval s=v) (hS:v.ownBlock.toList=S) (aI:w.ownsRow 0 e size v n xs)
  (ao:OA) (m c:Nat) (news:LV) (hx:a.eval x = .slice ao m c) (rC:m<=c) (cz:ao=none->c=0) (hc:Cs w ao news) (hl:news.length=m*size) (h1:∀u∈news,u.oneCell'=true)
  (hb:(n+m)*bytes<=140737488355328) (oR:n+m<=maxLen)
  (h:∀lN aS w',aV w w' e size S lN (n+m) aS (xs++news)->wpList P ops Q rest (a.put o.dst (.slice lN (n+m) aS)) w'):wpList P ops Q (o::rest) a w:=
 wpList_plain oe λ_ hK=>uj T s x ho v n xs S hs hS aI ao m c news hx rC cz hc hl h1 hb oR λlN aS w' h2=>hK _ _ (h lN aS w' h2)
theorem step_append (T:az P t e z size bytes) {ops:Array Oper} {o:Oper} {a:Act} {K:Act->World->Prop} {Q:Exit->Act->World->Prop} {E:Prop} (oe:o.guard=none) (s x:Operand)
  (ho:o.op = .call { callee:=.builtin .append,args:=#[s,x],argTypes:=#[t,t] })
  (v:Value) (n:Nat) (xs:LV) (S:LN) (hs:a.eval s=v) (hS:v.ownBlock.toList=S) (aI:w.ownsRow 0 e size v n xs)
  (ao:OA) (m c:Nat) (news:LV) (hx:a.eval x = .slice ao m c) (rC:m<=c) (cz:ao=none->c=0) (hc:Cs w ao news) (hl:news.length=m*size) (h1:∀u∈news,u.oneCell'=true)
  (hb:(n+m)*bytes<=140737488355328) (oR:n+m<=maxLen)
  (h:∀lN aS w',aV w w' e size S lN (n+m) aS (xs++news)->K (a.put o.dst (.slice lN (n+m) aS)) w') :
  if Region.wanted o (yielded ops a.tmps)=true then Oper.wp P o a w K Q else E:=by
 have hw:Region.wanted o (yielded ops a.tmps)=true:=by simp[Region.wanted,oe]
 rw[if_pos hw];exact uj T s x ho v n xs S hs hS aI ao m c news hx rC cz hc hl h1 hb oR h
end
theorem nM (w:World) (B:Nat) (v:Value) (t:TypeId) (h:w.heap[B]?=some (.cells #[v] t (0,0))):Cs w (some ⟨B,0,none⟩) [v]:=
 .inr ⟨B,0,rfl,λj u hj=>by
  match j,hj with
  | 0,hj=>rw[cell_of h];simpa using hj⟩
end lib
namespace lib
open Go Go.RowKit
section
variable {P : Program} {w : World} {ops : Array Oper} {rest : List Oper} {o : Oper} {a : Act} {Q : Exit -> Act -> World -> Prop}
theorem NU (v:Value) (oe:o.guard=none) (hr:(execOp a.eval o).run P w = .ok (.value v) w) (h:wpList P ops Q rest (a.put o.dst v) w):wpList P ops Q (o::rest) a w:=
 wpList_plain oe λK hK=>by unfold Oper.wp;rw[hr];exact hK _ _ h
theorem NN (m:Int) (oe:o.guard=none) (x y:Operand) (ts:Array TypeId) (ho:o.op = .call { callee:=.builtin .min,args:=#[x,y],argTypes:=ts }) (i j:Int)
  (hx:a.eval x = .int .i64 i) (hy:a.eval y = .int .i64 j) (hm:m=if j<i then j else i) (h:wpList P ops Q rest (a.put o.dst (.int .i64 m)) w):wpList P ops Q (o::rest) a w:=by
 subst hm;refine NU _ oe ?_ h;simp[execOp,ho,resolve,invoke,builtin,hx,hy,Builtin.min_,Builtin.min2]
theorem FX (m:Int) (oe:o.guard=none) (x y:Operand) (ts:Array TypeId) (ho:o.op = .call { callee:=.builtin .max,args:=#[x,y],argTypes:=ts }) (i j:Int)
  (hx:a.eval x = .int .i64 i) (hy:a.eval y = .int .i64 j) (hm:m=if j>i then j else i) (h:wpList P ops Q rest (a.put o.dst (.int .i64 m)) w):wpList P ops Q (o::rest) a w:=by
 subst hm;refine NU _ oe ?_ h;simp[execOp,ho,resolve,invoke,builtin,hx,hy,Builtin.max_,Builtin.max2]
end
section
variable {P : Program} {w : World} {ops : Array Oper} {rest : List Oper} {o : Oper} {a : Act} {Q : Exit -> Act -> World -> Prop} {t e : TypeId} {z : Value} {bytes : Nat}
theorem qmh (T:az P t e z 1 bytes) (l m:Nat) (oe:o.guard=none) (x lo hi:Operand) (ho:o.op = .slice t x (some lo) (some hi) none) (ao:OA) (len cap:Nat) (il ih:Int)
  (hx:a.eval x = .slice ao len cap) (rQ:a.eval lo = .int .i64 il) (Me:a.eval hi = .int .i64 ih) (hl:il=l) (hh:ih=l+m) (hc:l+m<=cap)
  (h:wpList P ops Q rest (a.put o.dst (.slice (cutAt ao cap l) m (cap-l))) w):wpList P ops Q (o::rest) a w:=by
 obtain⟨hu,⟨i,iR,_,hs,_⟩,_,_⟩:=T;subst hl;obtain rfl:ih=((l+m:Nat):Int):=by omega
 refine NU _ oe ?_ h;have c1:(0:Int)<=(l:Int)+m/\(l:Int)+m<=(cap:Int):=by omega
 have e2:((l:Int)+m).toNat=l+m:=by omega
 have e1:l+m-l=m:=by omega
 simp[execOp,ho,Instr.sliceAt,run_underlying hu,hx,rQ,Me,Instr.slice,Instr.sliceBounds,Instr.sliceBound,asIntOf,c1,e2,sizeOf,typeInfo,iR,hs,cutAt,e1,Result.andThen]
end
def str (bs:LB):ByteArray:=⟨bs.toArray⟩
theorem bh (bs:LB):(str bs).toList=bs:=by rw[ByteArray.toList_eq];rfl
theorem zf6 (a b:LB):(str a==str b)=(a==b):=by have h:(str a==str b)=(a.toArray==b.toArray):=rfl;rw[h,Bool.eq_iff_iff,beq_iff_eq,beq_iff_eq];exact⟨λh=>by simpa using h,λh=>by rw[h]⟩
theorem vU {P:Program} (w:World) {src dst e:TypeId} (hs:P.underlying src=some (.slice e)) (he:P.underlying e=some (.int .u8)) (hd:P.underlying dst=some .string)
  {ao:OA} {n:Nat} {bs:LB} (hn:bs.length=n) (hcs:Cs w ao (bs.map bv)) :
  ∀cap,(convert src dst (.slice ao n cap)).run P w = .ok (.string (str bs)) w:=by
 intro cap;have tI:∀(ao:OA),bs=[]->(convert src dst (.slice ao n cap)).run P w = .ok (.string (str bs)) w:=by
  intro ao hb;subst hb;obtain rfl:n=0:=by simpa using hn.symm
  rw[run_convert_bytes_string w src dst e ao 0 cap hs he hd];cases ao with
  | none=>rfl
  | some a=>rfl
 rcases hcs with h|⟨g,o,rfl,h⟩
 ·exact tI ao (by simpa using h)
 ·have hr:=run_convert_bytes_arg (P:=P) w src e hs he g o n cap (bs.map λb=>(b.toNat:Int)) (by simpa using hn) (λi hi=>by
   have h2:=h i (bv (bs.getD i 0)) (by simp[List.getD,show i<bs.length by omega])
   rw[h2]
   have iR:i<bs.length:=by omega
   simp[bv,List.getD,iR]) dst hd
  rw[hr];congr 2;unfold strOfNums str;congr 1;rw[vW];have:((λn:Int=>UInt8.ofNat n.toNat)∘λb:UInt8=>(b.toNat:Int))=id:=by funext b;simp
  rw[this,List.map_id]
end lib
namespace lib
open Go Go.RowKit
def aL (ao:OA) (cap lo size:Nat):Option Addr:=if cap=lo then ao else ao.map (·.add (lo*size))
theorem qn5 {ao:OA} {cap lo size:Nat} (h:aL ao cap lo size=none):ao=none:=by
 unfold aL at h;split at h
 ·exact h
 ·simpa using h
theorem SM (ao:OA) (cap lo size:Nat):af (aL ao cap lo size)=af ao:=by
 unfold aL;split
 ·rfl
 ·cases ao with
  | none=>rfl
  | some a=>simp only[Aj,af,Addr.add];split<;>rfl
theorem qpc (ao:OA) (cap lo:Nat):aL ao cap lo 1=cutAt ao cap lo:=by unfold aL cutAt;rw[pI]
section
variable {P : Program} {w : World} {ops : Array Oper} {rest : List Oper} {o : Oper} {a : Act} {Q : Exit -> Act -> World -> Prop} {t e : TypeId} {z : Value} {size bytes : Nat}
theorem qh9 (T:az P t e z size bytes) (m:Nat) (oe:o.guard=none) (x hi:Operand) (ho:o.op = .slice t x none (some hi) none) (ao:OA) (len cap:Nat) (ih:Int)
  (hx:a.eval x = .slice ao len cap) (Me:a.eval hi = .int .i64 ih) (hh:ih=m) (hc:m<=cap)
  (h:wpList P ops Q rest (a.put o.dst (.slice ao m cap)) w):wpList P ops Q (o::rest) a w:=by
 obtain⟨hu,⟨i,iR,_,hs,_⟩,_,_⟩:=T;subst hh;refine NU _ oe ?_ h;have c1:(0:Int)<=(m:Int)/\(m:Int)<=(cap:Int):=by omega
 have Kl:∀x:Addr,x.add 0=x:=λx=>rfl
 cases ao<;>simp[execOp,ho,Instr.sliceAt,run_underlying hu,hx,Me,Instr.slice,Instr.sliceBounds,Instr.sliceBound,asIntOf,c1,hc,sizeOf,typeInfo,iR,hs,Result.andThen,Kl]
theorem vY (T:az P t e z size bytes) (l:Nat) (oe:o.guard=none) (x lo:Operand) (ho:o.op = .slice t x (some lo) none none) (ao:OA) (len cap:Nat) (il:Int)
  (hx:a.eval x = .slice ao len cap) (rQ:a.eval lo = .int .i64 il) (hl:il=l) (hc:l<=len) (pM:len<=cap)
  (h:wpList P ops Q rest (a.put o.dst (.slice (aL ao cap l size) (len-l) (cap-l))) w):wpList P ops Q (o::rest) a w:=by
 obtain⟨hu,⟨i,iR,_,hs,_⟩,_,_⟩:=T;subst hl;refine NU _ oe ?_ h;have c1:(0:Int)<=(l:Int)/\(l:Int)<=(len:Int):=by omega
 have c2:(len:Int)<=(cap:Int):=by omega
 simp[execOp,ho,Instr.sliceAt,run_underlying hu,hx,rQ,Instr.slice,Instr.sliceBounds,Instr.sliceBound,asIntOf,c1,c2,hc,pM,sizeOf,typeInfo,iR,hs,aL,Result.andThen]
end
end lib
namespace lib
open Go Go.RowKit Go.ChangeShapes Go.WideShapes
theorem wf_u8 {n:Int} (h:(Lit.int .u8 n).wf=true):0<=n/\n<=255:=by simpa[Lit.wf,IntKind.min,IntKind.max,IntKind.signed,IntKind.bits] using h
theorem wf_u32 {n:Int} (h:(Lit.int .u32 n).wf=true):0<=n/\n<=4294967295:=by simpa[Lit.wf,IntKind.min,IntKind.max,IntKind.signed,IntKind.bits] using h
theorem wf_i64 {n:Int} (h:(Lit.int .i64 n).wf=true) : -9223372036854775808<=n/\n<=9223372036854775807:=by simpa[Lit.wf,IntKind.min,IntKind.max,IntKind.signed,IntKind.bits] using h
structure Fk (k:IntKind) (w:World) (a:OA) (len cap:Nat) (xs:List Int):Prop where
 le:len<=cap
 max:cap<=maxLen
 nil:a=none->cap=0
 length:xs.length=len
 cs:Cs w a (xs.map (Value.int k))
 wf:∀x∈xs,(Lit.int k x).wf=true
 lt:∀x∈af a,cap≠0->x<w.heap.size
theorem UT {x:Addr} (h:x.spot=none) (j:Nat):x.add j=⟨x.block,x.off+j,none⟩:=by obtain⟨b,o,s⟩:=x;simp only at h;subst h;unfold Addr.add;split<;>simp_all
section
variable {H : Type} {enc : TypeId × Value -> H} {P : Program} {w : World}
theorem qvm {t e:TypeId} {k:IntKind} {a:OA} {len cap:Nat} {d:DataW H} {p:List MemPlace} (ht:P.underlying t=some (.slice e)) (he:P.underlying e=some (.int k)) (hc:P.cellsOf e=1)
  (h:DataW.Trod enc P w 0 (λ_=>true) true t (.slice a len cap) d p) :
  ∃xs sp:List Int,Fk k w a len cap xs/\sp.length=cap-len/\(d = .nil/\cap=0\/d = .slice (lits k xs) (lits k sp)):=by
 obtain⟨fuel,hf⟩:=h;rcases open_ints ht he hc hf with⟨hcs,hx⟩|⟨x,l,c,zs,hcs,_,hl,hm,hz,hx,hcell,BA⟩
 ·simp[Value.cells]at hcs;obtain⟨rfl,rfl,rfl⟩:=hcs;simp at hx;exact⟨[],[],⟨ay _,ep _,λ_=>rfl,rfl,.inl rfl,by simp,by simp[af]⟩,rfl,.inl ⟨hx.1,rfl⟩⟩
 ·simp[Value.cells]at hcs;obtain⟨rfl,rfl,rfl⟩:=hcs;simp only[if_true]at hz;simp at hx;have fU:∀i v,(zs.map (Value.int k))[i]?=some v->w.cell? (x.add i)=some v:=by
   intro i v hv;have hi:i<zs.length:=by have:=(jq.1 hv).1;simpa using this
   rw[hcell i hi];simp[hi]at hv;simp[List.getD,hi,hv]
  have spot:0<zs.length->x.spot=none:=by
   intro h0;have h1:=hcell 0 h0;have h2:x.add 0=x:=by simp[Addr.add]
   rw[h2]at h1;cases hs:x.spot with
   | none=>rfl
   | some s=>simp only[World.cell?,hs,Option.isSome_some,if_true]at h1;split at h1<;>cases h1
  have Zi:Cs w (some x) (zs.map (Value.int k)):=by
   by_cases h0:zs=[]
   ·left;simp[h0]
   ·right;have hp:0<zs.length:=Ld.2 h0;have hs:=spot hp;refine⟨x.block,x.off,by rw[<-hs],λj v hv=>?_⟩;have h3:=fU j v hv;have h4:x.add j=⟨x.block,x.off+j,none⟩:=by exact UT hs j
    rwa [h4]at h3
  refine⟨zs.take len,zs.drop len,⟨hl,hm,(λh=>by cases h),(by simp;omega),?_,λy hy=>BA y (uM hy),?_⟩,(by simp;omega),.inr hx.1⟩
  ·rcases Zi with h0|⟨g,o,ha,h0⟩
   ·left;have:zs=[]:=by simpa using h0
    simp[this]
   ·refine .inr ⟨g,o,ha,λj v hv=>h0 j v ?_⟩;rw[Fw,oX]at hv;split at hv
    ·exact hv
    ·cases hv
  ·intro y hy cQ;simp[af]at hy;subst hy;have h0:0<zs.length:=by omega
   exact Lp w _ (by have:=hcell 0 h0;simpa[Addr.add] using this)
theorem qjs (hl:laidOutB P=true) {W W':World} (hb:Below W.heap.size W W'):∀{ts:List TypeId} {vs:LV} {ds:List (DataW H)} {ps:List MemPlace},
  (ts.all λt=>P.readableRec t&&decide (t<P.types.size))=true->(∀x∈ps,x.block<W.heap.size)->DataW.TrodAll enc P W 0 (λ_=>true) true ts vs ds ps->DataW.TrodAll enc P W' 0 (λb=>decide (b<W.heap.size)) true ts vs ds ps
 | [],[],[],_,_,_,h=>h
 | t::ts,v::vs,d::ds,ps,hr,bg,h=>by
  simp only[List.all_cons,lQ,decide_eq_true_eq]at hr;obtain⟨v',vs',d',ds',p,q,hv,hd,rfl,h1,h2⟩:=trodAll_cons h;obtain⟨rfl,rfl⟩:=List.cons.inj hv;obtain⟨rfl,rfl⟩:=List.cons.inj hd;exact trodAll_cons_mk (Below.trod hl hr.1.1 hr.1.2 h1 hb (λx hx=>bg x (by simp[hx]))) (qjs hl hb hr.2 (λx hx=>bg x (by simp[hx])) h2)
 | [],_::_,_,_,_,_,h=>by simp[DataW.TrodAll]at h
 | [],[],_::_,_,_,_,h=>by simp[DataW.TrodAll]at h
 | _::_,[],_,_,_,_,h=>by simp[DataW.TrodAll]at h
 | _::_,_::_,[],_,_,_,h=>by simp[DataW.TrodAll]at h
theorem qrw {s:ChangeSpec} {f:FuncId} {fn:Func} {W:World} {args:AV} {ds gs:List (DataW H)} {before:List MemPlace} {tb:TypeId}
  (hl:laidOutB P=true) (cu:(fn.params.toList.all λt=>P.readableRec t&&decide (t<P.types.size))=true) (uZ:s.vars=[]) (dh:fn.resultTypes=#[tb]) (nZ:P.underlying tb=some .bool)
  (hW:DataW.Whole enc P fn.params.toList s.vars false W args.toList ds gs before) (B8:∀gs,s.vars=[]->gs=[]->s.fn H (ds++gs)={ results:=[.lit (.bool true)],args:=ds })
  (hc:Calls P f args W λe W'=>e = .returned (.bool true)/\Below W.heap.size W W') :
  Calls P f args W λe W'=>∃v,e = .returned v/\s.post enc P fn false true false false W args v W':=by
 have Ug:=hW;obtain⟨p,q,hA,hV,rfl,yD,ED⟩:=hW;have hV':=hV;rw[uZ]at hV';obtain⟨rfl,rfl⟩:=trodVars_none hV';have bg:∀x∈p,x.block<W.heap.size:=λx hx=>by simpa using Ug.lt x (by simpa using hx)
 refine hc.mono λe W' ⟨he,hb⟩=>⟨_,he,_,_,_,[],p,[],Ug,?_,?_,?_,hb.frame _,λh=>by cases h⟩
 ·rw[B8 [] uZ rfl,dh];exact trodAll_mk1 (shut_bool nZ _)
 ·rw[B8 [] uZ rfl];exact qjs hl hb cu bg hA
 ·rw[uZ,B8 [] uZ rfl];rfl
end
end lib
namespace lib
open Go Go.RowKit Go.ChangeShapes Go.WideShapes
section
variable {H : Type} {enc : TypeId × Value -> H} {P : Program} {w : World}
def gQ (P:Program) (t:TypeId) (d:DataW H):Prop:=(DataW.weights P t d).all (·<=reachBytes)=true
theorem Wi {e:TypeId}:∀{ds:List (DataW H)},(DataW.weightsAll P e ds).all (·<=reachBytes)=true->∀d∈ds,gQ P e d
 | [],_,d,hd=>by cases hd
 | x::r,h,d,hd=>by
  rw[DataW.weightsAll,List.all_append,lQ]at h;rcases fP.1 hd with rfl|hd
  ·exact h.1
  ·exact Wi h.2 d hd
theorem qo4 {ts:List TypeId} {ds:List (DataW H)} (h:(DataW.weightsEach P ts ds).all (·<=reachBytes)=true) {j:Nat} {t:TypeId} {d:DataW H} (ht:ts[j]?=some t) (hd:ds[j]?=some d):gQ P t d:=
 Ic.2 λn hn=>Ic.1 h n (DataW.weights_mem_each ht hd n hn)
theorem qtv {t e:TypeId} {elems spare:List (DataW H)} (ht:P.underlying t=some (.slice e)) (h:gQ P t (.slice elems spare)) :
  (elems.length+spare.length)*P.bytesOf e<=reachBytes/\(∀d∈elems,gQ P e d)/\∀d∈spare,gQ P e d:=by
 unfold gQ at h;rw[DataW.weights,ht]at h;simp only[List.all_cons,List.all_append,lQ,decide_eq_true_eq]at h;exact⟨h.1,Wi h.2.1,Wi h.2.2⟩
theorem qrt {t:TypeId} {fs:Array Field} {parts:List (DataW H)} (ht:P.underlying t=some (.struct fs)) (h:gQ P t (.agg parts)) {j:Nat} {u:TypeId} {d:DataW H} (hu:(fs.toList.map (·.type))[j]?=some u) (hd:parts[j]?=some d):gQ P u d:=by unfold gQ at h;rw[DataW.weights,ht]at h;exact qo4 h hu hd
theorem zel (d:DataW H):1<=Rows.uptoBulk d:=by
 cases d with
 | lit l=>cases l<;>simp[Rows.uptoBulk]
 | nil=>simp[Rows.uptoBulk]
 | ptr d=>simp[Rows.uptoBulk]
 | slice elems spare=>simp[Rows.uptoBulk]
 | agg parts=>simp[Rows.uptoBulk]
 | iface t d=>simp[Rows.uptoBulk]
 | map entries=>simp[Rows.uptoBulk]
 | held h=>simp[Rows.uptoBulk]
theorem zbd {d:DataW H} {l:List (DataW H)} (h:d∈l):Rows.uptoBulk d<=Rows.uptoBulkAll l:=by
 induction l with
 | nil=>cases h
 | cons x r ih=>
  simp only[Rows.uptoBulkAll];cases fP.1 h with
  | inl e=>subst e;omega
  | inr e=>have:=ih e;omega
theorem qub (l:List (DataW H)):l.length<=Rows.uptoBulkAll l:=by
 induction l with
 | nil=>simp[Rows.uptoBulkAll]
 | cons x r ih=>have:=zel x;simp only[Rows.uptoBulkAll,bU];omega
theorem zbe {d:DataW H} {elems spare:List (DataW H)} (h:d∈elems):Rows.uptoBulk d<=Rows.uptoBulk (.slice elems spare):=by have:=zbd h;simp only[Rows.uptoBulk];omega
theorem qxf (elems spare:List (DataW H)):elems.length<=Rows.uptoBulk (.slice elems spare):=by have:=qub elems;simp only[Rows.uptoBulk];omega
theorem qq7 {t e:TypeId} {a:OA} {len cap s:Nat} {d:DataW H} {p:List MemPlace} (ht:P.underlying t=some (.slice e)) (hs:P.cellsOf e=s) (h0:0<s)
  (h:DataW.Trod enc P w 0 (λ_=>true) true t (.slice a len cap) d p) (hL:gQ P t d) :
  len<=cap/\cap<=maxLen/\(a=none->cap=0)/\len*P.bytesOf e<=140737488351232/\len<=Rows.uptoBulk d/\(len=0\/∃g o,a=some ⟨g,o,none⟩/\∀i,i<len->∃(cs:LV) (y:DataW H×List MemPlace) (n:Nat),
   cs.length=s/\(∀j v,cs[j]?=some v->w.cell? ⟨g,o+i*s+j,none⟩=some v)/\DataW.trod enc P w 0 (λ_=>true) true n e cs=some y/\gQ P e y.1/\Rows.uptoBulk y.1<=Rows.uptoBulk d):=by
 have er:reachBytes=140737488351232:=by decide
 obtain⟨fuel,hf⟩:=h;rcases DataW.trod_slice ht hf with⟨hcs,hx⟩|⟨x,l,c,elems,rest,n,_,hcs,hx,_,hl,hm,hlen,Mh,_⟩
 ·simp[Value.cells]at hcs;obtain⟨rfl,rfl,rfl⟩:=hcs;exact⟨ay _,ep _,λ_=>rfl,by simp,ep _,.inl rfl⟩
 ·simp[Value.cells]at hcs;obtain⟨rfl,rfl,rfl⟩:=hcs;simp only[fj]at hx;obtain⟨rfl,_⟩:=hx;obtain⟨hw,hle,_⟩:=qtv ht hL;simp only[bW]at hw;refine⟨hl,hm,(λh=>by cases h),?_,by have:=qxf (elems.map (·.1)) (rest.map (·.1));simp at this;omega,?_⟩
  ·have h1:len*P.bytesOf e<=(elems.length+rest.length)*P.bytesOf e:=uN _ (by omega);omega
  ·by_cases hz:len=0
   ·exact .inl hz
   ·right;have get:∀i,i<len->∃(cs:LV) (y:DataW H×List MemPlace),cs.length=s/\(∀j v,cs[j]?=some v->w.cell? ((x.add (i*s)).add j)=some v)/\DataW.trod enc P w 0 (λ_=>true) true n e cs=some y/\gQ P e y.1/\Rows.uptoBulk y.1<=Rows.uptoBulk (.slice (elems.map (·.1)) (rest.map (·.1))):=by
     intro i hi;have h1:=Mh i hi;rw[hs]at h1;have Y1:i<elems.length:=by omega
     rw[br Y1]at h1;obtain⟨cs,cY,jD⟩:=Option.bind_eq_some_iff.1 h1;obtain⟨_,wm,Zr⟩:=World.cells?_some cY;exact⟨cs,elems[i],wm,λj v hv=>by rw[Zr j (by have:=(jq.1 hv).1;omega),hv],jD,hle _ (jo.2 ⟨_,tk Y1,rfl⟩),zbe (jo.2 ⟨_,tk Y1,rfl⟩)⟩
    have spot:x.spot=none:=by
     obtain⟨cs,y,h1,h2,_⟩:=get 0 (by omega);have h3:0<cs.length:=by omega
     have h4:=h2 0 cs[0] (by simp[h3]);simp only[Nat.zero_mul]at h4;have h5:(x.add 0).add 0=x:=by simp[Addr.add]
     rw[h5]at h4;cases hs:x.spot with
     | none=>rfl
     | some s=>simp only[World.cell?,hs,Option.isSome_some,if_true]at h4;split at h4<;>cases h4
    refine⟨x.block,x.off,by rw[<-spot],λi hi=>?_⟩;obtain⟨cs,y,h1,h2,h3,h4⟩:=get i hi;refine⟨cs,y,n,h1,λj v hv=>?_,h3,h4⟩;have h5:=h2 j v hv;rw[UT spot,UT rfl]at h5;exact h5
structure rk (w:World) (a:OA) (len cap:Nat) (bs:LB):Prop where
 le:len<=cap
 max:cap<=maxLen
 nil:a=none->cap=0
 length:bs.length=len
 cs:Cs w a (bs.map bv)
 lim:len<=140737488351232
 lt:∀x∈af a,bs≠[]->x<w.heap.size
theorem zba {t e:TypeId} {a:OA} {len cap:Nat} {d:DataW H} {p:List MemPlace} (ht:P.underlying t=some (.slice e)) (he:P.underlying e=some (.int .u8)) (hc:P.cellsOf e=1) (kA:P.bytesOf e=1)
  (h:DataW.Trod enc P w 0 (λ_=>true) true t (.slice a len cap) d p) (hL:gQ P t d):∃bs,rk w a len cap bs/\len<=Rows.uptoBulk d:=by
 obtain⟨xs,_,A,_⟩:=qvm ht he hc h;obtain⟨_,_,_,xv,ux,_⟩:=qq7 ht hc (by decide) h hL;have key:Cs w a ((xs.map λx=>UInt8.ofNat x.toNat).map bv):=by
  have e:(xs.map λx=>UInt8.ofNat x.toNat).map bv=xs.map (Value.int .u8):=by rw[vW];apply D9;intro x hx;have:=wf_u8 (A.wf x hx);simp only[Function.comp,bv,zk];exact int_eq (by omega)
  rw[e];exact A.cs
 refine⟨xs.map λx=>UInt8.ofNat x.toNat,⟨A.le,A.max,A.nil,by simp[A.length],key,by rw[kA]at xv;omega,λx hx cQ=>?_⟩,ux⟩;cases a with
 | none=>simp[af]at hx
 | some a=>simp[af]at hx;subst hx;exact key.lt (by simpa using cQ) a rfl
theorem qxe {t e:TypeId} {n:Nat} {cs:LV} {y:DataW H×List MemPlace} (ht:P.underlying t=some (.slice e)) (he:P.underlying e=some (.int .u8)) (hc:P.cellsOf e=1) (kA:P.bytesOf e=1)
  (h:DataW.trod enc P w 0 (λ_=>true) true n t cs=some y) (hL:gQ P t y.1):∃a len cap bs,cs=[.slice a len cap]/\rk w a len cap bs/\len<=Rows.uptoBulk y.1:=by
 have qR:∃a l c,cs=[.slice a l c]:=by
  rcases DataW.trod_slice ht h with⟨hcs,_⟩|⟨a',zaV,aS,_,_,_,_,hcs,_⟩
  ·exact⟨_,_,_,hcs⟩
  ·exact⟨_,_,_,hcs⟩
 obtain⟨a,l,c,rfl⟩:=qR;obtain⟨bs,hb⟩:=zba (enc:=enc) (a:=a) (len:=l) (cap:=c) (d:=y.1) (p:=y.2) ht he hc kA ⟨n,h⟩ hL;exact⟨a,l,c,bs,rfl,hb⟩
end
end lib
namespace lib
open Go Go.RowKit
structure Rd (w:World) (a:OA) (cap:Nat) (bs:LB):Prop where
 cs:Cs w a (bs.map bv)
 le:bs.length<=cap
 max:cap<=maxLen
 nil:a=none->cap=0
theorem Rd.fr {w w':World} {a:OA} {cap:Nat} {bs:LB} (h:Rd w a cap bs) (f:Fr [] w w'):Rd w' a cap bs:=⟨h.cs.fr f (by simp),h.le,h.max,h.nil⟩
theorem Rd.gJ {S:LN} {w w':World} {a:OA} {cap:Nat} {bs:LB} (h:Rd w a cap bs) (f:Fr S w w') (hn:∀x∈af a,x∉S):Rd w' a cap bs:=⟨h.cs.fr f hn,h.le,h.max,h.nil⟩
theorem Rd.none (w:World):Rd w none 0 []:=⟨.inl rfl,ay _,ep _,λ_=>rfl⟩
theorem Rd.IL {w:World} {a:OA} {len cap:Nat} {bs:LB} (h:rk w a len cap bs):Rd w a cap bs:=⟨h.cs,by rw[h.length];exact h.le,h.max,h.nil⟩
theorem zat {w:World} {a:OA} {cap:Nat} {vs:LV} (h:Cs w a vs) (k:Nat) (hk:k<=vs.length) (hc:vs.length<=cap):Cs w (aL a cap k 1) (vs.drop k):=by have:=h.cut cap k vs.length hk (ay _) hc;rw[mL (by simp),<-qpc]at this;exact this
theorem zec {w:World} {a:OA} {vs:LV} (h:Cs w a vs) (k:Nat):Cs w a (vs.take k):=by
 rcases h with rfl|⟨g,o,rfl,h⟩
 ·left;simp
 ·refine .inr ⟨g,o,rfl,λj v hv=>h j v ?_⟩;rw[oX]at hv;split at hv
  ·exact hv
  ·cases hv
theorem Rd.drop {w:World} {a:OA} {cap:Nat} {bs:LB} (h:Rd w a cap bs) (k:Nat) (hk:k<=bs.length):Rd w (aL a cap k 1) (cap-k) (bs.drop k):=by have h1:=h.le;have h2:=h.max;refine⟨?_,by rw[eV];omega,by omega,λe=>by have:=h.nil (qn5 e);omega⟩;rw[Hu];exact zat h.cs k (by simpa using hk) (by simpa using h1)
theorem Rd.take {w:World} {a:OA} {cap:Nat} {bs:LB} (h:Rd w a cap bs) (k:Nat):Rd w a cap (bs.take k):=by have h1:=h.le;refine⟨?_,by rw[dU];omega,h.max,h.nil⟩;rw[Fw];exact zec h.cs k
theorem Rd.mid {w:World} {a:OA} {cap:Nat} {bs:LB} (h:Rd w a cap bs) (l m:Nat) (hk:l+m<=bs.length):Rd w (cutAt a cap l) (cap-l) ((bs.drop l).take m):=by have h1:=(h.drop l (by omega)).take m;rw[qpc]at h1;exact h1
theorem Rd.at {w:World} {a:OA} {cap:Nat} {bs:LB} (h:Rd w a cap bs) {i:Nat} (hi:i<bs.length):∃g o,a=some ⟨g,o,Option.none⟩/\w.cell? ⟨g,o+i,Option.none⟩=some (.int .u8 ((bs[i].toNat:Nat):Int)):=by obtain⟨g,o,rfl,hc⟩:=h.cs.at (by simp;omega);exact⟨g,o,rfl,hc i _ (by simp[hi,bv])⟩
theorem wK {w:World} {base:Nat} {e:TypeId} {len cap:Nat} {bs:LB} {a:OA} (h:w.ownsRow base e 1 (.slice a len cap) len (bs.map bv)):Rd w a cap bs/\bs.length=len:=by
 have hl:bs.length=len:=by simpa using h.1
 obtain⟨_,_,he,h1,h2,h3⟩:=Iw h;simp only[mV]at he;obtain⟨rfl,_,rfl⟩:=he;exact⟨⟨C8 h,by omega,h2,h3⟩,hl⟩
section
variable {P : Program} {t e : TypeId} {z : Value} {size bytes : Nat}
theorem Lx (T:az P t e z size bytes) (l:Nat) (a:OA) (len cap:Nat) (il:Int) (hl:il=l) (hc:l<=len) (pM:len<=cap) (w:World) :
  (Instr.slice t (.slice a len cap) (some (.int .i64 il)) Option.none Option.none).run P w = .ok (.slice (aL a cap l size) (len-l) (cap-l)) w:=by
 obtain⟨hu,⟨i,iR,_,hs,_⟩,_,_⟩:=T;subst hl;have c1:(0:Int)<=(l:Int)/\(l:Int)<=(len:Int):=by omega
 have c2:(len:Int)<=(cap:Int):=by omega
 simp[run_underlying hu,Instr.slice,Instr.sliceBounds,Instr.sliceBound,asIntOf,c1,c2,hc,pM,sizeOf,typeInfo,iR,hs,aL,Result.andThen]
theorem FZ (T:az P t e z size bytes) (m:Nat) (a:OA) (len cap:Nat) (ih:Int) (hh:ih=m) (hc:m<=cap) (w:World) :
  (Instr.slice t (.slice a len cap) Option.none (some (.int .i64 ih)) Option.none).run P w = .ok (.slice a m cap) w:=by
 obtain⟨hu,⟨i,iR,_,hs,_⟩,_,_⟩:=T;subst hh;have c1:(0:Int)<=(m:Int)/\(m:Int)<=(cap:Int):=by omega
 have Kl:∀x:Addr,x.add 0=x:=λx=>rfl
 cases a<;>simp[run_underlying hu,Instr.slice,Instr.sliceBounds,Instr.sliceBound,asIntOf,c1,hc,sizeOf,typeInfo,iR,hs,Result.andThen,Kl]
theorem run_slice_lh (T:az P t e z 1 bytes) (l m:Nat) (a:OA) (len cap:Nat) (il ih:Int) (hl:il=l) (hh:ih=l+m) (hc:l+m<=cap) (w:World) :
  (Instr.slice t (.slice a len cap) (some (.int .i64 il)) (some (.int .i64 ih)) Option.none).run P w = .ok (.slice (cutAt a cap l) m (cap-l)) w:=by
 obtain⟨hu,⟨i,iR,_,hs,_⟩,_,_⟩:=T;subst hl;obtain rfl:ih=((l+m:Nat):Int):=by omega
 have c1:(0:Int)<=(l:Int)+m/\(l:Int)+m<=(cap:Int):=by omega
 have e2:((l:Int)+m).toNat=l+m:=by omega
 have e1:l+m-l=m:=by omega
 simp[run_underlying hu,Instr.slice,Instr.sliceBounds,Instr.sliceBound,asIntOf,c1,e2,sizeOf,typeInfo,iR,hs,cutAt,e1,Result.andThen]
end
def aB (w:World) (bs:LB) (e:Ending) (w':World):Prop:=
 ∃a,e = .returned (.slice a bs.length bs.length)/\Rd w' a bs.length bs/\(∀x∈af a,w.heap.size<=x/\x<w'.heap.size)/\Fr [] w w'
end lib
namespace pk
open Go
def qU:Nat->Nat->Nat->List UInt8
 | 0,c,_=>[UInt8.ofNat c]
 | f+1,c,n=>if n=0 then [UInt8.ofNat c] else UInt8.ofNat (c+128)::qU f (n%128) (n/128)
def hd (kind size:Nat):List UInt8:=qU size (kind%8*16+size%16) (size/16)
theorem zdt {f g:Nat}:∀{c n:Nat},n<=f->n<=g->qU f c n=qU g c n:=by
 induction f generalizing g with
 | zero=>
  intro c n h1 h2;have:n=0:=by omega
  subst this;cases g<;>simp[qU]
 | succ f ih=>
  intro c n h1 h2;by_cases h0:n=0
  ·subst h0;cases g<;>simp[qU]
  ·cases g with
   | zero=>omega
   | succ g=>unfold qU;rw[if_neg h0,if_neg h0,ih (g:=g) (by omega) (by omega)]
theorem ze9 {k:Nat}:∀{f c n:Nat},n<128^k->n<=f->(qU f c n).length<=k+1:=by
 induction k with
 | zero=>
  intro f c n h _;have:n=0:=by omega
  subst this;cases f<;>simp[qU]
 | succ k ih=>
  intro f c n h hf;cases f with
  | zero=>simp[qU]
  | succ f=>
   unfold qU;split
   ·simp
   ·have h2:n/128<128^k:=by rw[pH]at h;exact Nat.div_lt_of_lt_mul (by omega)
    have:=ih (f:=f) (c:=n%128) h2 (by omega);simp only[bU];omega
def lL:Nat->Nat->List UInt8
 | 0,_=>[]
 | f+1,m=>if m=0 then [] else UInt8.ofNat ((m-1)%128+128)::lL f ((m-1)/128)
def bk (n:Nat):List UInt8:=UInt8.ofNat (n%128)::lL n (n/128)
theorem zep {f g:Nat}:∀{m:Nat},m<=f->m<=g->lL f m=lL g m:=by
 induction f generalizing g with
 | zero=>
  intro m h1 h2;have:m=0:=by omega
  subst this;cases g<;>simp[lL]
 | succ f ih=>
  intro m h1 h2;by_cases h0:m=0
  ·subst h0;cases g<;>simp[lL]
  ·cases g with
   | zero=>omega
   | succ g=>unfold lL;rw[if_neg h0,if_neg h0,ih (g:=g) (by omega) (by omega)]
theorem Vn {k:Nat}:∀{f m:Nat},m<128^k->(lL f m).length<=k:=by
 induction k with
 | zero=>
  intro f m h;have:m=0:=by omega
  subst this;cases f<;>simp[lL]
 | succ k ih=>
  intro f m h;cases f with
  | zero=>simp[lL]
  | succ f=>
   unfold lL;split
   ·simp
   ·have h2:(m-1)/128<128^k:=by rw[pH]at h;exact Nat.div_lt_of_lt_mul (by omega)
    have:=ih (f:=f) h2;simp only[bU];omega
def Ac (l:LB):Nat->Nat
 | 0=>0
 | i+1=>(if i=0 then 0 else (Ac l i+1)*128)+(l[i]?.getD 0).toNat%128
theorem qxz {l r:LB}:∀{i:Nat},i<=l.length->Ac (l++r) i=Ac l i:=by
 intro i;induction i with
 | zero=>intro _;rfl
 | succ i ih=>intro h;unfold Ac;rw[ih (by omega),rO (by omega)]
theorem x7 {n:Nat} (h:n<256):(UInt8.ofNat n).toNat=n:=by simp[zk];omega
theorem zfp:∀{f m:Nat},m<=f->0<m->0<(lL f m).length/\Ac (lL f m).reverse (lL f m).length=m-1:=by
 intro f;induction f with
 | zero=>intro m h1 h2;omega
 | succ f ih=>
  intro m h1 h2;unfold lL;rw[if_neg (by omega)];refine⟨by simp,?_⟩;rw[List.reverse_cons,bU];unfold Ac;rw[ye (by simp),um,DS];simp only[aT,Bi];rw[x7 (by omega),qxz (by simp)];by_cases h0:(m-1)/128=0
  ·have he:lL f ((m-1)/128)=[]:=by rw[h0];cases f<;>simp[lL]
   rw[he];simp;omega
  ·obtain⟨k1,k2⟩:=ih (m:=(m-1)/128) (by omega) (by omega);rw[if_neg (by omega),k2];omega
theorem ziw (n:Nat):Ac (bk n).reverse (bk n).length=n:=by
 unfold bk;rw[List.reverse_cons,bU];unfold Ac;rw[ye (by simp),um,DS];simp only[aT,Bi];rw[x7 (by omega),qxz (by simp)];by_cases h0:n/128=0
 ·have he:lL n (n/128)=[]:=by rw[h0];cases n<;>simp[lL]
  rw[he];simp;omega
 ·obtain⟨k1,k2⟩:=zfp (f:=n) (m:=n/128) (by omega) (by omega);rw[if_neg (by omega),k2];omega
theorem zeo:∀{f m:Nat},∀x∈lL f m,128<=x.toNat:=by
 intro f;induction f with
 | zero=>intro m x h;simp[lL]at h
 | succ f ih=>
  intro m x h;unfold lL at h;split at h
  ·simp at h
  ·simp only[fP]at h;rcases h with rfl|h
   ·rw[x7 (by omega)];omega
   ·exact ih x h
theorem zhg (n:Nat) {i:Nat} (hi:i<(bk n).length):128<=((bk n).reverse[i]?.getD 0).toNat↔i+1<(bk n).length:=by
 have e:(bk n).reverse=(lL n (n/128)).reverse++[UInt8.ofNat (n%128)]:=by unfold bk;rw[List.reverse_cons]
 have hl:(bk n).length=(lL n (n/128)).length+1:=rfl;rw[e];by_cases h:i+1<(bk n).length
 ·rw[rO (by rw[um];omega)];have h2:i<(lL n (n/128)).reverse.length:=by rw[um];omega
  rw[br h2];have:=zeo (f:=n) (m:=n/128) _ (List.mem_reverse.1 (tk h2));simp only[Bi];exact⟨λ_=>h,λ_=>this⟩
 ·rw[ye (by rw[um];omega),um,show i-(lL n (n/128)).length=0 by omega];simp only[aT,Bi];rw[x7 (by omega)];omega
theorem zff {n:Nat} (h:n<=1073741824):(bk n).length<=5:=by
 unfold bk;have h1:n/128<128^4:=by omega
 have:=Vn (f:=n) h1;simp only[bU];omega
theorem RH {kind size:Nat} (h:size<=2147483647):(hd kind size).length<=5:=by
 unfold hd;have h1:size/16<128^4:=by omega
 exact ze9 h1 (by omega)
end pk
namespace bm
def num:List UInt8->Nat
 | []=>0
 | b::r=>b.toNat+256*num r
theorem Vf:∀bs:List UInt8,num bs<2^(8*bs.length)
 | []=>by simp[num]
 | b::r=>by
  have h:=Vf r;have hb:b.toNat<256:=b.toNat_lt;have e:2^(8*(b::r).length)=256*2^(8*r.length):=by rw[bU,Ba,mU,mf]
  rw[e];simp only[num];omega
theorem qo2:∀a b:List UInt8,num (a++b)=num a+2^(8*a.length)*num b
 | [],b=>by simp[num]
 | x::a,b=>by
  have e:2^(8*(x::a).length)=256*2^(8*a.length):=by rw[bU,Ba,mU,mf]
  rw[zi,num,num,qo2 a b,e,uk,Ba,oW]
theorem zc5 (bs:LB) (i:Nat) (h:i<=bs.length):num bs/2^(8*i)=num (bs.drop i):=by have e:=qo2 (bs.take i) (bs.drop i);rw[Df]at e;have hl:=Vf (bs.take i);rw[dU,uP h]at e hl;rw[e,MZ _ _ (nQ _),DY hl,ft]
theorem chunk (bs:LB) (a k:Nat) (h:a/8<bs.length) (hk:a%8+k<=8) :
  num bs/2^a%2^k=(bs.getD (a/8) 0).toNat/2^(a%8)%2^k:=by
 have e:num bs/2^a=num (bs.drop (a/8))/2^(a%8):=by rw[<-zc5 bs (a/8) (by omega),Lm,<-mU,KO]
 have hd:bs.drop (a/8)=bs[a/8]::bs.drop (a/8+1):=Al h;have hg:bs.getD (a/8) 0=bs[a/8]:=by simp[List.getD,h]
 rw[e,hd,hg,num];generalize num (bs.drop (a/8+1))=r;generalize (bs[a/8]).toNat=b;have zaB:256*r=2^(a%8)*(2^k*(2^(8-a%8-k)*r)):=by rw[<-uk,<-uk,<-mU,<-mU,show a%8+k+(8-a%8-k)=8 from by omega]
 rw[zaB,MZ _ _ (nQ _),Nat.add_mul_mod_self_left]
theorem more (x a i k:Nat):x/2^a%2^(i+k)=x/2^a%2^i+2^i*(x/2^(a+i)%2^k):=by rw[mU 2 i k,Nat.mod_mul,Lm,<-mU]
def kE:Nat->Nat->List UInt8
 | 0,_=>[]
 | k+1,m=>UInt8.ofNat m::kE k (m/256)
theorem SN:∀k m:Nat,(kE k m).length=k
 | 0,_=>rfl
 | k+1,m=>by simp[kE,SN k]
theorem Hk (k:Nat):2^(8*(k+1))=256*2^(8*k):=by rw[Ba,mU,mf]
theorem qzb:∀k m:Nat,num (kE k m)=m%2^(8*k)
 | 0,m=>by simp[kE,num,Nat.mod_one]
 | k+1,m=>by rw[kE,num,qzb k,Hk,Nat.mod_mul];simp[zk]
theorem VC:∀k m x:Nat,kE k (m+2^(8*k)*x)=kE k m
 | 0,m,x=>rfl
 | k+1,m,x=>by
  rw[kE,kE,Hk,uk];have h1:UInt8.ofNat (m+256*(2^(8*k)*x))=UInt8.ofNat m:=KS.1 (by simp[zk]);have h2:(m+256*(2^(8*k)*x))/256=m/256+2^(8*k)*x:=by omega
  rw[h1,h2,VC k]
theorem W5:∀k j m:Nat,kE (k+j) m=kE k m++kE j (m/2^(8*k))
 | 0,j,m=>by simp[kE]
 | k+1,j,m=>by rw[Nat.add_right_comm,kE,kE,W5 k j,zi,Lm,Hk]
theorem qvz (k m:Nat):kE (k+1) m=kE k m++[UInt8.ofNat (m/2^(8*k))]:=by rw[W5 k 1 m];simp[kE]
theorem RX:∀bs:List UInt8,kE bs.length (num bs)=bs
 | []=>rfl
 | b::r=>by
  have hb:b.toNat<256:=b.toNat_lt;rw[bU,kE,num];have h1:UInt8.ofNat (b.toNat+256*num r)=b:=KS.1 (by rw[zk];omega);have h2:(b.toNat+256*num r)/256=num r:=by omega
  rw[h1,h2,RX r]
theorem zgp {a b:LB} (hl:a.length=b.length) (h:num a=num b):a=b:=by rw[<-RX a,<-RX b,hl,h]
def j2 (v n:Nat):Nat->Nat
 | 0=>0
 | k+1=>j2 v n k+2^k*(v/2^(n-1-k)%2)
theorem za0 (M L v n k:Nat):M+2^L*j2 v n k+2^(L+k)*(v/2^(n-1-k)%2)=M+2^L*j2 v n (k+1):=by rw[j2,Ba,mU,uk,oW]
theorem zge (q M:Nat) (bs:LB) (hM:M<2^(8*q)):kE (q+bs.length) (M+2^(8*q)*num bs)=kE q M++bs:=by rw[W5,VC,MZ _ _ (nQ _),DY hM,ft,RX]
theorem ze2 (q M:Nat) (bs:LB) (hM:M<2^(8*q)):M+2^(8*q)*num bs<2^(8*q+8*bs.length):=by
 have h:=Vf bs;rw[mU];calc M+2^(8*q)*num bs<2^(8*q)+2^(8*q)*num bs:=by omega
  _=2^(8*q)*(num bs+1):=by rw[Ba,pI,Hg]
  _<=2^(8*q)*2^(8*bs.length):=Nat.mul_le_mul_left _ h
end bm
namespace bl
open Go bm
def sT (b:Bool):Nat:=if b then 1 else 0
def cG:List Bool->Nat
 | []=>0
 | b::t=>sT b+2*cG t
theorem M1 (b:Bool):sT b<2:=by cases b<;>decide
theorem FV:∀a b:List Bool,cG (a++b)=cG a+2^a.length*cG b
 | [],b=>by simp[cG]
 | x::a,b=>by rw[zi,cG,cG,FV a b,bU,pH];generalize 2^a.length=p;rw[mf p 2,uk];generalize p*cG b=q;omega
theorem qua:∀l:List Bool,cG l<2^l.length
 | []=>by simp[cG]
 | x::l=>by have:=qua l;have:=M1 x;rw[cG,bU,pH];omega
theorem zhh {a b:Bool} (h:sT a=sT b):a=b:=by cases a<;>cases b<;>simp_all [sT]
theorem qv3:∀{a b:List Bool},a.length=b.length->cG a=cG b->a=b
 | [],[],_,_=>rfl
 | [],_::_,h,_=>by simp at h
 | _::_,[],h,_=>by simp at h
 | x::a,y::b,h,hv=>by rw[cG,cG]at hv;have hx:=M1 x;have hy:=M1 y;rw[zhh (show sT x=sT y by omega),qv3 (by simpa using h) (show cG a=cG b by omega)]
def dM:Nat->Nat->List Bool
 | 0,_=>[]
 | n+1,x=>(x%2==1)::dM n (x/2)
theorem ax:∀n x:Nat,(dM n x).length=n
 | 0,_=>rfl
 | n+1,x=>by rw[dM,bU,ax]
theorem Vl (x:Nat):sT (x%2==1)=x%2:=by rcases Ls x with h|h<;>rw[h]<;>rfl
theorem Sb:∀n x:Nat,cG (dM n x)=x%2^n
 | 0,x=>by simp[dM,cG,Nat.mod_one]
 | n+1,x=>by rw[dM,cG,Sb n,Vl,pH,mf (2^n),Nat.mod_mul]
theorem qph:∀n:Nat,cG (List.replicate n false)=0
 | 0=>rfl
 | n+1=>by rw[List.replicate_succ,cG,qph n];rfl
def msb (n x:Nat):List Bool:=(dM n x).reverse
theorem FQ (n x:Nat):(msb n x).length=n:=by rw[msb,um,ax]
theorem Vr:∀(n x i:Nat) (h:i<(dM n x).length),(dM n x)[i]=(x/2^i%2==1)
 | 0,x,i,h=>by simp[dM]at h
 | n+1,x,0,_=>by simp[dM]
 | n+1,x,i+1,h=>by simp only[dM,List.getElem_cons_succ];rw[Vr n (x/2) i,Lm,pH,mf 2]
theorem qrq (x n:Nat):∀k,k<=n->cG ((msb n x).take k)=j2 x n k
 | 0,_=>by simp[cG,j2]
 | k+1,h=>by
  have hl:k<(msb n x).length:=by rw[FQ];omega
  rw[Ef hl,FV,qrq x n k (by omega),dU,FQ,uP (by omega),j2];congr 2;have e:(msb n x)[k]=(x/2^(n-1-k)%2==1):=by simp only[msb,List.getElem_reverse,ax];rw[Vr]
  rw[e,cG,cG,Nat.mul_zero,ie,Vl]
theorem zek (n x:Nat):cG (msb n x)=j2 x n n:=by have:=qrq x n n (ay _);rwa [mL (by rw[FQ];exact ay _)]at this
def au (bs:LB):List Bool:=bs.flatMap λc=>dM 8 c.toNat
theorem NW (c:UInt8) (bs:LB):au (c::bs)=dM 8 c.toNat++au bs:=rfl
theorem qlv (a b:LB):au (a++b)=au a++au b:=by unfold au;rw[Bm]
theorem uo:∀bs:List UInt8,(au bs).length=8*bs.length
 | []=>rfl
 | c::bs=>by rw[NW,aA,ax,uo bs,bU];omega
theorem Lq:∀bs:List UInt8,cG (au bs)=num bs
 | []=>rfl
 | c::bs=>by have:=iL c;rw[NW,FV,ax,Lq bs,Sb,num,x9 (by omega)]
def pad (n:Nat):Nat:=(8-n%8)%8
def eX (l:List Bool):List Bool:=l++List.replicate (pad l.length) false
theorem Ly (l:List Bool):(eX l).length=(l.length+7)/8*8:=by unfold eX pad;rw[aA,Am];omega
theorem qv2 (l:List Bool):cG (eX l)=cG l:=by unfold eX;rw[FV,qph];omega
def bytesOf (l:List Bool):List UInt8:=kE ((l.length+7)/8) (cG l)
theorem bytesOf_length (l:List Bool):(bytesOf l).length=(l.length+7)/8:=SN _ _
theorem qsm (l:List Bool):au (bytesOf l)=eX l:=by
 refine qv3 ?_ ?_
 ·rw[uo,bytesOf_length,Ly];omega
 ·have h1:=qua l;have h2:2^l.length<=2^(8*((l.length+7)/8)):=kh (by decide) (by omega);rw[Lq,qv2,bytesOf,qzb,x9 (by omega)]
theorem qyv (l:List Bool) (h:l.length%8=0):eX l=l:=by unfold eX pad;rw[h];simp
theorem qqq {a b:LB} (h:au a=au b):a=b:=by
 have hl:a.length=b.length:=by have:=congrArg List.length h;rw[uo,uo]at this;omega
 exact zgp hl (by rw[<-Lq,<-Lq,h])
end bl
namespace huf
open Go bm bl
def ae (ls:LN) (i:Nat):Nat:=ls[i]?.getD 0
def gZ (ls:LN):Nat->Nat
 | 0=>0
 | l+1=>2*(gZ ls l+if l=0 then 0 else ls.count l)
def code (ls:LN) (i:Nat):Nat:=gZ ls (ae ls i)+(ls.take i).count (ae ls i)
def share (ls:LN):Nat->Nat
 | 0=>0
 | l+1=>share ls l+if l=0 then 0 else ls.count l*2^(15-l)
def weight:List Nat->Nat
 | []=>0
 | l::t=>(if l=0 then 0 else 2^(15-l))+weight t
theorem Wn (ls:LN):∀l,l<=15->gZ ls l*2^(15-l)=share ls l
 | 0,_=>by simp[gZ,share]
 | l+1,h=>by
  have ih:=Wn ls l (by omega);have e:2^(15-l)=2*2^(15-(l+1)):=by rw[show 15-l=15-(l+1)+1 from by omega,pH,mf]
  rw[gZ,share,<-ih,e];generalize 2^(15-(l+1))=p;split<;>simp only[Ba,oV,ie,uk,Nat.mul_left_comm]
theorem qos (x:Nat) (t:LN):∀m,share (x::t) m=share t m+if 0<x/\x<m then 2^(15-x) else 0
 | 0=>by simp[share]
 | m+1=>by
  rw[share,share,qos x t m,List.count_cons];by_cases h0:m=0
  ·subst h0;simp only[if_true];rw[if_neg (by omega),if_neg (by omega)]
  ·rw[if_neg h0,if_neg h0];by_cases hx:x=m
   ·subst hx;simp only[beq_self_eq_true,if_true];rw[if_neg (by omega),if_pos (by omega),oV,DQ];omega
   ·have hb:(x==m)=false:=by simpa using hx
    rw[hb];simp only[Di,if_false,ie];by_cases hc:0<x/\x<m
    ·rw[if_pos hc,if_pos (by omega)];omega
    ·rw[if_neg hc,if_neg (by omega)];omega
theorem qq9:∀m,share [] m=0
 | 0=>rfl
 | m+1=>by rw[share,qq9 m];simp
theorem Xu:∀ls:List Nat,(∀l∈ls,l<=15)->share ls 16=weight ls
 | [],_=>qq9 16
 | x::t,h=>by
  have hx:=h x (by simp);rw[qos,weight,Xu t λl hl=>h l (by simp[hl])];by_cases h0:x=0
  ·rw[if_neg (by omega),if_pos h0];omega
  ·rw[if_pos (by omega),if_neg h0];omega
theorem qor (ls:LN):∀(k l:Nat),share ls l<=share ls (l+k)
 | 0,_=>ay _
 | k+1,l=>by have:=qor ls k l;rw[<-oW,share];omega
theorem VX (ls:LN) {l m:Nat} (h:l<=m):share ls l<=share ls m:=by obtain⟨k,rfl⟩:∃k,m=l+k:=⟨m-l,by omega⟩;exact qor ls k l
theorem Ag {ls:LN} {i:Nat} (h:0<ae ls i):i<ls.length:=by
 unfold ae at h;rcases kI i ls.length with k|k
 ·exact k
 ·rw[nU k]at h;simp at h
theorem FG {ls:LN} {i:Nat} (h:i<ls.length):ae ls i∈ls:=by unfold ae;rw[br h];exact tk h
theorem Ta (ls:LN) (i x:Nat) (h:i<ls.length):(ls.take (i+1)).count x=(ls.take i).count x+if ae ls i=x then 1 else 0:=by rw[Ef h,FF,List.count_singleton];unfold ae;rw[br h];simp only[Bi,beq_iff_eq]
theorem qqn (ls:LN) (i x:Nat):(ls.take i).count x<=ls.count x:=(List.take_sublist i ls).count_le x
theorem qn6 (ls:LN) (x:Nat) {i j:Nat} (h:i<=j):(ls.take i).count x<=(ls.take j).count x:=by
 have:ls.take i=(ls.take j).take i:=by rw[Hx,uP h]
 rw[this];exact (List.take_sublist i (ls.take j)).count_le x
def lo (ls:LN) (i:Nat):Nat:=code ls i*2^(15-ae ls i)
theorem zh5 (ls:LN) (i:Nat) (h:ae ls i<=15):lo ls i=share ls (ae ls i)+(ls.take i).count (ae ls i)*2^(15-ae ls i):=by rw[lo,code,oV,Wn ls _ h]
theorem zif (ls:LN) (i:Nat) (h0:0<ae ls i) (h:ae ls i<=15):lo ls i+2^(15-ae ls i)<=share ls (ae ls i+1):=by have hi:=Ag h0;have h1:=Ta ls i (ae ls i) hi;rw[if_pos rfl]at h1;have h2:=qqn ls (i+1) (ae ls i);rw[zh5 ls i h,share,if_neg (by omega)];have h3:((ls.take i).count (ae ls i)+1)*2^(15-ae ls i)<=ls.count (ae ls i)*2^(15-ae ls i):=uN _ (by omega);rw[oV,DQ]at h3;omega
theorem zde (ls:LN) {i j:Nat} (h0:0<ae ls i) (h:ae ls i<ae ls j) (hj:ae ls j<=15):lo ls i+2^(15-ae ls i)<=lo ls j:=by have h1:=zif ls i h0 (by omega);have h2:=VX ls (show ae ls i+1<=ae ls j from h);have h3:=zh5 ls j hj;omega
theorem zed (ls:LN) {i j:Nat} (h0:0<ae ls i) (h:ae ls i=ae ls j) (hc:code ls i=code ls j):i=j:=by
 have key:∀{i j:Nat},0<ae ls i->ae ls i=ae ls j->code ls i=code ls j->¬i<j:=λ{i j} h0 h hc mO=>by have h1:=Ta ls i (ae ls i) (Ag h0);rw[if_pos rfl]at h1;have h2:=qn6 ls (ae ls i) (show i+1<=j from mO);unfold code at hc;rw[<-h]at hc;omega
 rcases Nat.lt_trichotomy i j with k|k|k
 ·exact absurd k (key h0 h hc)
 ·exact k
 ·exact absurd k (key (by omega) h.symm hc.symm)
theorem za1 (ls:LN) (i:Nat) (hle:∀l∈ls,l<=15) (hw:weight ls<=32768) (h0:0<ae ls i):code ls i<2^ae ls i:=by
 have pz:=hle _ (FG (Ag h0));have h1:=zif ls i h0 pz;have h2:=VX ls (show ae ls i+1<=16 by omega);rw[Xu ls hle]at h2;unfold lo at h1;have e:2^15=2^ae ls i*2^(15-ae ls i):=by rw[<-mU];congr 1;omega
 have h3:(code ls i+1)*2^(15-ae ls i)<=2^ae ls i*2^(15-ae ls i):=by rw[<-e,oV,DQ];exact ck (ck h1 h2) hw
 have:=Nat.le_of_mul_le_mul_right h3 (nQ _);omega
def iq (ls:LN) (n v:Nat):Option Nat:=(List.range ls.length).find? λi=>decide (0<n)&&(ae ls i==n&&code ls i==v)
def ef (ls:LN) (n v:Nat):Bool:=(List.range ls.length).any λi=>decide (n<ae ls i)&&code ls i/2^(ae ls i-n)==v
def cu (ls:LN):Nat->Nat->Nat->List Bool->Nat×Nat×Nat
 | 0,n,v,_=>match iq ls n v with
  | some s=>(s,n,0)
  | none=>(0,n,3)
 | f+1,n,v,bits=>match iq ls n v with
  | some s=>(s,n,0)
  | none=>if ef ls n v then (match bits with
   | []=>(0,n,4)
   | b::t=>cu ls f (n+1) (2*v+sT b) t) else (0,n,3)
theorem Ln {ls:LN} {f n v s:Nat} {bits:List Bool} (h:iq ls n v=some s):cu ls f n v bits=(s,n,0):=by cases f<;>simp[cu,h]
theorem SP {ls:LN} {f n v:Nat} {b:Bool} {t:List Bool} (h:iq ls n v=none) (hm:ef ls n v=true):cu ls (f+1) n v (b::t)=cu ls f (n+1) (2*v+sT b) t:=by simp[cu,h,hm]
theorem Xk {ls:LN} {f n v:Nat} (h:iq ls n v=none) (hm:ef ls n v=true):cu ls (f+1) n v []=(0,n,4):=by simp[cu,h,hm]
theorem Xi {ls:LN} {f n v:Nat} {bits:List Bool} (h:iq ls n v=none) (hm:ef ls n v=false):cu ls f n v bits=(0,n,3):=by cases f<;>simp[cu,h,hm]
theorem Wc {ls:LN} {n v:Nat} {bits:List Bool} (h:iq ls n v=none):cu ls 0 n v bits=(0,n,3):=by simp[cu,h]
theorem qz7 (ls:LN) (s:Nat) (h0:0<ae ls s):iq ls (ae ls s) (code ls s)=some s:=by
 unfold iq;cases hf:(List.range ls.length).find? λi=>decide (0<ae ls s)&&(ae ls i==ae ls s&&code ls i==code ls s) with
 | none=>
  have:=KZ.1 hf s (td.2 (Ag h0));simp[h0]at this
 | some i=>have h1:=List.find?_some hf;simp only[lQ,decide_eq_true_eq,beq_iff_eq]at h1;rw[zed ls (by omega) h1.2.1 h1.2.2]
theorem qw2 (ls:LN) (s n:Nat) (h0:0<ae ls s) (pz:ae ls s<=15) (hn:n<ae ls s):iq ls n (code ls s/2^(ae ls s-n))=none:=by
 unfold iq;refine KZ.2 λi _=>?_
 simp only[lQ,decide_eq_true_eq,beq_iff_eq,not_and];intro pL hi hc;have h1:=zde ls (i:=i) (j:=s) (by omega) (by omega) pz;unfold lo at h1;rw[hi,hc]at h1;have e:2^(15-n)=2^(ae ls s-n)*2^(15-ae ls s):=by rw[<-mU];congr 1;omega
 rw[e]at h1;have h2:(code ls s/2^(ae ls s-n)+1)*2^(ae ls s-n)*2^(15-ae ls s)<=code ls s*2^(15-ae ls s):=by rw[oV,DQ,oV,uk];exact h1
 have h3:=Nat.le_of_mul_le_mul_right h2 (nQ _);have h4:=Nat.lt_div_mul_add (a:=code ls s) (nQ (ae ls s-n));rw[oV,DQ]at h3;omega
theorem qtz (ls:LN) (s n:Nat) (hn:n<ae ls s):ef ls n (code ls s/2^(ae ls s-n))=true:=by unfold ef;refine List.any_eq_true.2 ⟨s,td.2 (Ag (by omega)),?_⟩;simp[hn]
theorem qo5 (ls:LN) (s:Nat) (hle:∀l∈ls,l<=15) (h0:0<ae ls s) (rest:List Bool):∀(k f n:Nat),n+k=ae ls s->ae ls s<=n+f->
  cu ls f n (code ls s/2^(ae ls s-n)) ((msb (ae ls s) (code ls s)).drop n++rest)=(s,ae ls s,0)
 | 0,f,n,h1,h2=>by
  obtain rfl:n=ae ls s:=by omega
  rw[DS,Nat.pow_zero,Nat.div_one];exact Ln (qz7 ls s h0)
 | k+1,f,n,h1,h2=>by
  have pz:=hle _ (FG (Ag h0));obtain⟨f,rfl⟩:∃g,f=g+1:=⟨f-1,by omega⟩;have hl:n<(msb (ae ls s) (code ls s)).length:=by rw[FQ];omega
  have hb:(msb (ae ls s) (code ls s))[n]=(code ls s/2^(ae ls s-1-n)%2==1):=by simp only[msb,List.getElem_reverse,ax];rw[Vr]
  rw[Al hl,zi,SP (qw2 ls s n h0 pz (by omega)) (qtz ls s n (by omega))];have hv:2*(code ls s/2^(ae ls s-n))+sT (msb (ae ls s) (code ls s))[n]=code ls s/2^(ae ls s-(n+1)):=by rw[hb,Vl,show ae ls s-n=ae ls s-(n+1)+1 from by omega,show ae ls s-1-n=ae ls s-(n+1) from by omega,pH,<-Lm];omega
  rw[hv];exact qo5 ls s hle h0 rest k f (n+1) (by omega) (by omega)
def read (ls:LN) (bits:List Bool):Nat×Nat×Nat:=cu ls 15 0 0 bits
theorem qyn (ls:LN) (s:Nat) (hle:∀l∈ls,l<=15) (hw:weight ls<=32768) (h0:0<ae ls s) (rest:List Bool):read ls (msb (ae ls s) (code ls s)++rest)=(s,ae ls s,0):=by have pz:=hle _ (FG (Ag h0));have:=qo5 ls s hle h0 rest (ae ls s) 15 0 (by omega) (by omega);rw[DT,DY (za1 ls s hle hw h0),yf]at this;exact this
end huf

end Go.Proofs.YtkmpfgpfbmeihaaGreatDoor