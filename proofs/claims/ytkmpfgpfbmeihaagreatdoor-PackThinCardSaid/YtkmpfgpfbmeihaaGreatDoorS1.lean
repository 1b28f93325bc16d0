/-
  Texts of this proof, one behind the other: Lib, Append, Ops, Ops2, Args, Args2, Bytes, PackLaw, BitsMath, BitList, HuffLaw.
-/
import Derived.Test.YtkmpfgpfbmeihaaGreatDoorRows
import Derived.WalkKit
import Derived.ProofKit
import Derived.OpenShut
import Derived.BigQuiet
import Derived.Lib.Hide
import Derived.ShutString
import Derived.Maps.AppendAt
import Derived.Deep.RegionLaw
import Derived.SizedLaws
import Derived.Deep.CondSized
import Derived.JoinedCond
import Derived.ChangeOld
set_option maxHeartbeats 16000000
set_option maxRecDepth 100000
set_option linter.unusedVariables false
set_option linter.unusedSimpArgs false
namespace Go.Proofs.YtkmpfgpfbmeihaaGreatDoor
theorem zex {α : Sort _} (a : α) : ∃ x, x = a := ⟨a, rfl⟩
theorem zhd {p : Prop} (h : p) : Go.RowKit.Hid p := h
theorem zhd2 {p0 p1 : Prop} (h0 : p0) (h1 : p1) : Go.RowKit.Hid (p0 ∧ p1) := (⟨h0, h1⟩ : p0 ∧ p1)
theorem zhd3 {p0 p1 p2 : Prop} (h0 : p0) (h1 : p1) (h2 : p2) : Go.RowKit.Hid (p0 ∧ p1 ∧ p2) := (⟨h0, h1, h2⟩ : p0 ∧ p1 ∧ p2)
theorem zhd4 {p0 p1 p2 p3 : Prop} (h0 : p0) (h1 : p1) (h2 : p2) (h3 : p3) : Go.RowKit.Hid (p0 ∧ p1 ∧ p2 ∧ p3) := (⟨h0, h1, h2, h3⟩ : p0 ∧ p1 ∧ p2 ∧ p3)
theorem zhd5 {p0 p1 p2 p3 p4 : Prop} (h0 : p0) (h1 : p1) (h2 : p2) (h3 : p3) (h4 : p4) : Go.RowKit.Hid (p0 ∧ p1 ∧ p2 ∧ p3 ∧ p4) := (⟨h0, h1, h2, h3, h4⟩ : p0 ∧ p1 ∧ p2 ∧ p3 ∧ p4)
theorem zhd6 {p0 p1 p2 p3 p4 p5 : Prop} (h0 : p0) (h1 : p1) (h2 : p2) (h3 : p3) (h4 : p4) (h5 : p5) : Go.RowKit.Hid (p0 ∧ p1 ∧ p2 ∧ p3 ∧ p4 ∧ p5) := (⟨h0, h1, h2, h3, h4, h5⟩ : p0 ∧ p1 ∧ p2 ∧ p3 ∧ p4 ∧ p5)
theorem zhd7 {p0 p1 p2 p3 p4 p5 p6 : Prop} (h0 : p0) (h1 : p1) (h2 : p2) (h3 : p3) (h4 : p4) (h5 : p5) (h6 : p6) : Go.RowKit.Hid (p0 ∧ p1 ∧ p2 ∧ p3 ∧ p4 ∧ p5 ∧ p6) := (⟨h0, h1, h2, h3, h4, h5, h6⟩ : p0 ∧ p1 ∧ p2 ∧ p3 ∧ p4 ∧ p5 ∧ p6)
theorem zhd8 {p0 p1 p2 p3 p4 p5 p6 p7 : Prop} (h0 : p0) (h1 : p1) (h2 : p2) (h3 : p3) (h4 : p4) (h5 : p5) (h6 : p6) (h7 : p7) : Go.RowKit.Hid (p0 ∧ p1 ∧ p2 ∧ p3 ∧ p4 ∧ p5 ∧ p6 ∧ p7) := (⟨h0, h1, h2, h3, h4, h5, h6, h7⟩ : p0 ∧ p1 ∧ p2 ∧ p3 ∧ p4 ∧ p5 ∧ p6 ∧ p7)
theorem zhd9 {p0 p1 p2 p3 p4 p5 p6 p7 p8 : Prop} (h0 : p0) (h1 : p1) (h2 : p2) (h3 : p3) (h4 : p4) (h5 : p5) (h6 : p6) (h7 : p7) (h8 : p8) : Go.RowKit.Hid (p0 ∧ p1 ∧ p2 ∧ p3 ∧ p4 ∧ p5 ∧ p6 ∧ p7 ∧ p8) := (⟨h0, h1, h2, h3, h4, h5, h6, h7, h8⟩ : p0 ∧ p1 ∧ p2 ∧ p3 ∧ p4 ∧ p5 ∧ p6 ∧ p7 ∧ p8)
theorem zhd10 {p0 p1 p2 p3 p4 p5 p6 p7 p8 p9 : Prop} (h0 : p0) (h1 : p1) (h2 : p2) (h3 : p3) (h4 : p4) (h5 : p5) (h6 : p6) (h7 : p7) (h8 : p8) (h9 : p9) : Go.RowKit.Hid (p0 ∧ p1 ∧ p2 ∧ p3 ∧ p4 ∧ p5 ∧ p6 ∧ p7 ∧ p8 ∧ p9) := (⟨h0, h1, h2, h3, h4, h5, h6, h7, h8, h9⟩ : p0 ∧ p1 ∧ p2 ∧ p3 ∧ p4 ∧ p5 ∧ p6 ∧ p7 ∧ p8 ∧ p9)
theorem zhd11 {p0 p1 p2 p3 p4 p5 p6 p7 p8 p9 p10 : Prop} (h0 : p0) (h1 : p1) (h2 : p2) (h3 : p3) (h4 : p4) (h5 : p5) (h6 : p6) (h7 : p7) (h8 : p8) (h9 : p9) (h10 : p10) : Go.RowKit.Hid (p0 ∧ p1 ∧ p2 ∧ p3 ∧ p4 ∧ p5 ∧ p6 ∧ p7 ∧ p8 ∧ p9 ∧ p10) := (⟨h0, h1, h2, h3, h4, h5, h6, h7, h8, h9, h10⟩ : p0 ∧ p1 ∧ p2 ∧ p3 ∧ p4 ∧ p5 ∧ p6 ∧ p7 ∧ p8 ∧ p9 ∧ p10)
theorem zhd12 {p0 p1 p2 p3 p4 p5 p6 p7 p8 p9 p10 p11 : Prop} (h0 : p0) (h1 : p1) (h2 : p2) (h3 : p3) (h4 : p4) (h5 : p5) (h6 : p6) (h7 : p7) (h8 : p8) (h9 : p9) (h10 : p10) (h11 : p11) : Go.RowKit.Hid (p0 ∧ p1 ∧ p2 ∧ p3 ∧ p4 ∧ p5 ∧ p6 ∧ p7 ∧ p8 ∧ p9 ∧ p10 ∧ p11) := (⟨h0, h1, h2, h3, h4, h5, h6, h7, h8, h9, h10, h11⟩ : p0 ∧ p1 ∧ p2 ∧ p3 ∧ p4 ∧ p5 ∧ p6 ∧ p7 ∧ p8 ∧ p9 ∧ p10 ∧ p11)
theorem zhd13 {p0 p1 p2 p3 p4 p5 p6 p7 p8 p9 p10 p11 p12 : Prop} (h0 : p0) (h1 : p1) (h2 : p2) (h3 : p3) (h4 : p4) (h5 : p5) (h6 : p6) (h7 : p7) (h8 : p8) (h9 : p9) (h10 : p10) (h11 : p11) (h12 : p12) : Go.RowKit.Hid (p0 ∧ p1 ∧ p2 ∧ p3 ∧ p4 ∧ p5 ∧ p6 ∧ p7 ∧ p8 ∧ p9 ∧ p10 ∧ p11 ∧ p12) := (⟨h0, h1, h2, h3, h4, h5, h6, h7, h8, h9, h10, h11, h12⟩ : p0 ∧ p1 ∧ p2 ∧ p3 ∧ p4 ∧ p5 ∧ p6 ∧ p7 ∧ p8 ∧ p9 ∧ p10 ∧ p11 ∧ p12)
theorem zhd14 {p0 p1 p2 p3 p4 p5 p6 p7 p8 p9 p10 p11 p12 p13 : Prop} (h0 : p0) (h1 : p1) (h2 : p2) (h3 : p3) (h4 : p4) (h5 : p5) (h6 : p6) (h7 : p7) (h8 : p8) (h9 : p9) (h10 : p10) (h11 : p11) (h12 : p12) (h13 : p13) : Go.RowKit.Hid (p0 ∧ p1 ∧ p2 ∧ p3 ∧ p4 ∧ p5 ∧ p6 ∧ p7 ∧ p8 ∧ p9 ∧ p10 ∧ p11 ∧ p12 ∧ p13) := (⟨h0, h1, h2, h3, h4, h5, h6, h7, h8, h9, h10, h11, h12, h13⟩ : p0 ∧ p1 ∧ p2 ∧ p3 ∧ p4 ∧ p5 ∧ p6 ∧ p7 ∧ p8 ∧ p9 ∧ p10 ∧ p11 ∧ p12 ∧ p13)
theorem zhd15 {p0 p1 p2 p3 p4 p5 p6 p7 p8 p9 p10 p11 p12 p13 p14 : Prop} (h0 : p0) (h1 : p1) (h2 : p2) (h3 : p3) (h4 : p4) (h5 : p5) (h6 : p6) (h7 : p7) (h8 : p8) (h9 : p9) (h10 : p10) (h11 : p11) (h12 : p12) (h13 : p13) (h14 : p14) : Go.RowKit.Hid (p0 ∧ p1 ∧ p2 ∧ p3 ∧ p4 ∧ p5 ∧ p6 ∧ p7 ∧ p8 ∧ p9 ∧ p10 ∧ p11 ∧ p12 ∧ p13 ∧ p14) := (⟨h0, h1, h2, h3, h4, h5, h6, h7, h8, h9, h10, h11, h12, h13, h14⟩ : p0 ∧ p1 ∧ p2 ∧ p3 ∧ p4 ∧ p5 ∧ p6 ∧ p7 ∧ p8 ∧ p9 ∧ p10 ∧ p11 ∧ p12 ∧ p13 ∧ p14)
theorem zhd16 {p0 p1 p2 p3 p4 p5 p6 p7 p8 p9 p10 p11 p12 p13 p14 p15 : Prop} (h0 : p0) (h1 : p1) (h2 : p2) (h3 : p3) (h4 : p4) (h5 : p5) (h6 : p6) (h7 : p7) (h8 : p8) (h9 : p9) (h10 : p10) (h11 : p11) (h12 : p12) (h13 : p13) (h14 : p14) (h15 : p15) : Go.RowKit.Hid (p0 ∧ p1 ∧ p2 ∧ p3 ∧ p4 ∧ p5 ∧ p6 ∧ p7 ∧ p8 ∧ p9 ∧ p10 ∧ p11 ∧ p12 ∧ p13 ∧ p14 ∧ p15) := (⟨h0, h1, h2, h3, h4, h5, h6, h7, h8, h9, h10, h11, h12, h13, h14, h15⟩ : p0 ∧ p1 ∧ p2 ∧ p3 ∧ p4 ∧ p5 ∧ p6 ∧ p7 ∧ p8 ∧ p9 ∧ p10 ∧ p11 ∧ p12 ∧ p13 ∧ p14 ∧ p15)
theorem _root_.Go.RowKit.Hid.o0 {p0 q : Prop} (h : Go.RowKit.Hid (p0 ∧ q)) : p0 := h.out.1
theorem _root_.Go.RowKit.Hid.o1 {p0 p1 q : Prop} (h : Go.RowKit.Hid (p0 ∧ p1 ∧ q)) : p1 := h.out.2.1
theorem _root_.Go.RowKit.Hid.o2 {p0 p1 p2 q : Prop} (h : Go.RowKit.Hid (p0 ∧ p1 ∧ p2 ∧ q)) : p2 := h.out.2.2.1
theorem _root_.Go.RowKit.Hid.o3 {p0 p1 p2 p3 q : Prop} (h : Go.RowKit.Hid (p0 ∧ p1 ∧ p2 ∧ p3 ∧ q)) : p3 := h.out.2.2.2.1
theorem _root_.Go.RowKit.Hid.o4 {p0 p1 p2 p3 p4 q : Prop} (h : Go.RowKit.Hid (p0 ∧ p1 ∧ p2 ∧ p3 ∧ p4 ∧ q)) : p4 := h.out.2.2.2.2.1
theorem _root_.Go.RowKit.Hid.o5 {p0 p1 p2 p3 p4 p5 q : Prop} (h : Go.RowKit.Hid (p0 ∧ p1 ∧ p2 ∧ p3 ∧ p4 ∧ p5 ∧ q)) : p5 := h.out.2.2.2.2.2.1
theorem _root_.Go.RowKit.Hid.o6 {p0 p1 p2 p3 p4 p5 p6 q : Prop} (h : Go.RowKit.Hid (p0 ∧ p1 ∧ p2 ∧ p3 ∧ p4 ∧ p5 ∧ p6 ∧ q)) : p6 := h.out.2.2.2.2.2.2.1
theorem _root_.Go.RowKit.Hid.o7 {p0 p1 p2 p3 p4 p5 p6 p7 q : Prop} (h : Go.RowKit.Hid (p0 ∧ p1 ∧ p2 ∧ p3 ∧ p4 ∧ p5 ∧ p6 ∧ p7 ∧ q)) : p7 := h.out.2.2.2.2.2.2.2.1
theorem _root_.Go.RowKit.Hid.o8 {p0 p1 p2 p3 p4 p5 p6 p7 p8 q : Prop} (h : Go.RowKit.Hid (p0 ∧ p1 ∧ p2 ∧ p3 ∧ p4 ∧ p5 ∧ p6 ∧ p7 ∧ p8 ∧ q)) : p8 := h.out.2.2.2.2.2.2.2.2.1
theorem _root_.Go.RowKit.Hid.o9 {p0 p1 p2 p3 p4 p5 p6 p7 p8 p9 q : Prop} (h : Go.RowKit.Hid (p0 ∧ p1 ∧ p2 ∧ p3 ∧ p4 ∧ p5 ∧ p6 ∧ p7 ∧ p8 ∧ p9 ∧ q)) : p9 := h.out.2.2.2.2.2.2.2.2.2.1
theorem _root_.Go.RowKit.Hid.o10 {p0 p1 p2 p3 p4 p5 p6 p7 p8 p9 p10 q : Prop} (h : Go.RowKit.Hid (p0 ∧ p1 ∧ p2 ∧ p3 ∧ p4 ∧ p5 ∧ p6 ∧ p7 ∧ p8 ∧ p9 ∧ p10 ∧ q)) : p10 := h.out.2.2.2.2.2.2.2.2.2.2.1
theorem _root_.Go.RowKit.Hid.o11 {p0 p1 p2 p3 p4 p5 p6 p7 p8 p9 p10 p11 q : Prop} (h : Go.RowKit.Hid (p0 ∧ p1 ∧ p2 ∧ p3 ∧ p4 ∧ p5 ∧ p6 ∧ p7 ∧ p8 ∧ p9 ∧ p10 ∧ p11 ∧ q)) : p11 := h.out.2.2.2.2.2.2.2.2.2.2.2.1
theorem _root_.Go.RowKit.Hid.o12 {p0 p1 p2 p3 p4 p5 p6 p7 p8 p9 p10 p11 p12 q : Prop} (h : Go.RowKit.Hid (p0 ∧ p1 ∧ p2 ∧ p3 ∧ p4 ∧ p5 ∧ p6 ∧ p7 ∧ p8 ∧ p9 ∧ p10 ∧ p11 ∧ p12 ∧ q)) : p12 := h.out.2.2.2.2.2.2.2.2.2.2.2.2.1
theorem _root_.Go.RowKit.Hid.o13 {p0 p1 p2 p3 p4 p5 p6 p7 p8 p9 p10 p11 p12 p13 q : Prop} (h : Go.RowKit.Hid (p0 ∧ p1 ∧ p2 ∧ p3 ∧ p4 ∧ p5 ∧ p6 ∧ p7 ∧ p8 ∧ p9 ∧ p10 ∧ p11 ∧ p12 ∧ p13 ∧ q)) : p13 := h.out.2.2.2.2.2.2.2.2.2.2.2.2.2.1
theorem _root_.Go.RowKit.Hid.o14 {p0 p1 p2 p3 p4 p5 p6 p7 p8 p9 p10 p11 p12 p13 p14 q : Prop} (h : Go.RowKit.Hid (p0 ∧ p1 ∧ p2 ∧ p3 ∧ p4 ∧ p5 ∧ p6 ∧ p7 ∧ p8 ∧ p9 ∧ p10 ∧ p11 ∧ p12 ∧ p13 ∧ p14 ∧ q)) : p14 := h.out.2.2.2.2.2.2.2.2.2.2.2.2.2.2.1
theorem _root_.Go.RowKit.Hid.o15 {p0 p1 p2 p3 p4 p5 p6 p7 p8 p9 p10 p11 p12 p13 p14 p15 q : Prop} (h : Go.RowKit.Hid (p0 ∧ p1 ∧ p2 ∧ p3 ∧ p4 ∧ p5 ∧ p6 ∧ p7 ∧ p8 ∧ p9 ∧ p10 ∧ p11 ∧ p12 ∧ p13 ∧ p14 ∧ p15 ∧ q)) : p15 := h.out.2.2.2.2.2.2.2.2.2.2.2.2.2.2.2.1
theorem _root_.Go.RowKit.Hid.l1 {p0 p1 : Prop} (h : Go.RowKit.Hid (p0 ∧ p1)) : p1 := h.out.2
theorem _root_.Go.RowKit.Hid.l2 {p0 p1 p2 : Prop} (h : Go.RowKit.Hid (p0 ∧ p1 ∧ p2)) : p2 := h.out.2.2
theorem _root_.Go.RowKit.Hid.l3 {p0 p1 p2 p3 : Prop} (h : Go.RowKit.Hid (p0 ∧ p1 ∧ p2 ∧ p3)) : p3 := h.out.2.2.2
theorem _root_.Go.RowKit.Hid.l4 {p0 p1 p2 p3 p4 : Prop} (h : Go.RowKit.Hid (p0 ∧ p1 ∧ p2 ∧ p3 ∧ p4)) : p4 := h.out.2.2.2.2
theorem _root_.Go.RowKit.Hid.l5 {p0 p1 p2 p3 p4 p5 : Prop} (h : Go.RowKit.Hid (p0 ∧ p1 ∧ p2 ∧ p3 ∧ p4 ∧ p5)) : p5 := h.out.2.2.2.2.2
theorem _root_.Go.RowKit.Hid.l6 {p0 p1 p2 p3 p4 p5 p6 : Prop} (h : Go.RowKit.Hid (p0 ∧ p1 ∧ p2 ∧ p3 ∧ p4 ∧ p5 ∧ p6)) : p6 := h.out.2.2.2.2.2.2
theorem _root_.Go.RowKit.Hid.l7 {p0 p1 p2 p3 p4 p5 p6 p7 : Prop} (h : Go.RowKit.Hid (p0 ∧ p1 ∧ p2 ∧ p3 ∧ p4 ∧ p5 ∧ p6 ∧ p7)) : p7 := h.out.2.2.2.2.2.2.2
theorem _root_.Go.RowKit.Hid.l8 {p0 p1 p2 p3 p4 p5 p6 p7 p8 : Prop} (h : Go.RowKit.Hid (p0 ∧ p1 ∧ p2 ∧ p3 ∧ p4 ∧ p5 ∧ p6 ∧ p7 ∧ p8)) : p8 := h.out.2.2.2.2.2.2.2.2
theorem _root_.Go.RowKit.Hid.l9 {p0 p1 p2 p3 p4 p5 p6 p7 p8 p9 : Prop} (h : Go.RowKit.Hid (p0 ∧ p1 ∧ p2 ∧ p3 ∧ p4 ∧ p5 ∧ p6 ∧ p7 ∧ p8 ∧ p9)) : p9 := h.out.2.2.2.2.2.2.2.2.2
theorem _root_.Go.RowKit.Hid.l10 {p0 p1 p2 p3 p4 p5 p6 p7 p8 p9 p10 : Prop} (h : Go.RowKit.Hid (p0 ∧ p1 ∧ p2 ∧ p3 ∧ p4 ∧ p5 ∧ p6 ∧ p7 ∧ p8 ∧ p9 ∧ p10)) : p10 := h.out.2.2.2.2.2.2.2.2.2.2
theorem _root_.Go.RowKit.Hid.l11 {p0 p1 p2 p3 p4 p5 p6 p7 p8 p9 p10 p11 : Prop} (h : Go.RowKit.Hid (p0 ∧ p1 ∧ p2 ∧ p3 ∧ p4 ∧ p5 ∧ p6 ∧ p7 ∧ p8 ∧ p9 ∧ p10 ∧ p11)) : p11 := h.out.2.2.2.2.2.2.2.2.2.2.2
theorem _root_.Go.RowKit.Hid.l12 {p0 p1 p2 p3 p4 p5 p6 p7 p8 p9 p10 p11 p12 : Prop} (h : Go.RowKit.Hid (p0 ∧ p1 ∧ p2 ∧ p3 ∧ p4 ∧ p5 ∧ p6 ∧ p7 ∧ p8 ∧ p9 ∧ p10 ∧ p11 ∧ p12)) : p12 := h.out.2.2.2.2.2.2.2.2.2.2.2.2
theorem _root_.Go.RowKit.Hid.l13 {p0 p1 p2 p3 p4 p5 p6 p7 p8 p9 p10 p11 p12 p13 : Prop} (h : Go.RowKit.Hid (p0 ∧ p1 ∧ p2 ∧ p3 ∧ p4 ∧ p5 ∧ p6 ∧ p7 ∧ p8 ∧ p9 ∧ p10 ∧ p11 ∧ p12 ∧ p13)) : p13 := h.out.2.2.2.2.2.2.2.2.2.2.2.2.2
theorem _root_.Go.RowKit.Hid.l14 {p0 p1 p2 p3 p4 p5 p6 p7 p8 p9 p10 p11 p12 p13 p14 : Prop} (h : Go.RowKit.Hid (p0 ∧ p1 ∧ p2 ∧ p3 ∧ p4 ∧ p5 ∧ p6 ∧ p7 ∧ p8 ∧ p9 ∧ p10 ∧ p11 ∧ p12 ∧ p13 ∧ p14)) : p14 := h.out.2.2.2.2.2.2.2.2.2.2.2.2.2.2
theorem _root_.Go.RowKit.Hid.l15 {p0 p1 p2 p3 p4 p5 p6 p7 p8 p9 p10 p11 p12 p13 p14 p15 : Prop} (h : Go.RowKit.Hid (p0 ∧ p1 ∧ p2 ∧ p3 ∧ p4 ∧ p5 ∧ p6 ∧ p7 ∧ p8 ∧ p9 ∧ p10 ∧ p11 ∧ p12 ∧ p13 ∧ p14 ∧ p15)) : p15 := h.out.2.2.2.2.2.2.2.2.2.2.2.2.2.2.2
theorem qaa:type_of% @Array.getElem?_setIfInBounds_ne:=@Array.getElem?_setIfInBounds_ne
theorem qab:type_of% @List.length_append:=@List.length_append
theorem qac:type_of% @List.getElem?_cons_zero:=@List.getElem?_cons_zero
theorem qad:type_of% @List.drop_succ_cons:=@List.drop_succ_cons
theorem qae:type_of% @Nat.le_refl:=@Nat.le_refl
theorem qaf:type_of% @List.getElem?_cons_succ:=@List.getElem?_cons_succ
theorem qag:type_of% @List.getElem?_toArray:=@List.getElem?_toArray
theorem qah:type_of% @List.take_succ_cons:=@List.take_succ_cons
theorem qai:type_of% @List.getElem?_eq_getElem:=@List.getElem?_eq_getElem
theorem qaj:type_of% @List.drop_zero:=@List.drop_zero
theorem qak:type_of% @List.map_cons:=@List.map_cons
theorem qal:type_of% @Array.getElem?_setIfInBounds_self_of_lt:=@Array.getElem?_setIfInBounds_self_of_lt
theorem qam:type_of% @List.map_nil:=@List.map_nil
theorem qan:type_of% @List.take_zero:=@List.take_zero
theorem qao:type_of% @List.length_cons:=@List.length_cons
theorem qap:type_of% @List.length_map:=@List.length_map
theorem qaq:type_of% @List.length_take:=@List.length_take
theorem qar:type_of% @Nat.le_trans:=@Nat.le_trans
theorem qas:type_of% @List.append_assoc:=@List.append_assoc
theorem qat:type_of% @Nat.lt_of_lt_of_le:=@Nat.lt_of_lt_of_le
theorem qav:type_of% @List.length_drop:=@List.length_drop
theorem qaw:type_of% @Option.some.injEq:=@Option.some.injEq
theorem qaz:type_of% @List.getD_cons_zero:=@List.getD_cons_zero
theorem qa0:type_of% @List.getD_cons_succ:=@List.getD_cons_succ
theorem qa1:type_of% @Go.World.size_alloc:=@Go.World.size_alloc
theorem qa2:type_of% @List.mem_singleton:=@List.mem_singleton
theorem qa3:type_of% @Nat.pow_le_pow_right:=@Nat.pow_le_pow_right
theorem qa4:type_of% @Prod.mk.injEq:=@Prod.mk.injEq
theorem qa5:type_of% @Nat.zero_le:=@Nat.zero_le
theorem qa6:type_of% @Except.ok.injEq:=@Except.ok.injEq
theorem qa8:type_of% @List.mem_of_getElem?:=@List.mem_of_getElem?
theorem qa9:type_of% @List.getElem?_eq_some_iff:=@List.getElem?_eq_some_iff
theorem qbb:type_of% @List.setIfInBounds_toArray:=@List.setIfInBounds_toArray
theorem qbc:type_of% @UInt8.toNat_lt:=@UInt8.toNat_lt
theorem qbd:type_of% @List.take_of_length_le:=@List.take_of_length_le
theorem qbe:type_of% @List.map_append:=@List.map_append
theorem qbf:type_of% @Array.size_setIfInBounds:=@Array.size_setIfInBounds
theorem qbg:type_of% @Nat.zero_add:=@Nat.zero_add
theorem qbh:type_of% @List.mem_cons:=@List.mem_cons
theorem qbi:type_of% @List.length_nil:=@List.length_nil
theorem qbj:type_of% @Bool.and_eq_true:=@Bool.and_eq_true
theorem qbk:type_of% @List.drop_nil:=@List.drop_nil
theorem qbl:type_of% @List.getElem?_map:=@List.getElem?_map
theorem qbm:type_of% @Option.some.inj:=@Option.some.inj
theorem qbn:type_of% @Nat.add_zero:=@Nat.add_zero
theorem qbo:type_of% @List.getElem?_eq_none:=@List.getElem?_eq_none
theorem qbp:type_of% @Go.Value.slice.injEq:=@Go.Value.slice.injEq
theorem qbq:type_of% @List.set_cons_zero:=@List.set_cons_zero
theorem qbr:type_of% @List.append_nil:=@List.append_nil
theorem qbs:type_of% @List.getElem?_take:=@List.getElem?_take
theorem qbt:type_of% @Nat.two_pow_pos:=@Nat.two_pow_pos
theorem qbu:type_of% @List.mem_append:=@List.mem_append
theorem qbv:type_of% @List.eq_nil_of_length_eq_zero:=@List.eq_nil_of_length_eq_zero
theorem qbw:type_of% @Go.IntKind.wrap_i64:=@Go.IntKind.wrap_i64
theorem qbx:type_of% @List.set_cons_succ:=@List.set_cons_succ
theorem qbz:type_of% @Array.getElem?_toList:=@Array.getElem?_toList
theorem qb4:type_of% @List.nil_append:=@List.nil_append
theorem qb5:type_of% @Array.getElem?_eq_getElem:=@Array.getElem?_eq_getElem
theorem qb7:type_of% @List.mem_of_mem_take:=@List.mem_of_mem_take
theorem qb8:type_of% @Nat.lt_or_ge:=@Nat.lt_or_ge
theorem qb9:type_of% @Go.Calls.quiet_of_same:=@Go.Calls.quiet_of_same
theorem qca:type_of% @List.take_succ_eq_append_getElem:=@List.take_succ_eq_append_getElem
theorem qcb:type_of% @Nat.add_assoc:=@Nat.add_assoc
theorem qcc:type_of% @Nat.mul_comm:=@Nat.mul_comm
theorem qcd:type_of% @List.mem_cons_self:=@List.mem_cons_self
theorem qce:type_of% @Nat.mul_one:=@Nat.mul_one
theorem qcf:type_of% @List.mem_cons_of_mem:=@List.mem_cons_of_mem
theorem qcg:type_of% @List.drop_eq_getElem_cons:=@List.drop_eq_getElem_cons
theorem qch:type_of% @Go.World.ownsRow_nil:=@Go.World.ownsRow_nil
theorem qci:type_of% @Nat.pow_add:=@Nat.pow_add
theorem qcj:type_of% @List.mem_map:=@List.mem_map
theorem qcl:type_of% @List.flatMap_cons:=@List.flatMap_cons
theorem qco:type_of% @Go.World.ownsRow.cellAt:=@Go.World.ownsRow.cellAt
theorem qcp:type_of% @List.pairwise_cons:=@List.pairwise_cons
theorem qcr:type_of% @Nat.mul_le_mul_right:=@Nat.mul_le_mul_right
theorem qcs:type_of% @Nat.pow_succ:=@Nat.pow_succ
theorem qct:type_of% @List.length_replicate:=@List.length_replicate
theorem qcv:type_of% @List.getElem?_append_left:=@List.getElem?_append_left
theorem qcw:type_of% @List.not_mem_nil:=@List.not_mem_nil
theorem qcy:type_of% @UInt8.toNat_ofNat':=@UInt8.toNat_ofNat'
theorem qcz:type_of% @Go.Addr.mk.injEq:=@Go.Addr.mk.injEq
theorem qc2:type_of% @List.take_append_of_le_length:=@List.take_append_of_le_length
theorem qc3:type_of% @List.drop_eq_nil_of_le:=@List.drop_eq_nil_of_le
theorem qc4:type_of% @Nat.mul_assoc:=@Nat.mul_assoc
theorem qc5:type_of% @List.getElem?_drop:=@List.getElem?_drop
theorem qc6:type_of% @Nat.min_eq_left:=@Nat.min_eq_left
theorem qc7:type_of% @Nat.div_lt_iff_lt_mul:=@Nat.div_lt_iff_lt_mul
theorem qc8:type_of% @Nat.add_mul:=@Nat.add_mul
theorem qc9:type_of% @List.length_singleton:=@List.length_singleton
theorem qdi:type_of% @Go.Region.noSelect_spec:=@Go.Region.noSelect_spec
theorem qdj:type_of% @List.getElem_mem:=@List.getElem_mem
theorem qdk:type_of% @List.cons_append:=@List.cons_append
theorem qdl:type_of% @List.mem_iff_getElem?:=@List.mem_iff_getElem?
theorem qdm:type_of% @Int.toNat_natCast:=@Int.toNat_natCast
theorem qdq:type_of% @List.mem_range:=@List.mem_range
theorem qdr:type_of% @Nat.lt_of_le_of_lt:=@Nat.lt_of_le_of_lt
theorem qds:type_of% @Int.eq_ofNat_of_zero_le:=@Int.eq_ofNat_of_zero_le
theorem qdx:type_of% @Ne.symm:=@Ne.symm
theorem qdz:type_of% @List.getElem?_append_right:=@List.getElem?_append_right
theorem qd0:type_of% @Array.getElem?_eq_some_iff:=@Array.getElem?_eq_some_iff
theorem qd7:type_of% @Int.natCast_pow:=@Int.natCast_pow
theorem qei:type_of% @Nat.mod_eq_of_lt:=@Nat.mod_eq_of_lt
theorem qep:type_of% @List.drop_drop:=@List.drop_drop
theorem qeq:type_of% @Go.Region.free_spec:=@Go.Region.free_spec
theorem qev:type_of% @Int.natCast_mul:=@Int.natCast_mul
theorem qe7:type_of% @Nat.mod_two_eq_zero_or_one:=@Nat.mod_two_eq_zero_or_one
theorem qfc:type_of% @List.take_append_drop:=@List.take_append_drop
theorem qfd:type_of% @List.length_filter_le:=@List.length_filter_le
theorem qfe:type_of% @Bool.false_eq_true:=@Bool.false_eq_true
theorem qfl:type_of% @List.replicate_succ':=@List.replicate_succ'
theorem qfm:type_of% @List.pairwise_append:=@List.pairwise_append
theorem qfr:type_of% @Option.map_some:=@Option.map_some
theorem qfs:type_of% @List.count_append:=@List.count_append
theorem qft:type_of% @List.cons_eq_cons:=@List.cons_eq_cons
theorem qfu:type_of% @Int.emod_add_emod:=@Int.emod_add_emod
theorem qfv:type_of% @Int.add_emod_emod:=@Int.add_emod_emod
theorem qf7:type_of% @Nat.and_two_pow_sub_one_eq_mod:=@Nat.and_two_pow_sub_one_eq_mod
theorem qf8:type_of% @List.map_congr_left:=@List.map_congr_left
theorem qf9:type_of% @List.flatMap_append:=@List.flatMap_append
theorem qga:type_of% @Int.toNat_of_nonneg:=@Int.toNat_of_nonneg
theorem qgq:type_of% @Go.Result.andThen_ok:=@Go.Result.andThen_ok
theorem qgr:type_of% @List.drop_append_of_le_length:=@List.drop_append_of_le_length
theorem qgs:type_of% @Nat.mod_lt:=@Nat.mod_lt
theorem qgy:type_of% @Nat.div_div_eq_div_mul:=@Nat.div_div_eq_div_mul
theorem qgz:type_of% @Nat.add_sub_cancel:=@Nat.add_sub_cancel
theorem qg0:type_of% @List.filter_append:=@List.filter_append
theorem qhg:type_of% @Go.World.block_lt_of_cell?:=@Go.World.block_lt_of_cell?
theorem qhl:type_of% @Nat.mul_add:=@Nat.mul_add
theorem qhm:type_of% @List.map_map:=@List.map_map
theorem qhn:type_of% @List.find?_cons:=@List.find?_cons
theorem qh2:type_of% @List.take_add_one:=@List.take_add_one
theorem qh3:type_of% @List.length_range:=@List.length_range
theorem qi2:type_of% @Go.Sem.run_bind:=@Go.Sem.run_bind
theorem qi3:type_of% @Option.getD_some:=@Option.getD_some
theorem qi4:type_of% @Nat.div_eq_of_lt:=@Nat.div_eq_of_lt
theorem qi5:type_of% @List.all_eq_true:=@List.all_eq_true
theorem qi6:type_of% @Int.natCast_ediv:=@Int.natCast_ediv
theorem qj1:type_of% @List.length_pos_iff:=@List.length_pos_iff
theorem qj2:type_of% @Array.length_toList:=@Array.length_toList
theorem qj3:type_of% @Nat.zero_mul:=@Nat.zero_mul
theorem qla:type_of% @Nat.div_add_mod:=@Nat.div_add_mod
theorem qlb:type_of% @List.mem_replicate:=@List.mem_replicate
theorem qlc:type_of% @List.map_take:=@List.map_take
theorem qld:type_of% @List.getElem?_replicate:=@List.getElem?_replicate
theorem qle:type_of% @List.find?_eq_none:=@List.find?_eq_none
theorem qnu:type_of% @Nat.one_mul:=@Nat.one_mul
theorem qnv:type_of% @List.ext_getElem?:=@List.ext_getElem?
theorem qov:type_of% @List.take_take:=@List.take_take
theorem qp4:type_of% @Nat.sub_zero:=@Nat.sub_zero
theorem qrz:type_of% @Nat.add_mul_div_left:=@Nat.add_mul_div_left
theorem qr0:type_of% @List.count_le_length:=@List.count_le_length
theorem qti:type_of% @List.map_drop:=@List.map_drop
theorem qwf:type_of% @Nat.one_ne_zero:=@Nat.one_ne_zero
theorem qwg:type_of% @List.getElem?_range:=@List.getElem?_range
theorem qwh:type_of% @List.cons.injEq:=@List.cons.injEq
theorem qwi:type_of% @Array.getElem?_push:=@Array.getElem?_push
theorem zan:type_of% @Nat.add_comm:=@Nat.add_comm
theorem zdc:type_of% @Nat.mul_le_mul:=@Nat.mul_le_mul
theorem zdd:type_of% @List.pairwise_iff_getElem:=@List.pairwise_iff_getElem
theorem zde:type_of% @List.drop_left:=@List.drop_left
theorem zdf:type_of% @Bool.false_and:=@Bool.false_and
end Go.Proofs.YtkmpfgpfbmeihaaGreatDoor
namespace Go.Proofs.YtkmpfgpfbmeihaaGreatDoor.lib
open Go Go.RowKit
structure Fr (S:List Nat) (w w':World):Prop where
 os:w'.os=w.os
 tape:w'.tape=w.tape
 output:w'.output=w.output
 size:w.heap.size≤w'.heap.size
 block:∀k,k<w.heap.size→k∉S→w'.heap[k]?=w.heap[k]?
theorem Fr.refl (S:List Nat) (w:World):Fr S w w:=⟨rfl,rfl,rfl,qae _,λ_ _ _=>rfl⟩
theorem Fr.drewN (S:List Nat) (w:World) (n:Nat):Fr S w (w.drewN n):=⟨rfl,rfl,rfl,qae _,λ_ _ _=>rfl⟩
theorem Fr.drew1 (S:List Nat) (w:World):Fr S w w.drew:=⟨rfl,rfl,rfl,qae _,λ_ _ _=>rfl⟩
theorem Fr.step {S T:List Nat} {a b c:World} (h:Fr S a b) (k:Fr T b c) (hT:∀x∈T,x∈S∨a.heap.size≤x):Fr S a c:=
 ⟨k.os.trans h.os,k.tape.trans h.tape,k.output.trans h.output,qar h.size k.size,λi hi hn=>by
  rw[k.block i (qat hi h.size) (λhx=>by rcases hT i hx with h1|h1;exact hn h1;omega),h.block i hi hn]⟩
theorem Fr.trans {S:List Nat} {a b c:World} (h:Fr S a b) (k:Fr S b c):Fr S a c:=h.step k λ_ hx=>.inl hx
theorem Fr.mono {S T:List Nat} {w w':World} (h:Fr S w w') (hT:∀x∈S,x∈T∨w.heap.size≤x):Fr T w w':=
 (Fr.refl T w).step h hT
theorem Fr.alloc {S:List Nat} {a w:World} (h:Fr S a w) (o:Obj):Fr S a (w.alloc o):=
 h.step (T:=[]) ⟨rfl,rfl,rfl,by simp,λk hk _=>Below.heap_alloc _ _ _ (by omega)⟩ (by simp)
theorem Fr.drew {S:List Nat} {a w:World} (h:Fr S a w):Fr S a w.drew:=h.step (Fr.drew1 [] w) (by simp)
theorem Fr.drewsN {S:List Nat} {a w:World} (h:Fr S a w) (n:Nat):Fr S a (w.drewN n):=h.step (Fr.drewN [] w n) (by simp)
theorem Fr.setCell {S:List Nat} {a w:World} (h:Fr S a w) {p:Addr} (hp:p.block∈S∨a.heap.size≤p.block) (u:Value):Fr S a (w.setCell p u):=
 h.step (T:=[p.block]) ⟨rfl,rfl,rfl,by simp[World.setCell],λk hk hn=>Below.heap_setCell _ _ _ _ (by simpa using hn)⟩ (by simpa using hp)
theorem Fr.grown {S:List Nat} {a w w':World} {row:Option Nat} (h:Fr S a w) (hg:w.grownBy w' row) (hr:∀k,row=some k→k∈S∨a.heap.size≤k):Fr S a w':=
 h.step (T:=row.toList) ⟨hg.os,hg.tape,hg.output,hg.size,λk hk hn=>hg.block k hk (λe=>hn (by simp[<-e]))⟩ (λx hx=>hr x (by simpa using hx))
theorem Fr.below {S:List Nat} {w w':World} {B:Nat} (h:Fr S w w') (hS:∀x∈S,B≤x) (hB:B≤w.heap.size):Below B w w':=
 ⟨h.os,h.tape,h.output,h.size,λk hk=>h.block k (by omega) (λhx=>by have:=hS k hx;omega)⟩
theorem qnl {w w':World} (h:Fr [] w w'):Below w.heap.size w w':=h.below (by simp) (qae _)
theorem Fr.blk {S:List Nat} {w w':World} (h:Fr S w w') {k:Nat} {o:Obj} (hk:w.heap[k]?=some o) (hn:k∉S):w'.heap[k]?=some o:=by rw[h.block k (lt_of_block hk) hn,hk]
theorem Fr.cell {S:List Nat} {w w':World} (h:Fr S w w') {a:Addr} {v:Value} (hc:w.cell? a=some v) (hn:a.block∉S):w'.cell? a=some v:=by rw[World.cell?_of_block (w:=w) (h.block a.block (qhg w a hc) hn),hc]
theorem cell_of {w:World} {b:Nat} {c:Array Value} {t:TypeId} {f:Nat×Nat} (h:w.heap[b]?=some (.cells c t f)) (o:Nat):w.cell? ⟨b,o,none⟩=c[o]?:=by simp[World.cell?,h]
theorem qau {w:World} {b:Nat} {c:Array Value} {t:TypeId} (h:w.heap[b]?=some (.cells c t (0,0))) (o:Nat):w.frozen? ⟨b,o,none⟩=false:=by simp[World.frozen?,h]
theorem qax {w:World} {b o:Nat} {c:Array Value} {t:TypeId} {f:Nat×Nat} (h:w.heap[b]?=some (.cells c t f)) (v:Value) :
  (w.setCell ⟨b,o,none⟩ v).heap[b]?=some (.cells (c.setIfInBounds o v) t f):=by
 have hlt:=lt_of_block h;have h':w.heap[b] = .cells c t f:=by simpa[qb5 hlt] using h
 show (w.heap.modify b _)[b]?=_;rw[qb5 (by simpa using hlt),Array.getElem_modify_self,h'];rfl
theorem qfo {w:World} {b b' o:Nat} (hne:b'≠b) (v:Value):(w.setCell ⟨b,o,none⟩ v).heap[b']?=w.heap[b']?:=
 Below.heap_setCell w ⟨b,o,none⟩ v b' hne
theorem qay (w:World) (o:Obj):(w.alloc o).heap[w.heap.size]?=some o:=heap_alloc_new w o
theorem qcx {w:World} {b:Nat} {x:Obj} (o:Obj) (h:w.heap[b]?=some x):(w.alloc o).heap[b]?=some x:=by rw[Below.heap_alloc w o b (lt_of_block h),h]
def blk:Option Addr→List Nat
 | some a=>[a.block]
 | none=>[]
def Cs (w:World) (ao:Option Addr) (vs:List Value):Prop:=
 vs=[]∨∃g o,ao=some ⟨g,o,none⟩∧∀j v,vs[j]?=some v→w.cell? ⟨g,o+j,none⟩=some v
theorem Cs.nil (w:World) (ao:Option Addr):Cs w ao []:=.inl rfl
theorem Cs.at {w:World} {ao:Option Addr} {vs:List Value} (h:Cs w ao vs) (hne:0<vs.length):∃g o,ao=some ⟨g,o,none⟩∧∀j v,vs[j]?=some v→w.cell? ⟨g,o+j,none⟩=some v:=by
 rcases h with rfl|h
 ·simp at hne
 ·exact h
theorem Cs.keep {w w':World} {ao:Option Addr} {vs:List Value} (h:Cs w ao vs) (hk:∀a,ao=some a→w'.heap[a.block]?=w.heap[a.block]?):Cs w' ao vs:=by
 rcases h with h|⟨g,o,rfl,h⟩
 ·exact .inl h
 ·refine .inr ⟨g,o,rfl,λj v hv=>?_⟩;rw[World.cell?_of_block (w:=w) (a:=⟨g,o+j,none⟩) (hk ⟨g,o,none⟩ rfl),h j v hv]
theorem Cs.lt {w:World} {ao:Option Addr} {vs:List Value} (h:Cs w ao vs) (hne:vs≠[]):∀a,ao=some a→a.block<w.heap.size:=by
 rcases h with h|⟨g,o,rfl,h⟩
 ·exact absurd h hne
 ·intro a ha;obtain rfl:=qbm ha;cases vs with
  | nil=>exact absurd rfl hne
  | cons v vs=>exact qhg w _ (h 0 v rfl)
theorem Cs.fr {S:List Nat} {w w':World} {ao:Option Addr} {vs:List Value} (h:Cs w ao vs) (hf:Fr S w w') (hn:∀x∈blk ao,x∉S):Cs w' ao vs:=by
 by_cases hne:vs=[]
 ·exact .inl hne
 ·exact h.keep λa ha=>hf.block a.block (h.lt hne a ha) (hn _ (by simp[ha,blk]))
theorem Cs.below {B:Nat} {w w':World} {ao:Option Addr} {vs:List Value} (h:Cs w ao vs) (hf:Below B w w') (hn:∀x∈blk ao,x<B):Cs w' ao vs:=by refine h.keep λa ha=>hf.block a.block (hn _ (by simp[ha,blk]))
theorem Cs.belowAll {w w':World} {ao:Option Addr} {vs:List Value} (h:Cs w ao vs) (hf:Below w.heap.size w w'):Cs w' ao vs:=by
 by_cases hne:vs=[]
 ·exact .inl hne
 ·exact h.keep λa ha=>hf.block a.block (h.lt hne a ha)
theorem qd4 {w:World} {base:Nat} {e:TypeId} {n:Nat} {xs:List Value} {ao:Option Addr} {len cap:Nat} (h:w.ownsRow base e 1 (.slice ao len cap) n xs):Cs w ao xs:=by
 rcases h.2 with⟨h1,h2⟩|⟨g,cap',cur,h1,hb,hg,hn,hm,hs,ht⟩
 ·left;have:=h.1;rw[h2]at this;exact qbv (by simpa using this)
 ·simp only[qbp]at h1;obtain⟨rfl,rfl,rfl⟩:=h1;refine .inr ⟨g,0,rfl,λj v hv=>?_⟩;rw[cell_of hg,qbg];rw[<-ht,qbs]at hv;split at hv
  ·simpa using hv
  ·cases hv
theorem qn9 {w:World} {base:Nat} {e:TypeId} {size:Nat} {v:Value} {n:Nat} {xs:List Value} (h:w.ownsRow base e size v n xs) :
  ∃ao cap,v = .slice ao n cap∧n≤cap∧cap≤maxLen:=by
 rcases h.2 with⟨rfl,rfl⟩|⟨g,cap,cur,rfl,hb,hg,hn,hm,hs,ht⟩
 ·exact⟨none,0,rfl,qae _,qa5 _⟩
 ·exact⟨_,cap,rfl,hn,hm⟩
theorem qf4 {w:World} {base:Nat} {e:TypeId} {size:Nat} {v:Value} {n:Nat} {xs:List Value} (h:w.ownsRow base e size v n xs) :
  ∃ao cap,v = .slice ao n cap∧n≤cap∧cap≤maxLen∧(ao=none→cap=0):=by
 rcases h.2 with⟨rfl,rfl⟩|⟨g,cap,cur,rfl,hb,hg,hn,hm,hs,ht⟩
 ·exact⟨none,0,rfl,qae _,qa5 _,λ_=>rfl⟩
 ·exact⟨_,cap,rfl,hn,hm,λh=>by cases h⟩
theorem qa7 {S:List Nat} {w w':World} {base:Nat} {e:TypeId} {size:Nat} {v:Value} {n:Nat} {xs:List Value} (h:w.ownsRow base e size v n xs) (hf:Fr S w w') (hn:∀k,v.ownBlock=some k→k∉S):w'.ownsRow base e size v n xs:=by
 obtain⟨h1,h2⟩:=h;refine⟨h1,?_⟩;rcases h2 with h2|⟨g,cap,cur,rfl,hb,hg,r⟩
 ·exact .inl h2
 ·exact .inr ⟨g,cap,cur,rfl,hb,hf.blk hg (hn g rfl),r⟩
def bv (b:UInt8):Value:=.int .u8 b.toNat
theorem zdl {u v:Value} (h:u=v):Ending.returned u=Ending.returned v:=by rw[h]
theorem int_eq {k:IntKind} {a b:Int} (h:a=b):Value.int k a=Value.int k b:=by rw[h]
theorem zfx {a b:Bool} (h:a=b):Value.bool a=Value.bool b:=by rw[h]
theorem qby (ao:Option Addr) (n cap:Nat):(Value.slice ao n cap).ownBlock.toList=blk ao:=by cases ao<;>rfl
theorem qdw {ao:Option Addr} {n cap:Nat} {x:Nat} (h:x∈blk ao):(Value.slice ao n cap).ownBlock=some x:=by
 cases ao with
 | none=>simp[blk]at h
 | some a=>simp[blk]at h;simp[Value.ownBlock,h]
theorem qdu {w:World} {base:Nat} {e:TypeId} {size:Nat} {v:Value} {n:Nat} {xs:List Value} (h:w.ownsRow base e size v n xs) {k:Nat} (hk:v.ownBlock=some k):k<w.heap.size:=(h.lt k hk).2
def Fresh (w:World) (B:Nat) (e:TypeId) (ao:Option Addr) (xs:List Value):Prop:=
 xs=[]∨∃g cur,ao=some ⟨g,0,none⟩∧B≤g∧w.heap[g]?=some (.cells cur e (0,0))∧cur.toList.take xs.length=xs
theorem Fresh.cs {w:World} {B:Nat} {e:TypeId} {ao:Option Addr} {xs:List Value} (h:Fresh w B e ao xs):Cs w ao xs:=by
 rcases h with h|⟨g,cur,rfl,hB,hg,ht⟩
 ·exact .inl h
 ·refine .inr ⟨g,0,rfl,λj v hv=>?_⟩;rw[qbg,cell_of hg];rw[<-ht,qbs]at hv;split at hv
  ·simpa using hv
  ·cases hv
theorem Fresh.mono {w:World} {B B':Nat} {e:TypeId} {ao:Option Addr} {xs:List Value} (h:Fresh w B e ao xs) (hB:B'≤B):Fresh w B' e ao xs:=by
 rcases h with h|⟨g,cur,rfl,hg,r⟩
 ·exact .inl h
 ·exact .inr ⟨g,cur,rfl,qar hB hg,r⟩
theorem Fresh.fr {S:List Nat} {w w':World} {B:Nat} {e:TypeId} {ao:Option Addr} {xs:List Value} (h:Fresh w B e ao xs) (hf:Fr S w w') (hn:∀a,ao=some a→a.block∉S):Fresh w' B e ao xs:=by
 rcases h with h|⟨g,cur,rfl,hB,hg,ht⟩
 ·exact .inl h
 ·exact .inr ⟨g,cur,rfl,hB,hf.blk hg (hn _ rfl),ht⟩
theorem qpt {w:World} {base B:Nat} {e:TypeId} {n len cap:Nat} {xs:List Value} {ao:Option Addr} (h:w.ownsRow base e 1 (.slice ao len cap) n xs) (hB:∀k,(Value.slice ao len cap).ownBlock=some k→B≤k):Fresh w B e ao xs:=by
 obtain⟨h1,h2⟩:=h;rcases h2 with⟨h2,rfl⟩|⟨g,cap',cur,h2,hb,hg,hn,hm,hs,ht⟩
 ·exact .inl (qbv (by simpa using h1))
 ·simp only[qbp]at h2;obtain⟨rfl,rfl,rfl⟩:=h2;exact .inr ⟨g,cur,rfl,hB g rfl,hg,by rw[h1];exact ht⟩
theorem qgo {w:World} {e:TypeId} {n cap:Nat} {xs:List Value} {ao:Option Addr} {B:Nat} (h:w.ownsRow 0 e 1 (.slice ao n cap) n xs) (hB:∀x∈blk ao,B≤x):Fresh w B e ao xs:=
 qpt h λk hk=>hB k (by rw[<-qby ao n cap,hk];simp)
def cutAt (ao:Option Addr) (cap lo:Nat):Option Addr:=if cap=lo then ao else ao.map (·.add lo)
theorem qv7 {ao:Option Addr} {cap lo:Nat} (h:cutAt ao cap lo=none):ao=none:=by
 unfold cutAt at h;split at h
 ·exact h
 ·simpa using h
theorem Cs.cut {w:World} {ao:Option Addr} {vs:List Value} (h:Cs w ao vs) (cap lo hi:Nat) (hl:lo≤hi) (hh:hi≤vs.length) (hc:vs.length≤cap):Cs w (cutAt ao cap lo) ((vs.drop lo).take (hi-lo)):=by
 by_cases he:cap=lo
 ·left;have:hi-lo=0:=by omega
  rw[this];rfl
 ·rcases h with rfl|⟨g,o,rfl,h⟩
  ·left;simp
  ·right;refine⟨g,o+lo,?_,λj v hv=>?_⟩
   ·unfold cutAt;rw[if_neg he];simp only[qfr,Addr.add];split<;>simp_all
   ·rw[qbs]at hv;split at hv
    ·rw[qcb];exact h _ _ (by simpa using hv)
    ·cases hv
structure SliceTy (P:Program) (t e:TypeId) (z:Value) (size bytes:Nat):Prop where
 under:P.underlying t=some (.slice e)
 info:∃i,P.info? e=some i∧i.zero=some z∧i.size=size∧i.bytes=bytes
 cells:z.cells.size=size
 pos:0<size
theorem SliceTy.of {P:Program} {t e:TypeId} {z:Value} {size bytes:Nat} (h:P.underlying t=some (.slice e))
  (hi:(P.info? e).map (λi=>(i.zero,i.size,i.bytes))=some (some z,size,bytes)) (hz:z.cells.size=size) (hp:0<size):SliceTy P t e z size bytes:=by
 obtain⟨i,h1,h2,h3,h4⟩:=info_parts hi;exact⟨h,⟨i,h1,h2,h3,h4⟩,hz,hp⟩
structure Appended (w w':World) (e:TypeId) (size:Nat) (S:List Nat) (ao:Option Addr) (len cap:Nat) (xs:List Value):Prop where
 own:w'.ownsRow 0 e size (.slice ao len cap) len xs
 fr:Fr S w w'
 at_:∀x∈blk ao,x∈S∨x=w.heap.size
 le:len≤cap
 max:cap≤maxLen
 nil:ao=none→cap=0
theorem Appended.lt {w w':World} {e:TypeId} {size:Nat} {S:List Nat} {ao:Option Addr} {len cap:Nat} {xs:List Value} (h:Appended w w' e size S ao len cap xs):∀x∈blk ao,x<w'.heap.size:=
 λ_ hx=>qdu h.own (qdw hx)
section
variable {P : Program} {w : World} {t e : TypeId} {z : Value} {size bytes : Nat}
theorem qe6 (g o j:Nat):(⟨g,o,none⟩:Addr).add j=⟨g,o+j,none⟩:=by unfold Addr.add;split<;>simp_all
theorem qn3 (T:SliceTy P t e z size bytes) (ty:TypeId) (v:Value) (n:Nat) (xs:List Value) (S:List Nat) (hS:v.ownBlock.toList=S) (hown:w.ownsRow 0 e size v n xs)
  (ao:Option Addr) (m c:Nat) (news:List Value) (hmc:m≤c) (hnone:ao=none→c=0) (hc:Cs w ao news) (hl:news.length=m*size) (h1:∀u∈news,u.oneCell'=true)
  (hb:(n+m)*bytes≤140737488355328) (h63:n+m≤maxLen) :
  ∃ao' cap' w',(Builtin.append_ #[t,t] ty #[v,.slice ao m c]).run P w = .ok (.slice ao' (n+m) cap') w'∧Appended w w' e size S ao' (n+m) cap' (xs++news):=by
 obtain⟨hu,⟨i,hi,hz,hs,hby⟩,hcz,hp⟩:=T;subst hS;have key:∀v' w',w'.ownsRow 0 e size v' (n+m) (xs++news)→w.grownBy w' v.ownBlock→(v'.ownBlock=v.ownBlock∨v'.ownBlock=some w.heap.size)→∃ao' cap',v' = .slice ao' (n+m) cap'∧Appended w w' e size v.ownBlock.toList ao' (n+m) cap' (xs++news):=by
  intro v' w' h2 h3 h4;obtain⟨ao',cap',rfl,h5,h6⟩:=qn9 h2;refine⟨ao',cap',rfl,h2,(Fr.refl _ w).grown h3 (λk hk=>.inl (by simp[hk])),?_,h5,h6,?_⟩
  ·intro x hx;have hx':=qdw (n:=n+m) (cap:=cap') hx;rcases h4 with h|h
   ·left;rw[<-h,hx'];simp
   ·right;rw[h]at hx';exact (qbm hx').symm
  ·rintro rfl;rcases h2.2 with⟨h,_⟩|⟨g,cap,cur,h,_⟩
   ·simp only[qbp]at h;exact h.2.2
   ·simp at h
 cases ao with
 | none=>
  have hc0:=hnone rfl;obtain rfl:m=0:=by omega
  subst hc0;have hn:news=[]:=qbv (by simpa using hl);subst hn;have hr:=run_append_owned_none (P:=P) (w:=w) 0 t ty e i size hu hi v n xs hown;obtain⟨ao',cap',rfl,hA⟩:=key v w (by simpa using hown) ⟨rfl,rfl,rfl,qae _,λ_ _ _=>rfl⟩ (.inl rfl);exact⟨ao',cap',w,hr,hA⟩
 | some a=>
  have hcells:∀j u,news[j]?=some u→w.cell? (a.add j)=some u:=by
   intro j u hj;rcases hc with rfl|⟨g,o,ha,hc⟩
   ·simp at hj
   ·obtain rfl:=qbm ha;rw[qe6];exact hc j u hj
  obtain⟨v',w',hr,h2,h3,h4,h5⟩:=run_append_own_at (P:=P) w 0 t ty e i z size bytes hu hi hz hs hby hcz hp v n xs hown a m c news hl hcells h1 h63 hb (qa5 _);obtain⟨ao',cap',rfl,hA⟩:=key v' w' h2 h3 h5;exact⟨ao',cap',w',hr,hA⟩
theorem qda (T:SliceTy P t e z size bytes) {o:Oper} {a:Act} {K:Act→World→Prop} {Q:Exit→Act→World→Prop} (s x:Operand)
  (ho:o.op = .call { callee:=.builtin .append,args:=#[s,x],argTypes:=#[t,t] })
  (v:Value) (n:Nat) (xs:List Value) (S:List Nat) (hs:a.eval s=v) (hS:v.ownBlock.toList=S) (hown:w.ownsRow 0 e size v n xs)
  (ao:Option Addr) (m c:Nat) (news:List Value) (hx:a.eval x = .slice ao m c) (hmc:m≤c) (hnone:ao=none→c=0) (hc:Cs w ao news) (hl:news.length=m*size) (h1:∀u∈news,u.oneCell'=true)
  (hb:(n+m)*bytes≤140737488355328) (h63:n+m≤maxLen)
  (h:∀ao' cap' w',Appended w w' e size S ao' (n+m) cap' (xs++news)→K (a.put o.dst (.slice ao' (n+m) cap')) w'):o.wp P a w K Q:=by
 obtain⟨ao',cap',w',hr,h2⟩:=qn3 (P:=P) T o.type v n xs S hS hown ao m c news hmc hnone hc hl h1 hb h63;unfold Oper.wp execOp;simp only[ho,resolve,invoke,builtin,qi2,Sem.run_pure,qgq,List.map_toArray,qak,qam,hs,hx,hr];exact h ao' cap' w' h2
theorem qba (T:SliceTy P t e z size bytes) {ops:Array Oper} {rest:List Oper} {o:Oper} {a:Act} {Q:Exit→Act→World→Prop} (hgd:o.guard=none) (s x:Operand)
  (ho:o.op = .call { callee:=.builtin .append,args:=#[s,x],argTypes:=#[t,t] })
  (v:Value) (n:Nat) (xs:List Value) (S:List Nat) (hs:a.eval s=v) (hS:v.ownBlock.toList=S) (hown:w.ownsRow 0 e size v n xs)
  (ao:Option Addr) (m c:Nat) (news:List Value) (hx:a.eval x = .slice ao m c) (hmc:m≤c) (hnone:ao=none→c=0) (hc:Cs w ao news) (hl:news.length=m*size) (h1:∀u∈news,u.oneCell'=true)
  (hb:(n+m)*bytes≤140737488355328) (h63:n+m≤maxLen)
  (h:∀ao' cap' w',Appended w w' e size S ao' (n+m) cap' (xs++news)→wpList P ops Q rest (a.put o.dst (.slice ao' (n+m) cap')) w'):wpList P ops Q (o::rest) a w:=
 wpList_plain hgd λ_ hK=>qda T s x ho v n xs S hs hS hown ao m c news hx hmc hnone hc hl h1 hb h63 λao' cap' w' h2=>hK _ _ (h ao' cap' w' h2)
theorem step_append (T:SliceTy P t e z size bytes) {ops:Array Oper} {o:Oper} {a:Act} {K:Act→World→Prop} {Q:Exit→Act→World→Prop} {E:Prop} (hgd:o.guard=none) (s x:Operand)
  (ho:o.op = .call { callee:=.builtin .append,args:=#[s,x],argTypes:=#[t,t] })
  (v:Value) (n:Nat) (xs:List Value) (S:List Nat) (hs:a.eval s=v) (hS:v.ownBlock.toList=S) (hown:w.ownsRow 0 e size v n xs)
  (ao:Option Addr) (m c:Nat) (news:List Value) (hx:a.eval x = .slice ao m c) (hmc:m≤c) (hnone:ao=none→c=0) (hc:Cs w ao news) (hl:news.length=m*size) (h1:∀u∈news,u.oneCell'=true)
  (hb:(n+m)*bytes≤140737488355328) (h63:n+m≤maxLen)
  (h:∀ao' cap' w',Appended w w' e size S ao' (n+m) cap' (xs++news)→K (a.put o.dst (.slice ao' (n+m) cap')) w') :
  if Region.wanted o (yielded ops a.tmps)=true then Oper.wp P o a w K Q else E:=by
 have hw:Region.wanted o (yielded ops a.tmps)=true:=by simp[Region.wanted,hgd]
 rw[if_pos hw];exact qda T s x ho v n xs S hs hS hown ao m c news hx hmc hnone hc hl h1 hb h63 h
end
theorem qdp (w:World) (B:Nat) (v:Value) (t:TypeId) (h:w.heap[B]?=some (.cells #[v] t (0,0))):Cs w (some ⟨B,0,none⟩) [v]:=
 .inr ⟨B,0,rfl,λj u hj=>by
  match j,hj with
  | 0,hj=>rw[cell_of h];simpa using hj⟩
end Go.Proofs.YtkmpfgpfbmeihaaGreatDoor.lib
namespace Go.Proofs.YtkmpfgpfbmeihaaGreatDoor.lib
open Go Go.RowKit
section
variable {P : Program} {w : World} {ops : Array Oper} {rest : List Oper} {o : Oper} {a : Act} {Q : Exit → Act → World → Prop}
theorem qfg (v:Value) (hgd:o.guard=none) (hr:(execOp a.eval o).run P w = .ok (.value v) w) (h:wpList P ops Q rest (a.put o.dst v) w):wpList P ops Q (o::rest) a w:=
 wpList_plain hgd λK hK=>by unfold Oper.wp;rw[hr];exact hK _ _ h
theorem qfz (m:Int) (hgd:o.guard=none) (x y:Operand) (ts:Array TypeId) (ho:o.op = .call { callee:=.builtin .min,args:=#[x,y],argTypes:=ts }) (i j:Int)
  (hx:a.eval x = .int .i64 i) (hy:a.eval y = .int .i64 j) (hm:m=if j<i then j else i) (h:wpList P ops Q rest (a.put o.dst (.int .i64 m)) w):wpList P ops Q (o::rest) a w:=by
 subst hm;refine qfg _ hgd ?_ h;simp[execOp,ho,resolve,invoke,builtin,hx,hy,Builtin.min_,Builtin.min2]
theorem qd8 (m:Int) (hgd:o.guard=none) (x y:Operand) (ts:Array TypeId) (ho:o.op = .call { callee:=.builtin .max,args:=#[x,y],argTypes:=ts }) (i j:Int)
  (hx:a.eval x = .int .i64 i) (hy:a.eval y = .int .i64 j) (hm:m=if j>i then j else i) (h:wpList P ops Q rest (a.put o.dst (.int .i64 m)) w):wpList P ops Q (o::rest) a w:=by
 subst hm;refine qfg _ hgd ?_ h;simp[execOp,ho,resolve,invoke,builtin,hx,hy,Builtin.max_,Builtin.max2]
end
section
variable {P : Program} {w : World} {ops : Array Oper} {rest : List Oper} {o : Oper} {a : Act} {Q : Exit → Act → World → Prop} {t e : TypeId} {z : Value} {bytes : Nat}
theorem qlt (T:SliceTy P t e z 1 bytes) (l m:Nat) (hgd:o.guard=none) (x lo hi:Operand) (ho:o.op = .slice t x (some lo) (some hi) none) (ao:Option Addr) (len cap:Nat) (il ih:Int)
  (hx:a.eval x = .slice ao len cap) (hlo:a.eval lo = .int .i64 il) (hhi:a.eval hi = .int .i64 ih) (hl:il=l) (hh:ih=l+m) (hc:l+m≤cap)
  (h:wpList P ops Q rest (a.put o.dst (.slice (cutAt ao cap l) m (cap-l))) w):wpList P ops Q (o::rest) a w:=by
 obtain⟨hu,⟨i,hi',_,hs,_⟩,_,_⟩:=T;subst hl;obtain rfl:ih=((l+m:Nat):Int):=by omega
 refine qfg _ hgd ?_ h;have c1:(0:Int)≤(l:Int)+m∧(l:Int)+m≤(cap:Int):=by omega
 have e2:((l:Int)+m).toNat=l+m:=by omega
 have e1:l+m-l=m:=by omega
 simp[execOp,ho,Instr.sliceAt,run_underlying hu,hx,hlo,hhi,Instr.slice,Instr.sliceBounds,Instr.sliceBound,asIntOf,c1,e2,sizeOf,typeInfo,hi',hs,cutAt,e1,Result.andThen]
end
def str (bs:List UInt8):ByteArray:=⟨bs.toArray⟩
theorem str_toList (bs:List UInt8):(str bs).toList=bs:=by rw[ByteArray.toList_eq];rfl
theorem qr6 (a b:List UInt8):(str a==str b)=(a==b):=by have h:(str a==str b)=(a.toArray==b.toArray):=rfl;rw[h,Bool.eq_iff_iff,beq_iff_eq,beq_iff_eq];exact⟨λh=>by simpa using h,λh=>by rw[h]⟩
theorem qde {P:Program} (w:World) {src dst e:TypeId} (hs:P.underlying src=some (.slice e)) (he:P.underlying e=some (.int .u8)) (hd:P.underlying dst=some .string)
  {ao:Option Addr} {n:Nat} {bs:List UInt8} (hn:bs.length=n) (hcs:Cs w ao (bs.map bv)) :
  ∀cap,(convert src dst (.slice ao n cap)).run P w = .ok (.string (str bs)) w:=by
 intro cap;have hnil:∀(ao:Option Addr),bs=[]→(convert src dst (.slice ao n cap)).run P w = .ok (.string (str bs)) w:=by
  intro ao hb;subst hb;obtain rfl:n=0:=by simpa using hn.symm
  rw[run_convert_bytes_string w src dst e ao 0 cap hs he hd];cases ao with
  | none=>rfl
  | some a=>rfl
 rcases hcs with h|⟨g,o,rfl,h⟩
 ·exact hnil ao (by simpa using h)
 ·have hr:=run_convert_bytes_arg (P:=P) w src e hs he g o n cap (bs.map λb=>(b.toNat:Int)) (by simpa using hn) (λi hi=>by
   have h2:=h i (bv (bs.getD i 0)) (by simp[List.getD,show i<bs.length by omega])
   rw[h2]
   have hi':i<bs.length:=by omega
   simp[bv,List.getD,hi']) dst hd
  rw[hr];congr 2;unfold strOfNums str;congr 1;rw[qhm];have:((λn:Int=>UInt8.ofNat n.toNat)∘λb:UInt8=>(b.toNat:Int))=id:=by funext b;simp
  rw[this,List.map_id]
end Go.Proofs.YtkmpfgpfbmeihaaGreatDoor.lib
namespace Go.Proofs.YtkmpfgpfbmeihaaGreatDoor.lib
open Go Go.RowKit
def cutAtN (ao:Option Addr) (cap lo size:Nat):Option Addr:=if cap=lo then ao else ao.map (·.add (lo*size))
theorem qne {ao:Option Addr} {cap lo size:Nat} (h:cutAtN ao cap lo size=none):ao=none:=by
 unfold cutAtN at h;split at h
 ·exact h
 ·simpa using h
theorem qij (ao:Option Addr) (cap lo size:Nat):blk (cutAtN ao cap lo size)=blk ao:=by
 unfold cutAtN;split
 ·rfl
 ·cases ao with
  | none=>rfl
  | some a=>simp only[qfr,blk,Addr.add];split<;>rfl
theorem qon (ao:Option Addr) (cap lo:Nat):cutAtN ao cap lo 1=cutAt ao cap lo:=by unfold cutAtN cutAt;rw[qce]
section
variable {P : Program} {w : World} {ops : Array Oper} {rest : List Oper} {o : Oper} {a : Act} {Q : Exit → Act → World → Prop} {t e : TypeId} {z : Value} {size bytes : Nat}
theorem qho (T:SliceTy P t e z size bytes) (m:Nat) (hgd:o.guard=none) (x hi:Operand) (ho:o.op = .slice t x none (some hi) none) (ao:Option Addr) (len cap:Nat) (ih:Int)
  (hx:a.eval x = .slice ao len cap) (hhi:a.eval hi = .int .i64 ih) (hh:ih=m) (hc:m≤cap)
  (h:wpList P ops Q rest (a.put o.dst (.slice ao m cap)) w):wpList P ops Q (o::rest) a w:=by
 obtain⟨hu,⟨i,hi',_,hs,_⟩,_,_⟩:=T;subst hh;refine qfg _ hgd ?_ h;have c1:(0:Int)≤(m:Int)∧(m:Int)≤(cap:Int):=by omega
 have ad0:∀x:Addr,x.add 0=x:=λx=>rfl
 cases ao<;>simp[execOp,ho,Instr.sliceAt,run_underlying hu,hx,hhi,Instr.slice,Instr.sliceBounds,Instr.sliceBound,asIntOf,c1,hc,sizeOf,typeInfo,hi',hs,Result.andThen,ad0]
theorem qb2 (T:SliceTy P t e z size bytes) (l:Nat) (hgd:o.guard=none) (x lo:Operand) (ho:o.op = .slice t x (some lo) none none) (ao:Option Addr) (len cap:Nat) (il:Int)
  (hx:a.eval x = .slice ao len cap) (hlo:a.eval lo = .int .i64 il) (hl:il=l) (hc:l≤len) (hlc:len≤cap)
  (h:wpList P ops Q rest (a.put o.dst (.slice (cutAtN ao cap l size) (len-l) (cap-l))) w):wpList P ops Q (o::rest) a w:=by
 obtain⟨hu,⟨i,hi',_,hs,_⟩,_,_⟩:=T;subst hl;refine qfg _ hgd ?_ h;have c1:(0:Int)≤(l:Int)∧(l:Int)≤(len:Int):=by omega
 have c2:(len:Int)≤(cap:Int):=by omega
 simp[execOp,ho,Instr.sliceAt,run_underlying hu,hx,hlo,Instr.slice,Instr.sliceBounds,Instr.sliceBound,asIntOf,c1,c2,hc,hlc,sizeOf,typeInfo,hi',hs,cutAtN,Result.andThen]
end
end Go.Proofs.YtkmpfgpfbmeihaaGreatDoor.lib
namespace Go.Proofs.YtkmpfgpfbmeihaaGreatDoor.lib
open Go Go.RowKit Go.ChangeShapes Go.WideShapes
theorem wf_u8 {n:Int} (h:(Lit.int .u8 n).wf=true):0≤n∧n≤255:=by simpa[Lit.wf,IntKind.min,IntKind.max,IntKind.signed,IntKind.bits] using h
theorem wf_u32 {n:Int} (h:(Lit.int .u32 n).wf=true):0≤n∧n≤4294967295:=by simpa[Lit.wf,IntKind.min,IntKind.max,IntKind.signed,IntKind.bits] using h
theorem wf_i64 {n:Int} (h:(Lit.int .i64 n).wf=true) : -9223372036854775808≤n∧n≤9223372036854775807:=by simpa[Lit.wf,IntKind.min,IntKind.max,IntKind.signed,IntKind.bits] using h
structure IntsArg (k:IntKind) (w:World) (a:Option Addr) (len cap:Nat) (xs:List Int):Prop where
 le:len≤cap
 max:cap≤maxLen
 nil:a=none→cap=0
 length:xs.length=len
 cs:Cs w a (xs.map (Value.int k))
 wf:∀x∈xs,(Lit.int k x).wf=true
 lt:∀x∈blk a,cap≠0→x<w.heap.size
theorem zam {x:Addr} (h:x.spot=none) (j:Nat):x.add j=⟨x.block,x.off+j,none⟩:=by obtain⟨b,o,s⟩:=x;simp only at h;subst h;unfold Addr.add;split<;>simp_all
section
variable {H : Type} {enc : TypeId × Value → H} {P : Program} {w : World}
theorem zca {t e:TypeId} {k:IntKind} {a:Option Addr} {len cap:Nat} {d:DataW H} {p:List MemPlace} (ht:P.underlying t=some (.slice e)) (he:P.underlying e=some (.int k)) (hc:P.cellsOf e=1)
  (h:DataW.Trod enc P w 0 (λ_=>true) true t (.slice a len cap) d p) :
  ∃xs sp:List Int,IntsArg k w a len cap xs∧sp.length=cap-len∧(d = .nil∧cap=0∨d = .slice (lits k xs) (lits k sp)):=by
 obtain⟨fuel,hf⟩:=h;rcases open_ints ht he hc hf with⟨hcs,hx⟩|⟨x,l,c,zs,hcs,_,hl,hm,hz,hx,hcell,hwz⟩
 ·simp[Value.cells]at hcs;obtain⟨rfl,rfl,rfl⟩:=hcs;simp at hx;exact⟨[],[],⟨qae _,qa5 _,λ_=>rfl,rfl,.inl rfl,by simp,by simp[blk]⟩,rfl,.inl ⟨hx.1,rfl⟩⟩
 ·simp[Value.cells]at hcs;obtain⟨rfl,rfl,rfl⟩:=hcs;simp only[if_true]at hz;simp at hx;have hcl:∀i v,(zs.map (Value.int k))[i]?=some v→w.cell? (x.add i)=some v:=by
   intro i v hv;have hi:i<zs.length:=by have:=(qa9.1 hv).1;simpa using this
   rw[hcell i hi];simp[hi]at hv;simp[List.getD,hi,hv]
  have spot:0<zs.length→x.spot=none:=by
   intro h0;have h1:=hcell 0 h0;have h2:x.add 0=x:=by simp[Addr.add]
   rw[h2]at h1;cases hs:x.spot with
   | none=>rfl
   | some s=>simp only[World.cell?,hs,Option.isSome_some,if_true]at h1;split at h1<;>cases h1
  have hcsx:Cs w (some x) (zs.map (Value.int k)):=by
   by_cases h0:zs=[]
   ·left;simp[h0]
   ·right;have hp:0<zs.length:=qj1.2 h0;have hs:=spot hp;refine⟨x.block,x.off,by rw[<-hs],λj v hv=>?_⟩;have h3:=hcl j v hv;have h4:x.add j=⟨x.block,x.off+j,none⟩:=by exact zam hs j
    rwa [h4]at h3
  refine⟨zs.take len,zs.drop len,⟨hl,hm,(λh=>by cases h),(by simp;omega),?_,λy hy=>hwz y (qb7 hy),?_⟩,(by simp;omega),.inr hx.1⟩
  ·rcases hcsx with h0|⟨g,o,ha,h0⟩
   ·left;have:zs=[]:=by simpa using h0
    simp[this]
   ·refine .inr ⟨g,o,ha,λj v hv=>h0 j v ?_⟩;rw[qlc,qbs]at hv;split at hv
    ·exact hv
    ·cases hv
  ·intro y hy hne;simp[blk]at hy;subst hy;have h0:0<zs.length:=by omega
   exact qhg w _ (by have:=hcell 0 h0;simpa[Addr.add] using this)
theorem qjb (hl:laidOutB P=true) {W W':World} (hb:Below W.heap.size W W'):∀{ts:List TypeId} {vs:List Value} {ds:List (DataW H)} {ps:List MemPlace},
  (ts.all λt=>P.readableRec t&&decide (t<P.types.size))=true→(∀x∈ps,x.block<W.heap.size)→DataW.TrodAll enc P W 0 (λ_=>true) true ts vs ds ps→DataW.TrodAll enc P W' 0 (λb=>decide (b<W.heap.size)) true ts vs ds ps
 | [],[],[],_,_,_,h=>h
 | t::ts,v::vs,d::ds,ps,hr,hlt,h=>by
  simp only[List.all_cons,qbj,decide_eq_true_eq]at hr;obtain⟨v',vs',d',ds',p,q,hv,hd,rfl,h1,h2⟩:=trodAll_cons h;obtain⟨rfl,rfl⟩:=List.cons.inj hv;obtain⟨rfl,rfl⟩:=List.cons.inj hd;exact trodAll_cons_mk (Below.trod hl hr.1.1 hr.1.2 h1 hb (λx hx=>hlt x (by simp[hx]))) (qjb hl hb hr.2 (λx hx=>hlt x (by simp[hx])) h2)
 | [],_::_,_,_,_,_,h=>by simp[DataW.TrodAll]at h
 | [],[],_::_,_,_,_,h=>by simp[DataW.TrodAll]at h
 | _::_,[],_,_,_,_,h=>by simp[DataW.TrodAll]at h
 | _::_,_::_,[],_,_,_,h=>by simp[DataW.TrodAll]at h
theorem qq4 {s:ChangeSpec} {f:FuncId} {fn:Func} {W:World} {args:Array Value} {ds gs:List (DataW H)} {before:List MemPlace} {tb:TypeId}
  (hl:laidOutB P=true) (hread:(fn.params.toList.all λt=>P.readableRec t&&decide (t<P.types.size))=true) (hvars:s.vars=[]) (hres:fn.resultTypes=#[tb]) (htb:P.underlying tb=some .bool)
  (hW:DataW.Whole enc P fn.params.toList s.vars false W args.toList ds gs before) (hfn:∀gs,s.vars=[]→gs=[]→s.fn H (ds++gs)={ results:=[.lit (.bool true)],args:=ds })
  (hc:Calls P f args W λe W'=>e = .returned (.bool true)∧Below W.heap.size W W') :
  Calls P f args W λe W'=>∃v,e = .returned v∧s.post enc P fn false true false false W args v W':=by
 have hW':=hW;obtain⟨p,q,hA,hV,rfl,hfz,hnd⟩:=hW;have hV':=hV;rw[hvars]at hV';obtain⟨rfl,rfl⟩:=trodVars_none hV';have hlt:∀x∈p,x.block<W.heap.size:=λx hx=>by simpa using hW'.lt x (by simpa using hx)
 refine hc.mono λe W' ⟨he,hb⟩=>⟨_,he,_,_,_,[],p,[],hW',?_,?_,?_,hb.frame _,λh=>by cases h⟩
 ·rw[hfn [] hvars rfl,hres];exact trodAll_mk1 (shut_bool htb _)
 ·rw[hfn [] hvars rfl];exact qjb hl hb hread hlt hA
 ·rw[hvars,hfn [] hvars rfl];rfl
end
end Go.Proofs.YtkmpfgpfbmeihaaGreatDoor.lib
namespace Go.Proofs.YtkmpfgpfbmeihaaGreatDoor.lib
open Go Go.RowKit Go.ChangeShapes Go.WideShapes
section
variable {H : Type} {enc : TypeId × Value → H} {P : Program} {w : World}
def Light (P:Program) (t:TypeId) (d:DataW H):Prop:=(DataW.weights P t d).all (·≤reachBytes)=true
theorem qmz {e:TypeId}:∀{ds:List (DataW H)},(DataW.weightsAll P e ds).all (·≤reachBytes)=true→∀d∈ds,Light P e d
 | [],_,d,hd=>by cases hd
 | x::r,h,d,hd=>by
  rw[DataW.weightsAll,List.all_append,qbj]at h;rcases qbh.1 hd with rfl|hd
  ·exact h.1
  ·exact qmz h.2 d hd
theorem qvt {ts:List TypeId} {ds:List (DataW H)} (h:(DataW.weightsEach P ts ds).all (·≤reachBytes)=true) {j:Nat} {t:TypeId} {d:DataW H} (ht:ts[j]?=some t) (hd:ds[j]?=some d):Light P t d:=
 qi5.2 λn hn=>qi5.1 h n (DataW.weights_mem_each ht hd n hn)
theorem qsv {t e:TypeId} {elems spare:List (DataW H)} (ht:P.underlying t=some (.slice e)) (h:Light P t (.slice elems spare)) :
  (elems.length+spare.length)*P.bytesOf e≤reachBytes∧(∀d∈elems,Light P e d)∧∀d∈spare,Light P e d:=by
 unfold Light at h;rw[DataW.weights,ht]at h;simp only[List.all_cons,List.all_append,qbj,decide_eq_true_eq]at h;exact⟨h.1,qmz h.2.1,qmz h.2.2⟩
theorem zc6 (d:DataW H):1≤Rows.uptoBulk d:=by
 cases d with
 | lit l=>cases l<;>simp[Rows.uptoBulk]
 | nil=>simp[Rows.uptoBulk]
 | ptr d=>simp[Rows.uptoBulk]
 | slice elems spare=>simp[Rows.uptoBulk]
 | agg parts=>simp[Rows.uptoBulk]
 | iface t d=>simp[Rows.uptoBulk]
 | map entries=>simp[Rows.uptoBulk]
 | held h=>simp[Rows.uptoBulk]
theorem qz6 {d:DataW H} {l:List (DataW H)} (h:d∈l):Rows.uptoBulk d≤Rows.uptoBulkAll l:=by
 induction l with
 | nil=>cases h
 | cons x r ih=>
  simp only[Rows.uptoBulkAll];cases qbh.1 h with
  | inl e=>subst e;omega
  | inr e=>have:=ih e;omega
theorem qtb (l:List (DataW H)):l.length≤Rows.uptoBulkAll l:=by
 induction l with
 | nil=>simp[Rows.uptoBulkAll]
 | cons x r ih=>have:=zc6 x;simp only[Rows.uptoBulkAll,qao];omega
theorem qz7 {d:DataW H} {elems spare:List (DataW H)} (h:d∈elems):Rows.uptoBulk d≤Rows.uptoBulk (.slice elems spare):=by have:=qz6 h;simp only[Rows.uptoBulk];omega
theorem qwc (elems spare:List (DataW H)):elems.length≤Rows.uptoBulk (.slice elems spare):=by have:=qtb elems;simp only[Rows.uptoBulk];omega
theorem qw8 {t e:TypeId} {a:Option Addr} {len cap s:Nat} {d:DataW H} {p:List MemPlace} (ht:P.underlying t=some (.slice e)) (hs:P.cellsOf e=s) (h0:0<s)
  (h:DataW.Trod enc P w 0 (λ_=>true) true t (.slice a len cap) d p) (hL:Light P t d) :
  len≤cap∧cap≤maxLen∧(a=none→cap=0)∧len*P.bytesOf e≤140737488351232∧len≤Rows.uptoBulk d∧(len=0∨∃g o,a=some ⟨g,o,none⟩∧∀i,i<len→∃(cs:List Value) (y:DataW H×List MemPlace) (n:Nat),
   cs.length=s∧(∀j v,cs[j]?=some v→w.cell? ⟨g,o+i*s+j,none⟩=some v)∧DataW.trod enc P w 0 (λ_=>true) true n e cs=some y∧Light P e y.1∧Rows.uptoBulk y.1≤Rows.uptoBulk d):=by
 have er:reachBytes=140737488351232:=by decide
 obtain⟨fuel,hf⟩:=h;rcases DataW.trod_slice ht hf with⟨hcs,hx⟩|⟨x,l,c,elems,rest,n,_,hcs,hx,_,hl,hm,hlen,hel,_⟩
 ·simp[Value.cells]at hcs;obtain⟨rfl,rfl,rfl⟩:=hcs;exact⟨qae _,qa5 _,λ_=>rfl,by simp,qa5 _,.inl rfl⟩
 ·simp[Value.cells]at hcs;obtain⟨rfl,rfl,rfl⟩:=hcs;simp only[qa4]at hx;obtain⟨rfl,_⟩:=hx;obtain⟨hw,hle,_⟩:=qsv ht hL;simp only[qap]at hw;refine⟨hl,hm,(λh=>by cases h),?_,by have:=qwc (elems.map (·.1)) (rest.map (·.1));simp at this;omega,?_⟩
  ·have h1:len*P.bytesOf e≤(elems.length+rest.length)*P.bytesOf e:=qcr _ (by omega);omega
  ·by_cases hz:len=0
   ·exact .inl hz
   ·right;have get:∀i,i<len→∃(cs:List Value) (y:DataW H×List MemPlace),cs.length=s∧(∀j v,cs[j]?=some v→w.cell? ((x.add (i*s)).add j)=some v)∧DataW.trod enc P w 0 (λ_=>true) true n e cs=some y∧Light P e y.1∧Rows.uptoBulk y.1≤Rows.uptoBulk (.slice (elems.map (·.1)) (rest.map (·.1))):=by
     intro i hi;have h1:=hel i hi;rw[hs]at h1;have hie:i<elems.length:=by omega
     rw[qai hie]at h1;obtain⟨cs,hc1,hc2⟩:=Option.bind_eq_some_iff.1 h1;obtain⟨_,hc3,hc4⟩:=World.cells?_some hc1;exact⟨cs,elems[i],hc3,λj v hv=>by rw[hc4 j (by have:=(qa9.1 hv).1;omega),hv],hc2,hle _ (qcj.2 ⟨_,qdj hie,rfl⟩),qz7 (qcj.2 ⟨_,qdj hie,rfl⟩)⟩
    have spot:x.spot=none:=by
     obtain⟨cs,y,h1,h2,_⟩:=get 0 (by omega);have h3:0<cs.length:=by omega
     have h4:=h2 0 cs[0] (by simp[h3]);simp only[qj3]at h4;have h5:(x.add 0).add 0=x:=by simp[Addr.add]
     rw[h5]at h4;cases hs:x.spot with
     | none=>rfl
     | some s=>simp only[World.cell?,hs,Option.isSome_some,if_true]at h4;split at h4<;>cases h4
    refine⟨x.block,x.off,by rw[<-spot],λi hi=>?_⟩;obtain⟨cs,y,h1,h2,h3,h4⟩:=get i hi;refine⟨cs,y,n,h1,λj v hv=>?_,h3,h4⟩;have h5:=h2 j v hv;rw[zam spot,zam rfl]at h5;exact h5
structure BytesArg (w:World) (a:Option Addr) (len cap:Nat) (bs:List UInt8):Prop where
 le:len≤cap
 max:cap≤maxLen
 nil:a=none→cap=0
 length:bs.length=len
 cs:Cs w a (bs.map bv)
 lim:len≤140737488351232
 lt:∀x∈blk a,bs≠[]→x<w.heap.size
theorem qz3 {t e:TypeId} {a:Option Addr} {len cap:Nat} {d:DataW H} {p:List MemPlace} (ht:P.underlying t=some (.slice e)) (he:P.underlying e=some (.int .u8)) (hc:P.cellsOf e=1) (hby:P.bytesOf e=1)
  (h:DataW.Trod enc P w 0 (λ_=>true) true t (.slice a len cap) d p) (hL:Light P t d):∃bs,BytesArg w a len cap bs∧len≤Rows.uptoBulk d:=by
 obtain⟨xs,_,A,_⟩:=zca ht he hc h;obtain⟨_,_,_,hlim,hbk,_⟩:=qw8 ht hc (by decide) h hL;have key:Cs w a ((xs.map λx=>UInt8.ofNat x.toNat).map bv):=by
  have e:(xs.map λx=>UInt8.ofNat x.toNat).map bv=xs.map (Value.int .u8):=by rw[qhm];apply qf8;intro x hx;have:=wf_u8 (A.wf x hx);simp only[Function.comp,bv,qcy];exact int_eq (by omega)
  rw[e];exact A.cs
 refine⟨xs.map λx=>UInt8.ofNat x.toNat,⟨A.le,A.max,A.nil,by simp[A.length],key,by rw[hby]at hlim;omega,λx hx hne=>?_⟩,hbk⟩;cases a with
 | none=>simp[blk]at hx
 | some a=>simp[blk]at hx;subst hx;exact key.lt (by simpa using hne) a rfl
end
end Go.Proofs.YtkmpfgpfbmeihaaGreatDoor.lib
namespace Go.Proofs.YtkmpfgpfbmeihaaGreatDoor.lib
open Go Go.RowKit
structure Rd (w:World) (a:Option Addr) (cap:Nat) (bs:List UInt8):Prop where
 cs:Cs w a (bs.map bv)
 le:bs.length≤cap
 max:cap≤maxLen
 nil:a=none→cap=0
theorem Rd.fr {w w':World} {a:Option Addr} {cap:Nat} {bs:List UInt8} (h:Rd w a cap bs) (f:Fr [] w w'):Rd w' a cap bs:=⟨h.cs.fr f (by simp),h.le,h.max,h.nil⟩
theorem Rd.frS {S:List Nat} {w w':World} {a:Option Addr} {cap:Nat} {bs:List UInt8} (h:Rd w a cap bs) (f:Fr S w w') (hn:∀x∈blk a,x∉S):Rd w' a cap bs:=⟨h.cs.fr f hn,h.le,h.max,h.nil⟩
theorem Rd.none (w:World):Rd w none 0 []:=⟨.inl rfl,qae _,qa5 _,λ_=>rfl⟩
theorem Rd.of_arg {w:World} {a:Option Addr} {len cap:Nat} {bs:List UInt8} (h:BytesArg w a len cap bs):Rd w a cap bs:=⟨h.cs,by rw[h.length];exact h.le,h.max,h.nil⟩
theorem qzn {w:World} {a:Option Addr} {cap:Nat} {vs:List Value} (h:Cs w a vs) (k:Nat) (hk:k≤vs.length) (hc:vs.length≤cap):Cs w (cutAtN a cap k 1) (vs.drop k):=by have:=h.cut cap k vs.length hk (qae _) hc;rw[qbd (by simp),<-qon]at this;exact this
theorem zcz {w:World} {a:Option Addr} {vs:List Value} (h:Cs w a vs) (k:Nat):Cs w a (vs.take k):=by
 rcases h with rfl|⟨g,o,rfl,h⟩
 ·left;simp
 ·refine .inr ⟨g,o,rfl,λj v hv=>h j v ?_⟩;rw[qbs]at hv;split at hv
  ·exact hv
  ·cases hv
theorem Rd.drop {w:World} {a:Option Addr} {cap:Nat} {bs:List UInt8} (h:Rd w a cap bs) (k:Nat) (hk:k≤bs.length):Rd w (cutAtN a cap k 1) (cap-k) (bs.drop k):=by have h1:=h.le;have h2:=h.max;refine⟨?_,by rw[qav];omega,by omega,λe=>by have:=h.nil (qne e);omega⟩;rw[qti];exact qzn h.cs k (by simpa using hk) (by simpa using h1)
theorem Rd.take {w:World} {a:Option Addr} {cap:Nat} {bs:List UInt8} (h:Rd w a cap bs) (k:Nat):Rd w a cap (bs.take k):=by have h1:=h.le;refine⟨?_,by rw[qaq];omega,h.max,h.nil⟩;rw[qlc];exact zcz h.cs k
theorem Rd.mid {w:World} {a:Option Addr} {cap:Nat} {bs:List UInt8} (h:Rd w a cap bs) (l m:Nat) (hk:l+m≤bs.length):Rd w (cutAt a cap l) (cap-l) ((bs.drop l).take m):=by have h1:=(h.drop l (by omega)).take m;rw[qon]at h1;exact h1
theorem Rd.at {w:World} {a:Option Addr} {cap:Nat} {bs:List UInt8} (h:Rd w a cap bs) {i:Nat} (hi:i<bs.length):∃g o,a=some ⟨g,o,Option.none⟩∧w.cell? ⟨g,o+i,Option.none⟩=some (.int .u8 ((bs[i].toNat:Nat):Int)):=by obtain⟨g,o,rfl,hc⟩:=h.cs.at (by simp;omega);exact⟨g,o,rfl,hc i _ (by simp[hi,bv])⟩
theorem qc1 {w:World} {base:Nat} {e:TypeId} {len cap:Nat} {bs:List UInt8} {a:Option Addr} (h:w.ownsRow base e 1 (.slice a len cap) len (bs.map bv)):Rd w a cap bs∧bs.length=len:=by
 have hl:bs.length=len:=by simpa using h.1
 obtain⟨_,_,he,h1,h2,h3⟩:=qf4 h;simp only[qbp]at he;obtain⟨rfl,_,rfl⟩:=he;exact⟨⟨qd4 h,by omega,h2,h3⟩,hl⟩
section
variable {P : Program} {t e : TypeId} {z : Value} {size bytes : Nat}
theorem qd2 (T:SliceTy P t e z size bytes) (l:Nat) (a:Option Addr) (len cap:Nat) (il:Int) (hl:il=l) (hc:l≤len) (hlc:len≤cap) (w:World) :
  (Instr.slice t (.slice a len cap) (some (.int .i64 il)) Option.none Option.none).run P w = .ok (.slice (cutAtN a cap l size) (len-l) (cap-l)) w:=by
 obtain⟨hu,⟨i,hi',_,hs,_⟩,_,_⟩:=T;subst hl;have c1:(0:Int)≤(l:Int)∧(l:Int)≤(len:Int):=by omega
 have c2:(len:Int)≤(cap:Int):=by omega
 simp[run_underlying hu,Instr.slice,Instr.sliceBounds,Instr.sliceBound,asIntOf,c1,c2,hc,hlc,sizeOf,typeInfo,hi',hs,cutAtN,Result.andThen]
theorem qdy (T:SliceTy P t e z size bytes) (m:Nat) (a:Option Addr) (len cap:Nat) (ih:Int) (hh:ih=m) (hc:m≤cap) (w:World) :
  (Instr.slice t (.slice a len cap) Option.none (some (.int .i64 ih)) Option.none).run P w = .ok (.slice a m cap) w:=by
 obtain⟨hu,⟨i,hi',_,hs,_⟩,_,_⟩:=T;subst hh;have c1:(0:Int)≤(m:Int)∧(m:Int)≤(cap:Int):=by omega
 have ad0:∀x:Addr,x.add 0=x:=λx=>rfl
 cases a<;>simp[run_underlying hu,Instr.slice,Instr.sliceBounds,Instr.sliceBound,asIntOf,c1,hc,sizeOf,typeInfo,hi',hs,Result.andThen,ad0]
theorem run_slice_lh (T:SliceTy P t e z 1 bytes) (l m:Nat) (a:Option Addr) (len cap:Nat) (il ih:Int) (hl:il=l) (hh:ih=l+m) (hc:l+m≤cap) (w:World) :
  (Instr.slice t (.slice a len cap) (some (.int .i64 il)) (some (.int .i64 ih)) Option.none).run P w = .ok (.slice (cutAt a cap l) m (cap-l)) w:=by
 obtain⟨hu,⟨i,hi',_,hs,_⟩,_,_⟩:=T;subst hl;obtain rfl:ih=((l+m:Nat):Int):=by omega
 have c1:(0:Int)≤(l:Int)+m∧(l:Int)+m≤(cap:Int):=by omega
 have e2:((l:Int)+m).toNat=l+m:=by omega
 have e1:l+m-l=m:=by omega
 simp[run_underlying hu,Instr.slice,Instr.sliceBounds,Instr.sliceBound,asIntOf,c1,e2,sizeOf,typeInfo,hi',hs,cutAt,e1,Result.andThen]
end
def NewBytes (w:World) (bs:List UInt8) (e:Ending) (w':World):Prop:=
 ∃a,e = .returned (.slice a bs.length bs.length)∧Rd w' a bs.length bs∧(∀x∈blk a,w.heap.size≤x∧x<w'.heap.size)∧Fr [] w w'
end Go.Proofs.YtkmpfgpfbmeihaaGreatDoor.lib
namespace Go.Proofs.YtkmpfgpfbmeihaaGreatDoor.pk
open Go
def hdF:Nat→Nat→Nat→List UInt8
 | 0,c,_=>[UInt8.ofNat c]
 | f+1,c,n=>if n=0 then [UInt8.ofNat c] else UInt8.ofNat (c+128)::hdF f (n%128) (n/128)
def hd (kind size:Nat):List UInt8:=hdF size (kind%8*16+size%16) (size/16)
theorem zch {f g:Nat}:∀{c n:Nat},n≤f→n≤g→hdF f c n=hdF g c n:=by
 induction f generalizing g with
 | zero=>
  intro c n h1 h2;have:n=0:=by omega
  subst this;cases g<;>simp[hdF]
 | succ f ih=>
  intro c n h1 h2;by_cases h0:n=0
  ·subst h0;cases g<;>simp[hdF]
  ·cases g with
   | zero=>omega
   | succ g=>unfold hdF;rw[if_neg h0,if_neg h0,ih (g:=g) (by omega) (by omega)]
theorem zdu {k:Nat}:∀{f c n:Nat},n<128^k→n≤f→(hdF f c n).length≤k+1:=by
 induction k with
 | zero=>
  intro f c n h _;have:n=0:=by omega
  subst this;cases f<;>simp[hdF]
 | succ k ih=>
  intro f c n h hf;cases f with
  | zero=>simp[hdF]
  | succ f=>
   unfold hdF;split
   ·simp
   ·have h2:n/128<128^k:=by rw[qcs]at h;exact Nat.div_lt_of_lt_mul (by omega)
    have:=ih (f:=f) (c:=n%128) h2 (by omega);simp only[qao];omega
def bkF:Nat→Nat→List UInt8
 | 0,_=>[]
 | f+1,m=>if m=0 then [] else UInt8.ofNat ((m-1)%128+128)::bkF f ((m-1)/128)
def bk (n:Nat):List UInt8:=UInt8.ofNat (n%128)::bkF n (n/128)
theorem zc9 {f g:Nat}:∀{m:Nat},m≤f→m≤g→bkF f m=bkF g m:=by
 induction f generalizing g with
 | zero=>
  intro m h1 h2;have:m=0:=by omega
  subst this;cases g<;>simp[bkF]
 | succ f ih=>
  intro m h1 h2;by_cases h0:m=0
  ·subst h0;cases g<;>simp[bkF]
  ·cases g with
   | zero=>omega
   | succ g=>unfold bkF;rw[if_neg h0,if_neg h0,ih (g:=g) (by omega) (by omega)]
theorem zfy {k:Nat}:∀{f m:Nat},m<128^k→(bkF f m).length≤k:=by
 induction k with
 | zero=>
  intro f m h;have:m=0:=by omega
  subst this;cases f<;>simp[bkF]
 | succ k ih=>
  intro f m h;cases f with
  | zero=>simp[bkF]
  | succ f=>
   unfold bkF;split
   ·simp
   ·have h2:(m-1)/128<128^k:=by rw[qcs]at h;exact Nat.div_lt_of_lt_mul (by omega)
    have:=ih (f:=f) h2;simp only[qao];omega
theorem qd1 {n:Nat} (h:n<256):(UInt8.ofNat n).toNat=n:=by simp[qcy];omega
theorem zdt {kind size:Nat} (h:size≤2147483647):(hd kind size).length≤5:=by
 unfold hd;have h1:size/16<128^4:=by omega
 exact zdu h1 (by omega)
end Go.Proofs.YtkmpfgpfbmeihaaGreatDoor.pk
namespace Go.Proofs.YtkmpfgpfbmeihaaGreatDoor.bm
def num:List UInt8→Nat
 | []=>0
 | b::r=>b.toNat+256*num r
theorem qx5:∀bs:List UInt8,num bs<2^(8*bs.length)
 | []=>by simp[num]
 | b::r=>by
  have h:=qx5 r;have hb:b.toNat<256:=b.toNat_lt;have e:2^(8*(b::r).length)=256*2^(8*r.length):=by rw[qao,qhl,qci,qcc]
  rw[e];simp only[num];omega
theorem qoc:∀a b:List UInt8,num (a++b)=num a+2^(8*a.length)*num b
 | [],b=>by simp[num]
 | x::a,b=>by
  have e:2^(8*(x::a).length)=256*2^(8*a.length):=by rw[qao,qhl,qci,qcc]
  rw[qdk,num,num,qoc a b,e,qc4,qhl,qcb]
theorem zbt (bs:List UInt8) (i:Nat) (h:i≤bs.length):num bs/2^(8*i)=num (bs.drop i):=by have e:=qoc (bs.take i) (bs.drop i);rw[qfc]at e;have hl:=qx5 (bs.take i);rw[qaq,qc6 h]at e hl;rw[e,qrz _ _ (qbt _),qi4 hl,qbg]
theorem chunk (bs:List UInt8) (a k:Nat) (h:a/8<bs.length) (hk:a%8+k≤8) :
  num bs/2^a%2^k=(bs.getD (a/8) 0).toNat/2^(a%8)%2^k:=by
 have e:num bs/2^a=num (bs.drop (a/8))/2^(a%8):=by rw[<-zbt bs (a/8) (by omega),qgy,<-qci,qla]
 have hd:bs.drop (a/8)=bs[a/8]::bs.drop (a/8+1):=qcg h;have hg:bs.getD (a/8) 0=bs[a/8]:=by simp[List.getD,h]
 rw[e,hd,hg,num];generalize num (bs.drop (a/8+1))=r;generalize (bs[a/8]).toNat=b;have e256:256*r=2^(a%8)*(2^k*(2^(8-a%8-k)*r)):=by rw[<-qc4,<-qc4,<-qci,<-qci,show a%8+k+(8-a%8-k)=8 from by omega]
 rw[e256,qrz _ _ (qbt _),Nat.add_mul_mod_self_left]
theorem more (x a i k:Nat):x/2^a%2^(i+k)=x/2^a%2^i+2^i*(x/2^(a+i)%2^k):=by rw[qci 2 i k,Nat.mod_mul,qgy,<-qci]
def dig:Nat→Nat→List UInt8
 | 0,_=>[]
 | k+1,m=>UInt8.ofNat m::dig k (m/256)
theorem qii:∀k m:Nat,(dig k m).length=k
 | 0,_=>rfl
 | k+1,m=>by simp[dig,qii k]
theorem two8 (k:Nat):2^(8*(k+1))=256*2^(8*k):=by rw[qhl,qci,qcc]
theorem qx6:∀k m:Nat,num (dig k m)=m%2^(8*k)
 | 0,m=>by simp[dig,num,Nat.mod_one]
 | k+1,m=>by rw[dig,num,qx6 k,two8,Nat.mod_mul];simp[qcy]
theorem qs6:∀k m x:Nat,dig k (m+2^(8*k)*x)=dig k m
 | 0,m,x=>rfl
 | k+1,m,x=>by
  rw[dig,dig,two8,qc4];have h1:UInt8.ofNat (m+256*(2^(8*k)*x))=UInt8.ofNat m:=UInt8.toNat_inj.1 (by simp[qcy]);have h2:(m+256*(2^(8*k)*x))/256=m/256+2^(8*k)*x:=by omega
  rw[h1,h2,qs6 k]
theorem qkr:∀k j m:Nat,dig (k+j) m=dig k m++dig j (m/2^(8*k))
 | 0,j,m=>by simp[dig]
 | k+1,j,m=>by rw[Nat.add_right_comm,dig,dig,qkr k j,qdk,qgy,two8]
theorem qur (k m:Nat):dig (k+1) m=dig k m++[UInt8.ofNat (m/2^(8*k))]:=by rw[qkr k 1 m];simp[dig]
theorem qpx:∀bs:List UInt8,dig bs.length (num bs)=bs
 | []=>rfl
 | b::r=>by
  have hb:b.toNat<256:=b.toNat_lt;rw[qao,dig,num];have h1:UInt8.ofNat (b.toNat+256*num r)=b:=UInt8.toNat_inj.1 (by rw[qcy];omega);have h2:(b.toNat+256*num r)/256=num r:=by omega
  rw[h1,h2,qpx r]
theorem ze6 {a b:List UInt8} (hl:a.length=b.length) (h:num a=num b):a=b:=by rw[<-qpx a,<-qpx b,hl,h]
def revTo (v n:Nat):Nat→Nat
 | 0=>0
 | k+1=>revTo v n k+2^k*(v/2^(n-1-k)%2)
theorem qzu (M L v n k:Nat):M+2^L*revTo v n k+2^(L+k)*(v/2^(n-1-k)%2)=M+2^L*revTo v n (k+1):=by rw[revTo,qhl,qci,qc4,qcb]
theorem zev (q M:Nat) (bs:List UInt8) (hM:M<2^(8*q)):dig (q+bs.length) (M+2^(8*q)*num bs)=dig q M++bs:=by rw[qkr,qs6,qrz _ _ (qbt _),qi4 hM,qbg,qpx]
theorem zdm (q M:Nat) (bs:List UInt8) (hM:M<2^(8*q)):M+2^(8*q)*num bs<2^(8*q+8*bs.length):=by
 have h:=qx5 bs;rw[qci];calc M+2^(8*q)*num bs<2^(8*q)+2^(8*q)*num bs:=by omega
  _=2^(8*q)*(num bs+1):=by rw[qhl,qce,zan]
  _≤2^(8*q)*2^(8*bs.length):=Nat.mul_le_mul_left _ h
end Go.Proofs.YtkmpfgpfbmeihaaGreatDoor.bm
namespace Go.Proofs.YtkmpfgpfbmeihaaGreatDoor.bl
open Go bm
def b2n (b:Bool):Nat:=if b then 1 else 0
def bval:List Bool→Nat
 | []=>0
 | b::t=>b2n b+2*bval t
theorem qrw (b:Bool):b2n b<2:=by cases b<;>decide
theorem qed:∀a b:List Bool,bval (a++b)=bval a+2^a.length*bval b
 | [],b=>by simp[bval]
 | x::a,b=>by rw[qdk,bval,bval,qed a b,qao,qcs];generalize 2^a.length=p;rw[qcc p 2,qc4];generalize p*bval b=q;omega
theorem qta:∀l:List Bool,bval l<2^l.length
 | []=>by simp[bval]
 | x::l=>by have:=qta l;have:=qrw x;rw[bval,qao,qcs];omega
theorem zfz {a b:Bool} (h:b2n a=b2n b):a=b:=by cases a<;>cases b<;>simp_all [b2n]
theorem qux:∀{a b:List Bool},a.length=b.length→bval a=bval b→a=b
 | [],[],_,_=>rfl
 | [],_::_,h,_=>by simp at h
 | _::_,[],h,_=>by simp at h
 | x::a,y::b,h,hv=>by rw[bval,bval]at hv;have hx:=qrw x;have hy:=qrw y;rw[zfz (show b2n x=b2n y by omega),qux (by simpa using h) (show bval a=bval b by omega)]
def lsb:Nat→Nat→List Bool
 | 0,_=>[]
 | n+1,x=>(x%2==1)::lsb n (x/2)
theorem lsb_length:∀n x:Nat,(lsb n x).length=n
 | 0,_=>rfl
 | n+1,x=>by rw[lsb,qao,lsb_length]
theorem qtf (x:Nat):b2n (x%2==1)=x%2:=by rcases qe7 x with h|h<;>rw[h]<;>rfl
theorem qlo:∀n x:Nat,bval (lsb n x)=x%2^n
 | 0,x=>by simp[lsb,bval,Nat.mod_one]
 | n+1,x=>by rw[lsb,bval,qlo n,qtf,qcs,qcc (2^n),Nat.mod_mul]
theorem qor:∀n:Nat,bval (List.replicate n false)=0
 | 0=>rfl
 | n+1=>by rw[List.replicate_succ,bval,qor n];rfl
def msb (n x:Nat):List Bool:=(lsb n x).reverse
theorem qet (n x:Nat):(msb n x).length=n:=by rw[msb,List.length_reverse,lsb_length]
theorem qsu:∀(n x i:Nat) (h:i<(lsb n x).length),(lsb n x)[i]=(x/2^i%2==1)
 | 0,x,i,h=>by simp[lsb]at h
 | n+1,x,0,_=>by simp[lsb]
 | n+1,x,i+1,h=>by simp only[lsb,List.getElem_cons_succ];rw[qsu n (x/2) i,qgy,qcs,qcc 2]
theorem qq0 (x n:Nat):∀k,k≤n→bval ((msb n x).take k)=revTo x n k
 | 0,_=>by simp[bval,revTo]
 | k+1,h=>by
  have hl:k<(msb n x).length:=by rw[qet];omega
  rw[qca hl,qed,qq0 x n k (by omega),qaq,qet,qc6 (by omega),revTo];congr 2;have e:(msb n x)[k]=(x/2^(n-1-k)%2==1):=by simp only[msb,List.getElem_reverse,lsb_length];rw[qsu]
  rw[e,bval,bval,Nat.mul_zero,qbn,qtf]
theorem zc5 (n x:Nat):bval (msb n x)=revTo x n n:=by have:=qq0 x n n (qae _);rwa [qbd (by rw[qet];exact qae _)]at this
def bytesBits (bs:List UInt8):List Bool:=bs.flatMap λc=>lsb 8 c.toNat
theorem qel (c:UInt8) (bs:List UInt8):bytesBits (c::bs)=lsb 8 c.toNat++bytesBits bs:=rfl
theorem qk9 (a b:List UInt8):bytesBits (a++b)=bytesBits a++bytesBits b:=by unfold bytesBits;rw[qf9]
theorem qb1:∀bs:List UInt8,(bytesBits bs).length=8*bs.length
 | []=>rfl
 | c::bs=>by rw[qel,qab,lsb_length,qb1 bs,qao];omega
theorem qfy:∀bs:List UInt8,bval (bytesBits bs)=num bs
 | []=>rfl
 | c::bs=>by have:=qbc c;rw[qel,qed,lsb_length,qfy bs,qlo,num,qei (by omega)]
def pad (n:Nat):Nat:=(8-n%8)%8
def padTo8 (l:List Bool):List Bool:=l++List.replicate (pad l.length) false
theorem qef (l:List Bool):(padTo8 l).length=(l.length+7)/8*8:=by unfold padTo8 pad;rw[qab,qct];omega
theorem quw (l:List Bool):bval (padTo8 l)=bval l:=by unfold padTo8;rw[qed,qor];omega
def bytesOf (l:List Bool):List UInt8:=dig ((l.length+7)/8) (bval l)
theorem bytesOf_length (l:List Bool):(bytesOf l).length=(l.length+7)/8:=qii _ _
theorem qrt (l:List Bool):bytesBits (bytesOf l)=padTo8 l:=by
 refine qux ?_ ?_
 ·rw[qb1,bytesOf_length,qef];omega
 ·have h1:=qta l;have h2:2^l.length≤2^(8*((l.length+7)/8)):=qa3 (by decide) (by omega);rw[qfy,quw,bytesOf,qx6,qei (by omega)]
theorem qxq (l:List Bool) (h:l.length%8=0):padTo8 l=l:=by unfold padTo8 pad;rw[h];simp
theorem qp1 {a b:List UInt8} (h:bytesBits a=bytesBits b):a=b:=by
 have hl:a.length=b.length:=by have:=congrArg List.length h;rw[qb1,qb1]at this;omega
 exact ze6 hl (by rw[<-qfy,<-qfy,h])
end Go.Proofs.YtkmpfgpfbmeihaaGreatDoor.bl
namespace Go.Proofs.YtkmpfgpfbmeihaaGreatDoor.huf
open Go bm bl
def lenAt (ls:List Nat) (i:Nat):Nat:=ls[i]?.getD 0
def nxt (ls:List Nat):Nat→Nat
 | 0=>0
 | l+1=>2*(nxt ls l+if l=0 then 0 else ls.count l)
def code (ls:List Nat) (i:Nat):Nat:=nxt ls (lenAt ls i)+(ls.take i).count (lenAt ls i)
def share (ls:List Nat):Nat→Nat
 | 0=>0
 | l+1=>share ls l+if l=0 then 0 else ls.count l*2^(15-l)
def weight:List Nat→Nat
 | []=>0
 | l::t=>(if l=0 then 0 else 2^(15-l))+weight t
theorem qmu (ls:List Nat):∀l,l≤15→nxt ls l*2^(15-l)=share ls l
 | 0,_=>by simp[nxt,share]
 | l+1,h=>by
  have ih:=qmu ls l (by omega);have e:2^(15-l)=2*2^(15-(l+1)):=by rw[show 15-l=15-(l+1)+1 from by omega,qcs,qcc]
  rw[nxt,share,<-ih,e];generalize 2^(15-(l+1))=p;split<;>simp only[qhl,qc8,qbn,qc4,Nat.mul_left_comm]
theorem qn2 (x:Nat) (t:List Nat):∀m,share (x::t) m=share t m+if 0<x∧x<m then 2^(15-x) else 0
 | 0=>by simp[share]
 | m+1=>by
  rw[share,share,qn2 x t m,List.count_cons];by_cases h0:m=0
  ·subst h0;simp only[if_true];rw[if_neg (by omega),if_neg (by omega)]
  ·rw[if_neg h0,if_neg h0];by_cases hx:x=m
   ·subst hx;simp only[beq_self_eq_true,if_true];rw[if_neg (by omega),if_pos (by omega),qc8,qnu];omega
   ·have hb:(x==m)=false:=by simpa using hx
    rw[hb];simp only[qfe,if_false,qbn];by_cases hc:0<x∧x<m
    ·rw[if_pos hc,if_pos (by omega)];omega
    ·rw[if_neg hc,if_neg (by omega)];omega
theorem qqi:∀m,share [] m=0
 | 0=>rfl
 | m+1=>by rw[share,qqi m];simp
theorem qhs:∀ls:List Nat,(∀l∈ls,l≤15)→share ls 16=weight ls
 | [],_=>qqi 16
 | x::t,h=>by
  have hx:=h x (by simp);rw[qn2,weight,qhs t λl hl=>h l (by simp[hl])];by_cases h0:x=0
  ·rw[if_neg (by omega),if_pos h0];omega
  ·rw[if_pos (by omega),if_neg h0];omega
theorem qn1 (ls:List Nat):∀(k l:Nat),share ls l≤share ls (l+k)
 | 0,_=>qae _
 | k+1,l=>by have:=qn1 ls k l;rw[<-qcb,share];omega
theorem qo5 (ls:List Nat) {l m:Nat} (h:l≤m):share ls l≤share ls m:=by obtain⟨k,rfl⟩:∃k,m=l+k:=⟨m-l,by omega⟩;exact qn1 ls k l
theorem qeo {ls:List Nat} {i:Nat} (h:0<lenAt ls i):i<ls.length:=by
 unfold lenAt at h;rcases qb8 i ls.length with k|k
 ·exact k
 ·rw[qbo k]at h;simp at h
theorem qfj {ls:List Nat} {i:Nat} (h:i<ls.length):lenAt ls i∈ls:=by unfold lenAt;rw[qai h];exact qdj h
theorem qe5 (ls:List Nat) (i x:Nat) (h:i<ls.length):(ls.take (i+1)).count x=(ls.take i).count x+if lenAt ls i=x then 1 else 0:=by rw[qca h,qfs,List.count_singleton];unfold lenAt;rw[qai h];simp only[qi3,beq_iff_eq]
theorem qpz (ls:List Nat) (i x:Nat):(ls.take i).count x≤ls.count x:=(List.take_sublist i ls).count_le x
theorem qnf (ls:List Nat) (x:Nat) {i j:Nat} (h:i≤j):(ls.take i).count x≤(ls.take j).count x:=by
 have:ls.take i=(ls.take j).take i:=by rw[qov,qc6 h]
 rw[this];exact (List.take_sublist i (ls.take j)).count_le x
def lo (ls:List Nat) (i:Nat):Nat:=code ls i*2^(15-lenAt ls i)
theorem zgh (ls:List Nat) (i:Nat) (h:lenAt ls i≤15):lo ls i=share ls (lenAt ls i)+(ls.take i).count (lenAt ls i)*2^(15-lenAt ls i):=by rw[lo,code,qc8,qmu ls _ h]
theorem zgq (ls:List Nat) (i:Nat) (h0:0<lenAt ls i) (h:lenAt ls i≤15):lo ls i+2^(15-lenAt ls i)≤share ls (lenAt ls i+1):=by have hi:=qeo h0;have h1:=qe5 ls i (lenAt ls i) hi;rw[if_pos rfl]at h1;have h2:=qpz ls (i+1) (lenAt ls i);rw[zgh ls i h,share,if_neg (by omega)];have h3:((ls.take i).count (lenAt ls i)+1)*2^(15-lenAt ls i)≤ls.count (lenAt ls i)*2^(15-lenAt ls i):=qcr _ (by omega);rw[qc8,qnu]at h3;omega
theorem zb1 (ls:List Nat) {i j:Nat} (h0:0<lenAt ls i) (h:lenAt ls i<lenAt ls j) (hj:lenAt ls j≤15):lo ls i+2^(15-lenAt ls i)≤lo ls j:=by have h1:=zgq ls i h0 (by omega);have h2:=qo5 ls (show lenAt ls i+1≤lenAt ls j from h);have h3:=zgh ls j hj;omega
theorem zc0 (ls:List Nat) {i j:Nat} (h0:0<lenAt ls i) (h:lenAt ls i=lenAt ls j) (hc:code ls i=code ls j):i=j:=by
 have key:∀{i j:Nat},0<lenAt ls i→lenAt ls i=lenAt ls j→code ls i=code ls j→¬i<j:=λ{i j} h0 h hc hij=>by have h1:=qe5 ls i (lenAt ls i) (qeo h0);rw[if_pos rfl]at h1;have h2:=qnf ls (lenAt ls i) (show i+1≤j from hij);unfold code at hc;rw[<-h]at hc;omega
 rcases Nat.lt_trichotomy i j with k|k|k
 ·exact absurd k (key h0 h hc)
 ·exact k
 ·exact absurd k (key (by omega) h.symm hc.symm)
theorem qzv (ls:List Nat) (i:Nat) (hle:∀l∈ls,l≤15) (hw:weight ls≤32768) (h0:0<lenAt ls i):code ls i<2^lenAt ls i:=by
 have h15:=hle _ (qfj (qeo h0));have h1:=zgq ls i h0 h15;have h2:=qo5 ls (show lenAt ls i+1≤16 by omega);rw[qhs ls hle]at h2;unfold lo at h1;have e:2^15=2^lenAt ls i*2^(15-lenAt ls i):=by rw[<-qci];congr 1;omega
 have h3:(code ls i+1)*2^(15-lenAt ls i)≤2^lenAt ls i*2^(15-lenAt ls i):=by rw[<-e,qc8,qnu];exact qar (qar h1 h2) hw
 have:=Nat.le_of_mul_le_mul_right h3 (qbt _);omega
def hsym (ls:List Nat) (n v:Nat):Option Nat:=(List.range ls.length).find? λi=>decide (0<n)&&(lenAt ls i==n&&code ls i==v)
def hmore (ls:List Nat) (n v:Nat):Bool:=(List.range ls.length).any λi=>decide (n<lenAt ls i)&&code ls i/2^(lenAt ls i-n)==v
def hread (ls:List Nat):Nat→Nat→Nat→List Bool→Nat×Nat×Nat
 | 0,n,v,_=>match hsym ls n v with
  | some s=>(s,n,0)
  | none=>(0,n,3)
 | f+1,n,v,bits=>match hsym ls n v with
  | some s=>(s,n,0)
  | none=>if hmore ls n v then (match bits with
   | []=>(0,n,4)
   | b::t=>hread ls f (n+1) (2*v+b2n b) t) else (0,n,3)
theorem qgx {ls:List Nat} {f n v s:Nat} {bits:List Bool} (h:hsym ls n v=some s):hread ls f n v bits=(s,n,0):=by cases f<;>simp[hread,h]
theorem qig {ls:List Nat} {f n v:Nat} {b:Bool} {t:List Bool} (h:hsym ls n v=none) (hm:hmore ls n v=true):hread ls (f+1) n v (b::t)=hread ls f (n+1) (2*v+b2n b) t:=by simp[hread,h,hm]
theorem qkm {ls:List Nat} {f n v:Nat} (h:hsym ls n v=none) (hm:hmore ls n v=true):hread ls (f+1) n v []=(0,n,4):=by simp[hread,h,hm]
theorem qko {ls:List Nat} {f n v:Nat} {bits:List Bool} (h:hsym ls n v=none) (hm:hmore ls n v=false):hread ls f n v bits=(0,n,3):=by cases f<;>simp[hread,h,hm]
theorem qm7 {ls:List Nat} {n v:Nat} {bits:List Bool} (h:hsym ls n v=none):hread ls 0 n v bits=(0,n,3):=by simp[hread,h]
theorem qy2 (ls:List Nat) (s:Nat) (h0:0<lenAt ls s):hsym ls (lenAt ls s) (code ls s)=some s:=by
 unfold hsym;cases hf:(List.range ls.length).find? λi=>decide (0<lenAt ls s)&&(lenAt ls i==lenAt ls s&&code ls i==code ls s) with
 | none=>
  have:=qle.1 hf s (qdq.2 (qeo h0));simp[h0]at this
 | some i=>have h1:=List.find?_some hf;simp only[qbj,decide_eq_true_eq,beq_iff_eq]at h1;rw[zc0 ls (by omega) h1.2.1 h1.2.2]
theorem qvz (ls:List Nat) (s n:Nat) (h0:0<lenAt ls s) (h15:lenAt ls s≤15) (hn:n<lenAt ls s):hsym ls n (code ls s/2^(lenAt ls s-n))=none:=by
 unfold hsym;refine qle.2 λi _=>?_
 simp only[qbj,decide_eq_true_eq,beq_iff_eq,not_and];intro hn0 hi hc;have h1:=zb1 ls (i:=i) (j:=s) (by omega) (by omega) h15;unfold lo at h1;rw[hi,hc]at h1;have e:2^(15-n)=2^(lenAt ls s-n)*2^(15-lenAt ls s):=by rw[<-qci];congr 1;omega
 rw[e]at h1;have h2:(code ls s/2^(lenAt ls s-n)+1)*2^(lenAt ls s-n)*2^(15-lenAt ls s)≤code ls s*2^(15-lenAt ls s):=by rw[qc8,qnu,qc8,qc4];exact h1
 have h3:=Nat.le_of_mul_le_mul_right h2 (qbt _);have h4:=Nat.lt_div_mul_add (a:=code ls s) (qbt (lenAt ls s-n));rw[qc8,qnu]at h3;omega
theorem qsz (ls:List Nat) (s n:Nat) (hn:n<lenAt ls s):hmore ls n (code ls s/2^(lenAt ls s-n))=true:=by unfold hmore;refine List.any_eq_true.2 ⟨s,qdq.2 (qeo (by omega)),?_⟩;simp[hn]
theorem qof (ls:List Nat) (s:Nat) (hle:∀l∈ls,l≤15) (h0:0<lenAt ls s) (rest:List Bool):∀(k f n:Nat),n+k=lenAt ls s→lenAt ls s≤n+f→
  hread ls f n (code ls s/2^(lenAt ls s-n)) ((msb (lenAt ls s) (code ls s)).drop n++rest)=(s,lenAt ls s,0)
 | 0,f,n,h1,h2=>by
  obtain rfl:n=lenAt ls s:=by omega
  rw[Nat.sub_self,Nat.pow_zero,Nat.div_one];exact qgx (qy2 ls s h0)
 | k+1,f,n,h1,h2=>by
  have h15:=hle _ (qfj (qeo h0));obtain⟨f,rfl⟩:∃g,f=g+1:=⟨f-1,by omega⟩;have hl:n<(msb (lenAt ls s) (code ls s)).length:=by rw[qet];omega
  have hb:(msb (lenAt ls s) (code ls s))[n]=(code ls s/2^(lenAt ls s-1-n)%2==1):=by simp only[msb,List.getElem_reverse,lsb_length];rw[qsu]
  rw[qcg hl,qdk,qig (qvz ls s n h0 h15 (by omega)) (qsz ls s n (by omega))];have hv:2*(code ls s/2^(lenAt ls s-n))+b2n (msb (lenAt ls s) (code ls s))[n]=code ls s/2^(lenAt ls s-(n+1)):=by rw[hb,qtf,show lenAt ls s-n=lenAt ls s-(n+1)+1 from by omega,show lenAt ls s-1-n=lenAt ls s-(n+1) from by omega,qcs,<-qgy];omega
  rw[hv];exact qof ls s hle h0 rest k f (n+1) (by omega) (by omega)
def read (ls:List Nat) (bits:List Bool):Nat×Nat×Nat:=hread ls 15 0 0 bits
theorem qxi (ls:List Nat) (s:Nat) (hle:∀l∈ls,l≤15) (hw:weight ls≤32768) (h0:0<lenAt ls s) (rest:List Bool):read ls (msb (lenAt ls s) (code ls s)++rest)=(s,lenAt ls s,0):=by have h15:=hle _ (qfj (qeo h0));have:=qof ls s hle h0 rest (lenAt ls s) 15 0 (by omega) (by omega);rw[qp4,qi4 (qzv ls s hle hw h0),qaj]at this;exact this
end Go.Proofs.YtkmpfgpfbmeihaaGreatDoor.huf
