/-
  Texts of this proof, one behind the other: BitsMath, BitList, HuffLaw, HuffN, BitMore, InflLaw, Lib, Append, BitsOps, Take.
-/
import Derived.Test.YtbabjlohkniciaaGreatDoorRows
import Derived.WalkKit
import Derived.ProofKit
import Derived.OpenShut
import Derived.BigQuiet
import Derived.Lib.Hide
import Derived.ShutString
import Derived.Maps.AppendAt
import Derived.Deep.RegionLaw
set_option maxHeartbeats 16000000
set_option maxRecDepth 100000
set_option linter.unusedVariables false
set_option linter.unusedSimpArgs false
namespace Go.Proofs.YtbabjlohkniciaaGreatDoor
theorem zex {α : Sort _} (a : α) : ∃ x, x = a := ⟨a, rfl⟩
theorem zhd {p : Prop} (h : p) : Go.RowKit.Hid p := h
theorem zhd2 {p0 p1 : Prop} (h0 : p0) (h1 : p1) : Go.RowKit.Hid (p0 ∧ p1) := (⟨h0, h1⟩ : p0 ∧ p1)
theorem zhd3 {p0 p1 p2 : Prop} (h0 : p0) (h1 : p1) (h2 : p2) : Go.RowKit.Hid (p0 ∧ p1 ∧ p2) := (⟨h0, h1, h2⟩ : p0 ∧ p1 ∧ p2)
theorem zhd4 {p0 p1 p2 p3 : Prop} (h0 : p0) (h1 : p1) (h2 : p2) (h3 : p3) : Go.RowKit.Hid (p0 ∧ p1 ∧ p2 ∧ p3) := (⟨h0, h1, h2, h3⟩ : p0 ∧ p1 ∧ p2 ∧ p3)
theorem zhd5 {p0 p1 p2 p3 p4 : Prop} (h0 : p0) (h1 : p1) (h2 : p2) (h3 : p3) (h4 : p4) : Go.RowKit.Hid (p0 ∧ p1 ∧ p2 ∧ p3 ∧ p4) := (⟨h0, h1, h2, h3, h4⟩ : p0 ∧ p1 ∧ p2 ∧ p3 ∧ p4)
theorem zhd6 {p0 p1 p2 p3 p4 p5 : Prop} (h0 : p0) (h1 : p1) (h2 : p2) (h3 : p3) (h4 : p4) (h5 : p5) : Go.RowKit.Hid (p0 ∧ p1 ∧ p2 ∧ p3 ∧ p4 ∧ p5) := (⟨h0, h1, h2, h3, h4, h5⟩ : p0 ∧ p1 ∧ p2 ∧ p3 ∧ p4 ∧ p5)
theorem zhd7 {p0 p1 p2 p3 p4 p5 p6 : Prop} (h0 : p0) (h1 : p1) (h2 : p2) (h3 : p3) (h4 : p4) (h5 : p5) (h6 : p6) : Go.RowKit.Hid (p0 ∧ p1 ∧ p2 ∧ p3 ∧ p4 ∧ p5 ∧ p6) := (⟨h0, h1, h2, h3, h4, h5, h6⟩ : p0 ∧ p1 ∧ p2 ∧ p3 ∧ p4 ∧ p5 ∧ p6)
theorem zhd8 {p0 p1 p2 p3 p4 p5 p6 p7 : Prop} (h0 : p0) (h1 : p1) (h2 : p2) (h3 : p3) (h4 : p4) (h5 : p5) (h6 : p6) (h7 : p7) : Go.RowKit.Hid (p0 ∧ p1 ∧ p2 ∧ p3 ∧ p4 ∧ p5 ∧ p6 ∧ p7) := (⟨h0, h1, h2, h3, h4, h5, h6, h7⟩ : p0 ∧ p1 ∧ p2 ∧ p3 ∧ p4 ∧ p5 ∧ p6 ∧ p7)
theorem zhd9 {p0 p1 p2 p3 p4 p5 p6 p7 p8 : Prop} (h0 : p0) (h1 : p1) (h2 : p2) (h3 : p3) (h4 : p4) (h5 : p5) (h6 : p6) (h7 : p7) (h8 : p8) : Go.RowKit.Hid (p0 ∧ p1 ∧ p2 ∧ p3 ∧ p4 ∧ p5 ∧ p6 ∧ p7 ∧ p8) := (⟨h0, h1, h2, h3, h4, h5, h6, h7, h8⟩ : p0 ∧ p1 ∧ p2 ∧ p3 ∧ p4 ∧ p5 ∧ p6 ∧ p7 ∧ p8)
theorem zhd10 {p0 p1 p2 p3 p4 p5 p6 p7 p8 p9 : Prop} (h0 : p0) (h1 : p1) (h2 : p2) (h3 : p3) (h4 : p4) (h5 : p5) (h6 : p6) (h7 : p7) (h8 : p8) (h9 : p9) : Go.RowKit.Hid (p0 ∧ p1 ∧ p2 ∧ p3 ∧ p4 ∧ p5 ∧ p6 ∧ p7 ∧ p8 ∧ p9) := (⟨h0, h1, h2, h3, h4, h5, h6, h7, h8, h9⟩ : p0 ∧ p1 ∧ p2 ∧ p3 ∧ p4 ∧ p5 ∧ p6 ∧ p7 ∧ p8 ∧ p9)
theorem zhd11 {p0 p1 p2 p3 p4 p5 p6 p7 p8 p9 p10 : Prop} (h0 : p0) (h1 : p1) (h2 : p2) (h3 : p3) (h4 : p4) (h5 : p5) (h6 : p6) (h7 : p7) (h8 : p8) (h9 : p9) (h10 : p10) : Go.RowKit.Hid (p0 ∧ p1 ∧ p2 ∧ p3 ∧ p4 ∧ p5 ∧ p6 ∧ p7 ∧ p8 ∧ p9 ∧ p10) := (⟨h0, h1, h2, h3, h4, h5, h6, h7, h8, h9, h10⟩ : p0 ∧ p1 ∧ p2 ∧ p3 ∧ p4 ∧ p5 ∧ p6 ∧ p7 ∧ p8 ∧ p9 ∧ p10)
theorem zhd12 {p0 p1 p2 p3 p4 p5 p6 p7 p8 p9 p10 p11 : Prop} (h0 : p0) (h1 : p1) (h2 : p2) (h3 : p3) (h4 : p4) (h5 : p5) (h6 : p6) (h7 : p7) (h8 : p8) (h9 : p9) (h10 : p10) (h11 : p11) : Go.RowKit.Hid (p0 ∧ p1 ∧ p2 ∧ p3 ∧ p4 ∧ p5 ∧ p6 ∧ p7 ∧ p8 ∧ p9 ∧ p10 ∧ p11) := (⟨h0, h1, h2, h3, h4, h5, h6, h7, h8, h9, h10, h11⟩ : p0 ∧ p1 ∧ p2 ∧ p3 ∧ p4 ∧ p5 ∧ p6 ∧ p7 ∧ p8 ∧ p9 ∧ p10 ∧ p11)
theorem zhd13 {p0 p1 p2 p3 p4 p5 p6 p7 p8 p9 p10 p11 p12 : Prop} (h0 : p0) (h1 : p1) (h2 : p2) (h3 : p3) (h4 : p4) (h5 : p5) (h6 : p6) (h7 : p7) (h8 : p8) (h9 : p9) (h10 : p10) (h11 : p11) (h12 : p12) : Go.RowKit.Hid (p0 ∧ p1 ∧ p2 ∧ p3 ∧ p4 ∧ p5 ∧ p6 ∧ p7 ∧ p8 ∧ p9 ∧ p10 ∧ p11 ∧ p12) := (⟨h0, h1, h2, h3, h4, h5, h6, h7, h8, h9, h10, h11, h12⟩ : p0 ∧ p1 ∧ p2 ∧ p3 ∧ p4 ∧ p5 ∧ p6 ∧ p7 ∧ p8 ∧ p9 ∧ p10 ∧ p11 ∧ p12)
theorem zhd14 {p0 p1 p2 p3 p4 p5 p6 p7 p8 p9 p10 p11 p12 p13 : Prop} (h0 : p0) (h1 : p1) (h2 : p2) (h3 : p3) (h4 : p4) (h5 : p5) (h6 : p6) (h7 : p7) (h8 : p8) (h9 : p9) (h10 : p10) (h11 : p11) (h12 : p12) (h13 : p13) : Go.RowKit.Hid (p0 ∧ p1 ∧ p2 ∧ p3 ∧ p4 ∧ p5 ∧ p6 ∧ p7 ∧ p8 ∧ p9 ∧ p10 ∧ p11 ∧ p12 ∧ p13) := (⟨h0, h1, h2, h3, h4, h5, h6, h7, h8, h9, h10, h11, h12, h13⟩ : p0 ∧ p1 ∧ p2 ∧ p3 ∧ p4 ∧ p5 ∧ p6 ∧ p7 ∧ p8 ∧ p9 ∧ p10 ∧ p11 ∧ p12 ∧ p13)
theorem zhd15 {p0 p1 p2 p3 p4 p5 p6 p7 p8 p9 p10 p11 p12 p13 p14 : Prop} (h0 : p0) (h1 : p1) (h2 : p2) (h3 : p3) (h4 : p4) (h5 : p5) (h6 : p6) (h7 : p7) (h8 : p8) (h9 : p9) (h10 : p10) (h11 : p11) (h12 : p12) (h13 : p13) (h14 : p14) : Go.RowKit.Hid (p0 ∧ p1 ∧ p2 ∧ p3 ∧ p4 ∧ p5 ∧ p6 ∧ p7 ∧ p8 ∧ p9 ∧ p10 ∧ p11 ∧ p12 ∧ p13 ∧ p14) := (⟨h0, h1, h2, h3, h4, h5, h6, h7, h8, h9, h10, h11, h12, h13, h14⟩ : p0 ∧ p1 ∧ p2 ∧ p3 ∧ p4 ∧ p5 ∧ p6 ∧ p7 ∧ p8 ∧ p9 ∧ p10 ∧ p11 ∧ p12 ∧ p13 ∧ p14)
theorem zhd16 {p0 p1 p2 p3 p4 p5 p6 p7 p8 p9 p10 p11 p12 p13 p14 p15 : Prop} (h0 : p0) (h1 : p1) (h2 : p2) (h3 : p3) (h4 : p4) (h5 : p5) (h6 : p6) (h7 : p7) (h8 : p8) (h9 : p9) (h10 : p10) (h11 : p11) (h12 : p12) (h13 : p13) (h14 : p14) (h15 : p15) : Go.RowKit.Hid (p0 ∧ p1 ∧ p2 ∧ p3 ∧ p4 ∧ p5 ∧ p6 ∧ p7 ∧ p8 ∧ p9 ∧ p10 ∧ p11 ∧ p12 ∧ p13 ∧ p14 ∧ p15) := (⟨h0, h1, h2, h3, h4, h5, h6, h7, h8, h9, h10, h11, h12, h13, h14, h15⟩ : p0 ∧ p1 ∧ p2 ∧ p3 ∧ p4 ∧ p5 ∧ p6 ∧ p7 ∧ p8 ∧ p9 ∧ p10 ∧ p11 ∧ p12 ∧ p13 ∧ p14 ∧ p15)
theorem _root_.Go.RowKit.Hid.o0 {p0 q : Prop} (h : Go.RowKit.Hid (p0 ∧ q)) : p0 := h.out.1
theorem _root_.Go.RowKit.Hid.o1 {p0 p1 q : Prop} (h : Go.RowKit.Hid (p0 ∧ p1 ∧ q)) : p1 := h.out.2.1
theorem _root_.Go.RowKit.Hid.o2 {p0 p1 p2 q : Prop} (h : Go.RowKit.Hid (p0 ∧ p1 ∧ p2 ∧ q)) : p2 := h.out.2.2.1
theorem _root_.Go.RowKit.Hid.o3 {p0 p1 p2 p3 q : Prop} (h : Go.RowKit.Hid (p0 ∧ p1 ∧ p2 ∧ p3 ∧ q)) : p3 := h.out.2.2.2.1
theorem _root_.Go.RowKit.Hid.o4 {p0 p1 p2 p3 p4 q : Prop} (h : Go.RowKit.Hid (p0 ∧ p1 ∧ p2 ∧ p3 ∧ p4 ∧ q)) : p4 := h.out.2.2.2.2.1
theorem _root_.Go.RowKit.Hid.o5 {p0 p1 p2 p3 p4 p5 q : Prop} (h : Go.RowKit.Hid (p0 ∧ p1 ∧ p2 ∧ p3 ∧ p4 ∧ p5 ∧ q)) : p5 := h.out.2.2.2.2.2.1
theorem _root_.Go.RowKit.Hid.o6 {p0 p1 p2 p3 p4 p5 p6 q : Prop} (h : Go.RowKit.Hid (p0 ∧ p1 ∧ p2 ∧ p3 ∧ p4 ∧ p5 ∧ p6 ∧ q)) : p6 := h.out.2.2.2.2.2.2.1
theorem _root_.Go.RowKit.Hid.o7 {p0 p1 p2 p3 p4 p5 p6 p7 q : Prop} (h : Go.RowKit.Hid (p0 ∧ p1 ∧ p2 ∧ p3 ∧ p4 ∧ p5 ∧ p6 ∧ p7 ∧ q)) : p7 := h.out.2.2.2.2.2.2.2.1
theorem _root_.Go.RowKit.Hid.o8 {p0 p1 p2 p3 p4 p5 p6 p7 p8 q : Prop} (h : Go.RowKit.Hid (p0 ∧ p1 ∧ p2 ∧ p3 ∧ p4 ∧ p5 ∧ p6 ∧ p7 ∧ p8 ∧ q)) : p8 := h.out.2.2.2.2.2.2.2.2.1
theorem _root_.Go.RowKit.Hid.o9 {p0 p1 p2 p3 p4 p5 p6 p7 p8 p9 q : Prop} (h : Go.RowKit.Hid (p0 ∧ p1 ∧ p2 ∧ p3 ∧ p4 ∧ p5 ∧ p6 ∧ p7 ∧ p8 ∧ p9 ∧ q)) : p9 := h.out.2.2.2.2.2.2.2.2.2.1
theorem _root_.Go.RowKit.Hid.o10 {p0 p1 p2 p3 p4 p5 p6 p7 p8 p9 p10 q : Prop} (h : Go.RowKit.Hid (p0 ∧ p1 ∧ p2 ∧ p3 ∧ p4 ∧ p5 ∧ p6 ∧ p7 ∧ p8 ∧ p9 ∧ p10 ∧ q)) : p10 := h.out.2.2.2.2.2.2.2.2.2.2.1
theorem _root_.Go.RowKit.Hid.o11 {p0 p1 p2 p3 p4 p5 p6 p7 p8 p9 p10 p11 q : Prop} (h : Go.RowKit.Hid (p0 ∧ p1 ∧ p2 ∧ p3 ∧ p4 ∧ p5 ∧ p6 ∧ p7 ∧ p8 ∧ p9 ∧ p10 ∧ p11 ∧ q)) : p11 := h.out.2.2.2.2.2.2.2.2.2.2.2.1
theorem _root_.Go.RowKit.Hid.o12 {p0 p1 p2 p3 p4 p5 p6 p7 p8 p9 p10 p11 p12 q : Prop} (h : Go.RowKit.Hid (p0 ∧ p1 ∧ p2 ∧ p3 ∧ p4 ∧ p5 ∧ p6 ∧ p7 ∧ p8 ∧ p9 ∧ p10 ∧ p11 ∧ p12 ∧ q)) : p12 := h.out.2.2.2.2.2.2.2.2.2.2.2.2.1
theorem _root_.Go.RowKit.Hid.o13 {p0 p1 p2 p3 p4 p5 p6 p7 p8 p9 p10 p11 p12 p13 q : Prop} (h : Go.RowKit.Hid (p0 ∧ p1 ∧ p2 ∧ p3 ∧ p4 ∧ p5 ∧ p6 ∧ p7 ∧ p8 ∧ p9 ∧ p10 ∧ p11 ∧ p12 ∧ p13 ∧ q)) : p13 := h.out.2.2.2.2.2.2.2.2.2.2.2.2.2.1
theorem _root_.Go.RowKit.Hid.o14 {p0 p1 p2 p3 p4 p5 p6 p7 p8 p9 p10 p11 p12 p13 p14 q : Prop} (h : Go.RowKit.Hid (p0 ∧ p1 ∧ p2 ∧ p3 ∧ p4 ∧ p5 ∧ p6 ∧ p7 ∧ p8 ∧ p9 ∧ p10 ∧ p11 ∧ p12 ∧ p13 ∧ p14 ∧ q)) : p14 := h.out.2.2.2.2.2.2.2.2.2.2.2.2.2.2.1
theorem _root_.Go.RowKit.Hid.o15 {p0 p1 p2 p3 p4 p5 p6 p7 p8 p9 p10 p11 p12 p13 p14 p15 q : Prop} (h : Go.RowKit.Hid (p0 ∧ p1 ∧ p2 ∧ p3 ∧ p4 ∧ p5 ∧ p6 ∧ p7 ∧ p8 ∧ p9 ∧ p10 ∧ p11 ∧ p12 ∧ p13 ∧ p14 ∧ p15 ∧ q)) : p15 := h.out.2.2.2.2.2.2.2.2.2.2.2.2.2.2.2.1
theorem _root_.Go.RowKit.Hid.l1 {p0 p1 : Prop} (h : Go.RowKit.Hid (p0 ∧ p1)) : p1 := h.out.2
theorem _root_.Go.RowKit.Hid.l2 {p0 p1 p2 : Prop} (h : Go.RowKit.Hid (p0 ∧ p1 ∧ p2)) : p2 := h.out.2.2
theorem _root_.Go.RowKit.Hid.l3 {p0 p1 p2 p3 : Prop} (h : Go.RowKit.Hid (p0 ∧ p1 ∧ p2 ∧ p3)) : p3 := h.out.2.2.2
theorem _root_.Go.RowKit.Hid.l4 {p0 p1 p2 p3 p4 : Prop} (h : Go.RowKit.Hid (p0 ∧ p1 ∧ p2 ∧ p3 ∧ p4)) : p4 := h.out.2.2.2.2
theorem _root_.Go.RowKit.Hid.l5 {p0 p1 p2 p3 p4 p5 : Prop} (h : Go.RowKit.Hid (p0 ∧ p1 ∧ p2 ∧ p3 ∧ p4 ∧ p5)) : p5 := h.out.2.2.2.2.2
theorem _root_.Go.RowKit.Hid.l6 {p0 p1 p2 p3 p4 p5 p6 : Prop} (h : Go.RowKit.Hid (p0 ∧ p1 ∧ p2 ∧ p3 ∧ p4 ∧ p5 ∧ p6)) : p6 := h.out.2.2.2.2.2.2
theorem _root_.Go.RowKit.Hid.l7 {p0 p1 p2 p3 p4 p5 p6 p7 : Prop} (h : Go.RowKit.Hid (p0 ∧ p1 ∧ p2 ∧ p3 ∧ p4 ∧ p5 ∧ p6 ∧ p7)) : p7 := h.out.2.2.2.2.2.2.2
theorem _root_.Go.RowKit.Hid.l8 {p0 p1 p2 p3 p4 p5 p6 p7 p8 : Prop} (h : Go.RowKit.Hid (p0 ∧ p1 ∧ p2 ∧ p3 ∧ p4 ∧ p5 ∧ p6 ∧ p7 ∧ p8)) : p8 := h.out.2.2.2.2.2.2.2.2
theorem _root_.Go.RowKit.Hid.l9 {p0 p1 p2 p3 p4 p5 p6 p7 p8 p9 : Prop} (h : Go.RowKit.Hid (p0 ∧ p1 ∧ p2 ∧ p3 ∧ p4 ∧ p5 ∧ p6 ∧ p7 ∧ p8 ∧ p9)) : p9 := h.out.2.2.2.2.2.2.2.2.2
theorem _root_.Go.RowKit.Hid.l10 {p0 p1 p2 p3 p4 p5 p6 p7 p8 p9 p10 : Prop} (h : Go.RowKit.Hid (p0 ∧ p1 ∧ p2 ∧ p3 ∧ p4 ∧ p5 ∧ p6 ∧ p7 ∧ p8 ∧ p9 ∧ p10)) : p10 := h.out.2.2.2.2.2.2.2.2.2.2
theorem _root_.Go.RowKit.Hid.l11 {p0 p1 p2 p3 p4 p5 p6 p7 p8 p9 p10 p11 : Prop} (h : Go.RowKit.Hid (p0 ∧ p1 ∧ p2 ∧ p3 ∧ p4 ∧ p5 ∧ p6 ∧ p7 ∧ p8 ∧ p9 ∧ p10 ∧ p11)) : p11 := h.out.2.2.2.2.2.2.2.2.2.2.2
theorem _root_.Go.RowKit.Hid.l12 {p0 p1 p2 p3 p4 p5 p6 p7 p8 p9 p10 p11 p12 : Prop} (h : Go.RowKit.Hid (p0 ∧ p1 ∧ p2 ∧ p3 ∧ p4 ∧ p5 ∧ p6 ∧ p7 ∧ p8 ∧ p9 ∧ p10 ∧ p11 ∧ p12)) : p12 := h.out.2.2.2.2.2.2.2.2.2.2.2.2
theorem _root_.Go.RowKit.Hid.l13 {p0 p1 p2 p3 p4 p5 p6 p7 p8 p9 p10 p11 p12 p13 : Prop} (h : Go.RowKit.Hid (p0 ∧ p1 ∧ p2 ∧ p3 ∧ p4 ∧ p5 ∧ p6 ∧ p7 ∧ p8 ∧ p9 ∧ p10 ∧ p11 ∧ p12 ∧ p13)) : p13 := h.out.2.2.2.2.2.2.2.2.2.2.2.2.2
theorem _root_.Go.RowKit.Hid.l14 {p0 p1 p2 p3 p4 p5 p6 p7 p8 p9 p10 p11 p12 p13 p14 : Prop} (h : Go.RowKit.Hid (p0 ∧ p1 ∧ p2 ∧ p3 ∧ p4 ∧ p5 ∧ p6 ∧ p7 ∧ p8 ∧ p9 ∧ p10 ∧ p11 ∧ p12 ∧ p13 ∧ p14)) : p14 := h.out.2.2.2.2.2.2.2.2.2.2.2.2.2.2
theorem _root_.Go.RowKit.Hid.l15 {p0 p1 p2 p3 p4 p5 p6 p7 p8 p9 p10 p11 p12 p13 p14 p15 : Prop} (h : Go.RowKit.Hid (p0 ∧ p1 ∧ p2 ∧ p3 ∧ p4 ∧ p5 ∧ p6 ∧ p7 ∧ p8 ∧ p9 ∧ p10 ∧ p11 ∧ p12 ∧ p13 ∧ p14 ∧ p15)) : p15 := h.out.2.2.2.2.2.2.2.2.2.2.2.2.2.2.2
theorem qaa:type_of% @List.getElem?_cons_zero:=@List.getElem?_cons_zero
theorem qab:type_of% @List.length_append:=@List.length_append
theorem qac:type_of% @Array.getElem?_setIfInBounds_ne:=@Array.getElem?_setIfInBounds_ne
theorem qad:type_of% @List.getElem?_cons_succ:=@List.getElem?_cons_succ
theorem qae:type_of% @List.getElem?_toArray:=@List.getElem?_toArray
theorem qaf:type_of% @List.getElem?_eq_getElem:=@List.getElem?_eq_getElem
theorem qag:type_of% @Nat.le_refl:=@Nat.le_refl
theorem qah:type_of% @List.drop_succ_cons:=@List.drop_succ_cons
theorem qai:type_of% @List.take_succ_cons:=@List.take_succ_cons
theorem qaj:type_of% @List.drop_zero:=@List.drop_zero
theorem qak:type_of% @List.map_cons:=@List.map_cons
theorem qal:type_of% @Nat.lt_of_lt_of_le:=@Nat.lt_of_lt_of_le
theorem qam:type_of% @List.length_cons:=@List.length_cons
theorem qan:type_of% @Nat.le_trans:=@Nat.le_trans
theorem qao:type_of% @List.take_zero:=@List.take_zero
theorem qap:type_of% @List.map_nil:=@List.map_nil
theorem qaq:type_of% @Array.getElem?_setIfInBounds_self_of_lt:=@Array.getElem?_setIfInBounds_self_of_lt
theorem qar:type_of% @List.length_take:=@List.length_take
theorem qas:type_of% @Option.some.injEq:=@Option.some.injEq
theorem qat:type_of% @List.append_assoc:=@List.append_assoc
theorem qau:type_of% @List.length_drop:=@List.length_drop
theorem qav:type_of% @Go.World.size_alloc:=@Go.World.size_alloc
theorem qaw:type_of% @List.mem_cons:=@List.mem_cons
theorem qax:type_of% @Nat.pow_le_pow_right:=@Nat.pow_le_pow_right
theorem qaz:type_of% @List.mem_singleton:=@List.mem_singleton
theorem qa1:type_of% @Prod.mk.injEq:=@Prod.mk.injEq
theorem qa2:type_of% @Option.some.inj:=@Option.some.inj
theorem qa3:type_of% @Except.ok.injEq:=@Except.ok.injEq
theorem qa6:type_of% @List.mem_of_getElem?:=@List.mem_of_getElem?
theorem qa8:type_of% @List.length_map:=@List.length_map
theorem qa9:type_of% @List.take_of_length_le:=@List.take_of_length_le
theorem qba:type_of% @Nat.zero_le:=@Nat.zero_le
theorem qbb:type_of% @List.length_nil:=@List.length_nil
theorem qbc:type_of% @List.take_succ_eq_append_getElem:=@List.take_succ_eq_append_getElem
theorem qbd:type_of% @List.mem_append:=@List.mem_append
theorem qbe:type_of% @Nat.zero_add:=@Nat.zero_add
theorem qbf:type_of% @Bool.and_eq_true:=@Bool.and_eq_true
theorem qbg:type_of% @List.getElem?_eq_some_iff:=@List.getElem?_eq_some_iff
theorem qbh:type_of% @List.getD_cons_zero:=@List.getD_cons_zero
theorem qbi:type_of% @List.getD_cons_succ:=@List.getD_cons_succ
theorem qbj:type_of% @Nat.two_pow_pos:=@Nat.two_pow_pos
theorem qbl:type_of% @List.getElem?_take:=@List.getElem?_take
theorem qbm:type_of% @List.drop_eq_getElem_cons:=@List.drop_eq_getElem_cons
theorem qbn:type_of% @Go.Value.slice.injEq:=@Go.Value.slice.injEq
theorem qbo:type_of% @UInt8.toNat_lt:=@UInt8.toNat_lt
theorem qbq:type_of% @Nat.lt_or_ge:=@Nat.lt_or_ge
theorem qbr:type_of% @List.getElem?_eq_none:=@List.getElem?_eq_none
theorem qbs:type_of% @List.eq_nil_of_length_eq_zero:=@List.eq_nil_of_length_eq_zero
theorem qbt:type_of% @List.map_append:=@List.map_append
theorem qbu:type_of% @List.mem_of_mem_take:=@List.mem_of_mem_take
theorem qbv:type_of% @Option.some_ne_none:=@Option.some_ne_none
theorem qbw:type_of% @List.mem_cons_of_mem:=@List.mem_cons_of_mem
theorem qbx:type_of% @List.getElem?_map:=@List.getElem?_map
theorem qby:type_of% @List.not_mem_nil:=@List.not_mem_nil
theorem qbz:type_of% @Go.Calls.quiet_of_same:=@Go.Calls.quiet_of_same
theorem qb0:type_of% @List.append_nil:=@List.append_nil
theorem qb1:type_of% @List.mem_cons_self:=@List.mem_cons_self
theorem qb2:type_of% @List.length_replicate:=@List.length_replicate
theorem qb3:type_of% @Nat.pow_add:=@Nat.pow_add
theorem qb4:type_of% @Go.World.ownsRow.cellAt:=@Go.World.ownsRow.cellAt
theorem qb5:type_of% @Nat.add_zero:=@Nat.add_zero
theorem qb6:type_of% @UInt8.toNat_ofNat':=@UInt8.toNat_ofNat'
theorem qb7:type_of% @List.getElem_mem:=@List.getElem_mem
theorem qb8:type_of% @List.mem_map:=@List.mem_map
theorem qca:type_of% @List.flatMap_cons:=@List.flatMap_cons
theorem qcb:type_of% @List.pairwise_cons:=@List.pairwise_cons
theorem qcc:type_of% @List.getElem?_append_left:=@List.getElem?_append_left
theorem qcd:type_of% @Nat.mul_comm:=@Nat.mul_comm
theorem qce:type_of% @List.drop_nil:=@List.drop_nil
theorem qcg:type_of% @Go.Addr.mk.injEq:=@Go.Addr.mk.injEq
theorem qch:type_of% @Go.World.ownsRow_nil:=@Go.World.ownsRow_nil
theorem qci:type_of% @Array.getElem?_toList:=@Array.getElem?_toList
theorem qck:type_of% @List.nil_append:=@List.nil_append
theorem qcr:type_of% @Nat.pow_succ:=@Nat.pow_succ
theorem qcs:type_of% @Nat.min_eq_left:=@Nat.min_eq_left
theorem qct:type_of% @Nat.add_mul:=@Nat.add_mul
theorem qcu:type_of% @Nat.add_assoc:=@Nat.add_assoc
theorem qcv:type_of% @Int.eq_ofNat_of_zero_le:=@Int.eq_ofNat_of_zero_le
theorem qcx:type_of% @Go.IntKind.wrap_i64:=@Go.IntKind.wrap_i64
theorem qcy:type_of% @Nat.mul_le_mul_right:=@Nat.mul_le_mul_right
theorem qc1:type_of% @Nat.mul_assoc:=@Nat.mul_assoc
theorem qc2:type_of% @List.take_append_of_le_length:=@List.take_append_of_le_length
theorem qc3:type_of% @List.cons_append:=@List.cons_append
theorem qc6:type_of% @List.length_singleton:=@List.length_singleton
theorem qc7:type_of% @List.length_filter_le:=@List.length_filter_le
theorem qc8:type_of% @Int.toNat_natCast:=@Int.toNat_natCast
theorem qdi:type_of% @Nat.mul_one:=@Nat.mul_one
theorem qdk:type_of% @List.mem_range:=@List.mem_range
theorem qdl:type_of% @Nat.div_lt_iff_lt_mul:=@Nat.div_lt_iff_lt_mul
theorem qdm:type_of% @List.mem_iff_getElem?:=@List.mem_iff_getElem?
theorem qdw:type_of% @List.replicate_succ':=@List.replicate_succ'
theorem qd4:type_of% @Nat.mod_lt:=@Nat.mod_lt
theorem qeb:type_of% @Go.Region.noSelect_spec:=@Go.Region.noSelect_spec
theorem qec:type_of% @List.find?_cons:=@List.find?_cons
theorem qed:type_of% @List.drop_eq_nil_of_le:=@List.drop_eq_nil_of_le
theorem qek:type_of% @List.getElem?_append_right:=@List.getElem?_append_right
theorem qeo:type_of% @Nat.add_sub_cancel:=@Nat.add_sub_cancel
theorem qep:type_of% @List.take_append_drop:=@List.take_append_drop
theorem qeq:type_of% @List.filter_append:=@List.filter_append
theorem qex:type_of% @List.pairwise_append:=@List.pairwise_append
theorem qe1:type_of% @List.count_append:=@List.count_append
theorem qe2:type_of% @List.cons_eq_cons:=@List.cons_eq_cons
theorem qfb:type_of% @List.getElem?_replicate:=@List.getElem?_replicate
theorem qfp:type_of% @Option.getD_some:=@Option.getD_some
theorem qfq:type_of% @List.drop_append_of_le_length:=@List.drop_append_of_le_length
theorem qf2:type_of% @Nat.div_div_eq_div_mul:=@Nat.div_div_eq_div_mul
theorem qf3:type_of% @Nat.lt_of_le_of_lt:=@Nat.lt_of_le_of_lt
theorem qf4:type_of% @List.mem_replicate:=@List.mem_replicate
theorem qgf:type_of% @Go.Region.free_spec:=@Go.Region.free_spec
theorem qgg:type_of% @Option.map_some:=@Option.map_some
theorem qgh:type_of% @Ne.symm:=@Ne.symm
theorem qgi:type_of% @Nat.mul_add:=@Nat.mul_add
theorem qgz:type_of% @List.length_range:=@List.length_range
theorem qhf:type_of% @List.count_le_length:=@List.count_le_length
theorem qhv:type_of% @Array.getElem?_eq_getElem:=@Array.getElem?_eq_getElem
theorem qik:type_of% @List.flatMap_append:=@List.flatMap_append
theorem qil:type_of% @Nat.add_comm:=@Nat.add_comm
theorem qjn:type_of% @UInt8.toNat_inj:=@UInt8.toNat_inj
theorem qjo:type_of% @List.range_succ:=@List.range_succ
theorem qjp:type_of% @List.getElem?_drop:=@List.getElem?_drop
theorem qjq:type_of% @List.find?_eq_none:=@List.find?_eq_none
theorem qlv:type_of% @List.ext_getElem?:=@List.ext_getElem?
theorem qm3:type_of% @Nat.mul_le_mul:=@Nat.mul_le_mul
theorem qod:type_of% @Nat.sub_zero:=@Nat.sub_zero
theorem qoe:type_of% @Nat.and_two_pow_sub_one_eq_mod:=@Nat.and_two_pow_sub_one_eq_mod
theorem qp4:type_of% @Nat.div_eq_of_lt:=@Nat.div_eq_of_lt
theorem qp5:type_of% @Nat.add_mul_div_left:=@Nat.add_mul_div_left
theorem qro:type_of% @List.map_take:=@List.map_take
theorem qrp:type_of% @List.all_cons:=@List.all_cons
theorem qus:type_of% @Go.Sem.run_bind:=@Go.Sem.run_bind
theorem qut:type_of% @Nat.one_mul:=@Nat.one_mul
theorem quu:type_of% @Nat.div_add_mod:=@Nat.div_add_mod
theorem quv:type_of% @List.mem_filter:=@List.mem_filter
theorem quw:type_of% @List.getElem?_range:=@List.getElem?_range
theorem qux:type_of% @List.cons.injEq:=@List.cons.injEq
theorem quy:type_of% @Bool.eq_iff_iff:=@Bool.eq_iff_iff
theorem quz:type_of% @Array.length_toList:=@Array.length_toList
theorem qyq:type_of% @List.setIfInBounds_toArray:=@List.setIfInBounds_toArray
theorem zay:type_of% @List.take_take:=@List.take_take
theorem zaz:type_of% @List.pairwise_iff_getElem:=@List.pairwise_iff_getElem
theorem za0:type_of% @List.drop_drop:=@List.drop_drop
end Go.Proofs.YtbabjlohkniciaaGreatDoor
namespace Go.Proofs.YtbabjlohkniciaaGreatDoor.bm
def num:List UInt8→Nat
 | []=>0
 | b::r=>b.toNat+256*num r
theorem qwa:∀bs:List UInt8,num bs<2^(8*bs.length)
 | []=>by simp[num]
 | b::r=>by
  have h:=qwa r;have hb:b.toNat<256:=b.toNat_lt;have e:2^(8*(b::r).length)=256*2^(8*r.length):=by rw[qam,qgi,qb3,qcd]
  rw[e];simp only[num];omega
theorem qmi:∀a b:List UInt8,num (a++b)=num a+2^(8*a.length)*num b
 | [],b=>by simp[num]
 | x::a,b=>by
  have e:2^(8*(x::a).length)=256*2^(8*a.length):=by rw[qam,qgi,qb3,qcd]
  rw[qc3,num,num,qmi a b,e,qc1,qgi,qcu]
theorem qzq (bs:List UInt8) (i:Nat) (h:i≤bs.length):num bs/2^(8*i)=num (bs.drop i):=by have e:=qmi (bs.take i) (bs.drop i);rw[qep]at e;have hl:=qwa (bs.take i);rw[qar,qcs h]at e hl;rw[e,qp5 _ _ (qbj _),qp4 hl,qbe]
theorem chunk (bs:List UInt8) (a k:Nat) (h:a/8<bs.length) (hk:a%8+k≤8) :
  num bs/2^a%2^k=(bs.getD (a/8) 0).toNat/2^(a%8)%2^k:=by
 have e:num bs/2^a=num (bs.drop (a/8))/2^(a%8):=by rw[<-qzq bs (a/8) (by omega),qf2,<-qb3,quu]
 have hd:bs.drop (a/8)=bs[a/8]::bs.drop (a/8+1):=qbm h;have hg:bs.getD (a/8) 0=bs[a/8]:=by simp[List.getD,h]
 rw[e,hd,hg,num];generalize num (bs.drop (a/8+1))=r;generalize (bs[a/8]).toNat=b;have e256:256*r=2^(a%8)*(2^k*(2^(8-a%8-k)*r)):=by rw[<-qc1,<-qc1,<-qb3,<-qb3,show a%8+k+(8-a%8-k)=8 from by omega]
 rw[e256,qp5 _ _ (qbj _),Nat.add_mul_mod_self_left]
theorem more (x a i k:Nat):x/2^a%2^(i+k)=x/2^a%2^i+2^i*(x/2^(a+i)%2^k):=by rw[qb3 2 i k,Nat.mod_mul,qf2,<-qb3]
def dig:Nat→Nat→List UInt8
 | 0,_=>[]
 | k+1,m=>UInt8.ofNat m::dig k (m/256)
theorem qhb:∀k m:Nat,(dig k m).length=k
 | 0,_=>rfl
 | k+1,m=>by simp[dig,qhb k]
theorem two8 (k:Nat):2^(8*(k+1))=256*2^(8*k):=by rw[qgi,qb3,qcd]
theorem qwb:∀k m:Nat,num (dig k m)=m%2^(8*k)
 | 0,m=>by simp[dig,num,Nat.mod_one]
 | k+1,m=>by rw[dig,num,qwb k,two8,Nat.mod_mul];simp[qb6]
theorem qra:∀k m x:Nat,dig k (m+2^(8*k)*x)=dig k m
 | 0,m,x=>rfl
 | k+1,m,x=>by
  rw[dig,dig,two8,qc1];have h1:UInt8.ofNat (m+256*(2^(8*k)*x))=UInt8.ofNat m:=qjn.1 (by simp[qb6]);have h2:(m+256*(2^(8*k)*x))/256=m/256+2^(8*k)*x:=by omega
  rw[h1,h2,qra k]
theorem qi4:∀k j m:Nat,dig (k+j) m=dig k m++dig j (m/2^(8*k))
 | 0,j,m=>by simp[dig]
 | k+1,j,m=>by rw[Nat.add_right_comm,dig,dig,qi4 k j,qc3,qf2,two8]
theorem qs0 (k m:Nat):dig (k+1) m=dig k m++[UInt8.ofNat (m/2^(8*k))]:=by rw[qi4 k 1 m];simp[dig]
theorem qn3:∀bs:List UInt8,dig bs.length (num bs)=bs
 | []=>rfl
 | b::r=>by
  have hb:b.toNat<256:=b.toNat_lt;rw[qam,dig,num];have h1:UInt8.ofNat (b.toNat+256*num r)=b:=qjn.1 (by rw[qb6];omega);have h2:(b.toNat+256*num r)/256=num r:=by omega
  rw[h1,h2,qn3 r]
theorem zch {a b:List UInt8} (hl:a.length=b.length) (h:num a=num b):a=b:=by rw[<-qn3 a,<-qn3 b,hl,h]
def revTo (v n:Nat):Nat→Nat
 | 0=>0
 | k+1=>revTo v n k+2^k*(v/2^(n-1-k)%2)
theorem qx4 (M L v n k:Nat):M+2^L*revTo v n k+2^(L+k)*(v/2^(n-1-k)%2)=M+2^L*revTo v n (k+1):=by rw[revTo,qgi,qb3,qc1,qcu]
theorem zb7 (q M:Nat) (bs:List UInt8) (hM:M<2^(8*q)):dig (q+bs.length) (M+2^(8*q)*num bs)=dig q M++bs:=by rw[qi4,qra,qp5 _ _ (qbj _),qp4 hM,qbe,qn3]
theorem za7 (q M:Nat) (bs:List UInt8) (hM:M<2^(8*q)):M+2^(8*q)*num bs<2^(8*q+8*bs.length):=by
 have h:=qwa bs;rw[qb3];calc M+2^(8*q)*num bs<2^(8*q)+2^(8*q)*num bs:=by omega
  _=2^(8*q)*(num bs+1):=by rw[qgi,qdi,qil]
  _≤2^(8*q)*2^(8*bs.length):=Nat.mul_le_mul_left _ h
end Go.Proofs.YtbabjlohkniciaaGreatDoor.bm
namespace Go.Proofs.YtbabjlohkniciaaGreatDoor.bl
open Go bm
def b2n (b:Bool):Nat:=if b then 1 else 0
def bval:List Bool→Nat
 | []=>0
 | b::t=>b2n b+2*bval t
theorem qm1 (b:Bool):b2n b<2:=by cases b<;>decide
theorem qdq:∀a b:List Bool,bval (a++b)=bval a+2^a.length*bval b
 | [],b=>by simp[bval]
 | x::a,b=>by rw[qc3,bval,bval,qdq a b,qam,qcr];generalize 2^a.length=p;rw[qcd p 2,qc1];generalize p*bval b=q;omega
theorem qri:∀l:List Bool,bval l<2^l.length
 | []=>by simp[bval]
 | x::l=>by have:=qri l;have:=qm1 x;rw[bval,qam,qcr];omega
theorem zc4 {a b:Bool} (h:b2n a=b2n b):a=b:=by cases a<;>cases b<;>simp_all [b2n]
theorem qs4:∀{a b:List Bool},a.length=b.length→bval a=bval b→a=b
 | [],[],_,_=>rfl
 | [],_::_,h,_=>by simp at h
 | _::_,[],h,_=>by simp at h
 | x::a,y::b,h,hv=>by rw[bval,bval]at hv;have hx:=qm1 x;have hy:=qm1 y;rw[zc4 (show b2n x=b2n y by omega),qs4 (by simpa using h) (show bval a=bval b by omega)]
def lsb:Nat→Nat→List Bool
 | 0,_=>[]
 | n+1,x=>(x%2==1)::lsb n (x/2)
theorem lsb_length:∀n x:Nat,(lsb n x).length=n
 | 0,_=>rfl
 | n+1,x=>by rw[lsb,qam,lsb_length]
theorem qrm (x:Nat):b2n (x%2==1)=x%2:=by rcases Nat.mod_two_eq_zero_or_one x with h|h<;>rw[h]<;>rfl
theorem qj2:∀n x:Nat,bval (lsb n x)=x%2^n
 | 0,x=>by simp[lsb,bval,Nat.mod_one]
 | n+1,x=>by rw[lsb,bval,qj2 n,qrm,qcr,qcd (2^n),Nat.mod_mul]
theorem qmz:∀n:Nat,bval (List.replicate n false)=0
 | 0=>rfl
 | n+1=>by rw[List.replicate_succ,bval,qmz n];rfl
def msb (n x:Nat):List Bool:=(lsb n x).reverse
theorem qd6 (n x:Nat):(msb n x).length=n:=by rw[msb,List.length_reverse,lsb_length]
theorem qqx:∀(n x i:Nat) (h:i<(lsb n x).length),(lsb n x)[i]=(x/2^i%2==1)
 | 0,x,i,h=>by simp[lsb]at h
 | n+1,x,0,_=>by simp[lsb]
 | n+1,x,i+1,h=>by simp only[lsb,List.getElem_cons_succ];rw[qqx n (x/2) i,qf2,qcr,qcd 2]
theorem qo6 (x n:Nat):∀k,k≤n→bval ((msb n x).take k)=revTo x n k
 | 0,_=>by simp[bval,revTo]
 | k+1,h=>by
  have hl:k<(msb n x).length:=by rw[qd6];omega
  rw[qbc hl,qdq,qo6 x n k (by omega),qar,qd6,qcs (by omega),revTo];congr 2;have e:(msb n x)[k]=(x/2^(n-1-k)%2==1):=by simp only[msb,List.getElem_reverse,lsb_length];rw[qqx]
  rw[e,bval,bval,Nat.mul_zero,qb5,qrm]
theorem zaw (n x:Nat):bval (msb n x)=revTo x n n:=by have:=qo6 x n n (qag _);rwa [qa9 (by rw[qd6];exact qag _)]at this
def bytesBits (bs:List UInt8):List Bool:=bs.flatMap λc=>lsb 8 c.toNat
theorem qdy (c:UInt8) (bs:List UInt8):bytesBits (c::bs)=lsb 8 c.toNat++bytesBits bs:=rfl
theorem qjm (a b:List UInt8):bytesBits (a++b)=bytesBits a++bytesBits b:=by unfold bytesBits;rw[qik]
theorem qbk:∀bs:List UInt8,(bytesBits bs).length=8*bs.length
 | []=>rfl
 | c::bs=>by rw[qdy,qab,lsb_length,qbk bs,qam];omega
theorem qea:∀bs:List UInt8,bval (bytesBits bs)=num bs
 | []=>rfl
 | c::bs=>by have:=qbo c;rw[qdy,qdq,lsb_length,qea bs,qj2,num,Nat.mod_eq_of_lt (by omega)]
def pad (n:Nat):Nat:=(8-n%8)%8
def padTo8 (l:List Bool):List Bool:=l++List.replicate (pad l.length) false
theorem qds (l:List Bool):(padTo8 l).length=(l.length+7)/8*8:=by unfold padTo8 pad;rw[qab,qb2];omega
theorem qs3 (l:List Bool):bval (padTo8 l)=bval l:=by unfold padTo8;rw[qdq,qmz];omega
def bytesOf (l:List Bool):List UInt8:=dig ((l.length+7)/8) (bval l)
theorem qcq (l:List Bool):(bytesOf l).length=(l.length+7)/8:=qhb _ _
theorem qpy (l:List Bool):bytesBits (bytesOf l)=padTo8 l:=by
 refine qs4 ?_ ?_
 ·rw[qbk,qcq,qds];omega
 ·have h1:=qri l;have h2:2^l.length≤2^(8*((l.length+7)/8)):=qax (by decide) (by omega);rw[qea,qs3,bytesOf,qwb,Nat.mod_eq_of_lt (by omega)]
theorem qv1 (l:List Bool) (h:l.length%8=0):padTo8 l=l:=by unfold padTo8 pad;rw[h];simp
theorem qn9 {a b:List UInt8} (h:bytesBits a=bytesBits b):a=b:=by
 have hl:a.length=b.length:=by have:=congrArg List.length h;rw[qbk,qbk]at this;omega
 exact zch hl (by rw[<-qea,<-qea,h])
end Go.Proofs.YtbabjlohkniciaaGreatDoor.bl
namespace Go.Proofs.YtbabjlohkniciaaGreatDoor.huf
open Go bm bl
def lenAt (ls:List Nat) (i:Nat):Nat:=ls[i]?.getD 0
def nxt (ls:List Nat):Nat→Nat
 | 0=>0
 | l+1=>2*(nxt ls l+if l=0 then 0 else ls.count l)
def code (ls:List Nat) (i:Nat):Nat:=nxt ls (lenAt ls i)+(ls.take i).count (lenAt ls i)
def share (ls:List Nat):Nat→Nat
 | 0=>0
 | l+1=>share ls l+if l=0 then 0 else ls.count l*2^(15-l)
def weight:List Nat→Nat
 | []=>0
 | l::t=>(if l=0 then 0 else 2^(15-l))+weight t
theorem qk4 (ls:List Nat):∀l,l≤15→nxt ls l*2^(15-l)=share ls l
 | 0,_=>by simp[nxt,share]
 | l+1,h=>by
  have ih:=qk4 ls l (by omega);have e:2^(15-l)=2*2^(15-(l+1)):=by rw[show 15-l=15-(l+1)+1 from by omega,qcr,qcd]
  rw[nxt,share,<-ih,e];generalize 2^(15-(l+1))=p;split<;>simp only[qgi,qct,qb5,qc1,Nat.mul_left_comm]
theorem ql6 (x:Nat) (t:List Nat):∀m,share (x::t) m=share t m+if 0<x∧x<m then 2^(15-x) else 0
 | 0=>by simp[share]
 | m+1=>by
  rw[share,share,ql6 x t m,List.count_cons];by_cases h0:m=0
  ·subst h0;simp only[if_true];rw[if_neg (by omega),if_neg (by omega)]
  ·rw[if_neg h0,if_neg h0];by_cases hx:x=m
   ·subst hx;simp only[beq_self_eq_true,if_true];rw[if_neg (by omega),if_pos (by omega),qct,qut];omega
   ·have hb:(x==m)=false:=by simpa using hx
    rw[hb];simp only[Bool.false_eq_true,if_false,qb5];by_cases hc:0<x∧x<m
    ·rw[if_pos hc,if_pos (by omega)];omega
    ·rw[if_neg hc,if_neg (by omega)];omega
theorem qop:∀m,share [] m=0
 | 0=>rfl
 | m+1=>by rw[share,qop m];simp
theorem qgl:∀ls:List Nat,(∀l∈ls,l≤15)→share ls 16=weight ls
 | [],_=>qop 16
 | x::t,h=>by
  have hx:=h x (by simp);rw[ql6,weight,qgl t λl hl=>h l (by simp[hl])];by_cases h0:x=0
  ·rw[if_neg (by omega),if_pos h0];omega
  ·rw[if_pos (by omega),if_neg h0];omega
theorem ql5 (ls:List Nat):∀(k l:Nat),share ls l≤share ls (l+k)
 | 0,_=>qag _
 | k+1,l=>by have:=ql5 ls k l;rw[<-qcu,share];omega
theorem qnf (ls:List Nat) {l m:Nat} (h:l≤m):share ls l≤share ls m:=by obtain⟨k,rfl⟩:∃k,m=l+k:=⟨m-l,by omega⟩;exact ql5 ls k l
theorem qd0 {ls:List Nat} {i:Nat} (h:0<lenAt ls i):i<ls.length:=by
 unfold lenAt at h;rcases qbq i ls.length with k|k
 ·exact k
 ·rw[qbr k]at h;simp at h
theorem qdx {ls:List Nat} {i:Nat} (h:i<ls.length):lenAt ls i∈ls:=by unfold lenAt;rw[qaf h];exact qb7 h
theorem qdp (ls:List Nat) (i x:Nat) (h:i<ls.length):(ls.take (i+1)).count x=(ls.take i).count x+if lenAt ls i=x then 1 else 0:=by rw[qbc h,qe1,List.count_singleton];unfold lenAt;rw[qaf h];simp only[qfp,beq_iff_eq]
theorem qn8 (ls:List Nat) (i x:Nat):(ls.take i).count x≤ls.count x:=(List.take_sublist i ls).count_le x
theorem qlm (ls:List Nat) (x:Nat) {i j:Nat} (h:i≤j):(ls.take i).count x≤(ls.take j).count x:=by
 have:ls.take i=(ls.take j).take i:=by rw[zay,qcs h]
 rw[this];exact (List.take_sublist i (ls.take j)).count_le x
def lo (ls:List Nat) (i:Nat):Nat:=code ls i*2^(15-lenAt ls i)
theorem zdk (ls:List Nat) (i:Nat) (h:lenAt ls i≤15):lo ls i=share ls (lenAt ls i)+(ls.take i).count (lenAt ls i)*2^(15-lenAt ls i):=by rw[lo,code,qct,qk4 ls _ h]
theorem zdn (ls:List Nat) (i:Nat) (h0:0<lenAt ls i) (h:lenAt ls i≤15):lo ls i+2^(15-lenAt ls i)≤share ls (lenAt ls i+1):=by have hi:=qd0 h0;have h1:=qdp ls i (lenAt ls i) hi;rw[if_pos rfl]at h1;have h2:=qn8 ls (i+1) (lenAt ls i);rw[zdk ls i h,share,if_neg (by omega)];have h3:((ls.take i).count (lenAt ls i)+1)*2^(15-lenAt ls i)≤ls.count (lenAt ls i)*2^(15-lenAt ls i):=qcy _ (by omega);rw[qct,qut]at h3;omega
theorem qzz (ls:List Nat) {i j:Nat} (h0:0<lenAt ls i) (h:lenAt ls i<lenAt ls j) (hj:lenAt ls j≤15):lo ls i+2^(15-lenAt ls i)≤lo ls j:=by have h1:=zdn ls i h0 (by omega);have h2:=qnf ls (show lenAt ls i+1≤lenAt ls j from h);have h3:=zdk ls j hj;omega
theorem zat (ls:List Nat) {i j:Nat} (h0:0<lenAt ls i) (h:lenAt ls i=lenAt ls j) (hc:code ls i=code ls j):i=j:=by
 have key:∀{i j:Nat},0<lenAt ls i→lenAt ls i=lenAt ls j→code ls i=code ls j→¬i<j:=λ{i j} h0 h hc hij=>by have h1:=qdp ls i (lenAt ls i) (qd0 h0);rw[if_pos rfl]at h1;have h2:=qlm ls (lenAt ls i) (show i+1≤j from hij);unfold code at hc;rw[<-h]at hc;omega
 rcases Nat.lt_trichotomy i j with k|k|k
 ·exact absurd k (key h0 h hc)
 ·exact k
 ·exact absurd k (key (by omega) h.symm hc.symm)
theorem qrf (ls:List Nat) (i:Nat) (hle:∀l∈ls,l≤15) (hw:weight ls≤32768) (h0:0<lenAt ls i):code ls i<2^lenAt ls i:=by
 have h15:=hle _ (qdx (qd0 h0));have h1:=zdn ls i h0 h15;have h2:=qnf ls (show lenAt ls i+1≤16 by omega);rw[qgl ls hle]at h2;unfold lo at h1;have e:2^15=2^lenAt ls i*2^(15-lenAt ls i):=by rw[<-qb3];congr 1;omega
 have h3:(code ls i+1)*2^(15-lenAt ls i)≤2^lenAt ls i*2^(15-lenAt ls i):=by rw[<-e,qct,qut];exact qan (qan h1 h2) hw
 have:=Nat.le_of_mul_le_mul_right h3 (qbj _);omega
def hsym (ls:List Nat) (n v:Nat):Option Nat:=(List.range ls.length).find? λi=>decide (0<n)&&(lenAt ls i==n&&code ls i==v)
def hmore (ls:List Nat) (n v:Nat):Bool:=(List.range ls.length).any λi=>decide (n<lenAt ls i)&&code ls i/2^(lenAt ls i-n)==v
def hread (ls:List Nat):Nat→Nat→Nat→List Bool→Nat×Nat×Nat
 | 0,n,v,_=>match hsym ls n v with
  | some s=>(s,n,0)
  | none=>(0,n,3)
 | f+1,n,v,bits=>match hsym ls n v with
  | some s=>(s,n,0)
  | none=>if hmore ls n v then (match bits with
   | []=>(0,n,4)
   | b::t=>hread ls f (n+1) (2*v+b2n b) t) else (0,n,3)
theorem qej {ls:List Nat} {f n v s:Nat} {bits:List Bool} (h:hsym ls n v=some s):hread ls f n v bits=(s,n,0):=by cases f<;>simp[hread,h]
theorem qe4 {ls:List Nat} {f n v:Nat} {b:Bool} {t:List Bool} (h:hsym ls n v=none) (hm:hmore ls n v=true):hread ls (f+1) n v (b::t)=hread ls f (n+1) (2*v+b2n b) t:=by simp[hread,h,hm]
theorem qfz {ls:List Nat} {f n v:Nat} (h:hsym ls n v=none) (hm:hmore ls n v=true):hread ls (f+1) n v []=(0,n,4):=by simp[hread,h,hm]
theorem qf0 {ls:List Nat} {f n v:Nat} {bits:List Bool} (h:hsym ls n v=none) (hm:hmore ls n v=false):hread ls f n v bits=(0,n,3):=by cases f<;>simp[hread,h,hm]
theorem qid {ls:List Nat} {n v:Nat} {bits:List Bool} (h:hsym ls n v=none):hread ls 0 n v bits=(0,n,3):=by simp[hread,h]
theorem qw9 (ls:List Nat) (s:Nat) (h0:0<lenAt ls s):hsym ls (lenAt ls s) (code ls s)=some s:=by
 unfold hsym;cases hf:(List.range ls.length).find? λi=>decide (0<lenAt ls s)&&(lenAt ls i==lenAt ls s&&code ls i==code ls s) with
 | none=>
  have:=qjq.1 hf s (qdk.2 (qd0 h0));simp[h0]at this
 | some i=>have h1:=List.find?_some hf;simp only[qbf,decide_eq_true_eq,beq_iff_eq]at h1;rw[zat ls (by omega) h1.2.1 h1.2.2]
theorem qua (ls:List Nat) (s n:Nat) (h0:0<lenAt ls s) (h15:lenAt ls s≤15) (hn:n<lenAt ls s):hsym ls n (code ls s/2^(lenAt ls s-n))=none:=by
 unfold hsym;refine qjq.2 λi _=>?_
 simp only[qbf,decide_eq_true_eq,beq_iff_eq,not_and];intro hn0 hi hc;have h1:=qzz ls (i:=i) (j:=s) (by omega) (by omega) h15;unfold lo at h1;rw[hi,hc]at h1;have e:2^(15-n)=2^(lenAt ls s-n)*2^(15-lenAt ls s):=by rw[<-qb3];congr 1;omega
 rw[e]at h1;have h2:(code ls s/2^(lenAt ls s-n)+1)*2^(lenAt ls s-n)*2^(15-lenAt ls s)≤code ls s*2^(15-lenAt ls s):=by rw[qct,qut,qct,qc1];exact h1
 have h3:=Nat.le_of_mul_le_mul_right h2 (qbj _);have h4:=Nat.lt_div_mul_add (a:=code ls s) (qbj (lenAt ls s-n));rw[qct,qut]at h3;omega
theorem qq4 (ls:List Nat) (s n:Nat) (hn:n<lenAt ls s):hmore ls n (code ls s/2^(lenAt ls s-n))=true:=by unfold hmore;refine List.any_eq_true.2 ⟨s,qdk.2 (qd0 (by omega)),?_⟩;simp[hn]
theorem qmo (ls:List Nat) (s:Nat) (hle:∀l∈ls,l≤15) (h0:0<lenAt ls s) (rest:List Bool):∀(k f n:Nat),n+k=lenAt ls s→lenAt ls s≤n+f→
  hread ls f n (code ls s/2^(lenAt ls s-n)) ((msb (lenAt ls s) (code ls s)).drop n++rest)=(s,lenAt ls s,0)
 | 0,f,n,h1,h2=>by
  obtain rfl:n=lenAt ls s:=by omega
  rw[Nat.sub_self,Nat.pow_zero,Nat.div_one];exact qej (qw9 ls s h0)
 | k+1,f,n,h1,h2=>by
  have h15:=hle _ (qdx (qd0 h0));obtain⟨f,rfl⟩:∃g,f=g+1:=⟨f-1,by omega⟩;have hl:n<(msb (lenAt ls s) (code ls s)).length:=by rw[qd6];omega
  have hb:(msb (lenAt ls s) (code ls s))[n]=(code ls s/2^(lenAt ls s-1-n)%2==1):=by simp only[msb,List.getElem_reverse,lsb_length];rw[qqx]
  rw[qbm hl,qc3,qe4 (qua ls s n h0 h15 (by omega)) (qq4 ls s n (by omega))];have hv:2*(code ls s/2^(lenAt ls s-n))+b2n (msb (lenAt ls s) (code ls s))[n]=code ls s/2^(lenAt ls s-(n+1)):=by rw[hb,qrm,show lenAt ls s-n=lenAt ls s-(n+1)+1 from by omega,show lenAt ls s-1-n=lenAt ls s-(n+1) from by omega,qcr,<-qf2];omega
  rw[hv];exact qmo ls s hle h0 rest k f (n+1) (by omega) (by omega)
def read (ls:List Nat) (bits:List Bool):Nat×Nat×Nat:=hread ls 15 0 0 bits
theorem qvw (ls:List Nat) (s:Nat) (hle:∀l∈ls,l≤15) (hw:weight ls≤32768) (h0:0<lenAt ls s) (rest:List Bool):read ls (msb (lenAt ls s) (code ls s)++rest)=(s,lenAt ls s,0):=by have h15:=hle _ (qdx (qd0 h0));have:=qmo ls s hle h0 rest (lenAt ls s) 15 0 (by omega) (by omega);rw[qod,qp4 (qrf ls s hle hw h0),qaj]at this;exact this
end Go.Proofs.YtbabjlohkniciaaGreatDoor.huf
namespace Go.Proofs.YtbabjlohkniciaaGreatDoor.huf
open Go
def syms (ls:List Nat) (l i:Nat):List Nat:=(List.range i).filter λj=>lenAt ls j==l
theorem qkb (ls:List Nat) (l:Nat):syms ls l 0=[]:=rfl
theorem qkc (ls:List Nat) (l i:Nat):syms ls l (i+1)=syms ls l i++if lenAt ls i=l then [i] else []:=by
 unfold syms;rw[qjo,qeq];by_cases h:lenAt ls i=l
 ·simp[h]
 ·simp[h]
theorem qhn (ls:List Nat) (l:Nat):∀i,i≤ls.length→(syms ls l i).length=(ls.take i).count l
 | 0,_=>by simp[qkb]
 | i+1,h=>by rw[qkc,qab,qhn ls l i (by omega),qdp ls i l (by omega)];split<;>simp
theorem qnb (ls:List Nat) (l:Nat):∀(i:Nat),i≤ls.length→∀(t s:Nat),(syms ls l i)[t]?=some s→lenAt ls s=l∧(ls.take s).count l=t∧s<i
 | 0,_,t,s,h=>by simp[qkb]at h
 | i+1,hi,t,s,h=>by
  rw[qkc,List.getElem?_append]at h;split at h
  ·have:=qnb ls l i (by omega) t s h;exact⟨this.1,this.2.1,by omega⟩
  ·rename_i hlt;split at h
   ·rename_i hl;have ht:t-(syms ls l i).length=0:=by have:=(qbg.1 h).1;simp at this;omega
    rw[ht]at h;simp at h;subst h;have:=qhn ls l i (by omega);exact⟨hl,by omega,by omega⟩
   ·simp at h
theorem qok {ls:List Nat} {l t s:Nat} (h:(syms ls l ls.length)[t]?=some s):lenAt ls s=l∧code ls s=nxt ls l+t∧s<ls.length:=by obtain⟨h1,h2,h3⟩:=qnb ls l ls.length (qag _) t s h;exact⟨h1,by unfold code;rw[h1,h2],h3⟩
theorem qrw {ls:List Nat} {s:Nat} (hs:s<ls.length):(syms ls (lenAt ls s) ls.length)[(ls.take s).count (lenAt ls s)]?=some s:=by
 have hin:s∈syms ls (lenAt ls s) ls.length:=by simp[syms,hs]
 obtain⟨t,ht,e⟩:=List.getElem_of_mem hin;have h2:=(qnb ls _ ls.length (qag _) t s (by rw[qaf ht,e])).2.1;rw[h2,qaf ht,e]
theorem qw6 {ls:List Nat} {n v s:Nat} (hn:0<n) (hv:nxt ls n≤v) (h:(syms ls n ls.length)[v-nxt ls n]?=some s):hsym ls n v=some s:=by
 obtain⟨h1,h2,h3⟩:=qok h;have hc:code ls s=v:=by omega
 have:=qw9 ls s (by omega);rw[h1,hc]at this;exact this
theorem qw7 {ls:List Nat} {n v:Nat} (h:n=0∨v<nxt ls n∨(syms ls n ls.length).length≤v-nxt ls n):hsym ls n v=none:=by
 unfold hsym;rw[qjq];intro s hs hp;simp only[qdk]at hs;simp only[qbf,decide_eq_true_eq,beq_iff_eq]at hp;obtain⟨h0,h1,h2⟩:=hp;have hg:=qrw hs;rw[h1]at hg;have hlt:=(qbg.1 hg).1;have hc:code ls s=nxt ls n+(ls.take s).count n:=by unfold code;rw[h1]
 omega
def meets (ls:List Nat) (n v l:Nat):Bool:=decide (0<(syms ls l ls.length).length)&&(decide (nxt ls l<(v+1)*2^(l-n))&&decide (v*2^(l-n)<nxt ls l+(syms ls l ls.length).length))
theorem qt2 {ls:List Nat} {n v l:Nat} (hl:n<l) (h:meets ls n v l=true):hmore ls n v=true:=by
 simp only[meets,qbf,decide_eq_true_eq]at h;obtain⟨h0,h1,h2⟩:=h;have hp:0<2^(l-n):=qbj _;obtain⟨t,ht,htl⟩:∃t,t<(syms ls l ls.length).length∧(nxt ls l+t)/2^(l-n)=v:=by
  by_cases hc:v*2^(l-n)≤nxt ls l
  ·exact⟨0,h0,by rw[qb5];exact Nat.div_eq_of_lt_le hc h1⟩
  ·refine⟨v*2^(l-n)-nxt ls l,by omega,?_⟩;rw[show nxt ls l+(v*2^(l-n)-nxt ls l)=v*2^(l-n) by omega];exact Nat.mul_div_cancel _ hp
 obtain⟨s,hs⟩:∃s,(syms ls l ls.length)[t]?=some s:=⟨_,qaf ht⟩;obtain⟨k1,k2,k3⟩:=qok hs;unfold hmore;rw[List.any_eq_true];refine⟨s,qdk.2 k3,?_⟩;simp only[qbf,decide_eq_true_eq,beq_iff_eq];rw[k1,k2];exact⟨hl,htl⟩
theorem qqu {ls:List Nat} {n v:Nat} {m:Nat} (hm:∀s,s<ls.length→lenAt ls s≤m) (h:∀l,n<l→l≤m→meets ls n v l=false):hmore ls n v=false:=by
 unfold hmore;rw[List.any_eq_false];intro s hs hp;simp only[qdk]at hs;simp only[qbf,decide_eq_true_eq,beq_iff_eq]at hp;obtain⟨h1,h2⟩:=hp;have hx:=h (lenAt ls s) h1 (hm s hs);have hg:=qrw hs;have hlt:=(qbg.1 hg).1;have hc:code ls s=nxt ls (lenAt ls s)+(ls.take s).count (lenAt ls s):=rfl;have hp:0<2^(lenAt ls s-n):=qbj _;have hlo:v*2^(lenAt ls s-n)≤code ls s:=by rw[<-h2];exact Nat.div_mul_le_self _ _
 have hhi:code ls s<(v+1)*2^(lenAt ls s-n):=(qdl hp).1 (by rw[h2];exact Nat.lt_succ_self v);have:meets ls n v (lenAt ls s)=true:=by simp only[meets,qbf,decide_eq_true_eq];exact⟨by omega,by omega,by omega⟩
 rw[this]at hx;cases hx
end Go.Proofs.YtbabjlohkniciaaGreatDoor.huf
namespace Go.Proofs.YtbabjlohkniciaaGreatDoor.bl
open Go bm
theorem qm0 (l:List Bool) (k:Nat) (h:k≤l.length):bval l=bval (l.take k)+2^k*bval (l.drop k):=by have h1:=qdq (l.take k) (l.drop k);rw[qep,qar,qcs h]at h1;exact h1
theorem qd9 (l:List Bool) (k:Nat):bval (l.take k)<2^k:=by have h1:=qri (l.take k);have h2:2^(l.take k).length≤2^k:=qax (by decide) (by rw[qar];omega);omega
theorem qyb (l:List Bool) (k:Nat) (h:k≤l.length):bval l/2^k=bval (l.drop k):=by rw[qm0 l k h,qp5 _ _ (qbj k),qp4 (qd9 l k),qbe]
theorem qya (l:List Bool) (k:Nat) (h:k≤l.length):bval l%2^k=bval (l.take k):=by rw[qm0 l k h,Nat.add_mul_mod_self_left,Nat.mod_eq_of_lt (qd9 l k)]
theorem qjt (bs:List UInt8) (a n:Nat) (h:a+n≤8*bs.length):num bs/2^a%2^n=bval (((bytesBits bs).drop a).take n):=by rw[<-qea,qyb _ _ (by rw[qbk];omega),qya _ _ (by rw[qau,qbk];omega)]
theorem qi8 (bs:List UInt8) (q n:Nat):bytesBits ((bs.drop q).take n)=((bytesBits bs).drop (8*q)).take (8*n):=by
 have hd:∀(q:Nat) (bs:List UInt8),bytesBits (bs.drop q)=(bytesBits bs).drop (8*q):=λq=>by
  induction q with
  | zero=>intro bs;rfl
  | succ q ih=>
   intro bs;cases bs with
   | nil=>simp[bytesBits]
   | cons c t=>have e:(lsb 8 c.toNat++bytesBits t).drop 8=bytesBits t:=List.drop_left' (lsb_length 8 c.toNat);rw[qah,ih,qdy,show 8*(q+1)=8+8*q from by omega,<-za0,e]
 have ht:∀(n:Nat) (bs:List UInt8),bytesBits (bs.take n)=(bytesBits bs).take (8*n):=λn=>by
  induction n with
  | zero=>intro bs;simp[bytesBits]
  | succ n ih=>
   intro bs;cases bs with
   | nil=>simp[bytesBits]
   | cons c t=>rw[qai,qdy,qdy,ih,show 8*(n+1)=(lsb 8 c.toNat).length+8*n from by rw[lsb_length];omega,List.take_length_add_append]
 rw[ht,hd]
end Go.Proofs.YtbabjlohkniciaaGreatDoor.bl
namespace Go.Proofs.YtbabjlohkniciaaGreatDoor.inf
open Go bm bl huf
def itake (bs:List UInt8) (a n:Nat):Except Nat (Nat×Nat):=
 if a+n≤8*bs.length then .ok (bval (((bytesBits bs).drop a).take n),a+n) else .error 4
def iput (most:Nat) (out:List UInt8) (c:UInt8):Except Nat (List UInt8):=
 if most≤out.length then .error 5 else .ok (out++[c])
def isym (bs:List UInt8) (ls:List Nat) (a:Nat):Except Nat (Nat×Nat):=
 if (hread ls 15 0 0 ((bytesBits bs).drop a)).2.2=0 then .ok ((hread ls 15 0 0 ((bytesBits bs).drop a)).1,a+(hread ls 15 0 0 ((bytesBits bs).drop a)).2.1)
 else .error (hread ls 15 0 0 ((bytesBits bs).drop a)).2.2
def byteAt (bs:List UInt8) (i:Nat):Nat:=(bs[i]?.getD 0).toNat
def ibytes (bs:List UInt8) (most:Nat):Nat→List UInt8→Nat→Except Nat (List UInt8×Nat)
 | 0,out,q=>.ok (out,8*q)
 | n+1,out,q=>if q<bs.length then
   match iput most out (bs[q]?.getD 0) with
   | .error e=>.error e
   | .ok o=>ibytes bs most n o (q+1)
  else .error 4
def istored (bs:List UInt8) (most:Nat) (out:List UInt8) (a:Nat):Except Nat (List UInt8×Nat):=
 if (a+7)/8+4≤bs.length then
  if byteAt bs ((a+7)/8)+byteAt bs ((a+7)/8+2)=255∧byteAt bs ((a+7)/8+1)+byteAt bs ((a+7)/8+3)=255 then
   ibytes bs most (byteAt bs ((a+7)/8)+256*byteAt bs ((a+7)/8+1)) out ((a+7)/8+4)
  else .error 3
 else .error 4
def ilength (bs:List UInt8) (s a:Nat):Except Nat (Nat×Nat):=
 if s<265 then .ok (s-254,a) else if s=285 then .ok (258,a) else
  match itake bs a ((s-261)/4) with
  | .error e=>.error e
  | .ok (v,a1)=>.ok (3+(4+(s-265)%4)*2^((s-261)/4)+v,a1)
def idist (bs:List UInt8) (s a:Nat):Except Nat (Nat×Nat):=
 if s<4 then .ok (s+1,a) else
  match itake bs a ((s-2)/2) with
  | .error e=>.error e
  | .ok (v,a1)=>.ok (1+(2+s%2)*2^((s-2)/2)+v,a1)
def icopy (most back:Nat):Nat→List UInt8→Except Nat (List UInt8)
 | 0,out=>.ok out
 | n+1,out=>match iput most out (out[out.length-back]?.getD 0) with
  | .error e=>.error e
  | .ok o=>icopy most back n o
def imatch (bs:List UInt8) (most:Nat) (dl:List Nat) (s:Nat) (out:List UInt8) (a:Nat):Except Nat (List UInt8×Nat):=
 match ilength bs s a with
 | .error e=>.error e
 | .ok (n,a1)=>match isym bs dl a1 with
  | .error e=>.error e
  | .ok (d,a2)=>if 30≤d then .error 3 else match idist bs d a2 with
   | .error e=>.error e
   | .ok (back,a3)=>if out.length<back then .error 3 else match icopy most back n out with
    | .error e=>.error e
    | .ok o=>.ok (o,a3)
def isyms (bs:List UInt8) (most:Nat) (ll dl:List Nat):Nat→List UInt8→Nat→Except Nat (List UInt8×Nat)
 | 0,_,_=>.error 0
 | f+1,out,a=>match isym bs ll a with
  | .error e=>.error e
  | .ok (s,a1)=>if s<256 then
    match iput most out (UInt8.ofNat s) with
    | .error e=>.error e
    | .ok o=>isyms bs most ll dl f o a1
   else if s=256 then .ok (out,a1) else if 286≤s then .error 3 else
    match imatch bs most dl s out a1 with
    | .error e=>.error e
    | .ok (o,a2)=>isyms bs most ll dl f o a2
def fuel (bs:List UInt8):Nat:=8*bs.length+1
def ifix (i:Nat):Nat:=if i<144 then 8 else if i<256 then 9 else if i<280 then 7 else 8
def fixed (n:Nat):List Nat:=(List.range n).map ifix
def ifixed (bs:List UInt8) (most:Nat) (out:List UInt8) (a:Nat):Except Nat (List UInt8×Nat):=isyms bs most (fixed 288) (List.replicate 32 5) (fuel bs) out a
def some_ (ls:List Nat):Nat:=(ls.filter λl=>decide (0<l)).length
def ones (ls:List Nat):Bool:=ls.all λl=>decide (l≤1)
def iwhole (ls:List Nat) (few:Bool):Bool:=decide (weight ls≤32768)&&(decide (weight ls=32768)||(few&&(decide (some_ ls<2)&&ones ls)))
def places:List Nat:=[16,17,18,0,8,7,9,6,10,5,11,4,12,3,13,2,14,1,15]
def ifirst (bs:List UInt8):List Nat→List Nat→Nat→Except Nat (List Nat×Nat)
 | [],fs,a=>.ok (fs,a)
 | i::t,fs,a=>match itake bs a 3 with
  | .error e=>.error e
  | .ok (v,a1)=>ifirst bs t (fs.set i v) a1
def least (s:Nat):Nat:=if s=18 then 11 else 3
def wide (s:Nat):Nat:=if s=17 then 3 else if s=18 then 7 else 2
def ilens (bs:List UInt8) (ls:List Nat) (n:Nat):Nat→List Nat→Nat→Except Nat (List Nat×Nat)
 | 0,_,_=>.error 0
 | f+1,out,a=>if n≤out.length then .ok (out,a) else match isym bs ls a with
  | .error e=>.error e
  | .ok (s,a1)=>if s<16 then ilens bs ls n f (out++[s]) a1 else
   match itake bs a1 (wide s) with
   | .error e=>.error e
   | .ok (v,a2)=>if (s=16∧out=[])∨n-out.length<least s+v then .error 3 else
    ilens bs ls n f (out++List.replicate (least s+v) (if s=16 then out.getLast?.getD 0 else 0)) a2
def idyn3 (bs:List UInt8) (most:Nat) (out:List UInt8) (lit dist:Nat) (fs:List Nat) (a:Nat):Except Nat (List UInt8×Nat):=
 match ilens bs fs (lit+257+dist+1) (lit+257+dist+1+1) [] a with
 | .error e=>.error e
 | .ok (ls,a5)=>if lenAt ls 256=0 then .error 3 else if iwhole (ls.take (lit+257)) false=false then .error 3 else if iwhole (ls.drop (lit+257)) true=false then .error 3 else
  isyms bs most (ls.take (lit+257)) (ls.drop (lit+257)) (fuel bs) out a5
def idyn2 (bs:List UInt8) (most:Nat) (out:List UInt8) (lit dist n a:Nat):Except Nat (List UInt8×Nat):=
 match ifirst bs (places.take (n+4)) (List.replicate 19 0) a with
 | .error e=>.error e
 | .ok (fs,a4)=>if iwhole fs false=false then .error 3 else idyn3 bs most out lit dist fs a4
def idyn (bs:List UInt8) (most:Nat) (out:List UInt8) (a:Nat):Except Nat (List UInt8×Nat):=
 match itake bs a 5 with
 | .error e=>.error e
 | .ok (lit,a1)=>if 29<lit then .error 3 else match itake bs a1 5 with
  | .error e=>.error e
  | .ok (dist,a2)=>if 29<dist then .error 3 else match itake bs a2 4 with
   | .error e=>.error e
   | .ok (n,a3)=>idyn2 bs most out lit dist n a3
def iblock (bs:List UInt8) (most h:Nat) (out:List UInt8) (a:Nat):Except Nat (List UInt8×Nat):=
 if h=0 then istored bs most out a else if h=1 then ifixed bs most out a else idyn bs most out a
def irawF (bs:List UInt8) (most:Nat):Nat→List UInt8→Nat→Except Nat (List UInt8×Nat)
 | 0,_,_=>.error 0
 | f+1,out,a=>match itake bs a 1 with
  | .error e=>.error e
  | .ok (last,a1)=>match itake bs a1 2 with
   | .error e=>.error e
   | .ok (h,a2)=>if h=3 then .error 3 else match iblock bs most h out a2 with
    | .error e=>.error e
    | .ok (o,a3)=>if last=0 then irawF bs most f o a3 else .ok (o,a3)
def iraw (bs:List UInt8) (most:Nat):Except Nat (List UInt8×Nat):=
 match irawF bs most (fuel bs) [] 0 with
 | .error e=>.error e
 | .ok (o,a)=>.ok (o,(a+7)/8)
end Go.Proofs.YtbabjlohkniciaaGreatDoor.inf
namespace Go.Proofs.YtbabjlohkniciaaGreatDoor.lib
open Go Go.RowKit
structure Fr (S:List Nat) (w w':World):Prop where
 os:w'.os=w.os
 tape:w'.tape=w.tape
 output:w'.output=w.output
 size:w.heap.size≤w'.heap.size
 block:∀k,k<w.heap.size→k∉S→w'.heap[k]?=w.heap[k]?
theorem Fr.refl (S:List Nat) (w:World):Fr S w w:=⟨rfl,rfl,rfl,qag _,λ_ _ _=>rfl⟩
theorem Fr.drewN (S:List Nat) (w:World) (n:Nat):Fr S w (w.drewN n):=⟨rfl,rfl,rfl,qag _,λ_ _ _=>rfl⟩
theorem Fr.drew1 (S:List Nat) (w:World):Fr S w w.drew:=⟨rfl,rfl,rfl,qag _,λ_ _ _=>rfl⟩
theorem Fr.step {S T:List Nat} {a b c:World} (h:Fr S a b) (k:Fr T b c) (hT:∀x∈T,x∈S∨a.heap.size≤x):Fr S a c:=
 ⟨k.os.trans h.os,k.tape.trans h.tape,k.output.trans h.output,qan h.size k.size,λi hi hn=>by
  rw[k.block i (qal hi h.size) (λhx=>by rcases hT i hx with h1|h1;exact hn h1;omega),h.block i hi hn]⟩
theorem Fr.trans {S:List Nat} {a b c:World} (h:Fr S a b) (k:Fr S b c):Fr S a c:=h.step k λ_ hx=>.inl hx
theorem Fr.mono {S T:List Nat} {w w':World} (h:Fr S w w') (hT:∀x∈S,x∈T∨w.heap.size≤x):Fr T w w':=
 (Fr.refl T w).step h hT
theorem Fr.alloc {S:List Nat} {a w:World} (h:Fr S a w) (o:Obj):Fr S a (w.alloc o):=
 h.step (T:=[]) ⟨rfl,rfl,rfl,by simp,λk hk _=>Below.heap_alloc _ _ _ (by omega)⟩ (by simp)
theorem Fr.drew {S:List Nat} {a w:World} (h:Fr S a w):Fr S a w.drew:=h.step (Fr.drew1 [] w) (by simp)
theorem Fr.drewsN {S:List Nat} {a w:World} (h:Fr S a w) (n:Nat):Fr S a (w.drewN n):=h.step (Fr.drewN [] w n) (by simp)
theorem Fr.setCell {S:List Nat} {a w:World} (h:Fr S a w) {p:Addr} (hp:p.block∈S∨a.heap.size≤p.block) (u:Value):Fr S a (w.setCell p u):=
 h.step (T:=[p.block]) ⟨rfl,rfl,rfl,by simp[World.setCell],λk hk hn=>Below.heap_setCell _ _ _ _ (by simpa using hn)⟩ (by simpa using hp)
theorem Fr.grown {S:List Nat} {a w w':World} {row:Option Nat} (h:Fr S a w) (hg:w.grownBy w' row) (hr:∀k,row=some k→k∈S∨a.heap.size≤k):Fr S a w':=
 h.step (T:=row.toList) ⟨hg.os,hg.tape,hg.output,hg.size,λk hk hn=>hg.block k hk (λe=>hn (by simp[<-e]))⟩ (λx hx=>hr x (by simpa using hx))
theorem Fr.below {S:List Nat} {w w':World} {B:Nat} (h:Fr S w w') (hS:∀x∈S,B≤x) (hB:B≤w.heap.size):Below B w w':=
 ⟨h.os,h.tape,h.output,h.size,λk hk=>h.block k (by omega) (λhx=>by have:=hS k hx;omega)⟩
theorem Fr.of_below {w w':World} (h:Below w.heap.size w w') (S:List Nat):Fr S w w':=
 ⟨h.os,h.tape,h.output,h.size,λk hk _=>h.block k hk⟩
theorem qgd {w w':World} (h:Fr [] w w'):Below w.heap.size w w':=h.below (by simp) (qag _)
theorem Fr.blk {S:List Nat} {w w':World} (h:Fr S w w') {k:Nat} {o:Obj} (hk:w.heap[k]?=some o) (hn:k∉S):w'.heap[k]?=some o:=by rw[h.block k (lt_of_block hk) hn,hk]
theorem Fr.cell {S:List Nat} {w w':World} (h:Fr S w w') {a:Addr} {v:Value} (hc:w.cell? a=some v) (hn:a.block∉S):w'.cell? a=some v:=by rw[World.cell?_of_block (w:=w) (h.block a.block (World.block_lt_of_cell? w a hc) hn),hc]
theorem cell_of {w:World} {b:Nat} {c:Array Value} {t:TypeId} {f:Nat×Nat} (h:w.heap[b]?=some (.cells c t f)) (o:Nat):w.cell? ⟨b,o,none⟩=c[o]?:=by simp[World.cell?,h]
theorem qay {w:World} {b:Nat} {c:Array Value} {t:TypeId} (h:w.heap[b]?=some (.cells c t (0,0))) (o:Nat):w.frozen? ⟨b,o,none⟩=false:=by simp[World.frozen?,h]
theorem qa0 {w:World} {b o:Nat} {c:Array Value} {t:TypeId} {f:Nat×Nat} (h:w.heap[b]?=some (.cells c t f)) (v:Value) :
  (w.setCell ⟨b,o,none⟩ v).heap[b]?=some (.cells (c.setIfInBounds o v) t f):=by
 have hlt:=lt_of_block h;have h':w.heap[b] = .cells c t f:=by simpa[qhv hlt] using h
 show (w.heap.modify b _)[b]?=_;rw[qhv (by simpa using hlt),Array.getElem_modify_self,h'];rfl
theorem qey {w:World} {b b' o:Nat} (hne:b'≠b) (v:Value):(w.setCell ⟨b,o,none⟩ v).heap[b']?=w.heap[b']?:=
 Below.heap_setCell w ⟨b,o,none⟩ v b' hne
theorem qa4 (w:World) (o:Obj):(w.alloc o).heap[w.heap.size]?=some o:=heap_alloc_new w o
theorem alloc_old {w:World} {b:Nat} {x:Obj} (o:Obj) (h:w.heap[b]?=some x):(w.alloc o).heap[b]?=some x:=by rw[Below.heap_alloc w o b (lt_of_block h),h]
def blk:Option Addr→List Nat
 | some a=>[a.block]
 | none=>[]
def Cs (w:World) (ao:Option Addr) (vs:List Value):Prop:=
 vs=[]∨∃g o,ao=some ⟨g,o,none⟩∧∀j v,vs[j]?=some v→w.cell? ⟨g,o+j,none⟩=some v
theorem Cs.nil (w:World) (ao:Option Addr):Cs w ao []:=.inl rfl
theorem Cs.at {w:World} {ao:Option Addr} {vs:List Value} (h:Cs w ao vs) (hne:0<vs.length):∃g o,ao=some ⟨g,o,none⟩∧∀j v,vs[j]?=some v→w.cell? ⟨g,o+j,none⟩=some v:=by
 rcases h with rfl|h
 ·simp at hne
 ·exact h
theorem Cs.keep {w w':World} {ao:Option Addr} {vs:List Value} (h:Cs w ao vs) (hk:∀a,ao=some a→w'.heap[a.block]?=w.heap[a.block]?):Cs w' ao vs:=by
 rcases h with h|⟨g,o,rfl,h⟩
 ·exact .inl h
 ·refine .inr ⟨g,o,rfl,λj v hv=>?_⟩;rw[World.cell?_of_block (w:=w) (a:=⟨g,o+j,none⟩) (hk ⟨g,o,none⟩ rfl),h j v hv]
theorem Cs.lt {w:World} {ao:Option Addr} {vs:List Value} (h:Cs w ao vs) (hne:vs≠[]):∀a,ao=some a→a.block<w.heap.size:=by
 rcases h with h|⟨g,o,rfl,h⟩
 ·exact absurd h hne
 ·intro a ha;obtain rfl:=qa2 ha;cases vs with
  | nil=>exact absurd rfl hne
  | cons v vs=>exact World.block_lt_of_cell? w _ (h 0 v rfl)
theorem Cs.fr {S:List Nat} {w w':World} {ao:Option Addr} {vs:List Value} (h:Cs w ao vs) (hf:Fr S w w') (hn:∀x∈blk ao,x∉S):Cs w' ao vs:=by
 by_cases hne:vs=[]
 ·exact .inl hne
 ·exact h.keep λa ha=>hf.block a.block (h.lt hne a ha) (hn _ (by simp[ha,blk]))
theorem Cs.below {B:Nat} {w w':World} {ao:Option Addr} {vs:List Value} (h:Cs w ao vs) (hf:Below B w w') (hn:∀x∈blk ao,x<B):Cs w' ao vs:=by refine h.keep λa ha=>hf.block a.block (hn _ (by simp[ha,blk]))
theorem Cs.belowAll {w w':World} {ao:Option Addr} {vs:List Value} (h:Cs w ao vs) (hf:Below w.heap.size w w'):Cs w' ao vs:=by
 by_cases hne:vs=[]
 ·exact .inl hne
 ·exact h.keep λa ha=>hf.block a.block (h.lt hne a ha)
theorem qcm {w:World} {base:Nat} {e:TypeId} {n:Nat} {xs:List Value} {ao:Option Addr} {len cap:Nat} (h:w.ownsRow base e 1 (.slice ao len cap) n xs):Cs w ao xs:=by
 rcases h.2 with⟨h1,h2⟩|⟨g,cap',cur,h1,hb,hg,hn,hm,hs,ht⟩
 ·left;have:=h.1;rw[h2]at this;exact qbs (by simpa using this)
 ·simp only[qbn]at h1;obtain⟨rfl,rfl,rfl⟩:=h1;refine .inr ⟨g,0,rfl,λj v hv=>?_⟩;rw[cell_of hg,qbe];rw[<-ht,qbl]at hv;split at hv
  ·simpa using hv
  ·cases hv
theorem qfx {w:World} {base:Nat} {e:TypeId} {size:Nat} {v:Value} {n:Nat} {xs:List Value} (h:w.ownsRow base e size v n xs) :
  ∃ao cap,v = .slice ao n cap∧n≤cap∧cap≤maxLen:=by
 rcases h.2 with⟨rfl,rfl⟩|⟨g,cap,cur,rfl,hb,hg,hn,hm,hs,ht⟩
 ·exact⟨none,0,rfl,qag _,qba _⟩
 ·exact⟨_,cap,rfl,hn,hm⟩
theorem qgr {w:World} {base:Nat} {e:TypeId} {size:Nat} {v:Value} {n:Nat} {xs:List Value} (h:w.ownsRow base e size v n xs) :
  ∃ao cap,v = .slice ao n cap∧n≤cap∧cap≤maxLen∧(ao=none→cap=0):=by
 rcases h.2 with⟨rfl,rfl⟩|⟨g,cap,cur,rfl,hb,hg,hn,hm,hs,ht⟩
 ·exact⟨none,0,rfl,qag _,qba _,λ_=>rfl⟩
 ·exact⟨_,cap,rfl,hn,hm,λh=>by cases h⟩
theorem qa7 {S:List Nat} {w w':World} {base:Nat} {e:TypeId} {size:Nat} {v:Value} {n:Nat} {xs:List Value} (h:w.ownsRow base e size v n xs) (hf:Fr S w w') (hn:∀k,v.ownBlock=some k→k∉S):w'.ownsRow base e size v n xs:=by
 obtain⟨h1,h2⟩:=h;refine⟨h1,?_⟩;rcases h2 with h2|⟨g,cap,cur,rfl,hb,hg,r⟩
 ·exact .inl h2
 ·exact .inr ⟨g,cap,cur,rfl,hb,hf.blk hg (hn g rfl),r⟩
def bv (b:UInt8):Value:=.int .u8 b.toNat
theorem qmb {u v:Value} (h:u=v):Ending.returned u=Ending.returned v:=by rw[h]
theorem int_eq {k:IntKind} {a b:Int} (h:a=b):Value.int k a=Value.int k b:=by rw[h]
theorem qrk {a b:Bool} (h:a=b):Value.bool a=Value.bool b:=by rw[h]
theorem qbp (ao:Option Addr) (n cap:Nat):(Value.slice ao n cap).ownBlock.toList=blk ao:=by cases ao<;>rfl
theorem qdv {ao:Option Addr} {n cap:Nat} {x:Nat} (h:x∈blk ao):(Value.slice ao n cap).ownBlock=some x:=by
 cases ao with
 | none=>simp[blk]at h
 | some a=>simp[blk]at h;simp[Value.ownBlock,h]
theorem qd3 {w:World} {base:Nat} {e:TypeId} {size:Nat} {v:Value} {n:Nat} {xs:List Value} (h:w.ownsRow base e size v n xs) {k:Nat} (hk:v.ownBlock=some k):k<w.heap.size:=(h.lt k hk).2
def Fresh (w:World) (B:Nat) (e:TypeId) (ao:Option Addr) (xs:List Value):Prop:=
 xs=[]∨∃g cur,ao=some ⟨g,0,none⟩∧B≤g∧w.heap[g]?=some (.cells cur e (0,0))∧cur.toList.take xs.length=xs
theorem Fresh.cs {w:World} {B:Nat} {e:TypeId} {ao:Option Addr} {xs:List Value} (h:Fresh w B e ao xs):Cs w ao xs:=by
 rcases h with h|⟨g,cur,rfl,hB,hg,ht⟩
 ·exact .inl h
 ·refine .inr ⟨g,0,rfl,λj v hv=>?_⟩;rw[qbe,cell_of hg];rw[<-ht,qbl]at hv;split at hv
  ·simpa using hv
  ·cases hv
theorem Fresh.mono {w:World} {B B':Nat} {e:TypeId} {ao:Option Addr} {xs:List Value} (h:Fresh w B e ao xs) (hB:B'≤B):Fresh w B' e ao xs:=by
 rcases h with h|⟨g,cur,rfl,hg,r⟩
 ·exact .inl h
 ·exact .inr ⟨g,cur,rfl,qan hB hg,r⟩
theorem Fresh.fr {S:List Nat} {w w':World} {B:Nat} {e:TypeId} {ao:Option Addr} {xs:List Value} (h:Fresh w B e ao xs) (hf:Fr S w w') (hn:∀a,ao=some a→a.block∉S):Fresh w' B e ao xs:=by
 rcases h with h|⟨g,cur,rfl,hB,hg,ht⟩
 ·exact .inl h
 ·exact .inr ⟨g,cur,rfl,hB,hf.blk hg (hn _ rfl),ht⟩
theorem qn1 {w:World} {base B:Nat} {e:TypeId} {n len cap:Nat} {xs:List Value} {ao:Option Addr} (h:w.ownsRow base e 1 (.slice ao len cap) n xs) (hB:∀k,(Value.slice ao len cap).ownBlock=some k→B≤k):Fresh w B e ao xs:=by
 obtain⟨h1,h2⟩:=h;rcases h2 with⟨h2,rfl⟩|⟨g,cap',cur,h2,hb,hg,hn,hm,hs,ht⟩
 ·exact .inl (qbs (by simpa using h1))
 ·simp only[qbn]at h2;obtain⟨rfl,rfl,rfl⟩:=h2;exact .inr ⟨g,cur,rfl,hB g rfl,hg,by rw[h1];exact ht⟩
theorem qfn {w:World} {e:TypeId} {n cap:Nat} {xs:List Value} {ao:Option Addr} {B:Nat} (h:w.ownsRow 0 e 1 (.slice ao n cap) n xs) (hB:∀x∈blk ao,B≤x):Fresh w B e ao xs:=
 qn1 h λk hk=>hB k (by rw[<-qbp ao n cap,hk];simp)
def cutAt (ao:Option Addr) (cap lo:Nat):Option Addr:=if cap=lo then ao else ao.map (·.add lo)
theorem quh {ao:Option Addr} {cap lo:Nat} (h:cutAt ao cap lo=none):ao=none:=by
 unfold cutAt at h;split at h
 ·exact h
 ·simpa using h
theorem Cs.cut {w:World} {ao:Option Addr} {vs:List Value} (h:Cs w ao vs) (cap lo hi:Nat) (hl:lo≤hi) (hh:hi≤vs.length) (hc:vs.length≤cap):Cs w (cutAt ao cap lo) ((vs.drop lo).take (hi-lo)):=by
 by_cases he:cap=lo
 ·left;have:hi-lo=0:=by omega
  rw[this];rfl
 ·rcases h with rfl|⟨g,o,rfl,h⟩
  ·left;simp
  ·right;refine⟨g,o+lo,?_,λj v hv=>?_⟩
   ·unfold cutAt;rw[if_neg he];simp only[qgg,Addr.add];split<;>simp_all
   ·rw[qbl]at hv;split at hv
    ·rw[qcu];exact h _ _ (by simpa using hv)
    ·cases hv
structure SliceTy (P:Program) (t e:TypeId) (z:Value) (size bytes:Nat):Prop where
 under:P.underlying t=some (.slice e)
 info:∃i,P.info? e=some i∧i.zero=some z∧i.size=size∧i.bytes=bytes
 cells:z.cells.size=size
 pos:0<size
theorem SliceTy.of {P:Program} {t e:TypeId} {z:Value} {size bytes:Nat} (h:P.underlying t=some (.slice e))
  (hi:(P.info? e).map (λi=>(i.zero,i.size,i.bytes))=some (some z,size,bytes)) (hz:z.cells.size=size) (hp:0<size):SliceTy P t e z size bytes:=by
 obtain⟨i,h1,h2,h3,h4⟩:=info_parts hi;exact⟨h,⟨i,h1,h2,h3,h4⟩,hz,hp⟩
structure Appended (w w':World) (e:TypeId) (size:Nat) (S:List Nat) (ao:Option Addr) (len cap:Nat) (xs:List Value):Prop where
 own:w'.ownsRow 0 e size (.slice ao len cap) len xs
 fr:Fr S w w'
 at_:∀x∈blk ao,x∈S∨x=w.heap.size
 le:len≤cap
 max:cap≤maxLen
 nil:ao=none→cap=0
theorem Appended.lt {w w':World} {e:TypeId} {size:Nat} {S:List Nat} {ao:Option Addr} {len cap:Nat} {xs:List Value} (h:Appended w w' e size S ao len cap xs):∀x∈blk ao,x<w'.heap.size:=
 λ_ hx=>qd3 h.own (qdv hx)
section
variable {P : Program} {w : World} {t e : TypeId} {z : Value} {size bytes : Nat}
theorem qhe (g o j:Nat):(⟨g,o,none⟩:Addr).add j=⟨g,o+j,none⟩:=by unfold Addr.add;split<;>simp_all
theorem ql7 (T:SliceTy P t e z size bytes) (ty:TypeId) (v:Value) (n:Nat) (xs:List Value) (S:List Nat) (hS:v.ownBlock.toList=S) (hown:w.ownsRow 0 e size v n xs)
  (ao:Option Addr) (m c:Nat) (news:List Value) (hmc:m≤c) (hnone:ao=none→c=0) (hc:Cs w ao news) (hl:news.length=m*size) (h1:∀u∈news,u.oneCell'=true)
  (hb:(n+m)*bytes≤140737488355328) (h63:n+m≤maxLen) :
  ∃ao' cap' w',(Builtin.append_ #[t,t] ty #[v,.slice ao m c]).run P w = .ok (.slice ao' (n+m) cap') w'∧Appended w w' e size S ao' (n+m) cap' (xs++news):=by
 obtain⟨hu,⟨i,hi,hz,hs,hby⟩,hcz,hp⟩:=T;subst hS;have key:∀v' w',w'.ownsRow 0 e size v' (n+m) (xs++news)→w.grownBy w' v.ownBlock→(v'.ownBlock=v.ownBlock∨v'.ownBlock=some w.heap.size)→∃ao' cap',v' = .slice ao' (n+m) cap'∧Appended w w' e size v.ownBlock.toList ao' (n+m) cap' (xs++news):=by
  intro v' w' h2 h3 h4;obtain⟨ao',cap',rfl,h5,h6⟩:=qfx h2;refine⟨ao',cap',rfl,h2,(Fr.refl _ w).grown h3 (λk hk=>.inl (by simp[hk])),?_,h5,h6,?_⟩
  ·intro x hx;have hx':=qdv (n:=n+m) (cap:=cap') hx;rcases h4 with h|h
   ·left;rw[<-h,hx'];simp
   ·right;rw[h]at hx';exact (qa2 hx').symm
  ·rintro rfl;rcases h2.2 with⟨h,_⟩|⟨g,cap,cur,h,_⟩
   ·simp only[qbn]at h;exact h.2.2
   ·simp at h
 cases ao with
 | none=>
  have hc0:=hnone rfl;obtain rfl:m=0:=by omega
  subst hc0;have hn:news=[]:=qbs (by simpa using hl);subst hn;have hr:=run_append_owned_none (P:=P) (w:=w) 0 t ty e i size hu hi v n xs hown;obtain⟨ao',cap',rfl,hA⟩:=key v w (by simpa using hown) ⟨rfl,rfl,rfl,qag _,λ_ _ _=>rfl⟩ (.inl rfl);exact⟨ao',cap',w,hr,hA⟩
 | some a=>
  have hcells:∀j u,news[j]?=some u→w.cell? (a.add j)=some u:=by
   intro j u hj;rcases hc with rfl|⟨g,o,ha,hc⟩
   ·simp at hj
   ·obtain rfl:=qa2 ha;rw[qhe];exact hc j u hj
  obtain⟨v',w',hr,h2,h3,h4,h5⟩:=run_append_own_at (P:=P) w 0 t ty e i z size bytes hu hi hz hs hby hcz hp v n xs hown a m c news hl hcells h1 h63 hb (qba _);obtain⟨ao',cap',rfl,hA⟩:=key v' w' h2 h3 h5;exact⟨ao',cap',w',hr,hA⟩
theorem qhw (T:SliceTy P t e z size bytes) {o:Oper} {a:Act} {K:Act→World→Prop} {Q:Exit→Act→World→Prop} (s x:Operand)
  (ho:o.op = .call { callee:=.builtin .append,args:=#[s,x],argTypes:=#[t,t] })
  (v:Value) (n:Nat) (xs:List Value) (S:List Nat) (hs:a.eval s=v) (hS:v.ownBlock.toList=S) (hown:w.ownsRow 0 e size v n xs)
  (ao:Option Addr) (m c:Nat) (news:List Value) (hx:a.eval x = .slice ao m c) (hmc:m≤c) (hnone:ao=none→c=0) (hc:Cs w ao news) (hl:news.length=m*size) (h1:∀u∈news,u.oneCell'=true)
  (hb:(n+m)*bytes≤140737488355328) (h63:n+m≤maxLen)
  (h:∀ao' cap' w',Appended w w' e size S ao' (n+m) cap' (xs++news)→K (a.put o.dst (.slice ao' (n+m) cap')) w'):o.wp P a w K Q:=by
 obtain⟨ao',cap',w',hr,h2⟩:=ql7 (P:=P) T o.type v n xs S hS hown ao m c news hmc hnone hc hl h1 hb h63;unfold Oper.wp execOp;simp only[ho,resolve,invoke,builtin,qus,Sem.run_pure,Result.andThen_ok,List.map_toArray,qak,qap,hs,hx,hr];exact h ao' cap' w' h2
theorem qa5 (T:SliceTy P t e z size bytes) {ops:Array Oper} {rest:List Oper} {o:Oper} {a:Act} {Q:Exit→Act→World→Prop} (hgd:o.guard=none) (s x:Operand)
  (ho:o.op = .call { callee:=.builtin .append,args:=#[s,x],argTypes:=#[t,t] })
  (v:Value) (n:Nat) (xs:List Value) (S:List Nat) (hs:a.eval s=v) (hS:v.ownBlock.toList=S) (hown:w.ownsRow 0 e size v n xs)
  (ao:Option Addr) (m c:Nat) (news:List Value) (hx:a.eval x = .slice ao m c) (hmc:m≤c) (hnone:ao=none→c=0) (hc:Cs w ao news) (hl:news.length=m*size) (h1:∀u∈news,u.oneCell'=true)
  (hb:(n+m)*bytes≤140737488355328) (h63:n+m≤maxLen)
  (h:∀ao' cap' w',Appended w w' e size S ao' (n+m) cap' (xs++news)→wpList P ops Q rest (a.put o.dst (.slice ao' (n+m) cap')) w'):wpList P ops Q (o::rest) a w:=
 wpList_plain hgd λ_ hK=>qhw T s x ho v n xs S hs hS hown ao m c news hx hmc hnone hc hl h1 hb h63 λao' cap' w' h2=>hK _ _ (h ao' cap' w' h2)
theorem step_append (T:SliceTy P t e z size bytes) {ops:Array Oper} {o:Oper} {a:Act} {K:Act→World→Prop} {Q:Exit→Act→World→Prop} {E:Prop} (hgd:o.guard=none) (s x:Operand)
  (ho:o.op = .call { callee:=.builtin .append,args:=#[s,x],argTypes:=#[t,t] })
  (v:Value) (n:Nat) (xs:List Value) (S:List Nat) (hs:a.eval s=v) (hS:v.ownBlock.toList=S) (hown:w.ownsRow 0 e size v n xs)
  (ao:Option Addr) (m c:Nat) (news:List Value) (hx:a.eval x = .slice ao m c) (hmc:m≤c) (hnone:ao=none→c=0) (hc:Cs w ao news) (hl:news.length=m*size) (h1:∀u∈news,u.oneCell'=true)
  (hb:(n+m)*bytes≤140737488355328) (h63:n+m≤maxLen)
  (h:∀ao' cap' w',Appended w w' e size S ao' (n+m) cap' (xs++news)→K (a.put o.dst (.slice ao' (n+m) cap')) w') :
  if Region.wanted o (yielded ops a.tmps)=true then Oper.wp P o a w K Q else E:=by
 have hw:Region.wanted o (yielded ops a.tmps)=true:=by simp[Region.wanted,hgd]
 rw[if_pos hw];exact qhw T s x ho v n xs S hs hS hown ao m c news hx hmc hnone hc hl h1 hb h63 h
end
theorem qdu (w:World) (B:Nat) (v:Value) (t:TypeId) (h:w.heap[B]?=some (.cells #[v] t (0,0))):Cs w (some ⟨B,0,none⟩) [v]:=
 .inr ⟨B,0,rfl,λj u hj=>by
  match j,hj with
  | 0,hj=>rw[cell_of h];simpa using hj⟩
end Go.Proofs.YtbabjlohkniciaaGreatDoor.lib
namespace Go.Proofs.YtbabjlohkniciaaGreatDoor.bm
open Go
theorem qjj (a b:Nat) (h:a≤b):2^a≤2^b:=qax (by omega) h
theorem qmh (v m k:Nat) (hv:v<2^k):v ||| m*2^k=v+2^k*m:=by rw[Nat.or_comm,qcd m,<-Nat.two_pow_add_eq_or_of_lt hv,qil]
theorem qpu (q:Nat):((2:Int)^q-1)=((2^q-1:Nat):Int):=by have:=qbj q;rw[Int.natCast_sub (by omega),Int.natCast_pow];rfl
theorem qd2 (q:Nat):((2:Int)^q)=((2^q:Nat):Int):=by rw[Int.natCast_pow];rfl
theorem p32:2^32=4294967296:=by decide
theorem qyy (x q:Nat) (hx:x<4294967296) (hq:q≤32):bits .and .u32 (x:Int) (((2:Int)^q-1)%4294967296)=((x%2^q:Nat):Int):=by
 have h1:=qjj q 32 hq;rw[p32]at h1;have h2:=qbj q;rw[qpu,show ((2^q-1:Nat):Int)%4294967296=((2^q-1:Nat):Int) from by omega,
  u32_and_nat x (2^q-1) hx (by omega),qoe]
theorem zdj {v m k q:Nat} (hm:m<2^q) (hkq:k+q≤32):m*2^k<4294967296:=by have h1:=qjj (k+q) 32 hkq;rw[p32,qb3]at h1;have h2:m*2^k<2^q*2^k:=Nat.mul_lt_mul_of_pos_right hm (qbj k);rw[qcd (2^q)]at h2;omega
theorem qm8 (v m k q:Nat) (hv:v<2^k) (hm:m<2^q) (hkq:k+q≤32):bits .or .u32 (v:Int) ((m:Int)*2^k%4294967296)=((v+2^k*m:Nat):Int):=by
 have h3:=zdj (v:=v) hm hkq;have hv2:v<4294967296:=by have:=qjj k 32 (by omega);rw[p32]at this;omega
 rw[qd2,<-Int.natCast_mul,show ((m*2^k:Nat):Int)%4294967296=((m*2^k:Nat):Int) from by omega,
  u32_or_nat v (m*2^k) hv2 h3,qmh v m k hv]
theorem qoj (bs:List UInt8) (a k q vn bn:Nat) (hlt:(a+k)/8<bs.length) (hq:(a+k)%8+q≤8) (hkq:k+q≤32)
  (hv:num bs/2^a%2^k=vn) (hb:(bs.getD ((a+k)/8) 0).toNat=bn) :
  bits .or .u32 (vn:Int) (bits .and .u32 ((bn:Int)/2^((a+k)%8)) (((2:Int)^q-1)%4294967296)*2^k%4294967296)=((num bs/2^a%2^(k+q):Nat):Int):=by
 have hbn:bn<256:=by rw[<-hb];exact qbo _
 have hbd:bn/2^((a+k)%8)<4294967296:=qf3 (Nat.div_le_self _ _) (by omega);have hc:=chunk bs (a+k) q hlt hq;rw[hb]at hc;rw[more,hv,hc,qd2 ((a+k)%8),<-Int.natCast_ediv,qyy _ q hbd (by omega),
  qm8 vn _ k q (by rw[<-hv];exact qd4 _ (qbj _)) (qd4 _ (qbj _)) hkq]
theorem qyx (x m:Nat) (hx:x<18446744073709551616) (hm:m≤32):bits .and .u64 (x:Int) (IntKind.u64.wrap (IntKind.u64.wrap ((2:Int)^m)-1))=((x%2^m:Nat):Int):=by
 have h1:=qjj m 32 hm;rw[p32]at h1;have h2:=qbj m;have e:IntKind.u64.wrap (IntKind.u64.wrap ((2:Int)^m)-1)=((2^m-1:Nat):Int):=by rw[IntKind.wrap_u64,IntKind.wrap_u64,qd2];omega
 rw[e,u64_and_nat x (2^m-1) hx (by omega),qoe]
theorem zbv (M L:Nat) (hM:M<2^L):M/2^(8*(L/8))<2^(L%8):=by rw[qdl (qbj _),<-qb3];rwa [show L%8+8*(L/8)=L from by omega]
theorem zb8 (M L y:Nat):(M+2^L*y)/2^(8*(L/8))=M/2^(8*(L/8))+2^(L%8)*y:=by
 have e:2^L=2^(8*(L/8))*2^(L%8):=by rw[<-qb3,quu]
 rw[e,qc1,qp5 _ _ (qbj _)]
theorem zde (M L x n:Nat) (hM:M<2^L):M+2^L*(x%2^n)<2^(L+n):=by
 have h:=qd4 x (qbj n);rw[qb3];calc M+2^L*(x%2^n)<2^L+2^L*(x%2^n):=by omega
  _=2^L*(x%2^n+1):=by rw[qgi,qdi,qil]
  _≤2^L*2^n:=Nat.mul_le_mul_left _ h
theorem qzl (M L x m:Nat) (hM:M<2^L) (hx:x<4294967296) (hm:m≤32) :
  bits .or .u64 ((M/2^(8*(L/8)):Nat):Int) (IntKind.u64.wrap (bits .and .u64 (x:Int) (IntKind.u64.wrap (IntKind.u64.wrap ((2:Int)^m)-1))*2^(L%8))) =
   (((M+2^L*(x%2^m))/2^(8*(L/8)):Nat):Int):=by
 have hw:=zbv M L hM;have hy:x%2^m<2^m:=qd4 _ (qbj m);have hym:x%2^m<4294967296:=qf3 (Nat.mod_le _ _) hx;have h8:=qjj (L%8) 8 (by omega);have hp:x%2^m*2^(L%8)≤4294967296*256:=qm3 (by omega) h8;rw[qyx x m (by omega) hm,zb8,qd2,<-Int.natCast_mul,IntKind.wrap_u64,
  show ((x%2^m*2^(L%8):Nat):Int)%18446744073709551616=((x%2^m*2^(L%8):Nat):Int) from by omega,
  u64_or_nat _ _ (by omega) (by omega),qmh _ _ _ hw]
end Go.Proofs.YtbabjlohkniciaaGreatDoor.bm
namespace Go.Proofs.YtbabjlohkniciaaGreatDoor.bits
open Go Go.RowKit lib bm
def RdT (T:TypeId) (w:World) (p:Nat) (F:List Nat) (bs:List UInt8) (at_:Nat):Prop:=
 ∃ao cap,w.heap[p]?=some (.cells #[.slice ao bs.length cap,.int .i64 at_] T (0,0))∧Cs w ao (bs.map bv)∧F=p::blk ao∧
  p∉blk ao∧bs.length≤140737488351232∧at_≤8*bs.length∧bs.length≤cap∧cap≤maxLen∧(ao=none→cap=0)
abbrev Rd (w:World) (p:Nat) (F:List Nat) (bs:List UInt8) (at_:Nat):Prop:=RdT 221 w p F bs at_
theorem qu7 (p:Nat) (F:List Nat) (bs:List UInt8) (at_:Nat) (n:Int) (w:World) (hR:Rd w p F bs at_) (hn0:0≤n) (hn2:n≤32) (hn3:at_+n≤8*bs.length) :
  Calls Tryz.prog 142 #[.pointer (some ⟨p,0,none⟩),.int .i64 n] w λe w'=>
   e = .returned (.tuple #[.int .u32 (num bs/2^at_%2^n.toNat:Nat),.bool true])∧Rd w' p F bs (at_+n.toNat)∧Fr [p] w w':=by
 obtain⟨ao,cap,hr,hcs,rfl,hpb,hlen,hat,hcap,hmax⟩:=hR;obtain⟨n,rfl⟩:=qcv hn0;have h1:decide ((n:Int)<0)=false:=by simp
 have h2:decide (32<(n:Int))=false:=by simp;omega
 have h3:decide (8*(bs.length:Int)-at_<(n:Int))=false:=by simp;omega
 have c0:=cell_of hr 0;have c1:=cell_of hr 1;simp only[qae,qaa,qad]at c0 c1;have Hr:=zhd hr;clear hr;go_enter Tryz.func142,Tryz.ntmps142;go_wp2;go_quiet (fail);clear c0 c1;go_wp2;go_loopw [6,7] (λv i wr=>∃k:Nat,k≤n∧i = .int .i64 k∧v = .int .u32 (num bs/2^at_%2^k:Nat)∧
   wr.heap[p]?=some (.cells #[.slice ao bs.length cap,.int .i64 (at_+k:Nat)] 221 (0,0))∧Fr [p] w wr)
  (λ_ i _=>n-(intOf i).toNat)
 case atStart=>exact⟨0,by omega,rfl,by simp[Nat.mod_one],by simpa using Hr.out,Fr.drewN _ _ _⟩
 case round=>
  obtain⟨k,hk,rfl,rfl,hr',hb⟩:=hrel;by_cases hkn:k<n
  ·obtain⟨g,o,rfl,hc⟩:=hcs.at (by simp;omega);have hq:(at_+k)/8<bs.length:=by omega
   have cd:wr.cell? ⟨g,o+(at_+k)/8,none⟩=some (bv (bs.getD ((at_+k)/8) 0)):=by refine hb.cell (hc _ _ ?_) (by simpa[blk,eq_comm] using hpb);simp[List.getD,hq]
   unfold bv at cd;have c0:=cell_of hr' 0;have c1:=cell_of hr' 1;have f1:=qay hr' 1;simp only[qae,qaa,qad]at c0 c1;have Hr':=zhd hr';clear hr' hc;have hby:(bs.getD ((at_+k)/8) 0).toNat<256:=qbo _;generalize hbn:(bs.getD ((at_+k)/8) 0).toNat=bn at cd hby;have Hbn:=zhd hbn;clear hbn;have hv:num bs/2^at_%2^k<4294967296:=by refine qal (qd4 _ (qbj _)) ?_;exact qax (by omega) (show k≤32 by omega)
   generalize hvn:num bs/2^at_%2^k=vn at hv ⊢;have Hvn:=zhd hvn;clear hvn;go_wp2;all_goals
    go_quiet (fail)
    go_wp2
    go_roundw
    case rel=>
     first
     | exact⟨k+(n-k),by omega,int_eq (by omega),int_eq (qoj bs at_ k (n-k) vn bn hq (by omega) (by omega) Hvn.out Hbn.out),
       (qa0 (w:=wr.drewN nq) Hr'.out _).trans (by simp;omega),(hb.drewsN nq).setCell (by simp) _⟩
     | exact⟨k+(8-(at_+k)%8),by omega,int_eq (by omega),int_eq (qoj bs at_ k (8-(at_+k)%8) vn bn hq (by omega) (by omega) Hvn.out Hbn.out),
       (qa0 (w:=wr.drewN nq) Hr'.out _).trans (by simp;omega),(hb.drewsN nq).setCell (by simp) _⟩
    case measure=>simp[intOf];omega
  ·obtain rfl:k=n:=by omega
   have hcs':Cs wr ao (bs.map bv):=hcs.fr hb (by intro x hx;simp;rintro rfl;exact hpb hx);have Hr':=zhd hr';clear hr' hcs;go_wp2;go_ret2;exact⟨by simp,⟨ao,cap,by simpa using Hr'.out,hcs',rfl,hpb,hlen,by simp;omega,hcap,hmax⟩,hb⟩
theorem qrv (p:Nat) (F:List Nat) (bs:List UInt8) (at_:Nat) (n:Int) (w:World) (hR:Rd w p F bs at_) (hn:n<0∨32<n∨8*bs.length<at_+n) :
  Calls Tryz.prog 142 #[.pointer (some ⟨p,0,none⟩),.int .i64 n] w λe w'=>
   e = .returned (.tuple #[.int .u32 0,.bool false])∧Rd w' p F bs at_∧Fr [] w w':=by
 obtain⟨ao,cap,hr,hcs,rfl,hpb,hlen,hat,hcap,hmax⟩:=hR;have c0:=cell_of hr 0;have c1:=cell_of hr 1;simp only[qae,qaa,qad]at c0 c1;have Hr:=zhd hr;clear hr;have done:∀m,Rd (w.drewN m) p (p::blk ao) bs at_:=λm=>⟨ao,cap,Hr.out,hcs,rfl,hpb,hlen,hat,hcap,hmax⟩
 have Hd:=zhd done;clear done;by_cases a1:n<0
 ·have h1:decide (n<0)=true:=by simp;omega
  go_enter Tryz.func142,Tryz.ntmps142;go_wp2;go_quiet (fail);go_wp2;go_ret2;exact⟨rfl,Hd.out _,Fr.drewN _ _ _⟩
 ·have h1:decide (n<0)=false:=by simp;omega
  by_cases a2:32<n
  ·have h2:decide (32<n)=true:=by simp;omega
   go_enter Tryz.func142,Tryz.ntmps142;go_wp2;go_quiet (fail);go_wp2;go_ret2;exact⟨rfl,Hd.out _,Fr.drewN _ _ _⟩
  ·have h2:decide (32<n)=false:=by simp;omega
   have h3:decide (8*(bs.length:Int)-at_<n)=true:=by simp;omega
   go_enter Tryz.func142,Tryz.ntmps142;go_wp2;go_quiet (fail);go_wp2;go_ret2;exact⟨rfl,Hd.out _,Fr.drewN _ _ _⟩
end Go.Proofs.YtbabjlohkniciaaGreatDoor.bits
