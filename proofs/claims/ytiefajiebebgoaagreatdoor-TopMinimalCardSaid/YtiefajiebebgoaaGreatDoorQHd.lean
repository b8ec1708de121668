/- Facts laid aside. Conditions: none. -/
import Derived.Lib.Hide
namespace Go.Proofs.YtiefajiebebgoaaGreatDoor
open Go.RowKit
theorem Kd {p : Prop} (h : p) : Hid p := h
theorem Kd2 {p0 p1 : Prop} (h0 : p0) (h1 : p1) : Hid (p0 ∧ p1) := ⟨h0, h1⟩
theorem Kd3 {p0 p1 p2 : Prop} (h0 : p0) (h1 : p1) (h2 : p2) : Hid (p0 ∧ p1 ∧ p2) := ⟨h0, h1, h2⟩
theorem Kd4 {p0 p1 p2 p3 : Prop} (h0 : p0) (h1 : p1) (h2 : p2) (h3 : p3) : Hid (p0 ∧ p1 ∧ p2 ∧ p3) := ⟨h0, h1, h2, h3⟩
theorem Kd5 {p0 p1 p2 p3 p4 : Prop} (h0 : p0) (h1 : p1) (h2 : p2) (h3 : p3) (h4 : p4) : Hid (p0 ∧ p1 ∧ p2 ∧ p3 ∧ p4) := ⟨h0, h1, h2, h3, h4⟩
theorem Kd6 {p0 p1 p2 p3 p4 p5 : Prop} (h0 : p0) (h1 : p1) (h2 : p2) (h3 : p3) (h4 : p4) (h5 : p5) : Hid (p0 ∧ p1 ∧ p2 ∧ p3 ∧ p4 ∧ p5) := ⟨h0, h1, h2, h3, h4, h5⟩
theorem Kd7 {p0 p1 p2 p3 p4 p5 p6 : Prop} (h0 : p0) (h1 : p1) (h2 : p2) (h3 : p3) (h4 : p4) (h5 : p5) (h6 : p6) : Hid (p0 ∧ p1 ∧ p2 ∧ p3 ∧ p4 ∧ p5 ∧ p6) := ⟨h0, h1, h2, h3, h4, h5, h6⟩
theorem Kd8 {p0 p1 p2 p3 p4 p5 p6 p7 : Prop} (h0 : p0) (h1 : p1) (h2 : p2) (h3 : p3) (h4 : p4) (h5 : p5) (h6 : p6) (h7 : p7) : Hid (p0 ∧ p1 ∧ p2 ∧ p3 ∧ p4 ∧ p5 ∧ p6 ∧ p7) := ⟨h0, h1, h2, h3, h4, h5, h6, h7⟩
theorem Kd9 {p0 p1 p2 p3 p4 p5 p6 p7 p8 : Prop} (h0 : p0) (h1 : p1) (h2 : p2) (h3 : p3) (h4 : p4) (h5 : p5) (h6 : p6) (h7 : p7) (h8 : p8) : Hid (p0 ∧ p1 ∧ p2 ∧ p3 ∧ p4 ∧ p5 ∧ p6 ∧ p7 ∧ p8) := ⟨h0, h1, h2, h3, h4, h5, h6, h7, h8⟩
theorem Kd10 {p0 p1 p2 p3 p4 p5 p6 p7 p8 p9 : Prop} (h0 : p0) (h1 : p1) (h2 : p2) (h3 : p3) (h4 : p4) (h5 : p5) (h6 : p6) (h7 : p7) (h8 : p8) (h9 : p9) : Hid (p0 ∧ p1 ∧ p2 ∧ p3 ∧ p4 ∧ p5 ∧ p6 ∧ p7 ∧ p8 ∧ p9) := ⟨h0, h1, h2, h3, h4, h5, h6, h7, h8, h9⟩
theorem Kd11 {p0 p1 p2 p3 p4 p5 p6 p7 p8 p9 p10 : Prop} (h0 : p0) (h1 : p1) (h2 : p2) (h3 : p3) (h4 : p4) (h5 : p5) (h6 : p6) (h7 : p7) (h8 : p8) (h9 : p9) (h10 : p10) : Hid (p0 ∧ p1 ∧ p2 ∧ p3 ∧ p4 ∧ p5 ∧ p6 ∧ p7 ∧ p8 ∧ p9 ∧ p10) := ⟨h0, h1, h2, h3, h4, h5, h6, h7, h8, h9, h10⟩
theorem Kd12 {p0 p1 p2 p3 p4 p5 p6 p7 p8 p9 p10 p11 : Prop} (h0 : p0) (h1 : p1) (h2 : p2) (h3 : p3) (h4 : p4) (h5 : p5) (h6 : p6) (h7 : p7) (h8 : p8) (h9 : p9) (h10 : p10) (h11 : p11) : Hid (p0 ∧ p1 ∧ p2 ∧ p3 ∧ p4 ∧ p5 ∧ p6 ∧ p7 ∧ p8 ∧ p9 ∧ p10 ∧ p11) := ⟨h0, h1, h2, h3, h4, h5, h6, h7, h8, h9, h10, h11⟩
theorem Kd13 {p0 p1 p2 p3 p4 p5 p6 p7 p8 p9 p10 p11 p12 : Prop} (h0 : p0) (h1 : p1) (h2 : p2) (h3 : p3) (h4 : p4) (h5 : p5) (h6 : p6) (h7 : p7) (h8 : p8) (h9 : p9) (h10 : p10) (h11 : p11) (h12 : p12) : Hid (p0 ∧ p1 ∧ p2 ∧ p3 ∧ p4 ∧ p5 ∧ p6 ∧ p7 ∧ p8 ∧ p9 ∧ p10 ∧ p11 ∧ p12) := ⟨h0, h1, h2, h3, h4, h5, h6, h7, h8, h9, h10, h11, h12⟩
theorem Kd14 {p0 p1 p2 p3 p4 p5 p6 p7 p8 p9 p10 p11 p12 p13 : Prop} (h0 : p0) (h1 : p1) (h2 : p2) (h3 : p3) (h4 : p4) (h5 : p5) (h6 : p6) (h7 : p7) (h8 : p8) (h9 : p9) (h10 : p10) (h11 : p11) (h12 : p12) (h13 : p13) : Hid (p0 ∧ p1 ∧ p2 ∧ p3 ∧ p4 ∧ p5 ∧ p6 ∧ p7 ∧ p8 ∧ p9 ∧ p10 ∧ p11 ∧ p12 ∧ p13) := ⟨h0, h1, h2, h3, h4, h5, h6, h7, h8, h9, h10, h11, h12, h13⟩
end Go.Proofs.YtiefajiebebgoaaGreatDoor
