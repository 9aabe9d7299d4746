import Derived.Test.YtmpkcehjmjopdaaNodeA
import Derived.ProofKit
import Derived.OpenShut
namespace Go.Proofs.Ytmpkcehjmjopdaa
open Go.ChangeShapes Go.WideShapes Go.ChangeAt Go.RowKit
theorem cellsOf65 : Try.prog.cellsOf 65 = 19 := by kernel_rfl
theorem cellsOf63 : Try.prog.cellsOf 63 = 14 := by kernel_rfl
set_option maxRecDepth 100000 in
theorem open_node {H : Type} {enc : TypeId × Value → H} {w : World} {base b0 : Nat} {spare : Nat → Bool} {held : Bool} {r : Reach} {v : Value} {d : DataW H} {p : List MemPlace}
    (hv : Value.okWide Try.prog w r b0 65 v) (h : DataW.Trod enc Try.prog w base spare held 65 v d p) : ∃ x : Nd, v = .agg x.cells := by
  obtain ⟨cs, rfl, hsz⟩ := okWide_struct Try.underlying65 hv
  rw [cellsOf65] at hsz
  obtain ⟨cs⟩ := cs
  simp only [List.size_toArray] at hsz
  obtain ⟨fuel, hf⟩ := h
  simp only [Value.cells] at hf
  obtain ⟨xs, n, _, _, _, hxl, hx⟩ := DataW.trod_struct Try.underlying65 hf
  simp only [List.size_toArray, List.length_cons, List.length_nil] at hxl
  match cs, hsz with
  | [c0, c1, c2, c3, c4, c5, c6, c7, c8, c9, c10, c11, c12, c13, c14, c15, c16, c17, c18], _ =>
    have h3 : Try.prog.cellsOf 3 = 1 := by kernel_rfl
    have k0 : DataW.trod enc Try.prog w base spare held n 3 (([c0, c1, c2, c3, c4, c5, c6, c7, c8, c9, c10, c11, c12, c13, c14, c15, c16, c17, c18].drop 0).take (Try.prog.cellsOf 3)) = xs[0]? := hx 0 _ rfl
    rw [List.getElem?_eq_getElem (by omega)] at k0
    rw [h3] at k0
    obtain ⟨a0, e0, _⟩ := DataW.trod_int Try.underlying3 k0
    simp at e0
    have k1 : DataW.trod enc Try.prog w base spare held n 3 (([c0, c1, c2, c3, c4, c5, c6, c7, c8, c9, c10, c11, c12, c13, c14, c15, c16, c17, c18].drop 1).take (Try.prog.cellsOf 3)) = xs[1]? := hx 1 _ rfl
    rw [List.getElem?_eq_getElem (by omega)] at k1
    rw [h3] at k1
    obtain ⟨a1, e1, _⟩ := DataW.trod_int Try.underlying3 k1
    simp at e1
    have k2 : DataW.trod enc Try.prog w base spare held n 3 (([c0, c1, c2, c3, c4, c5, c6, c7, c8, c9, c10, c11, c12, c13, c14, c15, c16, c17, c18].drop 2).take (Try.prog.cellsOf 3)) = xs[2]? := hx 2 _ rfl
    rw [List.getElem?_eq_getElem (by omega)] at k2
    rw [h3] at k2
    obtain ⟨a2, e2, _⟩ := DataW.trod_int Try.underlying3 k2
    simp at e2
    have k3 : DataW.trod enc Try.prog w base spare held n 3 (([c0, c1, c2, c3, c4, c5, c6, c7, c8, c9, c10, c11, c12, c13, c14, c15, c16, c17, c18].drop 3).take (Try.prog.cellsOf 3)) = xs[3]? := hx 3 _ rfl
    rw [List.getElem?_eq_getElem (by omega)] at k3
    rw [h3] at k3
    obtain ⟨a3, e3, _⟩ := DataW.trod_int Try.underlying3 k3
    simp at e3
    have k4 : DataW.trod enc Try.prog w base spare held n 3 (([c0, c1, c2, c3, c4, c5, c6, c7, c8, c9, c10, c11, c12, c13, c14, c15, c16, c17, c18].drop 4).take (Try.prog.cellsOf 3)) = xs[4]? := hx 4 _ rfl
    rw [List.getElem?_eq_getElem (by omega)] at k4
    rw [h3] at k4
    obtain ⟨a4, e4, _⟩ := DataW.trod_int Try.underlying3 k4
    simp at e4
    have k5 : DataW.trod enc Try.prog w base spare held n 63 (([c0, c1, c2, c3, c4, c5, c6, c7, c8, c9, c10, c11, c12, c13, c14, c15, c16, c17, c18].drop 5).take (Try.prog.cellsOf 63)) = xs[5]? := hx 5 _ rfl
    rw [List.getElem?_eq_getElem (by omega)] at k5
    rw [cellsOf63] at k5
    obtain ⟨ys, m, _, _, _, hyl, hy⟩ := DataW.trod_array Try.underlying63 k5
    have j0 : DataW.trod enc Try.prog w base spare held m 3 (([c5, c6, c7, c8, c9, c10, c11, c12, c13, c14, c15, c16, c17, c18].drop (0 * Try.prog.cellsOf 3)).take (Try.prog.cellsOf 3)) = ys[0]? := hy 0 (by decide)
    rw [List.getElem?_eq_getElem (by omega), h3] at j0
    obtain ⟨a5, e5, _⟩ := DataW.trod_int Try.underlying3 j0
    simp at e5
    have j1 : DataW.trod enc Try.prog w base spare held m 3 (([c5, c6, c7, c8, c9, c10, c11, c12, c13, c14, c15, c16, c17, c18].drop (1 * Try.prog.cellsOf 3)).take (Try.prog.cellsOf 3)) = ys[1]? := hy 1 (by decide)
    rw [List.getElem?_eq_getElem (by omega), h3] at j1
    obtain ⟨a6, e6, _⟩ := DataW.trod_int Try.underlying3 j1
    simp at e6
    have j2 : DataW.trod enc Try.prog w base spare held m 3 (([c5, c6, c7, c8, c9, c10, c11, c12, c13, c14, c15, c16, c17, c18].drop (2 * Try.prog.cellsOf 3)).take (Try.prog.cellsOf 3)) = ys[2]? := hy 2 (by decide)
    rw [List.getElem?_eq_getElem (by omega), h3] at j2
    obtain ⟨a7, e7, _⟩ := DataW.trod_int Try.underlying3 j2
    simp at e7
    have j3 : DataW.trod enc Try.prog w base spare held m 3 (([c5, c6, c7, c8, c9, c10, c11, c12, c13, c14, c15, c16, c17, c18].drop (3 * Try.prog.cellsOf 3)).take (Try.prog.cellsOf 3)) = ys[3]? := hy 3 (by decide)
    rw [List.getElem?_eq_getElem (by omega), h3] at j3
    obtain ⟨a8, e8, _⟩ := DataW.trod_int Try.underlying3 j3
    simp at e8
    have j4 : DataW.trod enc Try.prog w base spare held m 3 (([c5, c6, c7, c8, c9, c10, c11, c12, c13, c14, c15, c16, c17, c18].drop (4 * Try.prog.cellsOf 3)).take (Try.prog.cellsOf 3)) = ys[4]? := hy 4 (by decide)
    rw [List.getElem?_eq_getElem (by omega), h3] at j4
    obtain ⟨a9, e9, _⟩ := DataW.trod_int Try.underlying3 j4
    simp at e9
    have j5 : DataW.trod enc Try.prog w base spare held m 3 (([c5, c6, c7, c8, c9, c10, c11, c12, c13, c14, c15, c16, c17, c18].drop (5 * Try.prog.cellsOf 3)).take (Try.prog.cellsOf 3)) = ys[5]? := hy 5 (by decide)
    rw [List.getElem?_eq_getElem (by omega), h3] at j5
    obtain ⟨a10, e10, _⟩ := DataW.trod_int Try.underlying3 j5
    simp at e10
    have j6 : DataW.trod enc Try.prog w base spare held m 3 (([c5, c6, c7, c8, c9, c10, c11, c12, c13, c14, c15, c16, c17, c18].drop (6 * Try.prog.cellsOf 3)).take (Try.prog.cellsOf 3)) = ys[6]? := hy 6 (by decide)
    rw [List.getElem?_eq_getElem (by omega), h3] at j6
    obtain ⟨a11, e11, _⟩ := DataW.trod_int Try.underlying3 j6
    simp at e11
    have j7 : DataW.trod enc Try.prog w base spare held m 3 (([c5, c6, c7, c8, c9, c10, c11, c12, c13, c14, c15, c16, c17, c18].drop (7 * Try.prog.cellsOf 3)).take (Try.prog.cellsOf 3)) = ys[7]? := hy 7 (by decide)
    rw [List.getElem?_eq_getElem (by omega), h3] at j7
    obtain ⟨a12, e12, _⟩ := DataW.trod_int Try.underlying3 j7
    simp at e12
    have j8 : DataW.trod enc Try.prog w base spare held m 3 (([c5, c6, c7, c8, c9, c10, c11, c12, c13, c14, c15, c16, c17, c18].drop (8 * Try.prog.cellsOf 3)).take (Try.prog.cellsOf 3)) = ys[8]? := hy 8 (by decide)
    rw [List.getElem?_eq_getElem (by omega), h3] at j8
    obtain ⟨a13, e13, _⟩ := DataW.trod_int Try.underlying3 j8
    simp at e13
    have j9 : DataW.trod enc Try.prog w base spare held m 3 (([c5, c6, c7, c8, c9, c10, c11, c12, c13, c14, c15, c16, c17, c18].drop (9 * Try.prog.cellsOf 3)).take (Try.prog.cellsOf 3)) = ys[9]? := hy 9 (by decide)
    rw [List.getElem?_eq_getElem (by omega), h3] at j9
    obtain ⟨a14, e14, _⟩ := DataW.trod_int Try.underlying3 j9
    simp at e14
    have j10 : DataW.trod enc Try.prog w base spare held m 3 (([c5, c6, c7, c8, c9, c10, c11, c12, c13, c14, c15, c16, c17, c18].drop (10 * Try.prog.cellsOf 3)).take (Try.prog.cellsOf 3)) = ys[10]? := hy 10 (by decide)
    rw [List.getElem?_eq_getElem (by omega), h3] at j10
    obtain ⟨a15, e15, _⟩ := DataW.trod_int Try.underlying3 j10
    simp at e15
    have j11 : DataW.trod enc Try.prog w base spare held m 3 (([c5, c6, c7, c8, c9, c10, c11, c12, c13, c14, c15, c16, c17, c18].drop (11 * Try.prog.cellsOf 3)).take (Try.prog.cellsOf 3)) = ys[11]? := hy 11 (by decide)
    rw [List.getElem?_eq_getElem (by omega), h3] at j11
    obtain ⟨a16, e16, _⟩ := DataW.trod_int Try.underlying3 j11
    simp at e16
    have j12 : DataW.trod enc Try.prog w base spare held m 3 (([c5, c6, c7, c8, c9, c10, c11, c12, c13, c14, c15, c16, c17, c18].drop (12 * Try.prog.cellsOf 3)).take (Try.prog.cellsOf 3)) = ys[12]? := hy 12 (by decide)
    rw [List.getElem?_eq_getElem (by omega), h3] at j12
    obtain ⟨a17, e17, _⟩ := DataW.trod_int Try.underlying3 j12
    simp at e17
    have j13 : DataW.trod enc Try.prog w base spare held m 3 (([c5, c6, c7, c8, c9, c10, c11, c12, c13, c14, c15, c16, c17, c18].drop (13 * Try.prog.cellsOf 3)).take (Try.prog.cellsOf 3)) = ys[13]? := hy 13 (by decide)
    rw [List.getElem?_eq_getElem (by omega), h3] at j13
    obtain ⟨a18, e18, _⟩ := DataW.trod_int Try.underlying3 j13
    simp at e18
    subst e0 e1 e2 e3 e4 e5 e6 e7 e8 e9 e10 e11 e12 e13 e14 e15 e16 e17 e18
    exact ⟨⟨a0, a1, a2, a3, a4, [a5, a6, a7, a8, a9, a10, a11, a12, a13, a14, a15, a16, a17, a18], rfl⟩, rfl⟩
end Go.Proofs.Ytmpkcehjmjopdaa
