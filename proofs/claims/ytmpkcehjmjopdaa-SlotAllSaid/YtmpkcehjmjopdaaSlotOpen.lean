import Derived.Test.YtmpkcehjmjopdaaSlotA
import Derived.ProofKit
import Derived.OpenShut
namespace Go.Proofs.Ytmpkcehjmjopdaa
open Go.ChangeShapes Go.WideShapes Go.ChangeAt Go.RowKit
theorem cellsOf37 : Try.prog.cellsOf 37 = 13 := by kernel_rfl
theorem cellsOf35 : Try.prog.cellsOf 35 = 4 := by kernel_rfl
set_option maxRecDepth 100000 in
theorem open_slot {H : Type} {enc : TypeId × Value → H} {w : World} {base b0 : Nat} {spare : Nat → Bool} {held : Bool} {r : Reach} {v : Value} {d : DataW H} {p : List MemPlace}
    (hv : Value.okWide Try.prog w r b0 37 v) (h : DataW.Trod enc Try.prog w base spare held 37 v d p) : ∃ x : Sl, v = .agg x.cells := by
  obtain ⟨cs, rfl, hsz⟩ := okWide_struct Try.underlying37 hv
  rw [cellsOf37] at hsz
  obtain ⟨cs⟩ := cs
  simp only [List.size_toArray] at hsz
  obtain ⟨fuel, hf⟩ := h
  simp only [Value.cells] at hf
  obtain ⟨xs, n, _, _, _, hxl, hx⟩ := DataW.trod_struct Try.underlying37 hf
  simp only [List.size_toArray, List.length_cons, List.length_nil] at hxl
  match cs, hsz with
  | [c0, c1, c2, c3, c4, c5, c6, c7, c8, c9, c10, c11, c12], _ =>
    have h3 : Try.prog.cellsOf 3 = 1 := by kernel_rfl
    have k0 : DataW.trod enc Try.prog w base spare held n 3 (([c0, c1, c2, c3, c4, c5, c6, c7, c8, c9, c10, c11, c12].drop 0).take (Try.prog.cellsOf 3)) = xs[0]? := hx 0 _ rfl
    rw [List.getElem?_eq_getElem (by omega)] at k0
    rw [h3] at k0
    obtain ⟨a0, e0, _⟩ := DataW.trod_int Try.underlying3 k0
    simp at e0
    have k1 : DataW.trod enc Try.prog w base spare held n 3 (([c0, c1, c2, c3, c4, c5, c6, c7, c8, c9, c10, c11, c12].drop 1).take (Try.prog.cellsOf 3)) = xs[1]? := hx 1 _ rfl
    rw [List.getElem?_eq_getElem (by omega)] at k1
    rw [h3] at k1
    obtain ⟨a1, e1, _⟩ := DataW.trod_int Try.underlying3 k1
    simp at e1
    have k2 : DataW.trod enc Try.prog w base spare held n 3 (([c0, c1, c2, c3, c4, c5, c6, c7, c8, c9, c10, c11, c12].drop 2).take (Try.prog.cellsOf 3)) = xs[2]? := hx 2 _ rfl
    rw [List.getElem?_eq_getElem (by omega)] at k2
    rw [h3] at k2
    obtain ⟨a2, e2, _⟩ := DataW.trod_int Try.underlying3 k2
    simp at e2
    have k3 : DataW.trod enc Try.prog w base spare held n 3 (([c0, c1, c2, c3, c4, c5, c6, c7, c8, c9, c10, c11, c12].drop 3).take (Try.prog.cellsOf 3)) = xs[3]? := hx 3 _ rfl
    rw [List.getElem?_eq_getElem (by omega)] at k3
    rw [h3] at k3
    obtain ⟨a3, e3, _⟩ := DataW.trod_int Try.underlying3 k3
    simp at e3
    have k4 : DataW.trod enc Try.prog w base spare held n 3 (([c0, c1, c2, c3, c4, c5, c6, c7, c8, c9, c10, c11, c12].drop 4).take (Try.prog.cellsOf 3)) = xs[4]? := hx 4 _ rfl
    rw [List.getElem?_eq_getElem (by omega)] at k4
    rw [h3] at k4
    obtain ⟨a4, e4, _⟩ := DataW.trod_int Try.underlying3 k4
    simp at e4
    have k5 : DataW.trod enc Try.prog w base spare held n 3 (([c0, c1, c2, c3, c4, c5, c6, c7, c8, c9, c10, c11, c12].drop 5).take (Try.prog.cellsOf 3)) = xs[5]? := hx 5 _ rfl
    rw [List.getElem?_eq_getElem (by omega)] at k5
    rw [h3] at k5
    obtain ⟨a5, e5, _⟩ := DataW.trod_int Try.underlying3 k5
    simp at e5
    have k6 : DataW.trod enc Try.prog w base spare held n 3 (([c0, c1, c2, c3, c4, c5, c6, c7, c8, c9, c10, c11, c12].drop 6).take (Try.prog.cellsOf 3)) = xs[6]? := hx 6 _ rfl
    rw [List.getElem?_eq_getElem (by omega)] at k6
    rw [h3] at k6
    obtain ⟨a6, e6, _⟩ := DataW.trod_int Try.underlying3 k6
    simp at e6
    have k7 : DataW.trod enc Try.prog w base spare held n 35 (([c0, c1, c2, c3, c4, c5, c6, c7, c8, c9, c10, c11, c12].drop 7).take (Try.prog.cellsOf 35)) = xs[7]? := hx 7 _ rfl
    rw [List.getElem?_eq_getElem (by omega)] at k7
    rw [cellsOf35] at k7
    obtain ⟨ys, m, _, _, _, hyl, hy⟩ := DataW.trod_array Try.underlying35 k7
    have j0 : DataW.trod enc Try.prog w base spare held m 3 (([c7, c8, c9, c10].drop (0 * Try.prog.cellsOf 3)).take (Try.prog.cellsOf 3)) = ys[0]? := hy 0 (by decide)
    rw [List.getElem?_eq_getElem (by omega), h3] at j0
    obtain ⟨a7, e7, _⟩ := DataW.trod_int Try.underlying3 j0
    simp at e7
    have j1 : DataW.trod enc Try.prog w base spare held m 3 (([c7, c8, c9, c10].drop (1 * Try.prog.cellsOf 3)).take (Try.prog.cellsOf 3)) = ys[1]? := hy 1 (by decide)
    rw [List.getElem?_eq_getElem (by omega), h3] at j1
    obtain ⟨a8, e8, _⟩ := DataW.trod_int Try.underlying3 j1
    simp at e8
    have j2 : DataW.trod enc Try.prog w base spare held m 3 (([c7, c8, c9, c10].drop (2 * Try.prog.cellsOf 3)).take (Try.prog.cellsOf 3)) = ys[2]? := hy 2 (by decide)
    rw [List.getElem?_eq_getElem (by omega), h3] at j2
    obtain ⟨a9, e9, _⟩ := DataW.trod_int Try.underlying3 j2
    simp at e9
    have j3 : DataW.trod enc Try.prog w base spare held m 3 (([c7, c8, c9, c10].drop (3 * Try.prog.cellsOf 3)).take (Try.prog.cellsOf 3)) = ys[3]? := hy 3 (by decide)
    rw [List.getElem?_eq_getElem (by omega), h3] at j3
    obtain ⟨a10, e10, _⟩ := DataW.trod_int Try.underlying3 j3
    simp at e10
    have k8 : DataW.trod enc Try.prog w base spare held n 3 (([c0, c1, c2, c3, c4, c5, c6, c7, c8, c9, c10, c11, c12].drop 11).take (Try.prog.cellsOf 3)) = xs[8]? := hx 8 _ rfl
    rw [List.getElem?_eq_getElem (by omega)] at k8
    rw [h3] at k8
    obtain ⟨a11, e11, _⟩ := DataW.trod_int Try.underlying3 k8
    simp at e11
    have k9 : DataW.trod enc Try.prog w base spare held n 3 (([c0, c1, c2, c3, c4, c5, c6, c7, c8, c9, c10, c11, c12].drop 12).take (Try.prog.cellsOf 3)) = xs[9]? := hx 9 _ rfl
    rw [List.getElem?_eq_getElem (by omega)] at k9
    rw [h3] at k9
    obtain ⟨a12, e12, _⟩ := DataW.trod_int Try.underlying3 k9
    simp at e12
    subst e0 e1 e2 e3 e4 e5 e6 e7 e8 e9 e10 e11 e12
    exact ⟨⟨a0, a1, a2, a3, a4, a5, a6, a7, a8, a9, a10, a11, a12⟩, rfl⟩
end Go.Proofs.Ytmpkcehjmjopdaa
