import Derived.Test.YtmpkcehjmjopdaaImgC
namespace Go.Proofs.Ytmpkcehjmjopdaa
open Go.RowKit

theorem DkTo.setCells {w w' : World} {g gd : Nat} {u v : Value} {b : Nat} (hb : b = g ∨ b = gd) : ∀ (vs : List Value) (o : Nat) {w' : World}, DkTo w w' g gd u v → DkTo w (w'.setCells b o vs) g gd u v
  | [], _, _, h => h
  | x :: r, o, _, h => DkTo.setCells (w' := w') hb r (o + 1) (h.setCell (p := ⟨b, o, none⟩) hb x)
theorem setCells_far_heap {b k : Nat} (hk : k ≠ b) : ∀ (vs : List Value) (o : Nat) (w : World), (w.setCells b o vs).heap[k]? = w.heap[k]?
  | [], _, _ => rfl
  | x :: r, o, w => (setCells_far_heap hk r (o + 1) _).trans (Below.heap_setCell w ⟨b, o, none⟩ x k hk)
/-- the waits written to their sectors -/
def putAll (dur : List (List UInt8)) (ws : List Wr) : List (List UInt8) := ws.foldl (fun a x => a.set x.i x.s) dur
theorem putAll_length : ∀ (ws : List Wr) (dur : List (List UInt8)), (putAll dur ws).length = dur.length
  | [], _ => rfl
  | x :: ws, dur => by
    have := putAll_length ws (dur.set x.i x.s)
    rwa [List.length_set] at this
theorem putAll_take (dur : List (List UInt8)) (ws : List Wr) (j : Nat) (h : j < ws.length) : putAll dur (ws.take (j + 1)) = (putAll dur (ws.take j)).set ws[j].i ws[j].s := by
  unfold putAll
  rw [List.take_succ_eq_append_getElem h, List.foldl_append]; rfl

namespace DkAt
variable {w w' : World} {B g gd : Nat} {wv : Value} {d : Dk}
theorem setSec (h : DkAt w B g gd wv d) (i : Nat) (hi : i < d.dur.length) (s : List UInt8) (hs : s.length = 256) : DkAt (w.setCells gd (i * 256) (bcells s)) B g gd wv { d with dur := d.dur.set i s } where
  top := by
    have := Blk.setCells_far h.ne (bcells s) (i * 256) h.top
    unfold Dk.cells
    dsimp only
    rw [List.length_set]
    exact this
  sec := by
    have := h.sec.setCells (bcells s) (i * 256)
    rwa [dcells_put h.dur i hi s hs] at this
  row := ownsRow_of_block h.row fun k hk => setCells_far_heap (fun e : k = gd => h.negd (by rw [← e]; exact hk)) _ _ _
  ne := h.ne
  neg := h.neg
  negd := h.negd
  hg := h.hg
  hgd := h.hgd
  nilw := h.nilw
  dur := dur_set h.dur i s hs
  n0 := by rw [List.length_set]; exact h.n0
  n1 := by rw [List.length_set]; exact h.n1
  own := h.own
  few := h.few
  wr := h.wr
  ct := h.ct
  inn := fun x hx => by rw [List.length_set]; exact h.inn x hx
/-- the owner's list is nil again -/
theorem setNil (h : DkAt w B g gd wv d) (o : Nat) (ho : o < 17) (hw : d.ws = [] ∨ d.own = o) : DkAt (w.setCell ⟨g, 1 + o, none⟩ (.slice none 0 0)) B g gd (.slice none 0 0) { d with own := o, ws := [] } where
  top := by
    have h1 := h.top.set_ (1 + o) (.slice none 0 0)
    unfold Dk.cells at h1
    rwa [dkCells_sw (ho := ho) (h := hw.imp h.nilw id)] at h1
  sec := h.sec.far (p := ⟨g, 1 + o, none⟩) (Ne.symm h.ne) _
  row := World.ownsRow_nil _ _ _ _
  ne := h.ne
  neg := fun e => by cases e
  negd := fun e => by cases e
  hg := h.hg
  hgd := h.hgd
  nilw := fun _ => rfl
  dur := h.dur
  n0 := h.n0
  n1 := h.n1
  own := ho
  few := Nat.zero_le _
  wr := h.wr
  ct := h.ct
  inn := fun x hx => by cases hx
end DkAt
def Dk.flushed (d : Dk) (o : Nat) : Dk := { d with dur := putAll d.dur d.ws, own := o, ws := [] }

set_option maxHeartbeats 400000 in
theorem dflush_down {w : World} {B g gd : Nat} {wv : Value} {d : Dk} (h : DkAt w B g gd wv d) (o : Nat) (hd : d.down = true) :
    Calls Try.prog 54 #[.pointer (some ⟨g, 0, none⟩), .int .i64 o] w fun e w' => e = .returned (.bool false) ∧ w = w' := by
  have c20 := h.c20
  rw [hd] at c20
  clear hd
  go_enter Try.func54, Try.ntmps54
  go_wp2_with fail
  go_ret
  exact ⟨rfl, rfl⟩

section
attribute [local go_sem ↓] al89 al91 ld89 ld91 ld84 st89 st91 ix84
attribute [local go_sem] run_al89 run_al91
set_option maxRecDepth 100000 in
set_option maxHeartbeats 2000000 in
theorem dflush {w : World} {B g gd : Nat} {wv : Value} {d : Dk} (h : DkAt w B g gd wv d) (o : Nat) (ho : o ≤ 16) (hw : d.ws = [] ∨ d.own = o) (hd : d.down = false) :
    Calls Try.prog 54 #[.pointer (some ⟨g, 0, none⟩), .int .i64 o] w fun e w' => e = .returned (.bool true) ∧ DkAt w' B g gd (.slice none 0 0) (d.flushed o) ∧ DkTo w w' g gd wv (.slice none 0 0) := by
  have H := Lib.hid h
  have c20 := h.c20
  rw [hd] at c20
  have cw := h.cown o (by omega) hw
  obtain ⟨p, cap, hwv, hp⟩ := ownsRow_shape h.row
  subst hwv
  have Hp := Lib.hid hp
  have hfew := h.few
  have Hw := Lib.hid hw
  have HL : Hid (∀ x ∈ d.ws, x.i < d.dur.length ∧ x.when_ < 1000000) := h.inn'
  have HF : Hid (d.flushed o = { d with dur := putAll d.dur d.ws, own := o, ws := [] }) := rfl
  clear h hd hp hw
  go_enter Try.func54, Try.ntmps54
  go_wp2_with fail
  refine (dnobody o _ ho).mono ?_
  rintro e w' ⟨rfl, rfl⟩
  go_wp2_with fail
  clear c20 cw
  go_loopw [22] (fun j wr => ∃ j' : Nat, j' ≤ d.ws.length ∧ j = .int .i64 j' ∧ DkAt wr B g gd (.slice p d.ws.length cap) { d with dur := putAll d.dur (d.ws.take j') } ∧ DkTo w wr g gd (.slice p d.ws.length cap) (.slice p d.ws.length cap)) (fun j _ => d.ws.length - (intOf j).toNat)
  case atStart => exact ⟨0, by omega, rfl, H.out, DkTo.refl _ _ _ _⟩
  case round =>
    obtain ⟨j, hj, rfl, hA, hT⟩ := hrel
    by_cases hjl : j < d.ws.length
    · obtain ⟨b, rfl⟩ := Hp.out (by omega)
      have hrg := wcells_range hA.row j hjl
      have hstep := Lib.hid (putAll_take d.dur d.ws j hjl)
      obtain ⟨hxn, hxw⟩ := HL.out d.ws[j] (List.getElem_mem hjl)
      generalize d.ws[j] = x at *
      obtain ⟨xw, xi, xs, xl⟩ := x
      dsimp only [Wr.cells] at hrg hxn hxw hstep
      have l91 := run_ldm91 hrg xl
      have hst := run_st91_new wr xw xi xs xl
      have hB := Blk.new wr 91 (wrCells xw xi xs).toArray
      have hbel : Below wr.heap.size wr (wr.alloc (.cells (wrCells xw xi xs).toArray 91)) := (Below.refl _ _).alloc (Nat.le_refl _) _
      have hA1 := (hA.beyond hbel).beyond (Below.refl _ _).drew
      have hT1 := (hT.trans (.of_below hbel)).trans (.of_below (Below.refl _ _).drew)
      clear hrg hA hT hbel
      generalize wr.alloc (.cells (wrCells xw xi xs).toArray 91) = v1 at *
      have c1 : v1.cell? ⟨wr.heap.size, 1, none⟩ = some (.int .i64 xi) := hB.cell 1
      have k0 : v1.cell? ⟨g, 0, none⟩ = some (.slice (some ⟨gd, 0, none⟩) (putAll d.dur (d.ws.take j)).length (putAll d.dur (d.ws.take j)).length) := hA1.c0
      have hr2 : v1.rangeAt wr.heap.size 2 (bcells xs) := by
        intro q v hv
        rw [hB.cell, List.getElem?_toArray, wrCells, Nat.add_comm]
        exact hv
      have l89 := run_ldm89 ((World.rangeAt_drew _ _ _ _).2 hr2) xl
      have hxn' : xi < (putAll d.dur (d.ws.take j)).length := by rw [putAll_length]; exact hxn
      have th := dcells_there hA1.sec hA1.dur xi hxn'
      have s89 := run_stm89 th xl
      have hA2 := hA1.setSec xi hxn' xs xl
      have hT2 := hT1.setCells (w' := v1) (b := gd) (.inr rfl) (bcells xs) (xi * 256)
      have hA3 := Lib.hid hA2
      clear hA1 hT1 hr2 th hB hA2
      generalize (putAll d.dur (d.ws.take j)).length = n at *
      go_wp2_with fail
      go_region
      all_goals
        go_wp2_with fail
        go_roundw
        case rel => exact ⟨j + 1, by omega, by go_num, by rw [hstep.out]; exact hA3.out, hT2⟩
        case measure => simp [intOf]; omega
    · obtain rfl : j = d.ws.length := by omega
      rw [List.take_length] at hA
      have cw := hA.cown o (by omega) Hw.out
      have cf := hA.fz (1 + o)
      have hA2 := hA.setNil o (by omega) Hw.out
      have hT2 : DkTo w (wr.setCell ⟨g, 1 + o, none⟩ (.slice none 0 0)) g gd (.slice p d.ws.length cap) (.slice none 0 0) := hT.trans ((DkTo.refl wr g gd (.slice p d.ws.length cap)).setCell (.inl rfl) _ |>.trans ⟨rfl, rfl, rfl, Nat.le_refl _, fun _ _ _ _ _ => rfl, fun _ _ _ e => by cases e⟩)
      clear hA hT
      go_wp2_with fail
      go_ret
      exact ⟨rfl, hA2, hT2⟩
end
end Go.Proofs.Ytmpkcehjmjopdaa
