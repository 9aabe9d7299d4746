import Derived.Test.YtmpkcehjmjopdaaImgA
namespace Go.Proofs.Ytmpkcehjmjopdaa
open Go.RowKit

/-- a disk: its sectors, whose writes wait, these, how many there were, how many are left, no power? -/
structure Dk where
  dur : List (List UInt8)
  own : Nat
  ws : List Wr
  writes : Nat
  cut : Int
  down : Bool
def dkWaits (own : Nat) (wv : Value) : List Value := (List.replicate 17 (.slice none 0 0)).set own wv
def dkCells (n gd own : Nat) (wv : Value) (writes : Nat) (cut : Int) (down : Bool) : Array Value :=
  (.slice (some ⟨gd, 0, none⟩) n n :: (dkWaits own wv ++ [.int .i64 writes, .int .i64 cut, .bool down])).toArray
def Dk.cells (d : Dk) (gd : Nat) (wv : Value) : Array Value := dkCells d.dur.length gd d.own wv d.writes d.cut d.down
theorem dkWaits_length (own : Nat) (wv : Value) : (dkWaits own wv).length = 17 := by simp [dkWaits]
theorem dkWaits_get (own : Nat) (wv : Value) (k : Nat) (hk : k < 17) : (dkWaits own wv)[k]? = some (if k = own then wv else .slice none 0 0) := by
  unfold dkWaits
  rw [List.getElem?_set]
  by_cases h : own = k
  · subst h; simp [hk]
  · rw [if_neg h, if_neg (fun e => h e.symm), List.getElem?_replicate, if_pos hk]
theorem dkWaits_set {own o : Nat} {wv v : Value} (h : wv = .slice none 0 0 ∨ own = o) : (dkWaits own wv).set o v = dkWaits o v := by
  unfold dkWaits
  rcases h with rfl | rfl
  · have : (List.replicate 17 (Value.slice none 0 0)).set own (.slice none 0 0) = List.replicate 17 (.slice none 0 0) := by
      apply List.ext_getElem?
      intro k
      rw [List.getElem?_set, List.getElem?_replicate, List.length_replicate]
      split <;> rename_i h1
      · subst h1
        rfl
      · rfl
    rw [this]
  · rw [List.set_set]
section
variable (n gd own : Nat) (wv : Value) (writes : Nat) (cut : Int) (down : Bool)
theorem dkCells_size : (dkCells n gd own wv writes cut down).size = 21 := by simp [dkCells, dkWaits_length]
theorem dkCells_0 : (dkCells n gd own wv writes cut down)[0]? = some (.slice (some ⟨gd, 0, none⟩) n n) := by simp [dkCells]
theorem dkCells_w (k : Nat) (hk : k < 17) : (dkCells n gd own wv writes cut down)[1 + k]? = some (if k = own then wv else .slice none 0 0) := by
  simp only [dkCells, List.getElem?_toArray]
  rw [Nat.add_comm, List.getElem?_cons_succ, List.getElem?_append_left (by rw [dkWaits_length]; exact hk), dkWaits_get _ _ _ hk]
theorem dkCells_18 : (dkCells n gd own wv writes cut down)[18]? = some (.int .i64 writes) := by
  simp only [dkCells, List.getElem?_toArray]
  rw [List.getElem?_cons_succ, List.getElem?_append_right (by rw [dkWaits_length]; omega), dkWaits_length]; rfl
theorem dkCells_19 : (dkCells n gd own wv writes cut down)[19]? = some (.int .i64 cut) := by
  simp only [dkCells, List.getElem?_toArray]
  rw [List.getElem?_cons_succ, List.getElem?_append_right (by rw [dkWaits_length]; omega), dkWaits_length]; rfl
theorem dkCells_20 : (dkCells n gd own wv writes cut down)[20]? = some (.bool down) := by
  simp only [dkCells, List.getElem?_toArray]
  rw [List.getElem?_cons_succ, List.getElem?_append_right (by rw [dkWaits_length]; omega), dkWaits_length]; rfl
theorem dkCells_s18 (m : Nat) : (dkCells n gd own wv writes cut down).setIfInBounds 18 (.int .i64 m) = dkCells n gd own wv m cut down := by
  apply Array.ext'
  rw [Array.toList_setIfInBounds]
  simp only [dkCells, List.set_cons_succ]
  rw [List.set_append_right _ _ (by rw [dkWaits_length]; omega), dkWaits_length]; rfl
theorem dkCells_s19 (m : Int) : (dkCells n gd own wv writes cut down).setIfInBounds 19 (.int .i64 m) = dkCells n gd own wv writes m down := by
  apply Array.ext'
  rw [Array.toList_setIfInBounds]
  simp only [dkCells, List.set_cons_succ]
  rw [List.set_append_right _ _ (by rw [dkWaits_length]; omega), dkWaits_length]; rfl
theorem dkCells_s20 (m : Bool) : (dkCells n gd own wv writes cut down).setIfInBounds 20 (.bool m) = dkCells n gd own wv writes cut m := by
  apply Array.ext'
  rw [Array.toList_setIfInBounds]
  simp only [dkCells, List.set_cons_succ]
  rw [List.set_append_right _ _ (by rw [dkWaits_length]; omega), dkWaits_length]; rfl
theorem dkCells_sw (o : Nat) (v : Value) (ho : o < 17) (h : wv = .slice none 0 0 ∨ own = o) : (dkCells n gd own wv writes cut down).setIfInBounds (1 + o) v = dkCells n gd o v writes cut down := by
  apply Array.ext'
  rw [Array.toList_setIfInBounds, Nat.add_comm]
  simp only [dkCells, List.set_cons_succ]
  rw [List.set_append_left _ _ (by rw [dkWaits_length]; exact ho), dkWaits_set h]
end

/-- a disk lies in memory: its struct, its sectors, what waits; no two of them in one block -/
structure DkAt (w : World) (B g gd : Nat) (wv : Value) (d : Dk) : Prop where
  top : Blk w g 86 (d.cells gd wv)
  sec : Blk w gd 89 (dcells d.dur).toArray
  row : w.ownsRow B 91 258 wv d.ws.length (wcells d.ws)
  ne : g ≠ gd
  neg : wv.ownBlock ≠ some g
  negd : wv.ownBlock ≠ some gd
  hg : B ≤ g
  hgd : B ≤ gd
  nilw : d.ws = [] → wv = .slice none 0 0
  dur : ∀ s ∈ d.dur, s.length = 256
  n0 : 0 < d.dur.length
  n1 : d.dur.length ≤ 16384
  own : d.own < 17
  few : d.ws.length ≤ 1000
  wr : d.writes ≤ 1000000
  ct : -1 ≤ d.cut ∧ d.cut ≤ 1000000
  inn : ∀ x ∈ d.ws, x.i < d.dur.length ∧ x.when_ < d.writes

/-- what a call on a disk leaves as it was: all but the disk's own blocks; and what was none of its blocks stays none -/
structure DkTo (w w' : World) (g gd : Nat) (wv wv' : Value) : Prop where
  os : w'.os = w.os
  tape : w'.tape = w.tape
  output : w'.output = w.output
  size : w.heap.size ≤ w'.heap.size
  block : ∀ k, k < w.heap.size → k ≠ g → k ≠ gd → wv.ownBlock ≠ some k → w'.heap[k]? = w.heap[k]?
  out : ∀ k, k < w.heap.size → wv.ownBlock ≠ some k → wv'.ownBlock ≠ some k
theorem DkTo.trans {a b c : World} {g gd : Nat} {u v x : Value} (h : DkTo a b g gd u v) (k : DkTo b c g gd v x) : DkTo a c g gd u x :=
  ⟨k.os.trans h.os, k.tape.trans h.tape, k.output.trans h.output, Nat.le_trans h.size k.size,
    fun i hi h1 h2 h3 => (k.block i (Nat.lt_of_lt_of_le hi h.size) h1 h2 (h.out i hi h3)).trans (h.block i hi h1 h2 h3),
    fun i hi h3 => k.out i (Nat.lt_of_lt_of_le hi h.size) (h.out i hi h3)⟩
theorem DkTo.of_below {w w' : World} {g gd : Nat} {wv : Value} (h : Below w.heap.size w w') : DkTo w w' g gd wv wv :=
  ⟨h.os, h.tape, h.output, h.size, fun i hi _ _ _ => h.block i hi, fun _ _ h => h⟩
theorem DkTo.refl (w : World) (g gd : Nat) (wv : Value) : DkTo w w g gd wv wv := .of_below (Below.refl _ _)
theorem DkTo.setCell {w w' : World} {g gd : Nat} {u v : Value} (h : DkTo w w' g gd u v) {p : Addr} (hp : p.block = g ∨ p.block = gd) (x : Value) : DkTo w (w'.setCell p x) g gd u v :=
  ⟨h.os, h.tape, h.output, by simpa [World.setCell] using h.size, fun i hi h1 h2 h3 => (Below.heap_setCell _ _ _ _ (by omega)).trans (h.block i hi h1 h2 h3), h.out⟩
theorem DkTo.below {B : Nat} {w0 w w' : World} {g gd : Nat} {u v : Value} (h : DkTo w w' g gd u v) (hb : Below B w0 w) (hB : B ≤ w.heap.size) (hg : B ≤ g) (hgd : B ≤ gd) (hu : ∀ k, u.ownBlock = some k → B ≤ k) : Below B w0 w' :=
  ⟨h.os.trans hb.os, h.tape.trans hb.tape, h.output.trans hb.output, Nat.le_trans hb.size h.size,
    fun k hk => (h.block k (by omega) (by omega) (by omega) (fun e => by have := hu k e; omega)).trans (hb.block k hk)⟩
/-- a block of the call's own beside a disk -/
structure Loc (w : World) (g gd : Nat) (wv : Value) (b : Nat) (t : TypeId) (cs : Array Value) : Prop where
  blk : Blk w b t cs
  n1 : b ≠ g
  n2 : b ≠ gd
  n3 : wv.ownBlock ≠ some b
theorem Loc.to {w w' : World} {g gd b : Nat} {u v : Value} {t : TypeId} {cs : Array Value} (h : Loc w g gd u b t cs) (k : DkTo w w' g gd u v) : Loc w' g gd v b t cs :=
  ⟨(k.block b h.blk.lt h.n1 h.n2 h.n3).trans h.blk, h.n1, h.n2, k.out b h.blk.lt h.n3⟩

theorem ownsRow_of_block {w w' : World} {B : Nat} {e : TypeId} {size : Nat} {v : Value} {n : Nat} {xs : List Value} (h : w.ownsRow B e size v n xs) (hk : ∀ k, v.ownBlock = some k → w'.heap[k]? = w.heap[k]?) : w'.ownsRow B e size v n xs := by
  refine ⟨h.1, ?_⟩
  rcases h.2 with h0 | ⟨g, cap, cur, hv, hb, hg, rest⟩
  · exact .inl h0
  · subst hv
    exact .inr ⟨g, cap, cur, rfl, hb, (hk g rfl).trans hg, rest⟩
namespace DkAt
variable {w w' : World} {B g gd : Nat} {wv : Value} {d : Dk}
theorem lt (h : DkAt w B g gd wv d) : g < w.heap.size := h.top.lt
theorem inn' (h : DkAt w B g gd wv d) : ∀ x ∈ d.ws, x.i < d.dur.length ∧ x.when_ < 1000000 := fun x hx => ⟨(h.inn x hx).1, by have := (h.inn x hx).2; have := h.wr; omega⟩
theorem beyond (h : DkAt w B g gd wv d) (hb : Below w.heap.size w w') : DkAt w' B g gd wv d :=
  { h with top := h.top.beyond hb, sec := h.sec.beyond hb, row := ownsRow_of_block h.row fun k hk => hb.block k (h.row.lt k hk).2 }
theorem c0 (h : DkAt w B g gd wv d) : w.cell? ⟨g, 0, none⟩ = some (.slice (some ⟨gd, 0, none⟩) d.dur.length d.dur.length) := by rw [h.top.cell]; exact dkCells_0 ..
theorem cw (h : DkAt w B g gd wv d) (k : Nat) (hk : k < 17) : w.cell? ⟨g, 1 + k, none⟩ = some (if k = d.own then wv else .slice none 0 0) := by rw [h.top.cell]; exact dkCells_w (hk := hk) ..
theorem c18 (h : DkAt w B g gd wv d) : w.cell? ⟨g, 18, none⟩ = some (.int .i64 d.writes) := by rw [h.top.cell]; exact dkCells_18 ..
theorem c19 (h : DkAt w B g gd wv d) : w.cell? ⟨g, 19, none⟩ = some (.int .i64 d.cut) := by rw [h.top.cell]; exact dkCells_19 ..
theorem c20 (h : DkAt w B g gd wv d) : w.cell? ⟨g, 20, none⟩ = some (.bool d.down) := by rw [h.top.cell]; exact dkCells_20 ..
theorem fz (h : DkAt w B g gd wv d) (k : Nat) : w.frozen? ⟨g, k, none⟩ = false := h.top.frozen k
theorem le (h : DkAt w B g gd wv d) : B ≤ w.heap.size := Nat.le_trans h.hg (Nat.le_of_lt h.lt)
theorem base (h : DkAt w B g gd wv d) : ∀ k, wv.ownBlock = some k → B ≤ k := fun k hk => (h.row.lt k hk).1
theorem below {w0 : World} {v : Value} (h : DkAt w B g gd wv d) (k : DkTo w w' g gd wv v) (hb : Below B w0 w) : Below B w0 w' := k.below hb h.le h.hg h.hgd h.base
/-- the wait's slice of the owner -/
theorem cown (h : DkAt w B g gd wv d) (o : Nat) (ho : o < 17) (hw : d.ws = [] ∨ d.own = o) : w.cell? ⟨g, 1 + o, none⟩ = some wv := by
  rw [h.cw o ho]
  rcases hw with h0 | h0
  · rw [h.nilw h0]; simp
  · rw [if_pos h0.symm]
/-- a new block is none of the disk's -/
theorem loc (h : DkAt w B g gd wv d) (t : TypeId) (cs : Array Value) : Loc (w.alloc (.cells cs t)) g gd wv w.heap.size t cs :=
  ⟨Blk.new w t cs, by have := h.lt; omega, by have := h.sec.lt; omega, fun e => by have := (h.row.lt _ e).2; omega⟩
end DkAt

theorem dnobody (o : Nat) (w : World) (ho : o ≤ 16) : Calls Try.prog 66 #[.int .i64 o] w fun e w' => e = .returned (.bool false) ∧ w = w' := by
  have d1 : decide ((o : Int) < 0) = false := by simp
  have d2 : decide (16 < (o : Int)) = false := by simp; omega
  go_enter Try.func66, Try.ntmps66
  go_wp2_with fail
  go_ret
  exact ⟨rfl, rfl⟩
theorem dnone {w : World} {B g gd : Nat} {wv : Value} {d : Dk} (h : DkAt w B g gd wv d) (i : Nat) (hi : i < d.dur.length) :
    Calls Try.prog 65 #[.pointer (some ⟨g, 0, none⟩), .int .i64 i] w fun e w' => e = .returned (.bool false) ∧ w = w' := by
  have c0 := h.c0
  generalize d.dur.length = n at *
  have d1 : decide ((i : Int) < 0) = false := by simp
  have d2 : decide (n ≤ i) = false := by simp; omega
  go_enter Try.func65, Try.ntmps65
  go_wp2_with fail
  go_ret
  exact ⟨rfl, rfl⟩
theorem dwrites {w : World} {B g gd : Nat} {wv : Value} {d : Dk} (h : DkAt w B g gd wv d) :
    Calls Try.prog 41 #[.pointer (some ⟨g, 0, none⟩)] w fun e w' => e = .returned (.int .i64 d.writes) ∧ w = w' := by
  have c18 := h.c18
  go_enter Try.func41, Try.ntmps41
  go_wp2_with fail
  go_ret
  exact ⟨rfl, rfl⟩
theorem dwaits {w : World} {B g gd : Nat} {wv : Value} {d : Dk} (h : DkAt w B g gd wv d) (o : Nat) (ho : o ≤ 16) (h0 : d.ws = []) :
    Calls Try.prog 67 #[.pointer (some ⟨g, 0, none⟩), .int .i64 o] w fun e w' => e = .returned (.int .i64 0) ∧ w = w' := by
  have cw := h.cown o (by omega) (.inl h0)
  rw [h.nilw h0] at cw
  go_enter Try.func67, Try.ntmps67
  go_wp2_with fail
  refine (dnobody o _ ho).mono ?_
  rintro e w' ⟨rfl, rfl⟩
  go_wp2_with fail
  go_ret
  exact ⟨rfl, rfl⟩
end Go.Proofs.Ytmpkcehjmjopdaa
