import Derived.Test.YtmpkcehjmjopdaaSlotB

import Derived.Laws.Rows
namespace Go.Proofs.Ytmpkcehjmjopdaa
open Go.RowKit

set_option maxHeartbeats 400000 in
theorem next_any (n k b0 b2 : Nat) (s : ByteArray) (w : World) (hn : n ≤ 7) (hk : k ≤ 1000) (hs : s.size ≤ 4611686018427387904) (_hlt : b0 < b2) (h0 : Blk w b0 9 #[.string s]) (h2 : Blk w b2 3 #[.int .i64 k]) :
    Calls Try.prog 61 #[.int .i64 n, .pointer (some ⟨b0, 0, none⟩), .pointer (some ⟨b2, 0, none⟩)] w fun e w' => e = .returned (.int .i64 (num s.data.toList k n : Nat)) ∧ Below b2 w w' ∧ Blk w' b2 3 #[.int .i64 ((k + n : Nat) : Int)] := by
  have c0 : w.cell? ⟨b0, 0, none⟩ = some (.string s) := h0.cell 0
  have c2 : w.cell? ⟨b2, 0, none⟩ = some (.int .i64 k) := h2.cell 0
  have hlt2 := h2.lt
  go_enter Try.func61, Try.ntmps61
  go_wp2_with fail
  refine (binget_any s k n w hn (by omega) hs).mono ?_
  rintro e w1 ⟨⟨b, rfl⟩, hb⟩
  have H1 := Lib.hid (h2.beyond hb)
  have c1 : w1.cell? ⟨b2, 0, none⟩ = some (.int .i64 k) := H1.out.cell 0
  have f1 : w1.frozen? ⟨b2, 0, none⟩ = false := H1.out.frozen 0
  go_wp2_with fail
  go_ret
  refine ⟨rfl, (hb.mono (Nat.le_of_lt hlt2)).setCell (Nat.le_refl _) _, ?_⟩
  have := H1.out.set_ 0 (.int .i64 ((k + n : Nat) : Int))
  simpa using this


def Sl.ok (x : Sl) (h g : Int) : Bool := inb h 1 16 && inb g 1 65535 && x.chk
theorem slotput_any (x : Sl) (h g : Int) (w : World) :
    Calls Try.prog 25 #[.int .i64 h, .int .i64 g, .agg x.cells] w fun e w' => ∃ (ok : Bool) (L : List UInt8), e = .returned (.tuple #[.string ⟨L.toArray⟩, .bool ok]) ∧ Hid (ok = x.ok h g) ∧ Hid (ok = true → L = x.block h g) ∧ Hid (ok = false → L = []) ∧ Below w.heap.size w w' := by
  obtain ⟨num, life, clock, seg, at_, next, seq, m0, m1, m2, m3, sb, sn⟩ := x
  by_cases hok : (Sl.mk num life clock seg at_ next seq m0 m1 m2 m3 sb sn).ok h g = true
  · have h1 := hok
    unfold Sl.ok at h1
    simp only [Bool.and_eq_true] at h1
    exact (slotput_yes h g num life clock seg at_ next seq m0 m1 m2 m3 sb sn w h1.1.1 h1.1.2 h1.2).mono fun e w' ⟨h2, h3⟩ => ⟨true, _, h2, hok.symm, (fun _ => rfl), (fun h => by cases h), h3⟩
  · have h1 : (Sl.mk num life clock seg at_ next seq m0 m1 m2 m3 sb sn).ok h g = false := by simpa using hok
    exact (slotput_no h g num life clock seg at_ next seq m0 m1 m2 m3 sb sn w h1).mono fun e w' ⟨h2, h3⟩ => ⟨false, [], h2, h1.symm, (fun h => by cases h), (fun _ => rfl), h3⟩

/-- the slot that a block's bytes say -/
def slRead (l : List UInt8) : Sl :=
  ⟨num l 7 6, num l 13 3, num l 16 6, num l 22 2, num l 24 2, num l 26 2, num l 28 6, num l 34 4, num l 38 4, num l 42 4, num l 46 4, num l 50 6, num l 56 6⟩
/-- is it what a Put says? -/
def slGood (l : List UInt8) : Bool := (slRead l).ok (num l 4 1) (num l 5 2) && decide ((slRead l).block (num l 4 1) (num l 5 2) = l)
def slZero : Sl := ⟨0, 0, 0, 0, 0, 0, 0, 0, 0, 0, 0, 0, 0⟩
def slGot (l : List UInt8) : Value :=
  if slGood l then .tuple #[.int .i64 (num l 4 1 : Nat), .int .i64 (num l 5 2 : Nat), .agg (slRead l).cells, .bool true] else .tuple #[.int .i64 0, .int .i64 0, .agg slZero.cells, .bool false]

theorem Blk.row {w : World} {g : Nat} {t : TypeId} {cs : Array Value} (h : Blk w g t cs) (cs' : Array Value) : Blk (w.setRow g cs') g t cs' := setRow_heap w g cs _ t _ h
theorem Blk.row_far {w : World} {g g' : Nat} {t : TypeId} {cs : Array Value} (h : Blk w g t cs) (cs' : Array Value) (hg : g ≠ g') : Blk (w.setRow g' cs') g t cs := (setRow_other w g' g cs' (by omega)).trans h
theorem below_row {B : Nat} {a w : World} (h : Below B a w) {g : Nat} (hg : B ≤ g) (cs : Array Value) : Below B a (w.setRow g cs) :=
  h.trans ⟨rfl, rfl, rfl, by simp, fun k hk => setRow_other w g k cs (by omega)⟩
/-- a slot loaded from the head of a block, stored to it: as one step -/
def ldV (T : TypeId) (v : Value) : Sem Value := Instr.loadAt T v
def stV (T : TypeId) (v u : Value) : Sem Unit := Instr.storeAt T v u
theorem ld37 (v : Value) : Instr.loadAt 37 v = ldV 37 v := rfl
theorem st37 (v u : Value) : Instr.storeAt 37 v u = stV 37 v u := rfl
theorem run_ldB {w : World} {b : Nat} {x : Sl} (h : Blk w b 37 x.cells) : (ldV 37 (.pointer (some ⟨b, 0, none⟩))).run Try.prog w = .ok (.agg x.cells) w := by
  simp only [ldV, Instr.loadAt, Instr.sureAddr, Sem.run_bind, Sem.run_pure, Result.andThen_ok]
  exact run_loadVar_row w b 37 37 x.cells (0, 0) _ h Try.underlying37 rfl (by kernel_rfl)
theorem cells_one (x : Sl) : x.cells.all (·.oneCell') = true := by
  obtain ⟨num, life, clock, seg, at_, next, seq, m0, m1, m2, m3, sb, sn⟩ := x
  simp [Sl.cells, Value.oneCell']
theorem run_stB {w : World} {b : Nat} {cs : Array Value} {x : Sl} (h : Blk w b 37 cs) (hc : cs.size = 13) : (stV 37 (.pointer (some ⟨b, 0, none⟩)) (.agg x.cells)).run Try.prog w = .ok () (w.setRow b x.cells) := by
  simp only [stV, Instr.storeAt, Instr.sureAddr, Sem.run_bind, Sem.run_pure, Result.andThen_ok]
  exact run_storeVar_row w b 37 37 cs x.cells h (by kernel_rfl) hc (cells_one x)
theorem results27 {tmps : Array Value} {w : World} {b : Nat} {x : Sl} {v2 v3 v5 : Value} (h : Blk w b 37 x.cells) (h2 : tmps.getD 2 undef = v2) (h3 : tmps.getD 3 undef = v3) (h4 : tmps.getD 4 undef = .pointer (some ⟨b, 0, none⟩)) (h5 : tmps.getD 5 undef = v5) :
    (results Try.f27 tmps).run Try.prog w = .ok (.tuple #[v2, v3, .agg x.cells, v5]) w := by
  have h4' : tmps[4]?.getD undef = .pointer (some ⟨b, 0, none⟩) := by simpa using h4
  have h2' : tmps[2]?.getD undef = v2 := by simpa using h2
  have h3' : tmps[3]?.getD undef = v3 := by simpa using h3
  have h5' : tmps[5]?.getD undef = v5 := by simpa using h5
  simp [results, Try.results27, h2', h3', h4', h5', asAddr, run_loadVar_row w b 37 37 x.cells (0, 0) _ h Try.underlying37 rfl (by kernel_rfl)]
attribute [local go_sem ↓] ld37 st37
/-- the map's cells, so many of them read -/
def mcells (A : Array Value) (l : List UInt8) : Nat → Array Value
  | 0 => A
  | k + 1 => (mcells A l k).setIfInBounds (7 + k) (.int .i64 (num l (34 + 4 * k) 4 : Nat))
theorem mcells_size (A : Array Value) (l : List UInt8) (k : Nat) : (mcells A l k).size = A.size := by
  induction k with
  | zero => rfl
  | succ k ih => simp [mcells, ih]

set_option maxRecDepth 100000 in
set_option maxHeartbeats 4000000 in
theorem slotget_any (s : ByteArray) (w : World) (hs : s.size ≤ 4611686018427387904) :
    Calls Try.prog 27 #[.string s] w fun e w' => e = .returned (slGot s.data.toList) ∧ Below w.heap.size w w' := by
  have hmf : ∀ (fn : Fn) (first cap : Array Value) (w : World), (Instr.makeFunc fn first cap).run Try.prog w = .ok (.func fn first cap) w := fun _ _ _ _ => rfl
  have HS := Lib.hid hs
  clear hs
  have g0 : Blk (((w.alloc (.cells #[.string s] 9)).alloc (.cells #[.int .i64 0, .int .i64 0, .int .i64 0, .int .i64 0, .int .i64 0, .int .i64 0, .int .i64 0, .int .i64 0, .int .i64 0, .int .i64 0, .int .i64 0, .int .i64 0, .int .i64 0] 37)).alloc (.cells #[.int .i64 4] 3)) w.heap.size 9 #[.string s] := ((Blk.new w 9 _).alloc _).alloc _
  have gx : Blk (((w.alloc (.cells #[.string s] 9)).alloc (.cells #[.int .i64 0, .int .i64 0, .int .i64 0, .int .i64 0, .int .i64 0, .int .i64 0, .int .i64 0, .int .i64 0, .int .i64 0, .int .i64 0, .int .i64 0, .int .i64 0, .int .i64 0] 37)).alloc (.cells #[.int .i64 4] 3)) (w.heap.size + 1) 37 #[.int .i64 0, .int .i64 0, .int .i64 0, .int .i64 0, .int .i64 0, .int .i64 0, .int .i64 0, .int .i64 0, .int .i64 0, .int .i64 0, .int .i64 0, .int .i64 0, .int .i64 0] := by
    have := (Blk.new (w.alloc (.cells #[.string s] 9)) 37 #[.int .i64 0, .int .i64 0, .int .i64 0, .int .i64 0, .int .i64 0, .int .i64 0, .int .i64 0, .int .i64 0, .int .i64 0, .int .i64 0, .int .i64 0, .int .i64 0, .int .i64 0]).alloc (.cells #[.int .i64 4] 3)
    rwa [World.size_alloc] at this
  have g2 : Blk (((w.alloc (.cells #[.string s] 9)).alloc (.cells #[.int .i64 0, .int .i64 0, .int .i64 0, .int .i64 0, .int .i64 0, .int .i64 0, .int .i64 0, .int .i64 0, .int .i64 0, .int .i64 0, .int .i64 0, .int .i64 0, .int .i64 0] 37)).alloc (.cells #[.int .i64 4] 3)) (w.heap.size + 1 + 1) 3 #[.int .i64 ((4 : Nat) : Int)] := by
    have := Blk.new ((w.alloc (.cells #[.string s] 9)).alloc (.cells #[.int .i64 0, .int .i64 0, .int .i64 0, .int .i64 0, .int .i64 0, .int .i64 0, .int .i64 0, .int .i64 0, .int .i64 0, .int .i64 0, .int .i64 0, .int .i64 0, .int .i64 0] 37)) 3 #[.int .i64 4]
    rw [World.size_alloc, World.size_alloc] at this
    exact this
  have gw : Below w.heap.size w (((w.alloc (.cells #[.string s] 9)).alloc (.cells #[.int .i64 0, .int .i64 0, .int .i64 0, .int .i64 0, .int .i64 0, .int .i64 0, .int .i64 0, .int .i64 0, .int .i64 0, .int .i64 0, .int .i64 0, .int .i64 0, .int .i64 0] 37)).alloc (.cells #[.int .i64 4] 3)) := (((Below.refl _ w).alloc (Nat.le_refl _) _).alloc (by simp) _).alloc (by simp; omega) _
  go_enter Try.func27, Try.ntmps27
  go_wp2_with fail
  have q1 : w.heap.size < w.heap.size + 1 := by omega
  have q2 : w.heap.size + 1 < w.heap.size + 1 + 1 := by omega
  generalize ((w.alloc (.cells #[.string s] 9)).alloc (.cells #[.int .i64 0, .int .i64 0, .int .i64 0, .int .i64 0, .int .i64 0, .int .i64 0, .int .i64 0, .int .i64 0, .int .i64 0, .int .i64 0, .int .i64 0, .int .i64 0, .int .i64 0] 37)).alloc (.cells #[.int .i64 4] 3) = v0 at *
  generalize w.heap.size + 1 + 1 = b2 at *
  generalize w.heap.size + 1 = b1 at *
  have q3 : w.heap.size < b2 := by omega
  have n0 := g0
  have n2 := g2
  have nx := gx
  have nw := gw
  clear g0 g2 gx gw
  refine (next_any 1 4 w.heap.size b2 s _ (by omega) (by omega) HS.out q3 n0 n2).mono ?_
  rintro e v1 ⟨rfl, bel, g2'⟩
  have g2 : Blk v1 b2 3 #[.int .i64 ((5 : Nat) : Int)] := g2'
  have g0 := n0.below bel q3
  have gx := nx.below bel q2
  have gw := nw.trans (bel.mono (Nat.le_of_lt q3))
  clear n0 n2 nx nw bel g2'
  go_wp2_with fail
  have n0 := g0
  have n2 := g2
  have nx := gx
  have nw := gw
  clear g0 g2 gx gw
  refine (next_any 2 5 w.heap.size b2 s _ (by omega) (by omega) HS.out q3 n0 n2).mono ?_
  rintro e v2 ⟨rfl, bel, g2'⟩
  have g2 : Blk v2 b2 3 #[.int .i64 ((7 : Nat) : Int)] := g2'
  have g0 := n0.below bel q3
  have gx := nx.below bel q2
  have gw := nw.trans (bel.mono (Nat.le_of_lt q3))
  clear n0 n2 nx nw bel g2'
  go_wp2_with fail
  have n0 := g0
  have n2 := g2
  have nx := gx
  have nw := gw
  clear g0 g2 gx gw
  refine (next_any 6 7 w.heap.size b2 s _ (by omega) (by omega) HS.out q3 n0 n2).mono ?_
  rintro e v3 ⟨rfl, bel, g2'⟩
  have g2 : Blk v3 b2 3 #[.int .i64 ((13 : Nat) : Int)] := g2'
  have g0 := n0.below bel q3
  have gx := nx.below bel q2
  have gw := nw.trans (bel.mono (Nat.le_of_lt q3))
  clear n0 n2 nx nw bel g2'
  go_wp2_with fail
  have n0 := g0
  have n2 := g2
  have nx := gx
  have nw := gw
  clear g0 g2 gx gw
  refine (next_any 3 13 w.heap.size b2 s _ (by omega) (by omega) HS.out q3 n0 n2).mono ?_
  rintro e v4 ⟨rfl, bel, g2'⟩
  have g2 : Blk v4 b2 3 #[.int .i64 ((16 : Nat) : Int)] := g2'
  have g0 := n0.below bel q3
  have gx := nx.below bel q2
  have gw := nw.trans (bel.mono (Nat.le_of_lt q3))
  clear n0 n2 nx nw bel g2'
  go_wp2_with fail
  have n0 := g0
  have n2 := g2
  have nx := gx
  have nw := gw
  clear g0 g2 gx gw
  refine (next_any 6 16 w.heap.size b2 s _ (by omega) (by omega) HS.out q3 n0 n2).mono ?_
  rintro e v5 ⟨rfl, bel, g2'⟩
  have g2 : Blk v5 b2 3 #[.int .i64 ((22 : Nat) : Int)] := g2'
  have g0 := n0.below bel q3
  have gx := nx.below bel q2
  have gw := nw.trans (bel.mono (Nat.le_of_lt q3))
  clear n0 n2 nx nw bel g2'
  have c0 : v5.cell? ⟨b1, 0, none⟩ = some (.int .i64 0) := gx.cell 0
  have f0 : v5.frozen? ⟨b1, 0, none⟩ = false := gx.frozen 0
  have c1 : v5.cell? ⟨b1, 1, none⟩ = some (.int .i64 0) := gx.cell 1
  have f1 : v5.frozen? ⟨b1, 1, none⟩ = false := gx.frozen 1
  have c2 : v5.cell? ⟨b1, 2, none⟩ = some (.int .i64 0) := gx.cell 2
  have f2 : v5.frozen? ⟨b1, 2, none⟩ = false := gx.frozen 2
  go_wp2_with fail
  clear c0 f0 c1 f1 c2 f2
  have n0 := (((g0.far (p := ⟨b1, 0, none⟩) (by show w.heap.size ≠ b1; omega) (.int .i64 (num s.data.toList 7 6 : Nat))).far (p := ⟨b1, 1, none⟩) (by show w.heap.size ≠ b1; omega) (.int .i64 (num s.data.toList 13 3 : Nat))).far (p := ⟨b1, 2, none⟩) (by show w.heap.size ≠ b1; omega) (.int .i64 (num s.data.toList 16 6 : Nat)))
  have n2 := (((g2.far (p := ⟨b1, 0, none⟩) (by show b2 ≠ b1; omega) (.int .i64 (num s.data.toList 7 6 : Nat))).far (p := ⟨b1, 1, none⟩) (by show b2 ≠ b1; omega) (.int .i64 (num s.data.toList 13 3 : Nat))).far (p := ⟨b1, 2, none⟩) (by show b2 ≠ b1; omega) (.int .i64 (num s.data.toList 16 6 : Nat)))
  have nx := (((gx.set_ 0 (.int .i64 (num s.data.toList 7 6 : Nat))).set_ 1 (.int .i64 (num s.data.toList 13 3 : Nat))).set_ 2 (.int .i64 (num s.data.toList 16 6 : Nat)))
  have nw := (((gw.setCell (p := ⟨b1, 0, none⟩) (by show w.heap.size ≤ b1; omega) (.int .i64 (num s.data.toList 7 6 : Nat))).setCell (p := ⟨b1, 1, none⟩) (by show w.heap.size ≤ b1; omega) (.int .i64 (num s.data.toList 13 3 : Nat))).setCell (p := ⟨b1, 2, none⟩) (by show w.heap.size ≤ b1; omega) (.int .i64 (num s.data.toList 16 6 : Nat)))
  clear g0 g2 gx gw
  refine (next_any 2 22 w.heap.size b2 s _ (by omega) (by omega) HS.out q3 n0 n2).mono ?_
  rintro e v6 ⟨rfl, bel, g2'⟩
  have g2 : Blk v6 b2 3 #[.int .i64 ((24 : Nat) : Int)] := g2'
  have g0 := n0.below bel q3
  have gx := nx.below bel q2
  have gw := nw.trans (bel.mono (Nat.le_of_lt q3))
  clear n0 n2 nx nw bel g2'
  go_wp2_with fail
  have n0 := g0
  have n2 := g2
  have nx := gx
  have nw := gw
  clear g0 g2 gx gw
  refine (next_any 2 24 w.heap.size b2 s _ (by omega) (by omega) HS.out q3 n0 n2).mono ?_
  rintro e v7 ⟨rfl, bel, g2'⟩
  have g2 : Blk v7 b2 3 #[.int .i64 ((26 : Nat) : Int)] := g2'
  have g0 := n0.below bel q3
  have gx := nx.below bel q2
  have gw := nw.trans (bel.mono (Nat.le_of_lt q3))
  clear n0 n2 nx nw bel g2'
  go_wp2_with fail
  have n0 := g0
  have n2 := g2
  have nx := gx
  have nw := gw
  clear g0 g2 gx gw
  refine (next_any 2 26 w.heap.size b2 s _ (by omega) (by omega) HS.out q3 n0 n2).mono ?_
  rintro e v8 ⟨rfl, bel, g2'⟩
  have g2 : Blk v8 b2 3 #[.int .i64 ((28 : Nat) : Int)] := g2'
  have g0 := n0.below bel q3
  have gx := nx.below bel q2
  have gw := nw.trans (bel.mono (Nat.le_of_lt q3))
  clear n0 n2 nx nw bel g2'
  go_wp2_with fail
  have n0 := g0
  have n2 := g2
  have nx := gx
  have nw := gw
  clear g0 g2 gx gw
  refine (next_any 6 28 w.heap.size b2 s _ (by omega) (by omega) HS.out q3 n0 n2).mono ?_
  rintro e v9 ⟨rfl, bel, g2'⟩
  have g2 : Blk v9 b2 3 #[.int .i64 ((34 : Nat) : Int)] := g2'
  have g0 := n0.below bel q3
  have gx := nx.below bel q2
  have gw := nw.trans (bel.mono (Nat.le_of_lt q3))
  clear n0 n2 nx nw bel g2'
  have c3 : v9.cell? ⟨b1, 3, none⟩ = some (.int .i64 0) := gx.cell 3
  have f3 : v9.frozen? ⟨b1, 3, none⟩ = false := gx.frozen 3
  have c4 : v9.cell? ⟨b1, 4, none⟩ = some (.int .i64 0) := gx.cell 4
  have f4 : v9.frozen? ⟨b1, 4, none⟩ = false := gx.frozen 4
  have c5 : v9.cell? ⟨b1, 5, none⟩ = some (.int .i64 0) := gx.cell 5
  have f5 : v9.frozen? ⟨b1, 5, none⟩ = false := gx.frozen 5
  have c6 : v9.cell? ⟨b1, 6, none⟩ = some (.int .i64 0) := gx.cell 6
  have f6 : v9.frozen? ⟨b1, 6, none⟩ = false := gx.frozen 6
  go_wp2_with fail
  clear c3 f3 c4 f4 c5 f5 c6 f6
  have n0 := ((((g0.far (p := ⟨b1, 3, none⟩) (by show w.heap.size ≠ b1; omega) (.int .i64 (num s.data.toList 22 2 : Nat))).far (p := ⟨b1, 4, none⟩) (by show w.heap.size ≠ b1; omega) (.int .i64 (num s.data.toList 24 2 : Nat))).far (p := ⟨b1, 5, none⟩) (by show w.heap.size ≠ b1; omega) (.int .i64 (num s.data.toList 26 2 : Nat))).far (p := ⟨b1, 6, none⟩) (by show w.heap.size ≠ b1; omega) (.int .i64 (num s.data.toList 28 6 : Nat)))
  have n2 := ((((g2.far (p := ⟨b1, 3, none⟩) (by show b2 ≠ b1; omega) (.int .i64 (num s.data.toList 22 2 : Nat))).far (p := ⟨b1, 4, none⟩) (by show b2 ≠ b1; omega) (.int .i64 (num s.data.toList 24 2 : Nat))).far (p := ⟨b1, 5, none⟩) (by show b2 ≠ b1; omega) (.int .i64 (num s.data.toList 26 2 : Nat))).far (p := ⟨b1, 6, none⟩) (by show b2 ≠ b1; omega) (.int .i64 (num s.data.toList 28 6 : Nat)))
  have nx := ((((gx.set_ 3 (.int .i64 (num s.data.toList 22 2 : Nat))).set_ 4 (.int .i64 (num s.data.toList 24 2 : Nat))).set_ 5 (.int .i64 (num s.data.toList 26 2 : Nat))).set_ 6 (.int .i64 (num s.data.toList 28 6 : Nat)))
  have nw := ((((gw.setCell (p := ⟨b1, 3, none⟩) (by show w.heap.size ≤ b1; omega) (.int .i64 (num s.data.toList 22 2 : Nat))).setCell (p := ⟨b1, 4, none⟩) (by show w.heap.size ≤ b1; omega) (.int .i64 (num s.data.toList 24 2 : Nat))).setCell (p := ⟨b1, 5, none⟩) (by show w.heap.size ≤ b1; omega) (.int .i64 (num s.data.toList 26 2 : Nat))).setCell (p := ⟨b1, 6, none⟩) (by show w.heap.size ≤ b1; omega) (.int .i64 (num s.data.toList 28 6 : Nat)))
  clear g0 g2 gx gw
  have gx : Blk _ b1 37 #[.int .i64 (num s.data.toList 7 6 : Nat), .int .i64 (num s.data.toList 13 3 : Nat), .int .i64 (num s.data.toList 16 6 : Nat), .int .i64 (num s.data.toList 22 2 : Nat), .int .i64 (num s.data.toList 24 2 : Nat), .int .i64 (num s.data.toList 26 2 : Nat), .int .i64 (num s.data.toList 28 6 : Nat), .int .i64 0, .int .i64 0, .int .i64 0, .int .i64 0, .int .i64 0, .int .i64 0] := nx
  clear nx
  have HA : Hid ((#[.int .i64 (num s.data.toList 7 6 : Nat), .int .i64 (num s.data.toList 13 3 : Nat), .int .i64 (num s.data.toList 16 6 : Nat), .int .i64 (num s.data.toList 22 2 : Nat), .int .i64 (num s.data.toList 24 2 : Nat), .int .i64 (num s.data.toList 26 2 : Nat), .int .i64 (num s.data.toList 28 6 : Nat), .int .i64 0, .int .i64 0, .int .i64 0, .int .i64 0, .int .i64 0, .int .i64 0] : Array Value).size = 13) := rfl
  go_loopw [37] (fun i wr => ∃ k : Nat, k ≤ 4 ∧ i = .int .i64 k ∧ Blk wr w.heap.size 9 #[.string s] ∧ Blk wr b2 3 #[.int .i64 ((34 + 4 * k : Nat) : Int)] ∧ Blk wr b1 37 (mcells #[.int .i64 (num s.data.toList 7 6 : Nat), .int .i64 (num s.data.toList 13 3 : Nat), .int .i64 (num s.data.toList 16 6 : Nat), .int .i64 (num s.data.toList 22 2 : Nat), .int .i64 (num s.data.toList 24 2 : Nat), .int .i64 (num s.data.toList 26 2 : Nat), .int .i64 (num s.data.toList 28 6 : Nat), .int .i64 0, .int .i64 0, .int .i64 0, .int .i64 0, .int .i64 0, .int .i64 0] s.data.toList k) ∧ Below w.heap.size w wr) (fun i _ => 4 - (intOf i).toNat)
  case atStart => exact ⟨0, by omega, rfl, n0, n2, gx, nw⟩
  case round =>
    obtain ⟨k, hk, rfl, g0, g2, gx, gw⟩ := hrel
    clear n0 n2 nw
    by_cases hk4 : k < 4
    · go_wp2_with fail
      refine (next_any 4 (34 + 4 * k) w.heap.size b2 s _ (by omega) (by omega) HS.out q3 g0 g2).mono ?_
      rintro e vn ⟨rfl, bel, g2'⟩
      have hsz := mcells_size #[.int .i64 (num s.data.toList 7 6 : Nat), .int .i64 (num s.data.toList 13 3 : Nat), .int .i64 (num s.data.toList 16 6 : Nat), .int .i64 (num s.data.toList 22 2 : Nat), .int .i64 (num s.data.toList 24 2 : Nat), .int .i64 (num s.data.toList 26 2 : Nat), .int .i64 (num s.data.toList 28 6 : Nat), .int .i64 0, .int .i64 0, .int .i64 0, .int .i64 0, .int .i64 0, .int .i64 0] s.data.toList k
      rw [HA.out] at hsz
      have hx := gx.below bel q2
      obtain ⟨u, hu⟩ : ∃ u, (mcells #[.int .i64 (num s.data.toList 7 6 : Nat), .int .i64 (num s.data.toList 13 3 : Nat), .int .i64 (num s.data.toList 16 6 : Nat), .int .i64 (num s.data.toList 22 2 : Nat), .int .i64 (num s.data.toList 24 2 : Nat), .int .i64 (num s.data.toList 26 2 : Nat), .int .i64 (num s.data.toList 28 6 : Nat), .int .i64 0, .int .i64 0, .int .i64 0, .int .i64 0, .int .i64 0, .int .i64 0] s.data.toList k)[7 + k]? = some u := ⟨_, Array.getElem?_eq_getElem (by rw [hsz]; omega)⟩
      have c1 : vn.cell? ⟨b1, 7 + k, none⟩ = some u := by rw [hx.cell, hu]
      have f1 : vn.frozen? ⟨b1, 7 + k, none⟩ = false := hx.frozen _
      have hx2 := hx.set_ (7 + k) (.int .i64 (num s.data.toList (34 + 4 * k) 4 : Nat))
      have hg2 := g2'.far (p := ⟨b1, 7 + k, none⟩) (by show b2 ≠ b1; omega) (.int .i64 (num s.data.toList (34 + 4 * k) 4 : Nat))
      have hg0 := (g0.below bel q3).far (p := ⟨b1, 7 + k, none⟩) (by show w.heap.size ≠ b1; omega) (.int .i64 (num s.data.toList (34 + 4 * k) 4 : Nat))
      have hgw := (gw.trans (bel.mono (Nat.le_of_lt q3))).setCell (p := ⟨b1, 7 + k, none⟩) (by show w.heap.size ≤ b1; omega) (.int .i64 (num s.data.toList (34 + 4 * k) 4 : Nat))
      clear hsz hu hx gx g2' g0 g2 gw bel
      go_wp2_with fail
      go_roundw
      case rel => exact ⟨k + 1, by omega, by go_num, hg0, by rw [show 34 + 4 * (k + 1) = 34 + 4 * k + 4 by omega]; exact hg2, hx2, hgw⟩
      case measure => simp [intOf]; omega
    · obtain rfl : k = 4 := by omega
      go_wp2_with fail

      have gx : Blk wr b1 37 #[.int .i64 (num s.data.toList 7 6 : Nat), .int .i64 (num s.data.toList 13 3 : Nat), .int .i64 (num s.data.toList 16 6 : Nat), .int .i64 (num s.data.toList 22 2 : Nat), .int .i64 (num s.data.toList 24 2 : Nat), .int .i64 (num s.data.toList 26 2 : Nat), .int .i64 (num s.data.toList 28 6 : Nat), .int .i64 (num s.data.toList 34 4 : Nat), .int .i64 (num s.data.toList 38 4 : Nat), .int .i64 (num s.data.toList 42 4 : Nat), .int .i64 (num s.data.toList 46 4 : Nat), .int .i64 0, .int .i64 0] := gx
      refine (next_any 6 50 w.heap.size b2 s _ (by omega) (by omega) HS.out q3 g0 g2).mono ?_
      rintro e va ⟨rfl, bel, g2'⟩
      have g2 : Blk va b2 3 #[.int .i64 ((56 : Nat) : Int)] := g2'
      have g0 := g0.below bel q3
      have gx := gx.below bel q2
      have gw := gw.trans (bel.mono (Nat.le_of_lt q3))
      clear bel g2'
      go_wp2_with fail
      refine (next_any 6 56 w.heap.size b2 s _ (by omega) (by omega) HS.out q3 g0 g2).mono ?_
      rintro e vb ⟨rfl, bel, g2'⟩
      have g2 : Blk vb b2 3 #[.int .i64 ((62 : Nat) : Int)] := g2'
      have g0 := g0.below bel q3
      have gx := gx.below bel q2
      have gw := gw.trans (bel.mono (Nat.le_of_lt q3))
      clear bel g2'
      have c11 : vb.cell? ⟨b1, 11, none⟩ = some (.int .i64 0) := gx.cell 11
      have f11 : vb.frozen? ⟨b1, 11, none⟩ = false := gx.frozen 11
      have c12 : vb.cell? ⟨b1, 12, none⟩ = some (.int .i64 0) := gx.cell 12
      have f12 : vb.frozen? ⟨b1, 12, none⟩ = false := gx.frozen 12
      have n0 := ((g0.far (p := ⟨b1, 11, none⟩) (by show w.heap.size ≠ b1; omega) (.int .i64 (num s.data.toList 50 6 : Nat))).far (p := ⟨b1, 12, none⟩) (by show w.heap.size ≠ b1; omega) (.int .i64 (num s.data.toList 56 6 : Nat)))
      have nx : Blk _ b1 37 (slRead s.data.toList).cells := ((gx.set_ 11 (.int .i64 (num s.data.toList 50 6 : Nat))).set_ 12 (.int .i64 (num s.data.toList 56 6 : Nat)))
      have nw := ((gw.setCell (p := ⟨b1, 11, none⟩) (by show w.heap.size ≤ b1; omega) (.int .i64 (num s.data.toList 50 6 : Nat))).setCell (p := ⟨b1, 12, none⟩) (by show w.heap.size ≤ b1; omega) (.int .i64 (num s.data.toList 56 6 : Nat)))
      clear g0 g2 gx gw
      go_wp2_with (refine wpList_load_row rfl 37 (.tmp 4) rfl b1 rfl 37 (slRead s.data.toList).cells (0, 0) _ nx Try.underlying37 rfl (by kernel_rfl) ?_)
      refine (slotput_any (slRead s.data.toList) (num s.data.toList 4 1 : Nat) (num s.data.toList 5 2 : Nat) _).mono ?_
      rintro e vp ⟨ok, L, rfl, hok, hL1, hL0, bel⟩
      have gx := nx.beyond bel
      have g0 := n0.beyond bel
      have gw := nw.trans (bel.mono nw.size)
      have c0 : vp.cell? ⟨w.heap.size, 0, none⟩ = some (.string s) := g0.cell 0
      clear n0 nx nw bel c11 c12 f11 f12
      have hld := run_ldB gx.drew
      have hst := run_stB (x := slRead s.data.toList) gx.drew rfl
      have hst0 : (stV 37 (.pointer (some ⟨b1, 0, none⟩)) (.agg #[.int .i64 0, .int .i64 0, .int .i64 0, .int .i64 0, .int .i64 0, .int .i64 0, .int .i64 0, .int .i64 0, .int .i64 0, .int .i64 0, .int .i64 0, .int .i64 0, .int .i64 0])).run Try.prog vp = .ok () (vp.setRow b1 slZero.cells) := run_stB (x := slZero) gx rfl
      have hbad : Hid ((false = true ∨ L ≠ s.data.toList) → True) := fun _ => trivial
      clear hbad
      cases ok with
      | false =>
        have hno : Hid (slGot s.data.toList = .tuple #[.int .i64 0, .int .i64 0, .agg slZero.cells, .bool false]) := by
          show _ = _
          unfold slGot slGood
          rw [← hok.out]; simp
        go_wp2_with fail
        exact bodyPost_ret (results27 (gx.row slZero.cells) rfl rfl rfl rfl) rfl ⟨by rw [hno.out]; rfl, below_row gw (Nat.le_of_lt q1) _⟩
      | true =>
        have hLb := hL1.out rfl
        by_cases hs : L = s.data.toList
        · have hyes : Hid (slGot s.data.toList = .tuple #[.int .i64 (num s.data.toList 4 1 : Nat), .int .i64 (num s.data.toList 5 2 : Nat), .agg (slRead s.data.toList).cells, .bool true]) := by
            show _ = _
            unfold slGot slGood
            rw [← hok.out, ← hLb, hs]; simp
          have hne : (L == s.toList) = true := by rw [ByteArray.toList_eq]; simpa using hs
          clear hs hLb
          go_wp2_with fail
          go_region
          all_goals
            go_wp2_with fail
            exact bodyPost_ret (results27 (gx.drew.row (slRead s.data.toList).cells) rfl rfl rfl rfl) rfl ⟨by rw [hyes.out]; rfl, below_row gw.drew (Nat.le_of_lt q1) _⟩
        · have hno : Hid (slGot s.data.toList = .tuple #[.int .i64 0, .int .i64 0, .agg slZero.cells, .bool false]) := by
            show _ = _
            unfold slGot slGood
            rw [← hok.out, ← hLb]; simp [hs]
          have hne : (L == s.toList) = false := by rw [ByteArray.toList_eq]; simpa using hs
          clear hs hLb
          go_wp2_with fail
          exact bodyPost_ret (results27 (gx.row slZero.cells) rfl rfl rfl rfl) rfl ⟨by rw [hno.out]; rfl, below_row gw (Nat.le_of_lt q1) _⟩
end Go.Proofs.Ytmpkcehjmjopdaa