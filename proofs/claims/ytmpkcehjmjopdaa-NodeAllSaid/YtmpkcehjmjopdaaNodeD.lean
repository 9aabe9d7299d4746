import Derived.Test.YtmpkcehjmjopdaaNodeC
namespace Go.Proofs.Ytmpkcehjmjopdaa
open Go.RowKit

set_option maxHeartbeats 400000 in
theorem nnext_any (n k b0 b2 b3 o : Nat) (u : Value) (cs : Array Value) (s : ByteArray) (w : World) (hn : n ≤ 7) (hk : k ≤ 1000) (hs : s.size ≤ 4611686018427387904) (h23 : b2 < b3) (h0 : Blk w b0 9 #[.string s]) (h2 : Blk w b2 3 #[.int .i64 k]) (h3 : Blk w b3 65 cs) (ho : cs[o]? = some u) :
    Calls Try.prog 70 #[.pointer (some ⟨b3, o, none⟩), .int .i64 n, .pointer (some ⟨b0, 0, none⟩), .pointer (some ⟨b2, 0, none⟩)] w fun e w' => e = .returned (.tuple #[]) ∧ Below b2 w w' ∧ Blk w' b2 3 #[.int .i64 ((k + n : Nat) : Int)] ∧ Blk w' b3 65 (cs.setIfInBounds o (.int .i64 (num s.data.toList k n : Nat))) := by
  have c0 : w.cell? ⟨b0, 0, none⟩ = some (.string s) := h0.cell 0
  have c2 : w.cell? ⟨b2, 0, none⟩ = some (.int .i64 k) := h2.cell 0
  have hlt2 := h2.lt
  have H3 := Lib.hid h3
  clear h3
  go_enter Try.func70, Try.ntmps70
  go_wp2_with fail
  refine (binget_any s k n w hn (by omega) hs).mono ?_
  rintro e w1 ⟨⟨b, rfl⟩, hb⟩
  have H1 := Lib.hid (h2.beyond hb)
  have H4 := Lib.hid (H3.out.beyond hb)
  have c3 : w1.cell? ⟨b3, o, none⟩ = some u := by rw [H4.out.cell, ho]
  have f3 : w1.frozen? ⟨b3, o, none⟩ = false := H4.out.frozen o
  have c1 : w1.cell? ⟨b2, 0, none⟩ = some (.int .i64 k) := H1.out.cell 0
  have f1 : w1.frozen? ⟨b2, 0, none⟩ = false := H1.out.frozen 0
  have hne : ¬ b3 = b2 := by omega
  have hne' : ¬ b2 = b3 := by omega
  go_wp2_with fail
  go_end0
  refine ⟨rfl, ((hb.mono (Nat.le_of_lt hlt2)).setCell (by show b2 ≤ b3; omega) _).setCell (Nat.le_refl _) _, ?_, ?_⟩
  · have := (H1.out.far (p := ⟨b3, o, none⟩) hne' (.int .i64 (num s.data.toList k n : Nat))).set_ 0 (.int .i64 ((k + n : Nat) : Int))
    simpa using this
  · have := (H4.out.set_ o (.int .i64 (num s.data.toList k n : Nat))).far (p := ⟨b2, 0, none⟩) hne (.int .i64 ((k + n : Nat) : Int))
    simpa using this

/-- the node that a block's bytes say -/
def ndRead (l : List UInt8) : Nd :=
  ⟨num l 4 1, num l 5 1, num l 6 1, num l 7 4, num l 11 6, [num l 17 2, num l 19 2, num l 21 2, num l 23 2, num l 25 2, num l 27 2, num l 29 2, num l 31 2, num l 33 2, num l 35 2, num l 37 2, num l 39 2, num l 41 2, num l 43 2], rfl⟩
/-- is it what a Put says? -/
def ndGood (l : List UInt8) : Bool := (ndRead l).chk && decide ((ndRead l).block = l)
def ndGot (l : List UInt8) : Value :=
  if ndGood l then .tuple #[.agg (ndRead l).cells, .bool true] else .tuple #[.agg ndZero.cells, .bool false]

theorem results48 {tmps : Array Value} {w : World} {b : Nat} {x : Nd} {v3 : Value} (h : Blk w b 65 x.cells) (h2 : tmps.getD 2 undef = .pointer (some ⟨b, 0, none⟩)) (h3 : tmps.getD 3 undef = v3) :
    (results Try.f48 tmps).run Try.prog w = .ok (.tuple #[.agg x.cells, v3]) w := by
  have h2' : tmps[2]?.getD undef = .pointer (some ⟨b, 0, none⟩) := by simpa using h2
  have h3' : tmps[3]?.getD undef = v3 := by simpa using h3
  simp [results, Try.results48, h2', h3', asAddr, run_loadVar_row w b 65 65 x.cells (0, 0) _ h Try.underlying65 rfl (by rw [x.cells_size]; kernel_rfl)]
/-- a node of whose pointers the first so many are there -/
def Nd.upto (x : Nd) (k : Nat) : Nd := ⟨x.num, x.kind, x.links, x.size, x.time, x.p.take k ++ List.replicate (14 - k) 0, by rw [List.length_append, List.length_take, List.length_replicate, x.hp]; omega⟩
theorem Nd.upto_14 (x : Nd) : x.upto 14 = x := by
  obtain ⟨a, b, c, d, e, p, hp⟩ := x
  simp only [Nd.upto, Nd.mk.injEq, true_and]
  rw [List.take_of_length_le (by omega)]; simp
theorem set_mid (ns : List Int) (k : Nat) (hk : k < 14) (hl : ns.length = 14) : (ns.take k ++ List.replicate (14 - k) 0).set k (ns.getD k 0) = ns.take (k + 1) ++ List.replicate (14 - (k + 1)) 0 := by
  rw [List.set_append_right _ _ (by rw [List.length_take]; omega), List.length_take, Nat.min_eq_left (by omega), Nat.sub_self, show 14 - k = (14 - (k + 1)) + 1 by omega, List.replicate_succ, List.set_cons_zero,
    List.take_succ_eq_append_getElem (by omega), List.append_assoc]
  simp [List.getD, show k < ns.length by omega]
theorem Nd.upto_set (x : Nd) (k : Nat) (hk : k < 14) : (x.upto k).cells.setIfInBounds (5 + k) (.int .i64 (x.p.getD k 0)) = (x.upto (k + 1)).cells := by
  apply Array.ext'
  rw [Array.toList_setIfInBounds]
  have h := set_mid x.p k hk x.hp
  show List.set (_ :: _ :: _ :: _ :: _ :: icells (x.p.take k ++ List.replicate (14 - k) 0)) (5 + k) _ = _ :: _ :: _ :: _ :: _ :: icells (x.p.take (k + 1) ++ List.replicate (14 - (k + 1)) 0)
  rw [show 5 + k = k + 1 + 1 + 1 + 1 + 1 by omega]
  simp only [List.set_cons_succ]
  rw [← h]
  simp only [icells, List.map_set]
  rfl
theorem ndRead_p (l : List UInt8) (k : Nat) (hk : k < 14) : (ndRead l).p.getD k 0 = (num l (17 + 2 * k) 2 : Int) := by
  match k, hk with
  | 0, _ | 1, _ | 2, _ | 3, _ | 4, _ | 5, _ | 6, _ | 7, _ | 8, _ | 9, _ | 10, _ | 11, _ | 12, _ | 13, _ => rfl

section
attribute [local go_sem ↓] ld65 st65
set_option maxRecDepth 100000 in
set_option maxHeartbeats 600000 in
theorem nget_any (s : ByteArray) (w : World) (hs : s.size ≤ 4611686018427387904) :
    Calls Try.prog 48 #[.string s] w fun e w' => e = .returned (ndGot s.data.toList) ∧ Below w.heap.size w w' := by
  have hmf : ∀ (fn : Fn) (first cap : Array Value) (w : World), (Instr.makeFunc fn first cap).run Try.prog w = .ok (.func fn first cap) w := fun _ _ _ _ => rfl
  have HS := Lib.hid hs
  clear hs
  have g0 : Blk ((((w.alloc (.cells #[.string s] 9)).alloc (.cells #[.int .i64 0, .int .i64 0, .int .i64 0, .int .i64 0, .int .i64 0, .int .i64 0, .int .i64 0, .int .i64 0, .int .i64 0, .int .i64 0, .int .i64 0, .int .i64 0, .int .i64 0, .int .i64 0, .int .i64 0, .int .i64 0, .int .i64 0, .int .i64 0, .int .i64 0] 65)).alloc (.cells #[.int .i64 4] 3)).alloc (.cells #[.int .i64 0, .int .i64 0, .int .i64 0, .int .i64 0, .int .i64 0, .int .i64 0, .int .i64 0, .int .i64 0, .int .i64 0, .int .i64 0, .int .i64 0, .int .i64 0, .int .i64 0, .int .i64 0, .int .i64 0, .int .i64 0, .int .i64 0, .int .i64 0, .int .i64 0] 65)) w.heap.size 9 #[.string s] := (((Blk.new w 9 _).alloc _).alloc _).alloc _
  have g1 : Blk ((((w.alloc (.cells #[.string s] 9)).alloc (.cells #[.int .i64 0, .int .i64 0, .int .i64 0, .int .i64 0, .int .i64 0, .int .i64 0, .int .i64 0, .int .i64 0, .int .i64 0, .int .i64 0, .int .i64 0, .int .i64 0, .int .i64 0, .int .i64 0, .int .i64 0, .int .i64 0, .int .i64 0, .int .i64 0, .int .i64 0] 65)).alloc (.cells #[.int .i64 4] 3)).alloc (.cells #[.int .i64 0, .int .i64 0, .int .i64 0, .int .i64 0, .int .i64 0, .int .i64 0, .int .i64 0, .int .i64 0, .int .i64 0, .int .i64 0, .int .i64 0, .int .i64 0, .int .i64 0, .int .i64 0, .int .i64 0, .int .i64 0, .int .i64 0, .int .i64 0, .int .i64 0] 65)) (w.heap.size + 1) 65 ndZero.cells := by
    have := ((Blk.new (w.alloc (.cells #[.string s] 9)) 65 #[.int .i64 0, .int .i64 0, .int .i64 0, .int .i64 0, .int .i64 0, .int .i64 0, .int .i64 0, .int .i64 0, .int .i64 0, .int .i64 0, .int .i64 0, .int .i64 0, .int .i64 0, .int .i64 0, .int .i64 0, .int .i64 0, .int .i64 0, .int .i64 0, .int .i64 0]).alloc (.cells #[.int .i64 4] 3)).alloc (.cells #[.int .i64 0, .int .i64 0, .int .i64 0, .int .i64 0, .int .i64 0, .int .i64 0, .int .i64 0, .int .i64 0, .int .i64 0, .int .i64 0, .int .i64 0, .int .i64 0, .int .i64 0, .int .i64 0, .int .i64 0, .int .i64 0, .int .i64 0, .int .i64 0, .int .i64 0] 65)
    rw [World.size_alloc] at this
    exact this
  have g2 : Blk ((((w.alloc (.cells #[.string s] 9)).alloc (.cells #[.int .i64 0, .int .i64 0, .int .i64 0, .int .i64 0, .int .i64 0, .int .i64 0, .int .i64 0, .int .i64 0, .int .i64 0, .int .i64 0, .int .i64 0, .int .i64 0, .int .i64 0, .int .i64 0, .int .i64 0, .int .i64 0, .int .i64 0, .int .i64 0, .int .i64 0] 65)).alloc (.cells #[.int .i64 4] 3)).alloc (.cells #[.int .i64 0, .int .i64 0, .int .i64 0, .int .i64 0, .int .i64 0, .int .i64 0, .int .i64 0, .int .i64 0, .int .i64 0, .int .i64 0, .int .i64 0, .int .i64 0, .int .i64 0, .int .i64 0, .int .i64 0, .int .i64 0, .int .i64 0, .int .i64 0, .int .i64 0] 65)) (w.heap.size + 1 + 1) 3 #[.int .i64 ((4 : Nat) : Int)] := by
    have := (Blk.new ((w.alloc (.cells #[.string s] 9)).alloc (.cells #[.int .i64 0, .int .i64 0, .int .i64 0, .int .i64 0, .int .i64 0, .int .i64 0, .int .i64 0, .int .i64 0, .int .i64 0, .int .i64 0, .int .i64 0, .int .i64 0, .int .i64 0, .int .i64 0, .int .i64 0, .int .i64 0, .int .i64 0, .int .i64 0, .int .i64 0] 65)) 3 #[.int .i64 4]).alloc (.cells #[.int .i64 0, .int .i64 0, .int .i64 0, .int .i64 0, .int .i64 0, .int .i64 0, .int .i64 0, .int .i64 0, .int .i64 0, .int .i64 0, .int .i64 0, .int .i64 0, .int .i64 0, .int .i64 0, .int .i64 0, .int .i64 0, .int .i64 0, .int .i64 0, .int .i64 0] 65)
    rw [World.size_alloc, World.size_alloc] at this
    exact this
  have g3 : Blk ((((w.alloc (.cells #[.string s] 9)).alloc (.cells #[.int .i64 0, .int .i64 0, .int .i64 0, .int .i64 0, .int .i64 0, .int .i64 0, .int .i64 0, .int .i64 0, .int .i64 0, .int .i64 0, .int .i64 0, .int .i64 0, .int .i64 0, .int .i64 0, .int .i64 0, .int .i64 0, .int .i64 0, .int .i64 0, .int .i64 0] 65)).alloc (.cells #[.int .i64 4] 3)).alloc (.cells #[.int .i64 0, .int .i64 0, .int .i64 0, .int .i64 0, .int .i64 0, .int .i64 0, .int .i64 0, .int .i64 0, .int .i64 0, .int .i64 0, .int .i64 0, .int .i64 0, .int .i64 0, .int .i64 0, .int .i64 0, .int .i64 0, .int .i64 0, .int .i64 0, .int .i64 0] 65)) (w.heap.size + 1 + 1 + 1) 65 #[.int .i64 0, .int .i64 0, .int .i64 0, .int .i64 0, .int .i64 0, .int .i64 0, .int .i64 0, .int .i64 0, .int .i64 0, .int .i64 0, .int .i64 0, .int .i64 0, .int .i64 0, .int .i64 0, .int .i64 0, .int .i64 0, .int .i64 0, .int .i64 0, .int .i64 0] := by
    have := Blk.new (((w.alloc (.cells #[.string s] 9)).alloc (.cells #[.int .i64 0, .int .i64 0, .int .i64 0, .int .i64 0, .int .i64 0, .int .i64 0, .int .i64 0, .int .i64 0, .int .i64 0, .int .i64 0, .int .i64 0, .int .i64 0, .int .i64 0, .int .i64 0, .int .i64 0, .int .i64 0, .int .i64 0, .int .i64 0, .int .i64 0] 65)).alloc (.cells #[.int .i64 4] 3)) 65 #[.int .i64 0, .int .i64 0, .int .i64 0, .int .i64 0, .int .i64 0, .int .i64 0, .int .i64 0, .int .i64 0, .int .i64 0, .int .i64 0, .int .i64 0, .int .i64 0, .int .i64 0, .int .i64 0, .int .i64 0, .int .i64 0, .int .i64 0, .int .i64 0, .int .i64 0]
    rw [World.size_alloc, World.size_alloc, World.size_alloc] at this
    exact this
  have gw : Below w.heap.size w ((((w.alloc (.cells #[.string s] 9)).alloc (.cells #[.int .i64 0, .int .i64 0, .int .i64 0, .int .i64 0, .int .i64 0, .int .i64 0, .int .i64 0, .int .i64 0, .int .i64 0, .int .i64 0, .int .i64 0, .int .i64 0, .int .i64 0, .int .i64 0, .int .i64 0, .int .i64 0, .int .i64 0, .int .i64 0, .int .i64 0] 65)).alloc (.cells #[.int .i64 4] 3)).alloc (.cells #[.int .i64 0, .int .i64 0, .int .i64 0, .int .i64 0, .int .i64 0, .int .i64 0, .int .i64 0, .int .i64 0, .int .i64 0, .int .i64 0, .int .i64 0, .int .i64 0, .int .i64 0, .int .i64 0, .int .i64 0, .int .i64 0, .int .i64 0, .int .i64 0, .int .i64 0] 65)) := ((((Below.refl _ w).alloc (Nat.le_refl _) _).alloc (by simp) _).alloc (by simp; omega) _).alloc (by simp; omega) _
  go_enter Try.func48, Try.ntmps48
  go_wp2_with fail
  have q1 : w.heap.size < w.heap.size + 1 := by omega
  have q2 : w.heap.size + 1 < w.heap.size + 1 + 1 := by omega
  have q4 : w.heap.size + 1 + 1 < w.heap.size + 1 + 1 + 1 := by omega
  generalize ((((w.alloc (.cells #[.string s] 9)).alloc (.cells #[.int .i64 0, .int .i64 0, .int .i64 0, .int .i64 0, .int .i64 0, .int .i64 0, .int .i64 0, .int .i64 0, .int .i64 0, .int .i64 0, .int .i64 0, .int .i64 0, .int .i64 0, .int .i64 0, .int .i64 0, .int .i64 0, .int .i64 0, .int .i64 0, .int .i64 0] 65)).alloc (.cells #[.int .i64 4] 3)).alloc (.cells #[.int .i64 0, .int .i64 0, .int .i64 0, .int .i64 0, .int .i64 0, .int .i64 0, .int .i64 0, .int .i64 0, .int .i64 0, .int .i64 0, .int .i64 0, .int .i64 0, .int .i64 0, .int .i64 0, .int .i64 0, .int .i64 0, .int .i64 0, .int .i64 0, .int .i64 0] 65)) = v0 at *
  generalize w.heap.size + 1 + 1 + 1 = b3 at *
  generalize w.heap.size + 1 + 1 = b2 at *
  generalize w.heap.size + 1 = b1 at *
  have q3 : w.heap.size < b2 := by omega
  have key := nnext_any 1 4 w.heap.size b2 b3 0 (.int .i64 0) _ s _ (by omega) (by omega) HS.out q4 g0 g2 g3 rfl
  refine key.mono ?_
  clear key
  rintro e v1 ⟨rfl, bel, g2', g3'⟩
  have h2 : Blk v1 b2 3 #[.int .i64 ((5 : Nat) : Int)] := g2'
  have h3 : Blk v1 b3 65 #[.int .i64 (num s.data.toList 4 1 : Nat), .int .i64 0, .int .i64 0, .int .i64 0, .int .i64 0, .int .i64 0, .int .i64 0, .int .i64 0, .int .i64 0, .int .i64 0, .int .i64 0, .int .i64 0, .int .i64 0, .int .i64 0, .int .i64 0, .int .i64 0, .int .i64 0, .int .i64 0, .int .i64 0] := g3'
  have h0 := g0.below bel q3
  have h1 := g1.below bel q2
  have hw := gw.trans (bel.mono (Nat.le_of_lt q3))
  clear g0 g1 g2 g3 gw g2' g3' bel
  have g0 := h0
  have g1 := h1
  have g2 := h2
  have g3 := h3
  have gw := hw
  clear h0 h1 h2 h3 hw
  go_wp2_with fail
  have key := nnext_any 1 5 w.heap.size b2 b3 1 (.int .i64 0) _ s _ (by omega) (by omega) HS.out q4 g0 g2 g3 rfl
  refine key.mono ?_
  clear key
  rintro e v2 ⟨rfl, bel, g2', g3'⟩
  have h2 : Blk v2 b2 3 #[.int .i64 ((6 : Nat) : Int)] := g2'
  have h3 : Blk v2 b3 65 #[.int .i64 (num s.data.toList 4 1 : Nat), .int .i64 (num s.data.toList 5 1 : Nat), .int .i64 0, .int .i64 0, .int .i64 0, .int .i64 0, .int .i64 0, .int .i64 0, .int .i64 0, .int .i64 0, .int .i64 0, .int .i64 0, .int .i64 0, .int .i64 0, .int .i64 0, .int .i64 0, .int .i64 0, .int .i64 0, .int .i64 0] := g3'
  have h0 := g0.below bel q3
  have h1 := g1.below bel q2
  have hw := gw.trans (bel.mono (Nat.le_of_lt q3))
  clear g0 g1 g2 g3 gw g2' g3' bel
  have g0 := h0
  have g1 := h1
  have g2 := h2
  have g3 := h3
  have gw := hw
  clear h0 h1 h2 h3 hw
  go_wp2_with fail
  have key := nnext_any 1 6 w.heap.size b2 b3 2 (.int .i64 0) _ s _ (by omega) (by omega) HS.out q4 g0 g2 g3 rfl
  refine key.mono ?_
  clear key
  rintro e v3 ⟨rfl, bel, g2', g3'⟩
  have h2 : Blk v3 b2 3 #[.int .i64 ((7 : Nat) : Int)] := g2'
  have h3 : Blk v3 b3 65 #[.int .i64 (num s.data.toList 4 1 : Nat), .int .i64 (num s.data.toList 5 1 : Nat), .int .i64 (num s.data.toList 6 1 : Nat), .int .i64 0, .int .i64 0, .int .i64 0, .int .i64 0, .int .i64 0, .int .i64 0, .int .i64 0, .int .i64 0, .int .i64 0, .int .i64 0, .int .i64 0, .int .i64 0, .int .i64 0, .int .i64 0, .int .i64 0, .int .i64 0] := g3'
  have h0 := g0.below bel q3
  have h1 := g1.below bel q2
  have hw := gw.trans (bel.mono (Nat.le_of_lt q3))
  clear g0 g1 g2 g3 gw g2' g3' bel
  have g0 := h0
  have g1 := h1
  have g2 := h2
  have g3 := h3
  have gw := hw
  clear h0 h1 h2 h3 hw
  go_wp2_with fail
  have key := nnext_any 4 7 w.heap.size b2 b3 3 (.int .i64 0) _ s _ (by omega) (by omega) HS.out q4 g0 g2 g3 rfl
  refine key.mono ?_
  clear key
  rintro e v4 ⟨rfl, bel, g2', g3'⟩
  have h2 : Blk v4 b2 3 #[.int .i64 ((11 : Nat) : Int)] := g2'
  have h3 : Blk v4 b3 65 #[.int .i64 (num s.data.toList 4 1 : Nat), .int .i64 (num s.data.toList 5 1 : Nat), .int .i64 (num s.data.toList 6 1 : Nat), .int .i64 (num s.data.toList 7 4 : Nat), .int .i64 0, .int .i64 0, .int .i64 0, .int .i64 0, .int .i64 0, .int .i64 0, .int .i64 0, .int .i64 0, .int .i64 0, .int .i64 0, .int .i64 0, .int .i64 0, .int .i64 0, .int .i64 0, .int .i64 0] := g3'
  have h0 := g0.below bel q3
  have h1 := g1.below bel q2
  have hw := gw.trans (bel.mono (Nat.le_of_lt q3))
  clear g0 g1 g2 g3 gw g2' g3' bel
  have g0 := h0
  have g1 := h1
  have g2 := h2
  have g3 := h3
  have gw := hw
  clear h0 h1 h2 h3 hw
  go_wp2_with fail
  have key := nnext_any 6 11 w.heap.size b2 b3 4 (.int .i64 0) _ s _ (by omega) (by omega) HS.out q4 g0 g2 g3 rfl
  refine key.mono ?_
  clear key
  rintro e v5 ⟨rfl, bel, g2', g3'⟩
  have h2 : Blk v5 b2 3 #[.int .i64 ((17 : Nat) : Int)] := g2'
  have h3 : Blk v5 b3 65 #[.int .i64 (num s.data.toList 4 1 : Nat), .int .i64 (num s.data.toList 5 1 : Nat), .int .i64 (num s.data.toList 6 1 : Nat), .int .i64 (num s.data.toList 7 4 : Nat), .int .i64 (num s.data.toList 11 6 : Nat), .int .i64 0, .int .i64 0, .int .i64 0, .int .i64 0, .int .i64 0, .int .i64 0, .int .i64 0, .int .i64 0, .int .i64 0, .int .i64 0, .int .i64 0, .int .i64 0, .int .i64 0, .int .i64 0] := g3'
  have h0 := g0.below bel q3
  have h1 := g1.below bel q2
  have hw := gw.trans (bel.mono (Nat.le_of_lt q3))
  clear g0 g1 g2 g3 gw g2' g3' bel
  have g0 := h0
  have g1 := h1
  have g2 := h2
  have g3 := h3
  have gw := hw
  clear h0 h1 h2 h3 hw
  go_wp2_with fail
  have g3 : Blk v5 b3 65 ((ndRead s.data.toList).upto 0).cells := g3
  go_loopw [26] (fun i wr => ∃ k : Nat, k ≤ 14 ∧ i = .int .i64 k ∧ Blk wr w.heap.size 9 #[.string s] ∧ Blk wr b1 65 ndZero.cells ∧ Blk wr b2 3 #[.int .i64 ((17 + 2 * k : Nat) : Int)] ∧ Blk wr b3 65 ((ndRead s.data.toList).upto k).cells ∧ Below w.heap.size w wr) (fun i _ => 14 - (intOf i).toNat)
  case atStart => exact ⟨0, by omega, rfl, g0, g1, g2, g3, gw⟩
  case round =>
    obtain ⟨k, hk, rfl, h0, h1, h2, h3, hw⟩ := hrel
    clear g0 g1 g2 g3 gw
    by_cases hk4 : k < 14
    · have hu := ((ndRead s.data.toList).upto k).cellp k hk4
      have key := nnext_any 2 (17 + 2 * k) w.heap.size b2 b3 (5 + k) _ _ s wr (by omega) (by omega) HS.out q4 h0 h2 h3 hu
      rw [← ndRead_p s.data.toList k hk4, (ndRead s.data.toList).upto_set k hk4] at key
      have Key := Lib.hid key
      clear key hu h2 h3
      go_wp2_with fail
      refine Key.out.mono ?_
      rintro e vn ⟨rfl, bel, g2, g3⟩
      have g0 := h0.below bel q3
      have g1 := h1.below bel q2
      have gw := hw.trans (bel.mono (Nat.le_of_lt q3))
      clear Key bel h0 h1 hw
      go_wp2_with fail
      go_roundw
      case rel => exact ⟨k + 1, by omega, by go_num, g0, g1, by rw [show 17 + 2 * (k + 1) = 17 + 2 * k + 2 by omega]; exact g2, g3, gw⟩
      case measure => simp [intOf]; omega
    · obtain rfl : k = 14 := by omega
      rw [Nd.upto_14] at h3
      have hld := run_ldN h3
      go_wp2_with fail
      refine (nputX (ndRead s.data.toList) _).mono ?_
      rintro e vp ⟨ok, L, rfl, hok, hL1, hL0, bel⟩
      have g0 := h0.beyond bel
      have g1 := h1.beyond bel
      have g3 := h3.beyond bel
      have gw := hw.trans (bel.mono hw.size)
      have c0 : vp.cell? ⟨w.heap.size, 0, none⟩ = some (.string s) := g0.cell 0
      clear h0 h1 h2 h3 hw bel hld g0
      have hld := run_ldN g3
      have hst := run_stN (x := ndRead s.data.toList) g1 rfl
      have hst0 : (stV 65 (.pointer (some ⟨b1, 0, none⟩)) (.agg #[.int .i64 0, .int .i64 0, .int .i64 0, .int .i64 0, .int .i64 0, .int .i64 0, .int .i64 0, .int .i64 0, .int .i64 0, .int .i64 0, .int .i64 0, .int .i64 0, .int .i64 0, .int .i64 0, .int .i64 0, .int .i64 0, .int .i64 0, .int .i64 0, .int .i64 0])).run Try.prog vp = .ok () (vp.setRow b1 ndZero.cells) := run_stN (x := ndZero) g1 rfl
      cases ok with
      | false =>
        have hno : Hid (ndGot s.data.toList = .tuple #[.agg ndZero.cells, .bool false]) := by
          show _ = _
          unfold ndGot ndGood
          rw [← hok.out]; simp
        go_wp2_with fail
        exact bodyPost_ret (results48 (g1.row ndZero.cells) rfl rfl) rfl ⟨by rw [hno.out]; rfl, below_row gw (Nat.le_of_lt q1) _⟩
      | true =>
        have hLb := hL1.out rfl
        by_cases hs : L = s.data.toList
        · have hyes : Hid (ndGot s.data.toList = .tuple #[.agg (ndRead s.data.toList).cells, .bool true]) := by
            show _ = _
            unfold ndGot ndGood
            rw [← hok.out, ← hLb, hs]; simp
          have hne : (L == s.toList) = true := by rw [ByteArray.toList_eq]; simpa using hs
          clear hs hLb
          go_wp2_with fail
          exact bodyPost_ret (results48 (g1.row (ndRead s.data.toList).cells) rfl rfl) rfl ⟨by rw [hyes.out]; rfl, below_row gw (Nat.le_of_lt q1) _⟩
        · have hno : Hid (ndGot s.data.toList = .tuple #[.agg ndZero.cells, .bool false]) := by
            show _ = _
            unfold ndGot ndGood
            rw [← hok.out, ← hLb]; simp [hs]
          have hne : (L == s.toList) = false := by rw [ByteArray.toList_eq]; simpa using hs
          clear hs hLb
          go_wp2_with fail
          exact bodyPost_ret (results48 (g1.row ndZero.cells) rfl rfl) rfl ⟨by rw [hno.out]; rfl, below_row gw (Nat.le_of_lt q1) _⟩
end
end Go.Proofs.Ytmpkcehjmjopdaa
