import Derived.Test.YtmpkcehjmjopdaaSlotR
namespace Go.Proofs.Ytmpkcehjmjopdaa
open Go.RowKit Go.Sort

def Sl.out (x : Sl) (h g : Int) : List UInt8 := if x.ok h g then x.block h g else []
theorem slotputV (x : Sl) (h g : Int) (w : World) :
    Calls Try.prog 25 #[.int .i64 h, .int .i64 g, .agg x.cells] w fun e w' => e = .returned (.tuple #[.string ⟨(x.out h g).toArray⟩, .bool (x.ok h g)]) ∧ Below w.heap.size w w' :=
  (slotput_any x h g w).mono fun e w' ⟨ok, L, h1, h2, h3, h4, h5⟩ => by
    refine ⟨?_, h5⟩
    rw [h1, ← h2.out]
    unfold Sl.out
    rw [← h2.out]
    cases ok
    · rw [h4.out rfl]; rfl
    · rw [h3.out rfl]; rfl
theorem refputV (x : Sl) (h g : Int) (w : World) :
    Calls Try.prog 26 #[.int .i64 h, .int .i64 g, .agg x.cells] w fun e w' => e = .returned (.tuple #[.string ⟨(x.out h g).toArray⟩, .bool (x.ok h g)]) ∧ Below w.heap.size w w' :=
  (refputX x h g w).mono fun e w' ⟨ok, L, h1, h2, h3, h4, h5⟩ => by
    refine ⟨?_, h5⟩
    rw [h1, ← h2.out]
    unfold Sl.out
    rw [← h2.out]
    cases ok
    · rw [h4.out rfl]; rfl
    · rw [h3.out rfl]; rfl
section
attribute [local go_sem ↓] ld37 st37
theorem results28 {tmps : Array Value} {w : World} {b : Nat} {x : Sl} {v2 v3 v5 : Value} (h : Blk w b 37 x.cells) (h2 : tmps.getD 2 undef = v2) (h3 : tmps.getD 3 undef = v3) (h4 : tmps.getD 4 undef = .pointer (some ⟨b, 0, none⟩)) (h5 : tmps.getD 5 undef = v5) :
    (results Try.f28 tmps).run Try.prog w = .ok (.tuple #[v2, v3, .agg x.cells, v5]) w := by
  have h4' : tmps[4]?.getD undef = .pointer (some ⟨b, 0, none⟩) := by simpa using h4
  have h2' : tmps[2]?.getD undef = v2 := by simpa using h2
  have h3' : tmps[3]?.getD undef = v3 := by simpa using h3
  have h5' : tmps[5]?.getD undef = v5 := by simpa using h5
  simp [results, Try.results28, h2', h3', h4', h5', asAddr, run_loadVar_row w b 37 37 x.cells (0, 0) _ h Try.underlying37 rfl (by kernel_rfl)]

set_option maxRecDepth 100000 in
set_option maxHeartbeats 4000000 in
theorem refget_full (s : ByteArray) (w : World) (h1 : s.size ≤ 256) (h2 : 256 ≤ s.size) :
    Calls Try.prog 28 #[.string s] w fun e w' => e = .returned (slGot s.data.toList) ∧ Below w.heap.size w w' := by
  have hl : ((s.size : Int) != 256) = false := by simp; omega
  have g1 : Blk (w.alloc (.cells #[.int .i64 0, .int .i64 0, .int .i64 0, .int .i64 0, .int .i64 0, .int .i64 0, .int .i64 0, .int .i64 0, .int .i64 0, .int .i64 0, .int .i64 0, .int .i64 0, .int .i64 0] 37)) w.heap.size 37 slZero.cells := Blk.new w 37 _
  have gw : Below w.heap.size w (w.alloc (.cells #[.int .i64 0, .int .i64 0, .int .i64 0, .int .i64 0, .int .i64 0, .int .i64 0, .int .i64 0, .int .i64 0, .int .i64 0, .int .i64 0, .int .i64 0, .int .i64 0, .int .i64 0] 37)) := (Below.refl _ w).alloc (Nat.le_refl _) _
  have n1 := fun w => refnum_any s 7 6 w (by decide) (by decide) (by omega)
  have n2 := fun w => refnum_any s 13 3 w (by decide) (by decide) (by omega)
  have n3 := fun w => refnum_any s 16 6 w (by decide) (by decide) (by omega)
  have n4 := fun w => refnum_any s 22 2 w (by decide) (by decide) (by omega)
  have n5 := fun w => refnum_any s 24 2 w (by decide) (by decide) (by omega)
  have n6 := fun w => refnum_any s 26 2 w (by decide) (by decide) (by omega)
  have n7 := fun w => refnum_any s 28 6 w (by decide) (by decide) (by omega)
  have n8 := fun w => refnum_any s 50 6 w (by decide) (by decide) (by omega)
  have n9 := fun w => refnum_any s 56 6 w (by decide) (by decide) (by omega)
  have N1 := Lib.hid n1
  have N2 := Lib.hid n2
  have N3 := Lib.hid n3
  have N4 := Lib.hid n4
  have N5 := Lib.hid n5
  have N6 := Lib.hid n6
  have N7 := Lib.hid n7
  have N8 := Lib.hid n8
  have N9 := Lib.hid n9
  clear n1 n2 n3 n4 n5 n6 n7 n8 n9
  have hst : ∀ (x : Sl), (stV 37 (.pointer (some ⟨w.heap.size + 1, 0, none⟩)) (.agg x.cells)).run Try.prog ((w.alloc (.cells #[.int .i64 0, .int .i64 0, .int .i64 0, .int .i64 0, .int .i64 0, .int .i64 0, .int .i64 0, .int .i64 0, .int .i64 0, .int .i64 0, .int .i64 0, .int .i64 0, .int .i64 0] 37)).alloc (.cells #[.int .i64 0, .int .i64 0, .int .i64 0, .int .i64 0, .int .i64 0, .int .i64 0, .int .i64 0, .int .i64 0, .int .i64 0, .int .i64 0, .int .i64 0, .int .i64 0, .int .i64 0] 37)) = .ok () ((w.alloc (.cells #[.int .i64 0, .int .i64 0, .int .i64 0, .int .i64 0, .int .i64 0, .int .i64 0, .int .i64 0, .int .i64 0, .int .i64 0, .int .i64 0, .int .i64 0, .int .i64 0, .int .i64 0] 37)).alloc (.cells x.cells 37)) := by
    intro x
    have := st_new (w.alloc (.cells #[.int .i64 0, .int .i64 0, .int .i64 0, .int .i64 0, .int .i64 0, .int .i64 0, .int .i64 0, .int .i64 0, .int .i64 0, .int .i64 0, .int .i64 0, .int .i64 0, .int .i64 0] 37)) x
    rwa [World.size_alloc] at this
  have hst0 := hst ⟨num s.data.toList 7 6, num s.data.toList 13 3, num s.data.toList 16 6, num s.data.toList 22 2, num s.data.toList 24 2, num s.data.toList 26 2, num s.data.toList 28 6, 0, 0, 0, 0, num s.data.toList 50 6, num s.data.toList 56 6⟩
  clear hst
  have g2 := g1.alloc (.cells (Sl.mk (num s.data.toList 7 6) (num s.data.toList 13 3) (num s.data.toList 16 6) (num s.data.toList 22 2) (num s.data.toList 24 2) (num s.data.toList 26 2) (num s.data.toList 28 6) 0 0 0 0 (num s.data.toList 50 6) (num s.data.toList 56 6)).cells 37)
  have gx := Blk.new (w.alloc (.cells #[.int .i64 0, .int .i64 0, .int .i64 0, .int .i64 0, .int .i64 0, .int .i64 0, .int .i64 0, .int .i64 0, .int .i64 0, .int .i64 0, .int .i64 0, .int .i64 0, .int .i64 0] 37)) 37 (Sl.mk (num s.data.toList 7 6) (num s.data.toList 13 3) (num s.data.toList 16 6) (num s.data.toList 22 2) (num s.data.toList 24 2) (num s.data.toList 26 2) (num s.data.toList 28 6) 0 0 0 0 (num s.data.toList 50 6) (num s.data.toList 56 6)).cells
  rw [World.size_alloc] at gx
  have gw2 := gw.alloc gw.size (.cells (Sl.mk (num s.data.toList 7 6) (num s.data.toList 13 3) (num s.data.toList 16 6) (num s.data.toList 22 2) (num s.data.toList 24 2) (num s.data.toList 26 2) (num s.data.toList 28 6) 0 0 0 0 (num s.data.toList 50 6) (num s.data.toList 56 6)).cells 37)
  simp only [Sl.cells] at hst0
  clear g1 gw
  go_enter Try.func28, Try.ntmps28
  go_wp2_with fail
  refine (N1.out _).mono ?_
  rintro e w' ⟨rfl, rfl⟩
  go_wp2_with fail
  refine (N2.out _).mono ?_
  rintro e w' ⟨rfl, rfl⟩
  go_wp2_with fail
  refine (N3.out _).mono ?_
  rintro e w' ⟨rfl, rfl⟩
  go_wp2_with fail
  refine (N4.out _).mono ?_
  rintro e w' ⟨rfl, rfl⟩
  go_wp2_with fail
  refine (N5.out _).mono ?_
  rintro e w' ⟨rfl, rfl⟩
  go_wp2_with fail
  refine (N6.out _).mono ?_
  rintro e w' ⟨rfl, rfl⟩
  go_wp2_with fail
  refine (N7.out _).mono ?_
  rintro e w' ⟨rfl, rfl⟩
  go_wp2_with fail
  refine (N8.out _).mono ?_
  rintro e w' ⟨rfl, rfl⟩
  go_wp2_with fail
  refine (N9.out _).mono ?_
  rintro e w' ⟨rfl, rfl⟩
  go_wp2_with fail
  simp only [Sl.cells] at g2 gx gw2
  generalize (w.alloc (.cells #[.int .i64 0, .int .i64 0, .int .i64 0, .int .i64 0, .int .i64 0, .int .i64 0, .int .i64 0, .int .i64 0, .int .i64 0, .int .i64 0, .int .i64 0, .int .i64 0, .int .i64 0] 37)).alloc (.cells #[.int .i64 (num s.data.toList 7 6 : Nat), .int .i64 (num s.data.toList 13 3 : Nat), .int .i64 (num s.data.toList 16 6 : Nat), .int .i64 (num s.data.toList 22 2 : Nat), .int .i64 (num s.data.toList 24 2 : Nat), .int .i64 (num s.data.toList 26 2 : Nat), .int .i64 (num s.data.toList 28 6 : Nat), .int .i64 0, .int .i64 0, .int .i64 0, .int .i64 0, .int .i64 (num s.data.toList 50 6 : Nat), .int .i64 (num s.data.toList 56 6 : Nat)] 37) = v0 at *
  have q1 : w.heap.size < w.heap.size + 1 := by omega
  generalize w.heap.size + 1 = b1 at *
  clear hst0 N1 N2 N3 N4 N5 N6 N7 N8 N9
  have HA : Hid ((#[.int .i64 (num s.data.toList 7 6 : Nat), .int .i64 (num s.data.toList 13 3 : Nat), .int .i64 (num s.data.toList 16 6 : Nat), .int .i64 (num s.data.toList 22 2 : Nat), .int .i64 (num s.data.toList 24 2 : Nat), .int .i64 (num s.data.toList 26 2 : Nat), .int .i64 (num s.data.toList 28 6 : Nat), .int .i64 0, .int .i64 0, .int .i64 0, .int .i64 0, .int .i64 (num s.data.toList 50 6 : Nat), .int .i64 (num s.data.toList 56 6 : Nat)] : Array Value).size = 13) := rfl
  have HL := Lib.hid h1
  have hs4 : s.size ≤ 4611686018427387904 := by omega
  have n1 := fun w => refnum_any s 4 1 w (by decide) (by decide) hs4
  have n2 := fun w => refnum_any s 5 2 w (by decide) (by decide) hs4
  have n3 := fun (k : Nat) (hk : k ≤ 4) w => refnum_any s (34 + 4 * k) 4 w (by decide) (by omega) hs4
  have N1 := Lib.hid n1
  have N2 := Lib.hid n2
  have N3 := Lib.hid n3
  clear n1 n2 n3 hs4
  go_loopw [7] (fun i wr => ∃ k : Nat, k ≤ 4 ∧ i = .int .i64 k ∧ Blk wr b1 37 (mcells #[.int .i64 (num s.data.toList 7 6 : Nat), .int .i64 (num s.data.toList 13 3 : Nat), .int .i64 (num s.data.toList 16 6 : Nat), .int .i64 (num s.data.toList 22 2 : Nat), .int .i64 (num s.data.toList 24 2 : Nat), .int .i64 (num s.data.toList 26 2 : Nat), .int .i64 (num s.data.toList 28 6 : Nat), .int .i64 0, .int .i64 0, .int .i64 0, .int .i64 0, .int .i64 (num s.data.toList 50 6 : Nat), .int .i64 (num s.data.toList 56 6 : Nat)] s.data.toList k) ∧ Blk wr w.heap.size 37 slZero.cells ∧ Below w.heap.size w wr) (fun i _ => 4 - (intOf i).toNat)
  case atStart => exact ⟨0, by omega, rfl, gx, g2, gw2⟩
  case round =>
    obtain ⟨k, hk, rfl, gx, g2, gw⟩ := hrel
    clear gw2
    by_cases hk4 : k < 4
    · have hn := N3.out k hk
      have e1 : (((34 + 4 * k : Nat)) : Int) = 34 + 4 * (k : Int) := by omega
      rw [e1] at hn
      have Hn := Lib.hid hn
      clear hn e1
      have hsz := mcells_size #[.int .i64 (num s.data.toList 7 6 : Nat), .int .i64 (num s.data.toList 13 3 : Nat), .int .i64 (num s.data.toList 16 6 : Nat), .int .i64 (num s.data.toList 22 2 : Nat), .int .i64 (num s.data.toList 24 2 : Nat), .int .i64 (num s.data.toList 26 2 : Nat), .int .i64 (num s.data.toList 28 6 : Nat), .int .i64 0, .int .i64 0, .int .i64 0, .int .i64 0, .int .i64 (num s.data.toList 50 6 : Nat), .int .i64 (num s.data.toList 56 6 : Nat)] s.data.toList k
      rw [HA.out] at hsz
      obtain ⟨u, hu⟩ : ∃ u, (mcells #[.int .i64 (num s.data.toList 7 6 : Nat), .int .i64 (num s.data.toList 13 3 : Nat), .int .i64 (num s.data.toList 16 6 : Nat), .int .i64 (num s.data.toList 22 2 : Nat), .int .i64 (num s.data.toList 24 2 : Nat), .int .i64 (num s.data.toList 26 2 : Nat), .int .i64 (num s.data.toList 28 6 : Nat), .int .i64 0, .int .i64 0, .int .i64 0, .int .i64 0, .int .i64 (num s.data.toList 50 6 : Nat), .int .i64 (num s.data.toList 56 6 : Nat)] s.data.toList k)[7 + k]? = some u := ⟨_, Array.getElem?_eq_getElem (by rw [hsz]; omega)⟩
      have c1 : wr.cell? ⟨b1, 7 + k, none⟩ = some u := by rw [gx.cell, hu]
      have f1 : wr.frozen? ⟨b1, 7 + k, none⟩ = false := gx.frozen _
      have hx2 := gx.set_ (7 + k) (.int .i64 (num s.data.toList (34 + 4 * k) 4 : Nat))
      have hg2 := g2.far (p := ⟨b1, 7 + k, none⟩) (by show w.heap.size ≠ b1; omega) (.int .i64 (num s.data.toList (34 + 4 * k) 4 : Nat))
      have hgw := gw.setCell (p := ⟨b1, 7 + k, none⟩) (by show w.heap.size ≤ b1; omega) (.int .i64 (num s.data.toList (34 + 4 * k) 4 : Nat))
      clear hsz hu gx g2 gw
      go_wp2_with fail
      refine (Hn.out _).mono ?_
      rintro e w' ⟨rfl, rfl⟩
      go_wp2_with fail
      go_roundw
      case rel => exact ⟨k + 1, by omega, by go_num, hx2, hg2, hgw⟩
      case measure => simp [intOf]; omega
    · obtain rfl : k = 4 := by omega
      have gx : Blk wr b1 37 (slRead s.data.toList).cells := gx
      have m0 : ∀ d os, Calls Try.prog 63 #[.string s, .int .i64 4, .int .i64 1] (grow (redrawn wr d) os) fun e w'' => e = .returned (.int .i64 (num s.data.toList 4 1 : Nat)) ∧ ∃ p : Regrown, w'' = grow (redrawn wr p.d) p.os := fun d os => (N1.out _).mono fun _ _ ⟨a, b⟩ => ⟨a, ⟨⟨d, os⟩, b.symm⟩⟩
      have m1 : ∀ d os, Calls Try.prog 63 #[.string s, .int .i64 5, .int .i64 2] (grow (redrawn wr d) os) fun e w'' => e = .returned (.int .i64 (num s.data.toList 5 2 : Nat)) ∧ ∃ p : Regrown, w'' = grow (redrawn wr p.d) p.os := fun d os => (N2.out _).mono fun _ _ ⟨a, b⟩ => ⟨a, ⟨⟨d, os⟩, b.symm⟩⟩
      have m2 : ∀ d os, Calls Try.prog 26 #[.int .i64 (num s.data.toList 4 1 : Nat), .int .i64 (num s.data.toList 5 2 : Nat), .agg (slRead s.data.toList).cells] (grow (redrawn wr d) os) fun e w'' => e = .returned (.tuple #[.string ⟨((slRead s.data.toList).out (num s.data.toList 4 1 : Nat) (num s.data.toList 5 2 : Nat)).toArray⟩, .bool ((slRead s.data.toList).ok (num s.data.toList 4 1 : Nat) (num s.data.toList 5 2 : Nat))]) ∧ ∃ p : Regrown, w'' = grow (redrawn wr p.d) p.os := fun d os => Calls.regrown_of (refputV _ _ _ _)
      have hld : ∀ d os, (ldV 37 (.pointer (some ⟨b1, 0, none⟩))).run Try.prog (grow (redrawn wr d) os) = .ok (.agg (slRead s.data.toList).cells) (grow (redrawn wr d) os) := fun d os => run_ldB (gx.beyond (below_regrown wr d os))
      go_upto_region 8 with (fail)
      refine wp_region_quiet_below mixed (by kernel_rfl) ?_
      repeat (go_big_quiet_step (first | with_reducible exact m0 _ _ | with_reducible exact m1 _ _ | with_reducible exact m2 _ _))
      refine wpQuiet_nil ?_
      intro _ hw'
      obtain ⟨⟨dq, osq⟩, hw''⟩ := hw'
      subst hw''
      have hb3 := below_regrown wr dq osq
      generalize grow (redrawn wr dq) osq = w3 at *
      clear m0 m1 m2 hld
      have gx := gx.beyond hb3
      have g2 := g2.beyond hb3
      have gw := gw.trans (hb3.mono gw.size)
      clear hb3
      have hld := run_ldB gx.drew
      have hst := run_stB (x := slRead s.data.toList) g2.drew rfl
      have hst0 : (stV 37 (.pointer (some ⟨w.heap.size, 0, none⟩)) (.agg #[.int .i64 0, .int .i64 0, .int .i64 0, .int .i64 0, .int .i64 0, .int .i64 0, .int .i64 0, .int .i64 0, .int .i64 0, .int .i64 0, .int .i64 0, .int .i64 0, .int .i64 0])).run Try.prog w3 = .ok () (w3.setRow w.heap.size slZero.cells) := run_stB (x := slZero) g2 rfl
      have hgot : Hid (slGot s.data.toList = if (slRead s.data.toList).ok (num s.data.toList 4 1 : Nat) (num s.data.toList 5 2 : Nat) && decide ((slRead s.data.toList).block (num s.data.toList 4 1 : Nat) (num s.data.toList 5 2 : Nat) = s.data.toList) then .tuple #[.int .i64 (num s.data.toList 4 1 : Nat), .int .i64 (num s.data.toList 5 2 : Nat), .agg (slRead s.data.toList).cells, .bool true] else .tuple #[.int .i64 0, .int .i64 0, .agg slZero.cells, .bool false]) := rfl
      have hout : Hid ((slRead s.data.toList).out (num s.data.toList 4 1 : Nat) (num s.data.toList 5 2 : Nat) = if (slRead s.data.toList).ok (num s.data.toList 4 1 : Nat) (num s.data.toList 5 2 : Nat) then (slRead s.data.toList).block (num s.data.toList 4 1 : Nat) (num s.data.toList 5 2 : Nat) else []) := rfl
      generalize (slRead s.data.toList).out (num s.data.toList 4 1 : Nat) (num s.data.toList 5 2 : Nat) = OUT at *
      generalize (slRead s.data.toList).block (num s.data.toList 4 1 : Nat) (num s.data.toList 5 2 : Nat) = BLK at *
      generalize (slRead s.data.toList).ok (num s.data.toList 4 1 : Nat) (num s.data.toList 5 2 : Nat) = ok at *
      cases ok with
      | false =>
        have hno : Hid (slGot s.data.toList = .tuple #[.int .i64 0, .int .i64 0, .agg slZero.cells, .bool false]) := by show _ = _; rw [hgot.out]; simp
        clear hout hgot
        go_wp2_with fail
        exact bodyPost_ret (results28 (g2.row slZero.cells) rfl rfl rfl rfl) rfl ⟨by rw [hno.out]; rfl, below_row gw (Nat.le_refl _) _⟩
      | true =>
        have hOB : OUT = BLK := hout.out
        subst hOB
        by_cases hs : OUT = s.data.toList
        · have hyes : Hid (slGot s.data.toList = .tuple #[.int .i64 (num s.data.toList 4 1 : Nat), .int .i64 (num s.data.toList 5 2 : Nat), .agg (slRead s.data.toList).cells, .bool true]) := by show _ = _; rw [hgot.out]; simp [hs]
          have hne : (OUT == s.toList) = true := by rw [ByteArray.toList_eq]; simpa using hs
          have M1 : Hid (∀ w, Calls Try.prog 63 #[.string s, .int .i64 4, .int .i64 1] w fun e w' => e = .returned (.int .i64 (num s.data.toList 4 1 : Nat)) ∧ w = w') := N1.out
          have M2 : Hid (∀ w, Calls Try.prog 63 #[.string s, .int .i64 5, .int .i64 2] w fun e w' => e = .returned (.int .i64 (num s.data.toList 5 2 : Nat)) ∧ w = w') := N2.out
          clear hs hout hgot
          go_wp2_with fail
          go_region_with (first | (go_at_call 63; (with_reducible refine (M1.out _).mono ?_); rintro e w' ⟨rfl, rfl⟩) | (go_at_call 63; (with_reducible refine (M2.out _).mono ?_); rintro e w' ⟨rfl, rfl⟩))
          all_goals
            go_wp2_with fail
            exact bodyPost_ret (results28 (g2.drew.row (slRead s.data.toList).cells) rfl rfl rfl rfl) rfl ⟨by rw [hyes.out]; rfl, below_row gw.drew (Nat.le_refl _) _⟩
        · have hno : Hid (slGot s.data.toList = .tuple #[.int .i64 0, .int .i64 0, .agg slZero.cells, .bool false]) := by show _ = _; rw [hgot.out]; simp [hs]
          have hne : (OUT == s.toList) = false := by rw [ByteArray.toList_eq]; simpa using hs
          clear hs hout hgot
          go_wp2_with fail
          exact bodyPost_ret (results28 (g2.row slZero.cells) rfl rfl rfl rfl) rfl ⟨by rw [hno.out]; rfl, below_row gw (Nat.le_refl _) _⟩

theorem refget_short (s : ByteArray) (w : World) (h : s.size ≠ 256) (hs : s.size ≤ 4611686018427387904) :
    Calls Try.prog 28 #[.string s] w fun e w' => e = .returned (slGot s.data.toList) ∧ Below w.heap.size w w' := by
  have hl : ((s.size : Int) != 256) = true := by simp; omega
  have hno : Hid (slGot s.data.toList = .tuple #[.int .i64 0, .int .i64 0, .agg slZero.cells, .bool false]) := slGot_bad fun hc => h hc.length
  have g1 : Blk (w.alloc (.cells #[.int .i64 0, .int .i64 0, .int .i64 0, .int .i64 0, .int .i64 0, .int .i64 0, .int .i64 0, .int .i64 0, .int .i64 0, .int .i64 0, .int .i64 0, .int .i64 0, .int .i64 0] 37)) w.heap.size 37 slZero.cells := Blk.new w 37 _
  have gw : Below w.heap.size w (w.alloc (.cells #[.int .i64 0, .int .i64 0, .int .i64 0, .int .i64 0, .int .i64 0, .int .i64 0, .int .i64 0, .int .i64 0, .int .i64 0, .int .i64 0, .int .i64 0, .int .i64 0, .int .i64 0] 37)) := (Below.refl _ w).alloc (Nat.le_refl _) _
  have hst0 : (stV 37 (.pointer (some ⟨w.heap.size, 0, none⟩)) (.agg #[.int .i64 0, .int .i64 0, .int .i64 0, .int .i64 0, .int .i64 0, .int .i64 0, .int .i64 0, .int .i64 0, .int .i64 0, .int .i64 0, .int .i64 0, .int .i64 0, .int .i64 0])).run Try.prog (w.alloc (.cells #[.int .i64 0, .int .i64 0, .int .i64 0, .int .i64 0, .int .i64 0, .int .i64 0, .int .i64 0, .int .i64 0, .int .i64 0, .int .i64 0, .int .i64 0, .int .i64 0, .int .i64 0] 37)) = .ok () ((w.alloc (.cells #[.int .i64 0, .int .i64 0, .int .i64 0, .int .i64 0, .int .i64 0, .int .i64 0, .int .i64 0, .int .i64 0, .int .i64 0, .int .i64 0, .int .i64 0, .int .i64 0, .int .i64 0] 37)).setRow w.heap.size slZero.cells) := run_stB (x := slZero) g1 rfl
  have _hs := hs
  clear h
  go_enter Try.func28, Try.ntmps28
  go_wp2_with fail
  exact bodyPost_ret (results28 (g1.row slZero.cells) rfl rfl rfl rfl) rfl ⟨by rw [hno.out]; rfl, below_row gw (Nat.le_refl _) _⟩
end
theorem refget_slot (s : ByteArray) (w : World) (hs : s.size ≤ 4611686018427387904) :
    Calls Try.prog 28 #[.string s] w fun e w' => e = .returned (slGot s.data.toList) ∧ Below w.heap.size w w' := by
  by_cases h : s.size = 256
  · exact refget_full s w (by omega) (by omega)
  · exact refget_short s w h hs
end Go.Proofs.Ytmpkcehjmjopdaa
