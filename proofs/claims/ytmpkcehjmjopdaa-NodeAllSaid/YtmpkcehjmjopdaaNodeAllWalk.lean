import Derived.Test.YtmpkcehjmjopdaaNodeQ
namespace Go.Proofs.Ytmpkcehjmjopdaa
open Go.RowKit Go.Sort

theorem nodeAll_long (x : Nd) (s : ByteArray) (w : World) (h : 1000 < s.size) (hs : s.size ≤ 140737488351232) :
    Calls Try.prog 14 #[.agg x.cells, .string s] w fun e w' => e = .returned (.bool true) ∧ Below w.heap.size w w' := by
  have HW : Hid (Below w.heap.size w (w.alloc (.cells x.cells 65))) := (Below.refl _ w).alloc (Nat.le_refl _) _
  go_enter Try.func14, Try.ntmps14
  go_wp2_with fail
  refine (nawake_any _).mono ?_
  rintro e wz ⟨rfl, hbz⟩
  go_wp2_with fail
  go_ret
  exact ⟨rfl, below2 HW.out hbz⟩
theorem ndGot_form (l : List UInt8) : ∃ (x : Nd) (b : Bool), ndGot l = .tuple #[.agg x.cells, .bool b] := by
  unfold ndGot
  cases ndGood l
  · exact ⟨ndZero, false, rfl⟩
  · exact ⟨_, true, rfl⟩
section
attribute [local go_sem ↓] ld65 st65
attribute [local go_sem] nst_new
set_option maxRecDepth 100000 in
set_option maxHeartbeats 4000000 in
theorem nodeAll_short (x : Nd) (s : ByteArray) (w : World) (h : s.size ≤ 1000) :
    Calls Try.prog 14 #[.agg x.cells, .string s] w fun e w' => e = .returned (.bool true) ∧ Below w.heap.size w w' := by
  have hB : Blk (w.alloc (.cells x.cells 65)) w.heap.size 65 x.cells := Blk.new w 65 _
  have hW : Below w.heap.size w (w.alloc (.cells x.cells 65)) := (Below.refl _ w).alloc (Nat.le_refl _) _
  obtain ⟨y, b, hgot⟩ := ndGot_form s.data.toList
  have HG := Lib.hid hgot
  clear hgot
  have hld := run_ldN hB
  go_enter Try.func14, Try.ntmps14
  go_wp2_with fail
  refine (nputV x _).mono ?_
  rintro e w1 ⟨rfl, hb1⟩
  have hB1 := hB.beyond hb1
  have hW1 := below2 hW hb1
  have hld := run_ldN hB1
  clear hB hW hb1
  go_wp2_with fail
  refine (nrefputV x _).mono ?_
  rintro e w2 ⟨rfl, hb2⟩
  have hB2 := hB1.beyond hb2
  have hW2 := below2 hW1 hb2
  clear hB1 hW1 hb2 hld
  have m0 : Hid (∀ w, Calls Try.prog 50 #[.agg x.cells] w fun e w' => e = .returned (.bool x.chk) ∧ Below w.heap.size w w') := fun w => ncheckX x w
  have m1 : Hid (∀ w, Calls Try.prog 51 #[.agg x.cells] w fun e w' => e = .returned (.bool x.chk) ∧ Below w.heap.size w w') := fun w => nrefcheckX x w
  generalize x.out = OUT at *
  generalize x.chk = ok at *
  go_wp2_with fail
  refine (nget_any s _ (by omega)).mono ?_
  rintro e w3 ⟨rfl, hb3⟩
  rw [HG.out]
  have hB3 := (hB2.beyond hb3).alloc (.cells y.cells 65)
  have hW3 := (below2 hW2 hb3).alloc (below2 hW2 hb3).size (.cells y.cells 65)
  have hY3 := Blk.new w3 65 y.cells
  clear hB2 hW2 hb3
  go_wp2_with fail
  refine (nrefget_any s _ (by omega)).mono ?_
  rintro e w4 ⟨rfl, hb4⟩
  rw [HG.out]
  have hB4 := (hB3.beyond hb4).alloc (.cells y.cells 65)
  have hY4 := (hY3.beyond hb4).alloc (.cells y.cells 65)
  have hW4 := (hW3.trans (hb4.mono hW3.size)).alloc (hW3.trans (hb4.mono hW3.size)).size (.cells y.cells 65)
  have hZ4 := Blk.new w4 65 y.cells
  clear hB3 hW3 hY3 hb4
  go_upto_region 7 with (fail)
  generalize w4.alloc (.cells y.cells 65) = w5 at *
  have m0 : ∀ d os, Calls Try.prog 50 #[.agg x.cells] (grow (redrawn w5 d) os) fun e w'' => e = .returned (.bool ok) ∧ ∃ p : Regrown, w'' = grow (redrawn w5 p.d) p.os := fun d os => Calls.regrown_of (m0.out _)
  have m1 : ∀ d os, Calls Try.prog 51 #[.agg x.cells] (grow (redrawn w5 d) os) fun e w'' => e = .returned (.bool ok) ∧ ∃ p : Regrown, w'' = grow (redrawn w5 p.d) p.os := fun d os => Calls.regrown_of (m1.out _)
  have m2 : ∀ d os, Calls Try.prog 52 #[.agg y.cells, .agg y.cells] (grow (redrawn w5 d) os) fun e w'' => e = .returned (.bool true) ∧ ∃ p : Regrown, w'' = grow (redrawn w5 p.d) p.os := fun d os => Calls.regrown_of (nsame_yes _ _)
  have m3 : ∀ d os, Calls Try.prog 45 #[] (grow (redrawn w5 d) os) fun e w'' => e = .returned (.bool true) ∧ ∃ p : Regrown, w'' = grow (redrawn w5 p.d) p.os := fun d os => Calls.regrown_of (nawake_any _)
  have l0 : ∀ d os, (ldV 65 (.pointer (some ⟨w.heap.size, 0, none⟩))).run Try.prog (grow (redrawn w5 d) os) = .ok (.agg x.cells) (grow (redrawn w5 d) os) := fun d os => run_ldN (hB4.beyond (below_regrown w5 d os))
  have l1 : ∀ d os, (ldV 65 (.pointer (some ⟨w3.heap.size, 0, none⟩))).run Try.prog (grow (redrawn w5 d) os) = .ok (.agg y.cells) (grow (redrawn w5 d) os) := fun d os => run_ldN (hY4.beyond (below_regrown w5 d os))
  have l2 : ∀ d os, (ldV 65 (.pointer (some ⟨w4.heap.size, 0, none⟩))).run Try.prog (grow (redrawn w5 d) os) = .ok (.agg y.cells) (grow (redrawn w5 d) os) := fun d os => run_ldN (hZ4.beyond (below_regrown w5 d os))
  clear hB4 hY4 hZ4 hld
  refine wp_region_quiet_below mixed (by kernel_rfl) ?_
  repeat (go_big_quiet_step (first | with_reducible exact m0 _ _ | with_reducible exact m1 _ _ | with_reducible exact m2 _ _ | with_reducible exact m3 _ _))
  refine wpQuiet_nil ?_
  intro _ hw'
  obtain ⟨⟨dq, osq⟩, hw''⟩ := hw'
  subst hw''
  have hb6 := below_regrown w5 dq osq
  go_wp2_with fail
  go_ret
  exact ⟨rfl, hW4.trans (hb6.mono hW4.size)⟩
end
theorem nodeAll_walk (x : Nd) (s : ByteArray) (hs : s.size ≤ 140737488351232) (w : World) :
    Calls Try.prog 14 #[.agg x.cells, .string s] w fun e w' => e = .returned (.bool true) ∧ Below w.heap.size w w' := by
  by_cases h : 1000 < s.size
  · exact nodeAll_long x s w h hs
  · exact nodeAll_short x s w (by omega)
end Go.Proofs.Ytmpkcehjmjopdaa
