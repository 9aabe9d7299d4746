import Derived.Test.YtmpkcehjmjopdaaImgH
import Derived.Test.YtmpkcehjmjopdaaImgI
namespace Go.Proofs.Ytmpkcehjmjopdaa
open Go.RowKit Go.Sort

/-- a disk behind a save, where nothing waited -/
def Dk.saved (d : Dk) (h i : Nat) (s : List UInt8) : Dk := ⟨d.dur.set i s, h, [], d.writes + 1, cutDown d.cut, decide (cutDown d.cut = 0)⟩
theorem saved_eq {d : Dk} (h i : Nat) (s : List UInt8) (hs : s.length = 256) (hw : d.ws = []) : ((d.flushed h).write h i s hs).flushed h = d.saved h i s := by
  obtain ⟨dur, own, ws, writes, cut, down⟩ := d
  dsimp only at hw
  subst hw
  rfl
theorem Dk.rd_nil {d : Dk} (hw : d.ws = []) (j : Nat) : d.rd j = d.dur.getD j [] := by unfold Dk.rd; rw [hw]; rfl
theorem getD_set (dur : List (List UInt8)) (i j : Nat) (s : List UInt8) (hi : i < dur.length) : (dur.set i s).getD j [] = if i = j then s else dur.getD j [] := by
  simp only [List.getD, List.getElem?_set]
  by_cases h : i = j
  · subst h; simp [hi]
  · simp [h]
theorem slGot_zero' : slGot zeros256 = sayV none := slGot_z
theorem slGot_block' {x : Sl} {h g : Int} (hok : x.ok h g = true) : slGot (x.block h g) = sayV (some (h, g, x)) := slGot_block hok
theorem dkNew_get (n j : Nat) (hj : j < n) : (dkNew n).dur.getD j [] = zeros256 := by
  show (List.replicate n zeros256).getD j [] = zeros256
  simp [List.getD, hj]
theorem dkNew_len (n : Nat) : (dkNew n).dur.length = n := List.length_replicate

section
attribute [local go_sem ↓] ld37 st37
attribute [local go_sem] st_new
set_option maxRecDepth 100000 in
set_option maxHeartbeats 4000000 in
theorem iawake_any (w : World) : Calls Try.prog 38 #[] w fun e w' => e = .returned (.bool true) ∧ Below w.heap.size w w' := by
  have hsl := (mkSl 0 5).block_length 1 1
  have hok := mkSl_ok 0 5 1 1 (by decide) (by decide) (by decide) (by decide)
  have hnum : (mkSl 0 5).num = 1 := by decide
  have hgot := slGot_block' hok
  have HM : Hid (∀ w, Calls Try.prog 34 #[.int .i64 0, .int .i64 5] w fun e w' => e = .returned (.agg (mkSl 0 5).cells) ∧ Below w.heap.size w w') := fun w => made_any 0 5 w
  obtain ⟨s, hs⟩ : ∃ s, s = (mkSl 0 5).block 1 1 := ⟨_, rfl⟩
  rw [← hs] at hgot hsl
  generalize mkSl 0 5 = x at *
  go_enter Try.func38, Try.ntmps38
  go_wp2_with fail
  refine (dnew48 _).mono ?_
  rintro e w1 ⟨g, gd, rfl, hA1, hb1⟩
  go_wp2_with fail
  refine (inewest hA1 1 1 (by decide) (by decide) (by rw [dkNew_len]; decide) rfl none none (by rw [Dk.rd_nil rfl, dkNew_get 48 _ (by decide)]; exact slGot_zero') (by rw [Dk.rd_nil rfl, dkNew_get 48 _ (by decide)]; exact slGot_zero')).mono ?_
  rintro e w2 ⟨rfl, hb2⟩
  have e2 : nwUpto ((1 : Nat) : Int) 1 none none 2 = (slZero, false) := rfl
  rw [e2]
  have hA2 := (hA1.beyond hb2).beyond ((Below.refl _ _).alloc (Nat.le_refl _) (.cells slZero.cells 37))
  have hW2 := below3 hb1 hb2 ((Below.refl _ _).alloc (Nat.le_refl _) (.cells slZero.cells 37))
  clear hA1 hb1 hb2 e2
  go_wp2_with fail
  refine (HM.out _).mono ?_
  rintro e w3 ⟨rfl, hb3⟩
  have hA3 := hA2.beyond hb3
  have hW3 := below2 hW2 hb3
  clear hA2 hW2 hb3
  go_wp2_with fail
  refine (isave_yes hA3 1 17 1 x s hsl hs (by decide) (by decide) hok (by rw [hnum]; decide) (by rw [dkNew_len]; decide) (.inl rfl) rfl (by decide) (by decide)).mono ?_
  rintro e w4 ⟨rfl, hA4, hT4⟩
  have hW4 := hA3.below hT4 hW3
  rw [saved_eq _ _ _ hsl rfl] at hA4
  clear hA3 hT4 hW3
  go_wp2_with fail
  refine (inewest hA4 1 1 (by decide) (by decide) (by show 15 + 2 * 1 < (List.set _ _ _).length; rw [List.length_set, dkNew_len]; decide) rfl none (some (1, 1, x))
    (by rw [Dk.rd_nil rfl]; show slGot ((List.set _ _ _).getD _ _) = _; rw [getD_set _ _ _ _ (by rw [dkNew_len]; decide), if_neg (by decide), dkNew_get 48 _ (by decide)]; exact slGot_zero')
    (by rw [Dk.rd_nil rfl]; show slGot ((List.set _ _ _).getD _ _) = _; rw [getD_set _ _ _ _ (by rw [dkNew_len]; decide), if_pos rfl]; exact hgot)).mono ?_
  rintro e w5 ⟨rfl, hb5⟩
  have e5 : nwUpto ((1 : Nat) : Int) 1 none (some (1, 1, x)) 2 = (x, true) := rfl
  rw [e5]
  clear e5
  have hA5 := (hA4.beyond hb5).beyond ((Below.refl _ _).alloc (Nat.le_refl _) (.cells x.cells 37))
  have hW5 := below3 hW4 hb5 ((Below.refl _ _).alloc (Nat.le_refl _) (.cells x.cells 37))
  have hX5 := Blk.new w5 37 x.cells
  clear hA4 hW4 hb5
  go_upto_region 5 with (fail)
  generalize w5.alloc (.cells x.cells 37) = w6 at *
  have m0 : ∀ d os, Calls Try.prog 34 #[.int .i64 0, .int .i64 5] (grow (redrawn w6 d) os) fun e w'' => e = .returned (.agg x.cells) ∧ ∃ p : Regrown, w'' = grow (redrawn w6 p.d) p.os := fun d os => Calls.regrown_of (HM.out _)
  have m1 : ∀ d os, Calls Try.prog 31 #[.agg x.cells, .agg x.cells] (grow (redrawn w6 d) os) fun e w'' => e = .returned (.bool true) ∧ ∃ p : Regrown, w'' = grow (redrawn w6 p.d) p.os := fun d os => Calls.regrown_of (same_yes _ _)
  have m2 : ∀ d' os, Calls Try.prog 67 #[.pointer (some ⟨g, 0, none⟩), .int .i64 1] (grow (redrawn w6 d') os) fun e w'' => e = .returned (.int .i64 0) ∧ ∃ p : Regrown, w'' = grow (redrawn w6 p.d) p.os := fun d' os =>
    (dwaits (hA5.beyond (below_regrown w6 d' os)) 1 (by decide) rfl).mono fun _ _ ⟨a, b⟩ => ⟨a, ⟨⟨d', os⟩, b.symm⟩⟩
  have l0 : ∀ d os, (ldV 37 (.pointer (some ⟨w5.heap.size, 0, none⟩))).run Try.prog (grow (redrawn w6 d) os) = .ok (.agg x.cells) (grow (redrawn w6 d) os) := fun d os => run_ldB (hX5.beyond (below_regrown w6 d os))
  clear hA5 hX5
  refine wp_region_quiet_below mixed (by kernel_rfl) ?_
  repeat (go_big_quiet_step (first | with_reducible exact m0 _ _ | with_reducible exact m1 _ _ | with_reducible exact m2 _ _))
  refine wpQuiet_nil ?_
  intro _ hw'
  obtain ⟨⟨dq, osq⟩, hw''⟩ := hw'
  subst hw''
  have hb6 := below_regrown w6 dq osq
  go_wp2_with fail
  go_ret
  exact ⟨rfl, below2 hW5 hb6⟩
end
end Go.Proofs.Ytmpkcehjmjopdaa
