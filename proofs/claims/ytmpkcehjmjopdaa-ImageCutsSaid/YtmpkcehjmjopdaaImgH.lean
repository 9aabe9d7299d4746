import Derived.Test.YtmpkcehjmjopdaaImgG
import Derived.Test.YtmpkcehjmjopdaaNodeA
import Derived.Test.YtmpkcehjmjopdaaSlotR
namespace Go.Proofs.Ytmpkcehjmjopdaa
open Go.RowKit Go.Sort

theorem run_ix87_0 (a b : Int) (w : World) : (Instr.index 87 (.agg #[.int .i64 a, .int .i64 b]) (.int .i64 0)).run Try.prog w = .ok (.int .i64 a) w := by
  have hp := part3 (xs := #[.int .i64 a, .int .i64 b]) (off := 0) rfl w
  have h0 : (0 : Int) ≤ 0 ∧ (0 : Int) < ((2 : Nat) : Int) := by decide
  simp only [Instr.index, asIntOf, Sem.run_bind, Sem.run_pure, run_underlying Try.underlying87, Result.andThen_ok, if_pos h0, size3, Nat.mul_one]
  exact hp
theorem run_ix87_1 (a b : Int) (w : World) : (Instr.index 87 (.agg #[.int .i64 a, .int .i64 b]) (.int .i64 1)).run Try.prog w = .ok (.int .i64 b) w := by
  have hp := part3 (xs := #[.int .i64 a, .int .i64 b]) (off := 1) rfl w
  have h0 : (0 : Int) ≤ 1 ∧ (1 : Int) < ((2 : Nat) : Int) := by decide
  simp only [Instr.index, asIntOf, Sem.run_bind, Sem.run_pure, run_underlying Try.underlying87, Result.andThen_ok, if_pos h0, size3, Nat.mul_one]
  exact hp

section
attribute [local go_sem ↓] ld37 st37
attribute [local go_sem] run_ix87_0 run_ix87_1
set_option maxRecDepth 100000 in
/-- a slot that may not be: nothing is done -/
theorem isave_bad (w : World) (g0 : Nat) (h g : Int) (x : Sl) (hno : x.ok h g = false) :
    Calls Try.prog 33 #[.pointer (some ⟨g0, 0, none⟩), .int .i64 h, .int .i64 g, .agg x.cells] w fun e w' => e = .returned (.bool false) ∧ Below w.heap.size w w' := by
  have hB : Blk (w.alloc (.cells x.cells 37)) w.heap.size 37 x.cells := Blk.new w 37 _
  have hW : Below w.heap.size w (w.alloc (.cells x.cells 37)) := (Below.refl _ w).alloc (Nat.le_refl _) _
  have hld := run_ldB hB
  go_enter Try.func33, Try.ntmps33
  go_wp2_with fail
  refine (slotput_any x h g _).mono ?_
  rintro e w1 ⟨ok, L, rfl, hko, hL1, hL0', hb1⟩
  have hko2 : Hid (ok = false) := hko.out.trans hno
  obtain rfl := hko2.out
  obtain rfl := hL0'.out rfl
  have hW1 := below2 hW hb1
  clear hko hL1 hL0' hb1 hld hB hW hko2
  go_wp2_with fail
  go_region
  all_goals
    go_wp2_with fail
    go_ret
    exact ⟨rfl, hW1.drew⟩

set_option maxRecDepth 100000 in
/-- no power: nothing is done -/
theorem isave_down {w : World} {B g gd : Nat} {wv : Value} {d : Dk} (H : DkAt w B g gd wv d) (h : Nat) (gen : Int) (x : Sl) (hd : d.down = true) :
    Calls Try.prog 33 #[.pointer (some ⟨g, 0, none⟩), .int .i64 h, .int .i64 gen, .agg x.cells] w fun e w' => e = .returned (.bool false) ∧ Below w.heap.size w w' := by
  have hB : Blk (w.alloc (.cells x.cells 37)) w.heap.size 37 x.cells := Blk.new w 37 _
  have hW : Below w.heap.size w (w.alloc (.cells x.cells 37)) := (Below.refl _ w).alloc (Nat.le_refl _) _
  have hld := run_ldB hB
  go_enter Try.func33, Try.ntmps33
  go_wp2_with fail
  refine (slotput_any x h gen _).mono ?_
  rintro e w1 ⟨ok, L, rfl, hko, hL1, hL0', hb1⟩
  have hW1 := below2 hW hb1
  have hH1 := H.beyond hW1
  clear hko hL1 hL0' hb1 hld hB hW
  cases ok with
  | false =>
    go_wp2_with fail
    go_region
    all_goals
      go_wp2_with fail
      go_ret
      exact ⟨rfl, hW1.drew⟩
  | true =>
    have m0 : ∀ d' os, Calls Try.prog 54 #[.pointer (some ⟨g, 0, none⟩), .int .i64 h] (grow (redrawn w1 d') os) fun e w'' => e = .returned (.bool false) ∧ ∃ p : Regrown, w'' = grow (redrawn w1 p.d) p.os := fun d' os =>
      (dflush_down (hH1.beyond (below_regrown w1 d' os)) h hd).mono fun _ _ ⟨a, b⟩ => ⟨a, ⟨⟨d', os⟩, b.symm⟩⟩
    go_upto_region 2 with (fail)
    refine wp_region_quiet_below mixed (by kernel_rfl) ?_
    repeat (go_big_quiet_step (first | with_reducible exact m0 _ _))
    refine wpQuiet_nil ?_
    intro _ hw'
    obtain ⟨⟨dq, osq⟩, hw''⟩ := hw'
    subst hw''
    have hb2 := below_regrown w1 dq osq
    go_wp2_with fail
    go_ret
    exact ⟨rfl, below2 hW1 hb2⟩

set_option maxRecDepth 100000 in
set_option maxHeartbeats 4000000 in
theorem isave_yes {w : World} {B g gd : Nat} {wv : Value} {d : Dk} (H : DkAt w B g gd wv d) (h i : Nat) (gen : Int) (x : Sl) (s : List UInt8) (hs : s.length = 256) (hsx : s = x.block h gen) (h1 : 1 ≤ h) (h2 : h ≤ 16) (hok : x.ok h gen = true) (hi : (i : Int) = 14 + 2 * h + x.num % 2)
    (hn : i < d.dur.length) (hw : d.ws = [] ∨ d.own = h) (hd : d.down = false) (hwr : d.writes < 800000) (hcut : cutDown d.cut ≠ 0) :
    Calls Try.prog 33 #[.pointer (some ⟨g, 0, none⟩), .int .i64 h, .int .i64 gen, .agg x.cells] w fun e w' => e = .returned (.bool true) ∧
      DkAt w' B g gd (.slice none 0 0) (((d.flushed h).write h i s hs).flushed h) ∧ DkTo w w' g gd wv (.slice none 0 0) := by
  have hnum : 1 ≤ x.num ∧ x.num ≤ 1099511627776 := by
    unfold Sl.ok at hok
    simp only [Bool.and_eq_true] at hok
    exact (Sl.chk_bounds hok.2).1
  have hB : Blk (w.alloc (.cells x.cells 37)) w.heap.size 37 x.cells := Blk.new w 37 _
  have hW : Below w.heap.size w (w.alloc (.cells x.cells 37)) := (Below.refl _ w).alloc (Nat.le_refl _) _
  have hld := run_ldB hB
  have hH0 := H.beyond hW
  have hL0 := H.loc 37 x.cells
  have hT0 : DkTo w (w.alloc (.cells x.cells 37)) g gd wv wv := .of_below hW
  have hand : bits .and .i64 x.num 1 = x.num % 2 := by
    have := bits_mask .i64 63 (by decide) (fun n h0 h1 => by rw [IntKind.wrap_i64]; omega) 1 (by decide) x.num (by omega) (by omega)
    simpa using this
  have hfd : (d.flushed h).down = false := hd
  have hfw : (d.flushed h).ws = [] := rfl
  have hfn : i < (d.flushed h).dur.length := by show i < (putAll d.dur d.ws).length; rw [putAll_length]; exact hn
  have hfr : (d.flushed h).writes < 900000 := by show d.writes < 900000; omega
  have hwd : ((d.flushed h).write h i s hs).down = false := by
    show decide (cutDown d.cut = 0) = false
    simpa using hcut
  have hwo : ((d.flushed h).write h i s hs).own = h := rfl
  have hx0 := cells_0 x
  go_enter Try.func33, Try.ntmps33
  go_wp2_with fail
  refine (slotput_any x h gen _).mono ?_
  rintro e w1 ⟨ok, L, rfl, hko, hL1, hL0', hb1⟩
  have hko2 : Hid (ok = true) := hko.out.trans hok
  obtain rfl := hko2.out
  obtain rfl : L = s := (hL1.out rfl).trans hsx.symm
  have hH1 := (hH0.beyond hb1).beyond (Below.refl _ _).drew
  have hLoc1 := (hL0.to (.of_below hb1)).to (.of_below (Below.refl _ _).drew)
  have hT1 := (hT0.trans (.of_below hb1)).trans (.of_below (Below.refl _ _).drew)
  have HW := Lib.hid hw
  have HCUT := Lib.hid hcut
  have HX := Lib.hid hx0
  have HOK := Lib.hid hok
  clear hko hL1 hL0' hb1 hH0 hL0 hT0 hld hB hW hko2 hsx hw hcut hx0 hok H
  obtain ⟨a, ha⟩ : ∃ a, a = 14 + 2 * h := ⟨_, rfl⟩
  obtain ⟨b, hb⟩ : ∃ b, b = 15 + 2 * h := ⟨_, rfl⟩
  have hab : (i = a ∧ bits .and .i64 x.num 1 = 0) ∨ (i = b ∧ bits .and .i64 x.num 1 = 1) := by
    rw [hand]
    omega
  have HA := Lib.hid ha
  have HB := Lib.hid hb
  clear ha hb hand hi
  rcases hab with ⟨rfl, hand⟩ | ⟨rfl, hand⟩
  all_goals
    go_wp2_with fail
    go_region_with (first
      | (go_at_call 54; (with_reducible refine (dflush hH1 h h2 HW.out hd).mono ?_); rintro e wa ⟨rfl, hA1, hT1a⟩; have hLa := hLoc1.to hT1a; have hTa := hT1.trans hT1a; have cx := (hLa.blk.cell 0).trans HX.out)
      | (go_at_call 64; (with_reducible refine (copies_any h _ _ _ h1 h2 HA.out HB.out).mono ?_); rintro e wb ⟨rfl, hbb⟩; have hA2 := hA1.beyond hbb; have hTb := hTa.trans (.of_below hbb); have hLb := hLa.to (.of_below hbb); have cy := (hLb.blk.cell 0).trans HX.out)
      | (go_at_call 36; (with_reducible refine (dwrite hA2 h _ h2 hfn _ hs (Or.inl hfw) hfd (by rw [hfw]; decide) hfr).mono ?_); rintro e wc ⟨rfl, wv3, hA3, hT3⟩; have hTc := hTb.trans hT3)
      | (go_at_call 54; (with_reducible refine (dflush hA3 h h2 (Or.inr hwo) hwd).mono ?_); rintro e wd ⟨rfl, hA4, hT4⟩; have hTd := hTc.trans hT4))
    all_goals
      go_wp2_with fail
      go_ret
      exact ⟨rfl, hA4, hTd⟩
end
end Go.Proofs.Ytmpkcehjmjopdaa
