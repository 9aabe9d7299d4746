import Derived.Test.YtmpkcehjmjopdaaImgK
namespace Go.Proofs.Ytmpkcehjmjopdaa
open Go.RowKit Go.Sort

section
attribute [local go_sem ↓] ld37 st37
attribute [local go_sem] run_ix87_0 run_ix87_1
set_option maxRecDepth 100000 in
set_option maxHeartbeats 4000000 in
/-- the power fails at the save's write -/
theorem isave_cut {w : World} {B g gd : Nat} {wv : Value} {d : Dk} (H : DkAt w B g gd wv d) (h i : Nat) (gen : Int) (x : Sl) (s : List UInt8) (hs : s.length = 256) (hsx : s = x.block h gen) (h1 : 1 ≤ h) (h2 : h ≤ 16) (hok : x.ok h gen = true) (hi : (i : Int) = 14 + 2 * h + x.num % 2)
    (hn : i < d.dur.length) (hw : d.ws = [] ∨ d.own = h) (hd : d.down = false) (hwr : d.writes < 800000) (hcut : cutDown d.cut = 0) :
    Calls Try.prog 33 #[.pointer (some ⟨g, 0, none⟩), .int .i64 h, .int .i64 gen, .agg x.cells] w fun e w' => e = .returned (.bool false) ∧
      ∃ wv', DkAt w' B g gd wv' ((d.flushed h).write h i s hs) ∧ DkTo w w' g gd wv wv' := by
  have hnum : 1 ≤ x.num ∧ x.num ≤ 1099511627776 := by
    unfold Sl.ok at hok
    simp only [Bool.and_eq_true] at hok
    exact (Sl.chk_bounds hok.2).1
  have hB : Blk (w.alloc (.cells x.cells 37)) w.heap.size 37 x.cells := Blk.new w 37 _
  have hW : Below w.heap.size w (w.alloc (.cells x.cells 37)) := (Below.refl _ w).alloc (Nat.le_refl _) _
  have hld := run_ldB hB
  have hH0 := H.beyond hW
  have hL0 := H.loc 37 x.cells
  have hT0 : DkTo w (w.alloc (.cells x.cells 37)) g gd wv wv := .of_below hW
  have hand : bits .and .i64 x.num 1 = x.num % 2 := by
    have := bits_mask .i64 63 (by decide) (fun n h0 h1 => by rw [IntKind.wrap_i64]; omega) 1 (by decide) x.num (by omega) (by omega)
    simpa using this
  have hfd : (d.flushed h).down = false := hd
  have hfw : (d.flushed h).ws = [] := rfl
  have hfn : i < (d.flushed h).dur.length := by show i < (putAll d.dur d.ws).length; rw [putAll_length]; exact hn
  have hfr : (d.flushed h).writes < 900000 := by show d.writes < 900000; omega
  have hwd : ((d.flushed h).write h i s hs).down = true := by
    show decide (cutDown d.cut = 0) = true
    simpa using hcut
  have hx0 := cells_0 x
  go_enter Try.func33, Try.ntmps33
  go_wp2_with fail
  refine (slotput_any x h gen _).mono ?_
  rintro e w1 ⟨ok, L, rfl, hko, hL1, hL0', hb1⟩
  have hko2 : Hid (ok = true) := hko.out.trans hok
  obtain rfl := hko2.out
  obtain rfl : L = s := (hL1.out rfl).trans hsx.symm
  have hH1 := (hH0.beyond hb1).beyond (Below.refl _ _).drew
  have hLoc1 := (hL0.to (.of_below hb1)).to (.of_below (Below.refl _ _).drew)
  have hT1 := (hT0.trans (.of_below hb1)).trans (.of_below (Below.refl _ _).drew)
  have HW := Lib.hid hw
  have HX := Lib.hid hx0
  clear hko hL1 hL0' hb1 hH0 hL0 hT0 hld hB hW hko2 hsx hw hcut hx0 hok H
  obtain ⟨a, ha⟩ : ∃ a, a = 14 + 2 * h := ⟨_, rfl⟩
  obtain ⟨b, hb⟩ : ∃ b, b = 15 + 2 * h := ⟨_, rfl⟩
  have hab : (i = a ∧ bits .and .i64 x.num 1 = 0) ∨ (i = b ∧ bits .and .i64 x.num 1 = 1) := by
    rw [hand]
    omega
  have HA := Lib.hid ha
  have HB := Lib.hid hb
  clear ha hb hand hi
  rcases hab with ⟨rfl, hand⟩ | ⟨rfl, hand⟩
  all_goals
    go_wp2_with fail
    go_region_with (first
      | (go_at_call 54; (with_reducible refine (dflush hH1 h h2 HW.out hd).mono ?_); rintro e wa ⟨rfl, hA1, hT1a⟩; have hLa := hLoc1.to hT1a; have hTa := hT1.trans hT1a; have cx := (hLa.blk.cell 0).trans HX.out)
      | (go_at_call 64; (with_reducible refine (copies_any h _ _ _ h1 h2 HA.out HB.out).mono ?_); rintro e wb ⟨rfl, hbb⟩; have hA2 := hA1.beyond hbb; have hTb := hTa.trans (.of_below hbb); have hLb := hLa.to (.of_below hbb); have cy := (hLb.blk.cell 0).trans HX.out)
      | (go_at_call 36; (with_reducible refine (dwrite hA2 h _ h2 hfn _ hs (Or.inl hfw) hfd (by rw [hfw]; decide) hfr).mono ?_); rintro e wc ⟨rfl, wv3, hA3, hT3⟩; have hTc := hTb.trans hT3)
      | (go_at_call 54; (with_reducible refine (dflush_down hA3 h hwd).mono ?_); rintro e wd ⟨rfl, rfl⟩))
    all_goals
      go_wp2_with fail
      go_ret
      exact ⟨rfl, wv3, hA3, hTc⟩
end

end Go.Proofs.Ytmpkcehjmjopdaa
