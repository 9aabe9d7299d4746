import Derived.Test.YtmpkcehjmjopdaaSlotD

namespace Go.Proofs.Ytmpkcehjmjopdaa
open Go.RowKit
def apSl : Sl := (Sl.mk 1 1 0 0 0 0 1 0 0 0 0 0 0)
theorem block_inj {x y : Sl} {h h' g g' : Int} (hx : x.ok h g = true) (hy : y.ok h' g' = true) (he : x.block h g = y.block h' g') : x = y ∧ h = h' := by
  obtain ⟨a1, a2, _⟩ := slot_back hx
  obtain ⟨b1, b2, _⟩ := slot_back hy
  rw [he] at a1 a2
  exact ⟨a1.symm.trans b1, a2.symm.trans b2⟩
theorem run_st_ap (w : World) : (stV 37 (.pointer (some ⟨w.heap.size, 0, none⟩)) (.agg #[.int .i64 1, .int .i64 1, .int .i64 0, .int .i64 0, .int .i64 0, .int .i64 0, .int .i64 1, .int .i64 0, .int .i64 0, .int .i64 0, .int .i64 0, .int .i64 0, .int .i64 0])).run Try.prog (w.alloc (.cells #[.int .i64 0, .int .i64 0, .int .i64 0, .int .i64 0, .int .i64 0, .int .i64 0, .int .i64 0, .int .i64 0, .int .i64 0, .int .i64 0, .int .i64 0, .int .i64 0, .int .i64 0] 37)) = .ok () (w.alloc (.cells apSl.cells 37)) := st_new w apSl
section
attribute [local go_sem ↓] ld37 st37
attribute [local go_sem] st_new run_st_ap

set_option maxRecDepth 100000 in
set_option maxHeartbeats 8000000 in
theorem slotApart_walk (how v v' : Int) (w : World) :
    Calls Try.prog 10 #[.int .i64 how, .int .i64 v, .int .i64 v'] w fun e w' => e = .returned (.bool true) ∧ Below w.heap.size w w' := by
  have hB : Blk (w.alloc (.cells apSl.cells 37)) w.heap.size 37 apSl.cells := Blk.new w 37 _
  have hW : Below w.heap.size w (w.alloc (.cells apSl.cells 37)) := (Below.refl _ w).alloc (Nat.le_refl _) _
  have hB2 := hB.alloc (.cells apSl.cells 37)
  have hW2 := hW.alloc hW.size (.cells apSl.cells 37)
  have hC2 := Blk.new (w.alloc (.cells apSl.cells 37)) 37 apSl.cells
  rw [World.size_alloc] at hC2
  have hld := run_ldB hB
  have hst := st_new (w.alloc (.cells apSl.cells 37)) apSl
  rw [World.size_alloc] at hst
  go_enter Try.func10, Try.ntmps10
  go_wp2_with fail
  refine (place_any v 16 _ (by omega) (by omega)).mono ?_
  rintro e w1 ⟨rfl, rfl⟩
  have p0 := plc_nonneg v (n := 16) (by omega)
  have p1 := plc_lt v (n := 16) (by omega)
  generalize plc v 16 = a at *
  go_wp2_with fail
  refine (place_any v' 16 _ (by omega) (by omega)).mono ?_
  rintro e w1 ⟨rfl, rfl⟩
  have p2 := plc_nonneg v' (n := 16) (by omega)
  have p3 := plc_lt v' (n := 16) (by omega)
  generalize plc v' 16 = b at *
  go_wp2_with fail
  clear hld hst
  refine (place_any how 9 _ (by omega) (by omega)).mono ?_
  rintro e wq ⟨rfl, rfl⟩
  have q0 := plc_nonneg how (n := 9) (by omega)
  have q1 := plc_lt how (n := 9) (by omega)
  generalize plc how 9 = q at *
  have hbl : w.heap.size < w.heap.size + 1 := by omega
  generalize w.heap.size + 1 = b1 at *
  generalize hv3 : (w.alloc (.cells apSl.cells 37)).alloc (.cells apSl.cells 37) = v3 at *
  clear hv3 hB hW
  obtain rfl | rfl | rfl | rfl | rfl | rfl | rfl | rfl | rfl : q = 0 ∨ q = 1 ∨ q = 2 ∨ q = 3 ∨ q = 4 ∨ q = 5 ∨ q = 6 ∨ q = 7 ∨ q = 8 := by omega
  · have hx : Blk ((v3.setCell ⟨w.heap.size, 0, none⟩ (.int .i64 (1 + a))).setCell ⟨b1, 0, none⟩ (.int .i64 (1 + b))) w.heap.size 37 (Sl.mk (1 + a) 1 0 0 0 0 1 0 0 0 0 0 0).cells := (hB2.set_ 0 (.int .i64 (1 + a))).far (p := ⟨b1, 0, none⟩) (by show w.heap.size ≠ b1; omega) _
    have hy : Blk ((v3.setCell ⟨w.heap.size, 0, none⟩ (.int .i64 (1 + a))).setCell ⟨b1, 0, none⟩ (.int .i64 (1 + b))) b1 37 (Sl.mk (1 + b) 1 0 0 0 0 1 0 0 0 0 0 0).cells := (hC2.far (p := ⟨w.heap.size, 0, none⟩) (by show b1 ≠ w.heap.size; omega) (.int .i64 (1 + a))).set_ 0 (.int .i64 (1 + b))
    have ok1 : (Sl.mk (1 + a) 1 0 0 0 0 1 0 0 0 0 0 0).ok 1 5 = true := by simp [Sl.ok, Sl.chk, Sl.chkA, Sl.maps, inb]; try omega
    have ok2 : (Sl.mk (1 + b) 1 0 0 0 0 1 0 0 0 0 0 0).ok 1 5 = true := by simp [Sl.ok, Sl.chk, Sl.chkA, Sl.maps, inb]; try omega
    have hW4 := (hW2.setCell (p := ⟨w.heap.size, 0, none⟩) (Nat.le_refl _) (.int .i64 (1 + a))).setCell (p := ⟨b1, 0, none⟩) (by show w.heap.size ≤ b1; omega) (.int .i64 (1 + b))
    have c0 : v3.cell? ⟨w.heap.size, 0, none⟩ = some (.int .i64 1) := hB2.cell 0
    have f0 := hB2.frozen 0
    have c1 : v3.cell? ⟨b1, 0, none⟩ = some (.int .i64 1) := hC2.cell 0
    have f1 := hC2.frozen 0
    have hld1 := run_ldB hx
    clear q0 q1
    go_wp2_with fail
    refine (slotput_any (Sl.mk (1 + a) 1 0 0 0 0 1 0 0 0 0 0 0) 1 5 _).mono ?_
    rintro e w5 ⟨ok, L5, rfl, hok, hL1, hL0, hb5⟩
    have hok2 : Hid (ok = true) := hok.out.trans ok1
    obtain rfl := hok2.out
    have hLa : Hid (L5 = (Sl.mk (1 + a) 1 0 0 0 0 1 0 0 0 0 0 0).block 1 5) := hL1.out rfl
    clear hok hL1 hL0 hok2 hld1
    have hW5 := hW4.trans (hb5.mono hW4.size)
    have hld2 := run_ldB (hy.beyond hb5)
    clear hb5 hW4
    go_wp2_with fail
    refine (slotput_any (Sl.mk (1 + b) 1 0 0 0 0 1 0 0 0 0 0 0) 1 5 _).mono ?_
    rintro e w6 ⟨ok, L6, rfl, hok, hL1, hL0, hb6⟩
    have hok2 : Hid (ok = true) := hok.out.trans ok2
    obtain rfl := hok2.out
    have hLb : Hid (L6 = (Sl.mk (1 + b) 1 0 0 0 0 1 0 0 0 0 0 0).block 1 5) := hL1.out rfl
    clear hok hL1 hL0 hok2 hld2
    have hW6 := hW5.trans (hb6.mono hW5.size)
    clear hb6 hW5 hx hy
    by_cases hab : a = b
    · subst hab
      have hLL : (L5 == L6) = true := by rw [hLa.out, hLb.out]; simp
      clear hLa hLb
      go_wp2_with fail
      refine (slotawake_any _).mono ?_
      rintro e wz ⟨rfl, hbz⟩
      go_wp2_with fail
      go_ret
      exact ⟨rfl, below2 hW6 hbz⟩
    · have hLL : (L5 == L6) = false := by
        rw [beq_eq_false_iff_ne, hLa.out, hLb.out]
        intro he
        have := block_inj ok1 ok2 he
        simp only [Sl.mk.injEq] at this
        omega
      have hne : ((1 + a) == (1 + b)) = false := by rw [beq_eq_false_iff_ne]; omega
      clear hLa hLb hab
      go_wp2_with fail
      refine (slotawake_any _).mono ?_
      rintro e wz ⟨rfl, hbz⟩
      go_wp2_with fail
      go_ret
      exact ⟨rfl, below2 hW6 hbz⟩
  · have hx : Blk ((v3.setCell ⟨w.heap.size, 1, none⟩ (.int .i64 (1 + a))).setCell ⟨b1, 1, none⟩ (.int .i64 (1 + b))) w.heap.size 37 (Sl.mk 1 (1 + a) 0 0 0 0 1 0 0 0 0 0 0).cells := (hB2.set_ 1 (.int .i64 (1 + a))).far (p := ⟨b1, 1, none⟩) (by show w.heap.size ≠ b1; omega) _
    have hy : Blk ((v3.setCell ⟨w.heap.size, 1, none⟩ (.int .i64 (1 + a))).setCell ⟨b1, 1, none⟩ (.int .i64 (1 + b))) b1 37 (Sl.mk 1 (1 + b) 0 0 0 0 1 0 0 0 0 0 0).cells := (hC2.far (p := ⟨w.heap.size, 1, none⟩) (by show b1 ≠ w.heap.size; omega) (.int .i64 (1 + a))).set_ 1 (.int .i64 (1 + b))
    have ok1 : (Sl.mk 1 (1 + a) 0 0 0 0 1 0 0 0 0 0 0).ok 1 5 = true := by simp [Sl.ok, Sl.chk, Sl.chkA, Sl.maps, inb]; try omega
    have ok2 : (Sl.mk 1 (1 + b) 0 0 0 0 1 0 0 0 0 0 0).ok 1 5 = true := by simp [Sl.ok, Sl.chk, Sl.chkA, Sl.maps, inb]; try omega
    have hW4 := (hW2.setCell (p := ⟨w.heap.size, 1, none⟩) (Nat.le_refl _) (.int .i64 (1 + a))).setCell (p := ⟨b1, 1, none⟩) (by show w.heap.size ≤ b1; omega) (.int .i64 (1 + b))
    have c0 : v3.cell? ⟨w.heap.size, 1, none⟩ = some (.int .i64 1) := hB2.cell 1
    have f0 := hB2.frozen 1
    have c1 : v3.cell? ⟨b1, 1, none⟩ = some (.int .i64 1) := hC2.cell 1
    have f1 := hC2.frozen 1
    have hld1 := run_ldB hx
    clear q0 q1
    go_wp2_with fail
    refine (slotput_any (Sl.mk 1 (1 + a) 0 0 0 0 1 0 0 0 0 0 0) 1 5 _).mono ?_
    rintro e w5 ⟨ok, L5, rfl, hok, hL1, hL0, hb5⟩
    have hok2 : Hid (ok = true) := hok.out.trans ok1
    obtain rfl := hok2.out
    have hLa : Hid (L5 = (Sl.mk 1 (1 + a) 0 0 0 0 1 0 0 0 0 0 0).block 1 5) := hL1.out rfl
    clear hok hL1 hL0 hok2 hld1
    have hW5 := hW4.trans (hb5.mono hW4.size)
    have hld2 := run_ldB (hy.beyond hb5)
    clear hb5 hW4
    go_wp2_with fail
    refine (slotput_any (Sl.mk 1 (1 + b) 0 0 0 0 1 0 0 0 0 0 0) 1 5 _).mono ?_
    rintro e w6 ⟨ok, L6, rfl, hok, hL1, hL0, hb6⟩
    have hok2 : Hid (ok = true) := hok.out.trans ok2
    obtain rfl := hok2.out
    have hLb : Hid (L6 = (Sl.mk 1 (1 + b) 0 0 0 0 1 0 0 0 0 0 0).block 1 5) := hL1.out rfl
    clear hok hL1 hL0 hok2 hld2
    have hW6 := hW5.trans (hb6.mono hW5.size)
    clear hb6 hW5 hx hy
    by_cases hab : a = b
    · subst hab
      have hLL : (L5 == L6) = true := by rw [hLa.out, hLb.out]; simp
      clear hLa hLb
      go_wp2_with fail
      refine (slotawake_any _).mono ?_
      rintro e wz ⟨rfl, hbz⟩
      go_wp2_with fail
      go_ret
      exact ⟨rfl, below2 hW6 hbz⟩
    · have hLL : (L5 == L6) = false := by
        rw [beq_eq_false_iff_ne, hLa.out, hLb.out]
        intro he
        have := block_inj ok1 ok2 he
        simp only [Sl.mk.injEq] at this
        omega
      have hne : ((1 + a) == (1 + b)) = false := by rw [beq_eq_false_iff_ne]; omega
      clear hLa hLb hab
      go_wp2_with fail
      refine (slotawake_any _).mono ?_
      rintro e wz ⟨rfl, hbz⟩
      go_wp2_with fail
      go_ret
      exact ⟨rfl, below2 hW6 hbz⟩
  · have hx : Blk ((v3.setCell ⟨w.heap.size, 2, none⟩ (.int .i64 (1 + a))).setCell ⟨b1, 2, none⟩ (.int .i64 (1 + b))) w.heap.size 37 (Sl.mk 1 1 (1 + a) 0 0 0 1 0 0 0 0 0 0).cells := (hB2.set_ 2 (.int .i64 (1 + a))).far (p := ⟨b1, 2, none⟩) (by show w.heap.size ≠ b1; omega) _
    have hy : Blk ((v3.setCell ⟨w.heap.size, 2, none⟩ (.int .i64 (1 + a))).setCell ⟨b1, 2, none⟩ (.int .i64 (1 + b))) b1 37 (Sl.mk 1 1 (1 + b) 0 0 0 1 0 0 0 0 0 0).cells := (hC2.far (p := ⟨w.heap.size, 2, none⟩) (by show b1 ≠ w.heap.size; omega) (.int .i64 (1 + a))).set_ 2 (.int .i64 (1 + b))
    have ok1 : (Sl.mk 1 1 (1 + a) 0 0 0 1 0 0 0 0 0 0).ok 1 5 = true := by simp [Sl.ok, Sl.chk, Sl.chkA, Sl.maps, inb]; try omega
    have ok2 : (Sl.mk 1 1 (1 + b) 0 0 0 1 0 0 0 0 0 0).ok 1 5 = true := by simp [Sl.ok, Sl.chk, Sl.chkA, Sl.maps, inb]; try omega
    have hW4 := (hW2.setCell (p := ⟨w.heap.size, 2, none⟩) (Nat.le_refl _) (.int .i64 (1 + a))).setCell (p := ⟨b1, 2, none⟩) (by show w.heap.size ≤ b1; omega) (.int .i64 (1 + b))
    have c0 : v3.cell? ⟨w.heap.size, 2, none⟩ = some (.int .i64 0) := hB2.cell 2
    have f0 := hB2.frozen 2
    have c1 : v3.cell? ⟨b1, 2, none⟩ = some (.int .i64 0) := hC2.cell 2
    have f1 := hC2.frozen 2
    have hld1 := run_ldB hx
    clear q0 q1
    go_wp2_with fail
    refine (slotput_any (Sl.mk 1 1 (1 + a) 0 0 0 1 0 0 0 0 0 0) 1 5 _).mono ?_
    rintro e w5 ⟨ok, L5, rfl, hok, hL1, hL0, hb5⟩
    have hok2 : Hid (ok = true) := hok.out.trans ok1
    obtain rfl := hok2.out
    have hLa : Hid (L5 = (Sl.mk 1 1 (1 + a) 0 0 0 1 0 0 0 0 0 0).block 1 5) := hL1.out rfl
    clear hok hL1 hL0 hok2 hld1
    have hW5 := hW4.trans (hb5.mono hW4.size)
    have hld2 := run_ldB (hy.beyond hb5)
    clear hb5 hW4
    go_wp2_with fail
    refine (slotput_any (Sl.mk 1 1 (1 + b) 0 0 0 1 0 0 0 0 0 0) 1 5 _).mono ?_
    rintro e w6 ⟨ok, L6, rfl, hok, hL1, hL0, hb6⟩
    have hok2 : Hid (ok = true) := hok.out.trans ok2
    obtain rfl := hok2.out
    have hLb : Hid (L6 = (Sl.mk 1 1 (1 + b) 0 0 0 1 0 0 0 0 0 0).block 1 5) := hL1.out rfl
    clear hok hL1 hL0 hok2 hld2
    have hW6 := hW5.trans (hb6.mono hW5.size)
    clear hb6 hW5 hx hy
    by_cases hab : a = b
    · subst hab
      have hLL : (L5 == L6) = true := by rw [hLa.out, hLb.out]; simp
      clear hLa hLb
      go_wp2_with fail
      refine (slotawake_any _).mono ?_
      rintro e wz ⟨rfl, hbz⟩
      go_wp2_with fail
      go_ret
      exact ⟨rfl, below2 hW6 hbz⟩
    · have hLL : (L5 == L6) = false := by
        rw [beq_eq_false_iff_ne, hLa.out, hLb.out]
        intro he
        have := block_inj ok1 ok2 he
        simp only [Sl.mk.injEq] at this
        omega
      have hne : ((1 + a) == (1 + b)) = false := by rw [beq_eq_false_iff_ne]; omega
      clear hLa hLb hab
      go_wp2_with fail
      refine (slotawake_any _).mono ?_
      rintro e wz ⟨rfl, hbz⟩
      go_wp2_with fail
      go_ret
      exact ⟨rfl, below2 hW6 hbz⟩
  · have hx : Blk ((v3.setCell ⟨w.heap.size, 3, none⟩ (.int .i64 (1 + a))).setCell ⟨b1, 3, none⟩ (.int .i64 (1 + b))) w.heap.size 37 (Sl.mk 1 1 0 (1 + a) 0 0 1 0 0 0 0 0 0).cells := (hB2.set_ 3 (.int .i64 (1 + a))).far (p := ⟨b1, 3, none⟩) (by show w.heap.size ≠ b1; omega) _
    have hy : Blk ((v3.setCell ⟨w.heap.size, 3, none⟩ (.int .i64 (1 + a))).setCell ⟨b1, 3, none⟩ (.int .i64 (1 + b))) b1 37 (Sl.mk 1 1 0 (1 + b) 0 0 1 0 0 0 0 0 0).cells := (hC2.far (p := ⟨w.heap.size, 3, none⟩) (by show b1 ≠ w.heap.size; omega) (.int .i64 (1 + a))).set_ 3 (.int .i64 (1 + b))
    have ok1 : (Sl.mk 1 1 0 (1 + a) 0 0 1 0 0 0 0 0 0).ok 1 5 = true := by simp [Sl.ok, Sl.chk, Sl.chkA, Sl.maps, inb]; try omega
    have ok2 : (Sl.mk 1 1 0 (1 + b) 0 0 1 0 0 0 0 0 0).ok 1 5 = true := by simp [Sl.ok, Sl.chk, Sl.chkA, Sl.maps, inb]; try omega
    have hW4 := (hW2.setCell (p := ⟨w.heap.size, 3, none⟩) (Nat.le_refl _) (.int .i64 (1 + a))).setCell (p := ⟨b1, 3, none⟩) (by show w.heap.size ≤ b1; omega) (.int .i64 (1 + b))
    have c0 : v3.cell? ⟨w.heap.size, 3, none⟩ = some (.int .i64 0) := hB2.cell 3
    have f0 := hB2.frozen 3
    have c1 : v3.cell? ⟨b1, 3, none⟩ = some (.int .i64 0) := hC2.cell 3
    have f1 := hC2.frozen 3
    have hld1 := run_ldB hx
    clear q0 q1
    go_wp2_with fail
    refine (slotput_any (Sl.mk 1 1 0 (1 + a) 0 0 1 0 0 0 0 0 0) 1 5 _).mono ?_
    rintro e w5 ⟨ok, L5, rfl, hok, hL1, hL0, hb5⟩
    have hok2 : Hid (ok = true) := hok.out.trans ok1
    obtain rfl := hok2.out
    have hLa : Hid (L5 = (Sl.mk 1 1 0 (1 + a) 0 0 1 0 0 0 0 0 0).block 1 5) := hL1.out rfl
    clear hok hL1 hL0 hok2 hld1
    have hW5 := hW4.trans (hb5.mono hW4.size)
    have hld2 := run_ldB (hy.beyond hb5)
    clear hb5 hW4
    go_wp2_with fail
    refine (slotput_any (Sl.mk 1 1 0 (1 + b) 0 0 1 0 0 0 0 0 0) 1 5 _).mono ?_
    rintro e w6 ⟨ok, L6, rfl, hok, hL1, hL0, hb6⟩
    have hok2 : Hid (ok = true) := hok.out.trans ok2
    obtain rfl := hok2.out
    have hLb : Hid (L6 = (Sl.mk 1 1 0 (1 + b) 0 0 1 0 0 0 0 0 0).block 1 5) := hL1.out rfl
    clear hok hL1 hL0 hok2 hld2
    have hW6 := hW5.trans (hb6.mono hW5.size)
    clear hb6 hW5 hx hy
    by_cases hab : a = b
    · subst hab
      have hLL : (L5 == L6) = true := by rw [hLa.out, hLb.out]; simp
      clear hLa hLb
      go_wp2_with fail
      refine (slotawake_any _).mono ?_
      rintro e wz ⟨rfl, hbz⟩
      go_wp2_with fail
      go_ret
      exact ⟨rfl, below2 hW6 hbz⟩
    · have hLL : (L5 == L6) = false := by
        rw [beq_eq_false_iff_ne, hLa.out, hLb.out]
        intro he
        have := block_inj ok1 ok2 he
        simp only [Sl.mk.injEq] at this
        omega
      have hne : ((1 + a) == (1 + b)) = false := by rw [beq_eq_false_iff_ne]; omega
      clear hLa hLb hab
      go_wp2_with fail
      refine (slotawake_any _).mono ?_
      rintro e wz ⟨rfl, hbz⟩
      go_wp2_with fail
      go_ret
      exact ⟨rfl, below2 hW6 hbz⟩
  · have hx : Blk ((v3.setCell ⟨w.heap.size, 4, none⟩ (.int .i64 (1 + a))).setCell ⟨b1, 4, none⟩ (.int .i64 (1 + b))) w.heap.size 37 (Sl.mk 1 1 0 0 (1 + a) 0 1 0 0 0 0 0 0).cells := (hB2.set_ 4 (.int .i64 (1 + a))).far (p := ⟨b1, 4, none⟩) (by show w.heap.size ≠ b1; omega) _
    have hy : Blk ((v3.setCell ⟨w.heap.size, 4, none⟩ (.int .i64 (1 + a))).setCell ⟨b1, 4, none⟩ (.int .i64 (1 + b))) b1 37 (Sl.mk 1 1 0 0 (1 + b) 0 1 0 0 0 0 0 0).cells := (hC2.far (p := ⟨w.heap.size, 4, none⟩) (by show b1 ≠ w.heap.size; omega) (.int .i64 (1 + a))).set_ 4 (.int .i64 (1 + b))
    have ok1 : (Sl.mk 1 1 0 0 (1 + a) 0 1 0 0 0 0 0 0).ok 1 5 = true := by simp [Sl.ok, Sl.chk, Sl.chkA, Sl.maps, inb]; try omega
    have ok2 : (Sl.mk 1 1 0 0 (1 + b) 0 1 0 0 0 0 0 0).ok 1 5 = true := by simp [Sl.ok, Sl.chk, Sl.chkA, Sl.maps, inb]; try omega
    have hW4 := (hW2.setCell (p := ⟨w.heap.size, 4, none⟩) (Nat.le_refl _) (.int .i64 (1 + a))).setCell (p := ⟨b1, 4, none⟩) (by show w.heap.size ≤ b1; omega) (.int .i64 (1 + b))
    have c0 : v3.cell? ⟨w.heap.size, 4, none⟩ = some (.int .i64 0) := hB2.cell 4
    have f0 := hB2.frozen 4
    have c1 : v3.cell? ⟨b1, 4, none⟩ = some (.int .i64 0) := hC2.cell 4
    have f1 := hC2.frozen 4
    have hld1 := run_ldB hx
    clear q0 q1
    go_wp2_with fail
    refine (slotput_any (Sl.mk 1 1 0 0 (1 + a) 0 1 0 0 0 0 0 0) 1 5 _).mono ?_
    rintro e w5 ⟨ok, L5, rfl, hok, hL1, hL0, hb5⟩
    have hok2 : Hid (ok = true) := hok.out.trans ok1
    obtain rfl := hok2.out
    have hLa : Hid (L5 = (Sl.mk 1 1 0 0 (1 + a) 0 1 0 0 0 0 0 0).block 1 5) := hL1.out rfl
    clear hok hL1 hL0 hok2 hld1
    have hW5 := hW4.trans (hb5.mono hW4.size)
    have hld2 := run_ldB (hy.beyond hb5)
    clear hb5 hW4
    go_wp2_with fail
    refine (slotput_any (Sl.mk 1 1 0 0 (1 + b) 0 1 0 0 0 0 0 0) 1 5 _).mono ?_
    rintro e w6 ⟨ok, L6, rfl, hok, hL1, hL0, hb6⟩
    have hok2 : Hid (ok = true) := hok.out.trans ok2
    obtain rfl := hok2.out
    have hLb : Hid (L6 = (Sl.mk 1 1 0 0 (1 + b) 0 1 0 0 0 0 0 0).block 1 5) := hL1.out rfl
    clear hok hL1 hL0 hok2 hld2
    have hW6 := hW5.trans (hb6.mono hW5.size)
    clear hb6 hW5 hx hy
    by_cases hab : a = b
    · subst hab
      have hLL : (L5 == L6) = true := by rw [hLa.out, hLb.out]; simp
      clear hLa hLb
      go_wp2_with fail
      refine (slotawake_any _).mono ?_
      rintro e wz ⟨rfl, hbz⟩
      go_wp2_with fail
      go_ret
      exact ⟨rfl, below2 hW6 hbz⟩
    · have hLL : (L5 == L6) = false := by
        rw [beq_eq_false_iff_ne, hLa.out, hLb.out]
        intro he
        have := block_inj ok1 ok2 he
        simp only [Sl.mk.injEq] at this
        omega
      have hne : ((1 + a) == (1 + b)) = false := by rw [beq_eq_false_iff_ne]; omega
      clear hLa hLb hab
      go_wp2_with fail
      refine (slotawake_any _).mono ?_
      rintro e wz ⟨rfl, hbz⟩
      go_wp2_with fail
      go_ret
      exact ⟨rfl, below2 hW6 hbz⟩
  · have hx : Blk ((v3.setCell ⟨w.heap.size, 5, none⟩ (.int .i64 (1 + a))).setCell ⟨b1, 5, none⟩ (.int .i64 (1 + b))) w.heap.size 37 (Sl.mk 1 1 0 0 0 (1 + a) 1 0 0 0 0 0 0).cells := (hB2.set_ 5 (.int .i64 (1 + a))).far (p := ⟨b1, 5, none⟩) (by show w.heap.size ≠ b1; omega) _
    have hy : Blk ((v3.setCell ⟨w.heap.size, 5, none⟩ (.int .i64 (1 + a))).setCell ⟨b1, 5, none⟩ (.int .i64 (1 + b))) b1 37 (Sl.mk 1 1 0 0 0 (1 + b) 1 0 0 0 0 0 0).cells := (hC2.far (p := ⟨w.heap.size, 5, none⟩) (by show b1 ≠ w.heap.size; omega) (.int .i64 (1 + a))).set_ 5 (.int .i64 (1 + b))
    have ok1 : (Sl.mk 1 1 0 0 0 (1 + a) 1 0 0 0 0 0 0).ok 1 5 = true := by simp [Sl.ok, Sl.chk, Sl.chkA, Sl.maps, inb]; try omega
    have ok2 : (Sl.mk 1 1 0 0 0 (1 + b) 1 0 0 0 0 0 0).ok 1 5 = true := by simp [Sl.ok, Sl.chk, Sl.chkA, Sl.maps, inb]; try omega
    have hW4 := (hW2.setCell (p := ⟨w.heap.size, 5, none⟩) (Nat.le_refl _) (.int .i64 (1 + a))).setCell (p := ⟨b1, 5, none⟩) (by show w.heap.size ≤ b1; omega) (.int .i64 (1 + b))
    have c0 : v3.cell? ⟨w.heap.size, 5, none⟩ = some (.int .i64 0) := hB2.cell 5
    have f0 := hB2.frozen 5
    have c1 : v3.cell? ⟨b1, 5, none⟩ = some (.int .i64 0) := hC2.cell 5
    have f1 := hC2.frozen 5
    have hld1 := run_ldB hx
    clear q0 q1
    go_wp2_with fail
    refine (slotput_any (Sl.mk 1 1 0 0 0 (1 + a) 1 0 0 0 0 0 0) 1 5 _).mono ?_
    rintro e w5 ⟨ok, L5, rfl, hok, hL1, hL0, hb5⟩
    have hok2 : Hid (ok = true) := hok.out.trans ok1
    obtain rfl := hok2.out
    have hLa : Hid (L5 = (Sl.mk 1 1 0 0 0 (1 + a) 1 0 0 0 0 0 0).block 1 5) := hL1.out rfl
    clear hok hL1 hL0 hok2 hld1
    have hW5 := hW4.trans (hb5.mono hW4.size)
    have hld2 := run_ldB (hy.beyond hb5)
    clear hb5 hW4
    go_wp2_with fail
    refine (slotput_any (Sl.mk 1 1 0 0 0 (1 + b) 1 0 0 0 0 0 0) 1 5 _).mono ?_
    rintro e w6 ⟨ok, L6, rfl, hok, hL1, hL0, hb6⟩
    have hok2 : Hid (ok = true) := hok.out.trans ok2
    obtain rfl := hok2.out
    have hLb : Hid (L6 = (Sl.mk 1 1 0 0 0 (1 + b) 1 0 0 0 0 0 0).block 1 5) := hL1.out rfl
    clear hok hL1 hL0 hok2 hld2
    have hW6 := hW5.trans (hb6.mono hW5.size)
    clear hb6 hW5 hx hy
    by_cases hab : a = b
    · subst hab
      have hLL : (L5 == L6) = true := by rw [hLa.out, hLb.out]; simp
      clear hLa hLb
      go_wp2_with fail
      refine (slotawake_any _).mono ?_
      rintro e wz ⟨rfl, hbz⟩
      go_wp2_with fail
      go_ret
      exact ⟨rfl, below2 hW6 hbz⟩
    · have hLL : (L5 == L6) = false := by
        rw [beq_eq_false_iff_ne, hLa.out, hLb.out]
        intro he
        have := block_inj ok1 ok2 he
        simp only [Sl.mk.injEq] at this
        omega
      have hne : ((1 + a) == (1 + b)) = false := by rw [beq_eq_false_iff_ne]; omega
      clear hLa hLb hab
      go_wp2_with fail
      refine (slotawake_any _).mono ?_
      rintro e wz ⟨rfl, hbz⟩
      go_wp2_with fail
      go_ret
      exact ⟨rfl, below2 hW6 hbz⟩
  · have hx : Blk ((v3.setCell ⟨w.heap.size, 6, none⟩ (.int .i64 (1 + a))).setCell ⟨b1, 6, none⟩ (.int .i64 (1 + b))) w.heap.size 37 (Sl.mk 1 1 0 0 0 0 (1 + a) 0 0 0 0 0 0).cells := (hB2.set_ 6 (.int .i64 (1 + a))).far (p := ⟨b1, 6, none⟩) (by show w.heap.size ≠ b1; omega) _
    have hy : Blk ((v3.setCell ⟨w.heap.size, 6, none⟩ (.int .i64 (1 + a))).setCell ⟨b1, 6, none⟩ (.int .i64 (1 + b))) b1 37 (Sl.mk 1 1 0 0 0 0 (1 + b) 0 0 0 0 0 0).cells := (hC2.far (p := ⟨w.heap.size, 6, none⟩) (by show b1 ≠ w.heap.size; omega) (.int .i64 (1 + a))).set_ 6 (.int .i64 (1 + b))
    have ok1 : (Sl.mk 1 1 0 0 0 0 (1 + a) 0 0 0 0 0 0).ok 1 5 = true := by simp [Sl.ok, Sl.chk, Sl.chkA, Sl.maps, inb]; try omega
    have ok2 : (Sl.mk 1 1 0 0 0 0 (1 + b) 0 0 0 0 0 0).ok 1 5 = true := by simp [Sl.ok, Sl.chk, Sl.chkA, Sl.maps, inb]; try omega
    have hW4 := (hW2.setCell (p := ⟨w.heap.size, 6, none⟩) (Nat.le_refl _) (.int .i64 (1 + a))).setCell (p := ⟨b1, 6, none⟩) (by show w.heap.size ≤ b1; omega) (.int .i64 (1 + b))
    have c0 : v3.cell? ⟨w.heap.size, 6, none⟩ = some (.int .i64 1) := hB2.cell 6
    have f0 := hB2.frozen 6
    have c1 : v3.cell? ⟨b1, 6, none⟩ = some (.int .i64 1) := hC2.cell 6
    have f1 := hC2.frozen 6
    have hld1 := run_ldB hx
    clear q0 q1
    go_wp2_with fail
    refine (slotput_any (Sl.mk 1 1 0 0 0 0 (1 + a) 0 0 0 0 0 0) 1 5 _).mono ?_
    rintro e w5 ⟨ok, L5, rfl, hok, hL1, hL0, hb5⟩
    have hok2 : Hid (ok = true) := hok.out.trans ok1
    obtain rfl := hok2.out
    have hLa : Hid (L5 = (Sl.mk 1 1 0 0 0 0 (1 + a) 0 0 0 0 0 0).block 1 5) := hL1.out rfl
    clear hok hL1 hL0 hok2 hld1
    have hW5 := hW4.trans (hb5.mono hW4.size)
    have hld2 := run_ldB (hy.beyond hb5)
    clear hb5 hW4
    go_wp2_with fail
    refine (slotput_any (Sl.mk 1 1 0 0 0 0 (1 + b) 0 0 0 0 0 0) 1 5 _).mono ?_
    rintro e w6 ⟨ok, L6, rfl, hok, hL1, hL0, hb6⟩
    have hok2 : Hid (ok = true) := hok.out.trans ok2
    obtain rfl := hok2.out
    have hLb : Hid (L6 = (Sl.mk 1 1 0 0 0 0 (1 + b) 0 0 0 0 0 0).block 1 5) := hL1.out rfl
    clear hok hL1 hL0 hok2 hld2
    have hW6 := hW5.trans (hb6.mono hW5.size)
    clear hb6 hW5 hx hy
    by_cases hab : a = b
    · subst hab
      have hLL : (L5 == L6) = true := by rw [hLa.out, hLb.out]; simp
      clear hLa hLb
      go_wp2_with fail
      refine (slotawake_any _).mono ?_
      rintro e wz ⟨rfl, hbz⟩
      go_wp2_with fail
      go_ret
      exact ⟨rfl, below2 hW6 hbz⟩
    · have hLL : (L5 == L6) = false := by
        rw [beq_eq_false_iff_ne, hLa.out, hLb.out]
        intro he
        have := block_inj ok1 ok2 he
        simp only [Sl.mk.injEq] at this
        omega
      have hne : ((1 + a) == (1 + b)) = false := by rw [beq_eq_false_iff_ne]; omega
      clear hLa hLb hab
      go_wp2_with fail
      refine (slotawake_any _).mono ?_
      rintro e wz ⟨rfl, hbz⟩
      go_wp2_with fail
      go_ret
      exact ⟨rfl, below2 hW6 hbz⟩
  · obtain ha | ha | ha | ha : (1 + a) % 4 = 0 ∨ (1 + a) % 4 = 1 ∨ (1 + a) % 4 = 2 ∨ (1 + a) % 4 = 3 := by omega
    · have hx : Blk ((v3.setCell ⟨w.heap.size, 7, none⟩ (.int .i64 (1 + a))).setCell ⟨b1, 7, none⟩ (.int .i64 (1 + b))) w.heap.size 37 (Sl.mk 1 1 0 0 0 0 1 (1 + a) 0 0 0 0 0).cells := (hB2.set_ 7 (.int .i64 (1 + a))).far (p := ⟨b1, 7, none⟩) (by show w.heap.size ≠ b1; omega) _
      have hy : Blk ((v3.setCell ⟨w.heap.size, 7, none⟩ (.int .i64 (1 + a))).setCell ⟨b1, 7, none⟩ (.int .i64 (1 + b))) b1 37 (Sl.mk 1 1 0 0 0 0 1 (1 + b) 0 0 0 0 0).cells := (hC2.far (p := ⟨w.heap.size, 7, none⟩) (by show b1 ≠ w.heap.size; omega) (.int .i64 (1 + a))).set_ 7 (.int .i64 (1 + b))
      have ok1 : (Sl.mk 1 1 0 0 0 0 1 (1 + a) 0 0 0 0 0).ok 1 5 = true := by simp [Sl.ok, Sl.chk, Sl.chkA, Sl.maps, inb]; try omega
      have ok2 : (Sl.mk 1 1 0 0 0 0 1 (1 + b) 0 0 0 0 0).ok 1 5 = true := by simp [Sl.ok, Sl.chk, Sl.chkA, Sl.maps, inb]; try omega
      have hW4 := (hW2.setCell (p := ⟨w.heap.size, 7, none⟩) (Nat.le_refl _) (.int .i64 (1 + a))).setCell (p := ⟨b1, 7, none⟩) (by show w.heap.size ≤ b1; omega) (.int .i64 (1 + b))
      have c0 : v3.cell? ⟨w.heap.size, 7, none⟩ = some (.int .i64 0) := hB2.cell 7
      have f0 := hB2.frozen 7
      have c1 : v3.cell? ⟨b1, 7, none⟩ = some (.int .i64 0) := hC2.cell 7
      have f1 := hC2.frozen 7
      have hld1 := run_ldB hx
      clear q0 q1
      go_wp2_with fail
      refine (slotput_any (Sl.mk 1 1 0 0 0 0 1 (1 + a) 0 0 0 0 0) 1 5 _).mono ?_
      rintro e w5 ⟨ok, L5, rfl, hok, hL1, hL0, hb5⟩
      have hok2 : Hid (ok = true) := hok.out.trans ok1
      obtain rfl := hok2.out
      have hLa : Hid (L5 = (Sl.mk 1 1 0 0 0 0 1 (1 + a) 0 0 0 0 0).block 1 5) := hL1.out rfl
      clear hok hL1 hL0 hok2 hld1
      have hW5 := hW4.trans (hb5.mono hW4.size)
      have hld2 := run_ldB (hy.beyond hb5)
      clear hb5 hW4
      go_wp2_with fail
      refine (slotput_any (Sl.mk 1 1 0 0 0 0 1 (1 + b) 0 0 0 0 0) 1 5 _).mono ?_
      rintro e w6 ⟨ok, L6, rfl, hok, hL1, hL0, hb6⟩
      have hok2 : Hid (ok = true) := hok.out.trans ok2
      obtain rfl := hok2.out
      have hLb : Hid (L6 = (Sl.mk 1 1 0 0 0 0 1 (1 + b) 0 0 0 0 0).block 1 5) := hL1.out rfl
      clear hok hL1 hL0 hok2 hld2
      have hW6 := hW5.trans (hb6.mono hW5.size)
      clear hb6 hW5 hx hy
      by_cases hab : a = b
      · subst hab
        have hLL : (L5 == L6) = true := by rw [hLa.out, hLb.out]; simp
        clear hLa hLb
        go_wp2_with fail
        refine (slotawake_any _).mono ?_
        rintro e wz ⟨rfl, hbz⟩
        go_wp2_with fail
        go_ret
        exact ⟨rfl, below2 hW6 hbz⟩
      · have hLL : (L5 == L6) = false := by
          rw [beq_eq_false_iff_ne, hLa.out, hLb.out]
          intro he
          have := block_inj ok1 ok2 he
          simp only [Sl.mk.injEq] at this
          omega
        have hne : ((1 + a) == (1 + b)) = false := by rw [beq_eq_false_iff_ne]; omega
        clear hLa hLb hab
        go_wp2_with fail
        refine (slotawake_any _).mono ?_
        rintro e wz ⟨rfl, hbz⟩
        go_wp2_with fail
        go_ret
        exact ⟨rfl, below2 hW6 hbz⟩
    · have hx : Blk ((v3.setCell ⟨w.heap.size, 8, none⟩ (.int .i64 (1 + a))).setCell ⟨b1, 8, none⟩ (.int .i64 (1 + b))) w.heap.size 37 (Sl.mk 1 1 0 0 0 0 1 0 (1 + a) 0 0 0 0).cells := (hB2.set_ 8 (.int .i64 (1 + a))).far (p := ⟨b1, 8, none⟩) (by show w.heap.size ≠ b1; omega) _
      have hy : Blk ((v3.setCell ⟨w.heap.size, 8, none⟩ (.int .i64 (1 + a))).setCell ⟨b1, 8, none⟩ (.int .i64 (1 + b))) b1 37 (Sl.mk 1 1 0 0 0 0 1 0 (1 + b) 0 0 0 0).cells := (hC2.far (p := ⟨w.heap.size, 8, none⟩) (by show b1 ≠ w.heap.size; omega) (.int .i64 (1 + a))).set_ 8 (.int .i64 (1 + b))
      have ok1 : (Sl.mk 1 1 0 0 0 0 1 0 (1 + a) 0 0 0 0).ok 1 5 = true := by simp [Sl.ok, Sl.chk, Sl.chkA, Sl.maps, inb]; try omega
      have ok2 : (Sl.mk 1 1 0 0 0 0 1 0 (1 + b) 0 0 0 0).ok 1 5 = true := by simp [Sl.ok, Sl.chk, Sl.chkA, Sl.maps, inb]; try omega
      have hW4 := (hW2.setCell (p := ⟨w.heap.size, 8, none⟩) (Nat.le_refl _) (.int .i64 (1 + a))).setCell (p := ⟨b1, 8, none⟩) (by show w.heap.size ≤ b1; omega) (.int .i64 (1 + b))
      have c0 : v3.cell? ⟨w.heap.size, 8, none⟩ = some (.int .i64 0) := hB2.cell 8
      have f0 := hB2.frozen 8
      have c1 : v3.cell? ⟨b1, 8, none⟩ = some (.int .i64 0) := hC2.cell 8
      have f1 := hC2.frozen 8
      have hld1 := run_ldB hx
      clear q0 q1
      go_wp2_with fail
      refine (slotput_any (Sl.mk 1 1 0 0 0 0 1 0 (1 + a) 0 0 0 0) 1 5 _).mono ?_
      rintro e w5 ⟨ok, L5, rfl, hok, hL1, hL0, hb5⟩
      have hok2 : Hid (ok = true) := hok.out.trans ok1
      obtain rfl := hok2.out
      have hLa : Hid (L5 = (Sl.mk 1 1 0 0 0 0 1 0 (1 + a) 0 0 0 0).block 1 5) := hL1.out rfl
      clear hok hL1 hL0 hok2 hld1
      have hW5 := hW4.trans (hb5.mono hW4.size)
      have hld2 := run_ldB (hy.beyond hb5)
      clear hb5 hW4
      go_wp2_with fail
      refine (slotput_any (Sl.mk 1 1 0 0 0 0 1 0 (1 + b) 0 0 0 0) 1 5 _).mono ?_
      rintro e w6 ⟨ok, L6, rfl, hok, hL1, hL0, hb6⟩
      have hok2 : Hid (ok = true) := hok.out.trans ok2
      obtain rfl := hok2.out
      have hLb : Hid (L6 = (Sl.mk 1 1 0 0 0 0 1 0 (1 + b) 0 0 0 0).block 1 5) := hL1.out rfl
      clear hok hL1 hL0 hok2 hld2
      have hW6 := hW5.trans (hb6.mono hW5.size)
      clear hb6 hW5 hx hy
      by_cases hab : a = b
      · subst hab
        have hLL : (L5 == L6) = true := by rw [hLa.out, hLb.out]; simp
        clear hLa hLb
        go_wp2_with fail
        refine (slotawake_any _).mono ?_
        rintro e wz ⟨rfl, hbz⟩
        go_wp2_with fail
        go_ret
        exact ⟨rfl, below2 hW6 hbz⟩
      · have hLL : (L5 == L6) = false := by
          rw [beq_eq_false_iff_ne, hLa.out, hLb.out]
          intro he
          have := block_inj ok1 ok2 he
          simp only [Sl.mk.injEq] at this
          omega
        have hne : ((1 + a) == (1 + b)) = false := by rw [beq_eq_false_iff_ne]; omega
        clear hLa hLb hab
        go_wp2_with fail
        refine (slotawake_any _).mono ?_
        rintro e wz ⟨rfl, hbz⟩
        go_wp2_with fail
        go_ret
        exact ⟨rfl, below2 hW6 hbz⟩
    · have hx : Blk ((v3.setCell ⟨w.heap.size, 9, none⟩ (.int .i64 (1 + a))).setCell ⟨b1, 9, none⟩ (.int .i64 (1 + b))) w.heap.size 37 (Sl.mk 1 1 0 0 0 0 1 0 0 (1 + a) 0 0 0).cells := (hB2.set_ 9 (.int .i64 (1 + a))).far (p := ⟨b1, 9, none⟩) (by show w.heap.size ≠ b1; omega) _
      have hy : Blk ((v3.setCell ⟨w.heap.size, 9, none⟩ (.int .i64 (1 + a))).setCell ⟨b1, 9, none⟩ (.int .i64 (1 + b))) b1 37 (Sl.mk 1 1 0 0 0 0 1 0 0 (1 + b) 0 0 0).cells := (hC2.far (p := ⟨w.heap.size, 9, none⟩) (by show b1 ≠ w.heap.size; omega) (.int .i64 (1 + a))).set_ 9 (.int .i64 (1 + b))
      have ok1 : (Sl.mk 1 1 0 0 0 0 1 0 0 (1 + a) 0 0 0).ok 1 5 = true := by simp [Sl.ok, Sl.chk, Sl.chkA, Sl.maps, inb]; try omega
      have ok2 : (Sl.mk 1 1 0 0 0 0 1 0 0 (1 + b) 0 0 0).ok 1 5 = true := by simp [Sl.ok, Sl.chk, Sl.chkA, Sl.maps, inb]; try omega
      have hW4 := (hW2.setCell (p := ⟨w.heap.size, 9, none⟩) (Nat.le_refl _) (.int .i64 (1 + a))).setCell (p := ⟨b1, 9, none⟩) (by show w.heap.size ≤ b1; omega) (.int .i64 (1 + b))
      have c0 : v3.cell? ⟨w.heap.size, 9, none⟩ = some (.int .i64 0) := hB2.cell 9
      have f0 := hB2.frozen 9
      have c1 : v3.cell? ⟨b1, 9, none⟩ = some (.int .i64 0) := hC2.cell 9
      have f1 := hC2.frozen 9
      have hld1 := run_ldB hx
      clear q0 q1
      go_wp2_with fail
      refine (slotput_any (Sl.mk 1 1 0 0 0 0 1 0 0 (1 + a) 0 0 0) 1 5 _).mono ?_
      rintro e w5 ⟨ok, L5, rfl, hok, hL1, hL0, hb5⟩
      have hok2 : Hid (ok = true) := hok.out.trans ok1
      obtain rfl := hok2.out
      have hLa : Hid (L5 = (Sl.mk 1 1 0 0 0 0 1 0 0 (1 + a) 0 0 0).block 1 5) := hL1.out rfl
      clear hok hL1 hL0 hok2 hld1
      have hW5 := hW4.trans (hb5.mono hW4.size)
      have hld2 := run_ldB (hy.beyond hb5)
      clear hb5 hW4
      go_wp2_with fail
      refine (slotput_any (Sl.mk 1 1 0 0 0 0 1 0 0 (1 + b) 0 0 0) 1 5 _).mono ?_
      rintro e w6 ⟨ok, L6, rfl, hok, hL1, hL0, hb6⟩
      have hok2 : Hid (ok = true) := hok.out.trans ok2
      obtain rfl := hok2.out
      have hLb : Hid (L6 = (Sl.mk 1 1 0 0 0 0 1 0 0 (1 + b) 0 0 0).block 1 5) := hL1.out rfl
      clear hok hL1 hL0 hok2 hld2
      have hW6 := hW5.trans (hb6.mono hW5.size)
      clear hb6 hW5 hx hy
      by_cases hab : a = b
      · subst hab
        have hLL : (L5 == L6) = true := by rw [hLa.out, hLb.out]; simp
        clear hLa hLb
        go_wp2_with fail
        refine (slotawake_any _).mono ?_
        rintro e wz ⟨rfl, hbz⟩
        go_wp2_with fail
        go_ret
        exact ⟨rfl, below2 hW6 hbz⟩
      · have hLL : (L5 == L6) = false := by
          rw [beq_eq_false_iff_ne, hLa.out, hLb.out]
          intro he
          have := block_inj ok1 ok2 he
          simp only [Sl.mk.injEq] at this
          omega
        have hne : ((1 + a) == (1 + b)) = false := by rw [beq_eq_false_iff_ne]; omega
        clear hLa hLb hab
        go_wp2_with fail
        refine (slotawake_any _).mono ?_
        rintro e wz ⟨rfl, hbz⟩
        go_wp2_with fail
        go_ret
        exact ⟨rfl, below2 hW6 hbz⟩
    · have hx : Blk ((v3.setCell ⟨w.heap.size, 10, none⟩ (.int .i64 (1 + a))).setCell ⟨b1, 10, none⟩ (.int .i64 (1 + b))) w.heap.size 37 (Sl.mk 1 1 0 0 0 0 1 0 0 0 (1 + a) 0 0).cells := (hB2.set_ 10 (.int .i64 (1 + a))).far (p := ⟨b1, 10, none⟩) (by show w.heap.size ≠ b1; omega) _
      have hy : Blk ((v3.setCell ⟨w.heap.size, 10, none⟩ (.int .i64 (1 + a))).setCell ⟨b1, 10, none⟩ (.int .i64 (1 + b))) b1 37 (Sl.mk 1 1 0 0 0 0 1 0 0 0 (1 + b) 0 0).cells := (hC2.far (p := ⟨w.heap.size, 10, none⟩) (by show b1 ≠ w.heap.size; omega) (.int .i64 (1 + a))).set_ 10 (.int .i64 (1 + b))
      have ok1 : (Sl.mk 1 1 0 0 0 0 1 0 0 0 (1 + a) 0 0).ok 1 5 = true := by simp [Sl.ok, Sl.chk, Sl.chkA, Sl.maps, inb]; try omega
      have ok2 : (Sl.mk 1 1 0 0 0 0 1 0 0 0 (1 + b) 0 0).ok 1 5 = true := by simp [Sl.ok, Sl.chk, Sl.chkA, Sl.maps, inb]; try omega
      have hW4 := (hW2.setCell (p := ⟨w.heap.size, 10, none⟩) (Nat.le_refl _) (.int .i64 (1 + a))).setCell (p := ⟨b1, 10, none⟩) (by show w.heap.size ≤ b1; omega) (.int .i64 (1 + b))
      have c0 : v3.cell? ⟨w.heap.size, 10, none⟩ = some (.int .i64 0) := hB2.cell 10
      have f0 := hB2.frozen 10
      have c1 : v3.cell? ⟨b1, 10, none⟩ = some (.int .i64 0) := hC2.cell 10
      have f1 := hC2.frozen 10
      have hld1 := run_ldB hx
      clear q0 q1
      go_wp2_with fail
      refine (slotput_any (Sl.mk 1 1 0 0 0 0 1 0 0 0 (1 + a) 0 0) 1 5 _).mono ?_
      rintro e w5 ⟨ok, L5, rfl, hok, hL1, hL0, hb5⟩
      have hok2 : Hid (ok = true) := hok.out.trans ok1
      obtain rfl := hok2.out
      have hLa : Hid (L5 = (Sl.mk 1 1 0 0 0 0 1 0 0 0 (1 + a) 0 0).block 1 5) := hL1.out rfl
      clear hok hL1 hL0 hok2 hld1
      have hW5 := hW4.trans (hb5.mono hW4.size)
      have hld2 := run_ldB (hy.beyond hb5)
      clear hb5 hW4
      go_wp2_with fail
      refine (slotput_any (Sl.mk 1 1 0 0 0 0 1 0 0 0 (1 + b) 0 0) 1 5 _).mono ?_
      rintro e w6 ⟨ok, L6, rfl, hok, hL1, hL0, hb6⟩
      have hok2 : Hid (ok = true) := hok.out.trans ok2
      obtain rfl := hok2.out
      have hLb : Hid (L6 = (Sl.mk 1 1 0 0 0 0 1 0 0 0 (1 + b) 0 0).block 1 5) := hL1.out rfl
      clear hok hL1 hL0 hok2 hld2
      have hW6 := hW5.trans (hb6.mono hW5.size)
      clear hb6 hW5 hx hy
      by_cases hab : a = b
      · subst hab
        have hLL : (L5 == L6) = true := by rw [hLa.out, hLb.out]; simp
        clear hLa hLb
        go_wp2_with fail
        refine (slotawake_any _).mono ?_
        rintro e wz ⟨rfl, hbz⟩
        go_wp2_with fail
        go_ret
        exact ⟨rfl, below2 hW6 hbz⟩
      · have hLL : (L5 == L6) = false := by
          rw [beq_eq_false_iff_ne, hLa.out, hLb.out]
          intro he
          have := block_inj ok1 ok2 he
          simp only [Sl.mk.injEq] at this
          omega
        have hne : ((1 + a) == (1 + b)) = false := by rw [beq_eq_false_iff_ne]; omega
        clear hLa hLb hab
        go_wp2_with fail
        refine (slotawake_any _).mono ?_
        rintro e wz ⟨rfl, hbz⟩
        go_wp2_with fail
        go_ret
        exact ⟨rfl, below2 hW6 hbz⟩
  · have hx := hB2
    have hy := hC2
    have ok1 : apSl.ok (1 + a) 5 = true := by simp [apSl, Sl.ok, Sl.chk, Sl.chkA, Sl.maps, inb]; try omega
    have ok2 : apSl.ok (1 + b) 5 = true := by simp [apSl, Sl.ok, Sl.chk, Sl.chkA, Sl.maps, inb]; try omega
    have hW4 := hW2
    have hld1 := run_ldB hx
    clear hW2
    clear q0 q1
    go_wp2_with fail
    refine (slotput_any apSl (1 + a) 5 _).mono ?_
    rintro e w5 ⟨ok, L5, rfl, hok, hL1, hL0, hb5⟩
    have hok2 : Hid (ok = true) := hok.out.trans ok1
    obtain rfl := hok2.out
    have hLa : Hid (L5 = apSl.block (1 + a) 5) := hL1.out rfl
    clear hok hL1 hL0 hok2 hld1
    have hW5 := hW4.trans (hb5.mono hW4.size)
    have hld2 := run_ldB (hy.beyond hb5)
    clear hb5 hW4
    go_wp2_with fail
    refine (slotput_any apSl (1 + b) 5 _).mono ?_
    rintro e w6 ⟨ok, L6, rfl, hok, hL1, hL0, hb6⟩
    have hok2 : Hid (ok = true) := hok.out.trans ok2
    obtain rfl := hok2.out
    have hLb : Hid (L6 = apSl.block (1 + b) 5) := hL1.out rfl
    clear hok hL1 hL0 hok2 hld2
    have hW6 := hW5.trans (hb6.mono hW5.size)
    clear hb6 hW5 hx hy
    by_cases hab : a = b
    · subst hab
      have hLL : (L5 == L6) = true := by rw [hLa.out, hLb.out]; simp
      clear hLa hLb
      go_wp2_with fail
      refine (slotawake_any _).mono ?_
      rintro e wz ⟨rfl, hbz⟩
      go_wp2_with fail
      go_ret
      exact ⟨rfl, below2 hW6 hbz⟩
    · have hLL : (L5 == L6) = false := by
        rw [beq_eq_false_iff_ne, hLa.out, hLb.out]
        intro he
        have := block_inj ok1 ok2 he
        omega
      have hne : ((1 + a) == (1 + b)) = false := by rw [beq_eq_false_iff_ne]; omega
      clear hLa hLb hab
      go_wp2_with fail
      refine (slotawake_any _).mono ?_
      rintro e wz ⟨rfl, hbz⟩
      go_wp2_with fail
      go_ret
      exact ⟨rfl, below2 hW6 hbz⟩
end
end Go.Proofs.Ytmpkcehjmjopdaa