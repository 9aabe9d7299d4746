import Derived.Test.YtmpkcehjmjopdaaSlotD

namespace Go.Proofs.Ytmpkcehjmjopdaa
open Go.RowKit
/-- each number at its last place -/
def edSl : Sl := (Sl.mk 1099511627776 1048575 1099511627776 65535 64 65535 1099511627776 16383 0 1 2 1099511627777 1099511627777)
theorem edSl_ok : edSl.ok 16 65535 = true := by decide +kernel
theorem edSl_m0 : edSl.m0 = 16383 := rfl
theorem edSl_sn : edSl.sn = 1099511627777 := rfl
theorem no_of_chk {x : Sl} {h g : Int} (hx : x.chk = false) : x.ok h g = false := by unfold Sl.ok; rw [hx]; simp
theorem run_st_lit (w : World) : (stV 37 (.pointer (some ⟨w.heap.size, 0, none⟩)) (.agg #[.int .i64 1099511627776, .int .i64 1048575, .int .i64 1099511627776, .int .i64 65535, .int .i64 64, .int .i64 65535, .int .i64 1099511627776, .int .i64 16383, .int .i64 0, .int .i64 1, .int .i64 2, .int .i64 1099511627777, .int .i64 1099511627777])).run Try.prog (w.alloc (.cells #[.int .i64 0, .int .i64 0, .int .i64 0, .int .i64 0, .int .i64 0, .int .i64 0, .int .i64 0, .int .i64 0, .int .i64 0, .int .i64 0, .int .i64 0, .int .i64 0, .int .i64 0] 37)) = .ok () (w.alloc (.cells edSl.cells 37)) := st_new w edSl
section
attribute [local go_sem ↓] ld37 st37
attribute [local go_sem] st_new run_st_lit

set_option maxRecDepth 100000 in
set_option maxHeartbeats 4000000 in
theorem slotEdges_walk (how v : Int) (w : World) :
    Calls Try.prog 9 #[.int .i64 how, .int .i64 v] w fun e w' => e = .returned (.bool true) ∧ Below w.heap.size w w' := by
  have hB : Blk (w.alloc (.cells edSl.cells 37)) w.heap.size 37 edSl.cells := Blk.new w 37 _
  have hW : Below w.heap.size w (w.alloc (.cells edSl.cells 37)) := (Below.refl _ w).alloc (Nat.le_refl _) _
  have HOK := Lib.hid edSl_ok
  go_enter Try.func9, Try.ntmps9
  go_wp2_with fail
  refine (place_any v 1000 _ (by omega) (by omega)).mono ?_
  rintro e w1 ⟨rfl, rfl⟩
  have p0 := plc_nonneg v (n := 1000) (by omega)
  have p1 := plc_lt v (n := 1000) (by omega)
  generalize plc v 1000 = k0 at *
  have hld := run_ldB hB
  go_wp2_with fail
  refine (slotput_any edSl 16 65535 _).mono ?_
  rintro e w1 ⟨ok, L, rfl, hok, hL1, hL0, hb1⟩
  have hok2 : Hid (ok = true) := by show _ = _; rw [hok.out]; exact HOK.out
  have hB1 := hB.beyond hb1
  have hW1 := below2 hW hb1
  obtain rfl := hok2.out
  have HG : Hid (slGot L = .tuple #[.int .i64 16, .int .i64 65535, .agg edSl.cells, .bool true]) := by show _ = _; rw [hL1.out rfl]; exact slGot_block HOK.out
  have hlen : L.length = 256 := by rw [hL1.out rfl]; exact Sl.block_length _ _ _
  have hll : L.length ≤ 256 := by omega
  clear hok hL1 hL0 hok2 hb1 hlen hB hW hld
  go_wp2_with fail
  refine (slotget_any ⟨L.toArray⟩ _ (by show L.toArray.size ≤ _; simp; omega)).mono ?_
  rintro e w3 ⟨rfl, hb3⟩
  rw [show (⟨L.toArray⟩ : ByteArray).data.toList = L from rfl, HG.out]
  have hB3 := (hB1.beyond hb3).alloc (.cells edSl.cells 37)
  have hW3 := (below2 hW1 hb3).alloc (below2 hW1 hb3).size (.cells edSl.cells 37)
  have hY3 := Blk.new w3 37 edSl.cells
  have c7 : (w3.alloc (.cells edSl.cells 37)).cell? ⟨w3.heap.size, 7, none⟩ = some (.int .i64 16383) := hY3.cell 7
  have c12 : (w3.alloc (.cells edSl.cells 37)).cell? ⟨w3.heap.size, 12, none⟩ = some (.int .i64 1099511627777) := hY3.cell 12
  clear hb3 hB1 hW1 hY3
  go_wp2_with fail
  clear c7 c12
  refine (place_any how 12 _ (by omega) (by omega)).mono ?_
  rintro e wq ⟨rfl, rfl⟩
  have q0 := plc_nonneg how (n := 12) (by omega)
  have q1 := plc_lt how (n := 12) (by omega)
  generalize plc how 12 = q at *
  generalize hv3 : w3.alloc (.cells edSl.cells 37) = v3 at *
  clear hv3
  have hb0 : w.heap.size ≤ w.heap.size := Nat.le_refl _
  obtain rfl | rfl | rfl | rfl | rfl | rfl | rfl | rfl | rfl | rfl | rfl | rfl : q = 0 ∨ q = 1 ∨ q = 2 ∨ q = 3 ∨ q = 4 ∨ q = 5 ∨ q = 6 ∨ q = 7 ∨ q = 8 ∨ q = 9 ∨ q = 10 ∨ q = 11 := by omega
  · have hx : Blk (v3.setCell ⟨w.heap.size, 0, none⟩ (.int .i64 (1099511627776 + (1 + k0)))) w.heap.size 37 (Sl.mk (1099511627776 + (1 + k0)) 1048575 1099511627776 65535 64 65535 1099511627776 16383 0 1 2 1099511627777 1099511627777).cells := hB3.set_ 0 (.int .i64 (1099511627776 + (1 + k0)))
    have hno : (Sl.mk (1099511627776 + (1 + k0)) 1048575 1099511627776 65535 64 65535 1099511627776 16383 0 1 2 1099511627777 1099511627777).ok 1 1 = false := no_of_chk (by simp [Sl.chk, Sl.chkA, Sl.maps, inb]; try omega)
    have hW4 := hW3.setCell (p := ⟨w.heap.size, 0, none⟩) (Nat.le_refl _) (.int .i64 (1099511627776 + (1 + k0)))
    have c0 : v3.cell? ⟨w.heap.size, 0, none⟩ = some (.int .i64 (1099511627776)) := hB3.cell 0
    have f0 := hB3.frozen 0
    have hld := run_ldB hx
    clear q0 q1
    go_wp2_with fail
    refine (slotput_any (Sl.mk (1099511627776 + (1 + k0)) 1048575 1099511627776 65535 64 65535 1099511627776 16383 0 1 2 1099511627777 1099511627777) 1 1 _).mono ?_
    rintro e w5 ⟨ok, L5, rfl, hok, hL1, hL0, hb5⟩
    have hok2 : Hid (ok = false) := hok.out.trans hno
    obtain rfl := hok2.out
    obtain rfl := hL0.out rfl
    clear hok hL1 hL0 hok2 hno hld c0 f0 hx
    have hW5 := hW4.trans (hb5.mono hW4.size)
    go_wp2_with fail
    refine (slotawake_any _).mono ?_
    rintro e wz ⟨rfl, hbz⟩
    go_wp2_with fail
    go_ret
    exact ⟨rfl, below2 hW5 hbz⟩
  · have hx : Blk (v3.setCell ⟨w.heap.size, 1, none⟩ (.int .i64 (1048575 + (1 + k0)))) w.heap.size 37 (Sl.mk 1099511627776 (1048575 + (1 + k0)) 1099511627776 65535 64 65535 1099511627776 16383 0 1 2 1099511627777 1099511627777).cells := hB3.set_ 1 (.int .i64 (1048575 + (1 + k0)))
    have hno : (Sl.mk 1099511627776 (1048575 + (1 + k0)) 1099511627776 65535 64 65535 1099511627776 16383 0 1 2 1099511627777 1099511627777).ok 1 1 = false := no_of_chk (by simp [Sl.chk, Sl.chkA, Sl.maps, inb]; try omega)
    have hW4 := hW3.setCell (p := ⟨w.heap.size, 1, none⟩) (Nat.le_refl _) (.int .i64 (1048575 + (1 + k0)))
    have c0 : v3.cell? ⟨w.heap.size, 1, none⟩ = some (.int .i64 (1048575)) := hB3.cell 1
    have f0 := hB3.frozen 1
    have hld := run_ldB hx
    clear q0 q1
    go_wp2_with fail
    refine (slotput_any (Sl.mk 1099511627776 (1048575 + (1 + k0)) 1099511627776 65535 64 65535 1099511627776 16383 0 1 2 1099511627777 1099511627777) 1 1 _).mono ?_
    rintro e w5 ⟨ok, L5, rfl, hok, hL1, hL0, hb5⟩
    have hok2 : Hid (ok = false) := hok.out.trans hno
    obtain rfl := hok2.out
    obtain rfl := hL0.out rfl
    clear hok hL1 hL0 hok2 hno hld c0 f0 hx
    have hW5 := hW4.trans (hb5.mono hW4.size)
    go_wp2_with fail
    refine (slotawake_any _).mono ?_
    rintro e wz ⟨rfl, hbz⟩
    go_wp2_with fail
    go_ret
    exact ⟨rfl, below2 hW5 hbz⟩
  · have hx : Blk (v3.setCell ⟨w.heap.size, 2, none⟩ (.int .i64 (1099511627776 + (1 + k0)))) w.heap.size 37 (Sl.mk 1099511627776 1048575 (1099511627776 + (1 + k0)) 65535 64 65535 1099511627776 16383 0 1 2 1099511627777 1099511627777).cells := hB3.set_ 2 (.int .i64 (1099511627776 + (1 + k0)))
    have hno : (Sl.mk 1099511627776 1048575 (1099511627776 + (1 + k0)) 65535 64 65535 1099511627776 16383 0 1 2 1099511627777 1099511627777).ok 1 1 = false := no_of_chk (by simp [Sl.chk, Sl.chkA, Sl.maps, inb]; try omega)
    have hW4 := hW3.setCell (p := ⟨w.heap.size, 2, none⟩) (Nat.le_refl _) (.int .i64 (1099511627776 + (1 + k0)))
    have c0 : v3.cell? ⟨w.heap.size, 2, none⟩ = some (.int .i64 (1099511627776)) := hB3.cell 2
    have f0 := hB3.frozen 2
    have hld := run_ldB hx
    clear q0 q1
    go_wp2_with fail
    refine (slotput_any (Sl.mk 1099511627776 1048575 (1099511627776 + (1 + k0)) 65535 64 65535 1099511627776 16383 0 1 2 1099511627777 1099511627777) 1 1 _).mono ?_
    rintro e w5 ⟨ok, L5, rfl, hok, hL1, hL0, hb5⟩
    have hok2 : Hid (ok = false) := hok.out.trans hno
    obtain rfl := hok2.out
    obtain rfl := hL0.out rfl
    clear hok hL1 hL0 hok2 hno hld c0 f0 hx
    have hW5 := hW4.trans (hb5.mono hW4.size)
    go_wp2_with fail
    refine (slotawake_any _).mono ?_
    rintro e wz ⟨rfl, hbz⟩
    go_wp2_with fail
    go_ret
    exact ⟨rfl, below2 hW5 hbz⟩
  · have hx : Blk (v3.setCell ⟨w.heap.size, 3, none⟩ (.int .i64 (65535 + (1 + k0)))) w.heap.size 37 (Sl.mk 1099511627776 1048575 1099511627776 (65535 + (1 + k0)) 64 65535 1099511627776 16383 0 1 2 1099511627777 1099511627777).cells := hB3.set_ 3 (.int .i64 (65535 + (1 + k0)))
    have hno : (Sl.mk 1099511627776 1048575 1099511627776 (65535 + (1 + k0)) 64 65535 1099511627776 16383 0 1 2 1099511627777 1099511627777).ok 1 1 = false := no_of_chk (by simp [Sl.chk, Sl.chkA, Sl.maps, inb]; try omega)
    have hW4 := hW3.setCell (p := ⟨w.heap.size, 3, none⟩) (Nat.le_refl _) (.int .i64 (65535 + (1 + k0)))
    have c0 : v3.cell? ⟨w.heap.size, 3, none⟩ = some (.int .i64 (65535)) := hB3.cell 3
    have f0 := hB3.frozen 3
    have hld := run_ldB hx
    clear q0 q1
    go_wp2_with fail
    refine (slotput_any (Sl.mk 1099511627776 1048575 1099511627776 (65535 + (1 + k0)) 64 65535 1099511627776 16383 0 1 2 1099511627777 1099511627777) 1 1 _).mono ?_
    rintro e w5 ⟨ok, L5, rfl, hok, hL1, hL0, hb5⟩
    have hok2 : Hid (ok = false) := hok.out.trans hno
    obtain rfl := hok2.out
    obtain rfl := hL0.out rfl
    clear hok hL1 hL0 hok2 hno hld c0 f0 hx
    have hW5 := hW4.trans (hb5.mono hW4.size)
    go_wp2_with fail
    refine (slotawake_any _).mono ?_
    rintro e wz ⟨rfl, hbz⟩
    go_wp2_with fail
    go_ret
    exact ⟨rfl, below2 hW5 hbz⟩
  · have hx : Blk (v3.setCell ⟨w.heap.size, 4, none⟩ (.int .i64 (64 + (1 + k0)))) w.heap.size 37 (Sl.mk 1099511627776 1048575 1099511627776 65535 (64 + (1 + k0)) 65535 1099511627776 16383 0 1 2 1099511627777 1099511627777).cells := hB3.set_ 4 (.int .i64 (64 + (1 + k0)))
    have hno : (Sl.mk 1099511627776 1048575 1099511627776 65535 (64 + (1 + k0)) 65535 1099511627776 16383 0 1 2 1099511627777 1099511627777).ok 1 1 = false := no_of_chk (by simp [Sl.chk, Sl.chkA, Sl.maps, inb]; try omega)
    have hW4 := hW3.setCell (p := ⟨w.heap.size, 4, none⟩) (Nat.le_refl _) (.int .i64 (64 + (1 + k0)))
    have c0 : v3.cell? ⟨w.heap.size, 4, none⟩ = some (.int .i64 (64)) := hB3.cell 4
    have f0 := hB3.frozen 4
    have hld := run_ldB hx
    clear q0 q1
    go_wp2_with fail
    refine (slotput_any (Sl.mk 1099511627776 1048575 1099511627776 65535 (64 + (1 + k0)) 65535 1099511627776 16383 0 1 2 1099511627777 1099511627777) 1 1 _).mono ?_
    rintro e w5 ⟨ok, L5, rfl, hok, hL1, hL0, hb5⟩
    have hok2 : Hid (ok = false) := hok.out.trans hno
    obtain rfl := hok2.out
    obtain rfl := hL0.out rfl
    clear hok hL1 hL0 hok2 hno hld c0 f0 hx
    have hW5 := hW4.trans (hb5.mono hW4.size)
    go_wp2_with fail
    refine (slotawake_any _).mono ?_
    rintro e wz ⟨rfl, hbz⟩
    go_wp2_with fail
    go_ret
    exact ⟨rfl, below2 hW5 hbz⟩
  · have hx : Blk (v3.setCell ⟨w.heap.size, 5, none⟩ (.int .i64 (-(1 + k0)))) w.heap.size 37 (Sl.mk 1099511627776 1048575 1099511627776 65535 64 (-(1 + k0)) 1099511627776 16383 0 1 2 1099511627777 1099511627777).cells := hB3.set_ 5 (.int .i64 (-(1 + k0)))
    have hno : (Sl.mk 1099511627776 1048575 1099511627776 65535 64 (-(1 + k0)) 1099511627776 16383 0 1 2 1099511627777 1099511627777).ok 1 1 = false := no_of_chk (by simp [Sl.chk, Sl.chkA, Sl.maps, inb]; try omega)
    have hW4 := hW3.setCell (p := ⟨w.heap.size, 5, none⟩) (Nat.le_refl _) (.int .i64 (-(1 + k0)))
    have c0 : v3.cell? ⟨w.heap.size, 5, none⟩ = some (.int .i64 (65535)) := hB3.cell 5
    have f0 := hB3.frozen 5
    have hld := run_ldB hx
    clear q0 q1
    go_wp2_with fail
    refine (slotput_any (Sl.mk 1099511627776 1048575 1099511627776 65535 64 (-(1 + k0)) 1099511627776 16383 0 1 2 1099511627777 1099511627777) 1 1 _).mono ?_
    rintro e w5 ⟨ok, L5, rfl, hok, hL1, hL0, hb5⟩
    have hok2 : Hid (ok = false) := hok.out.trans hno
    obtain rfl := hok2.out
    obtain rfl := hL0.out rfl
    clear hok hL1 hL0 hok2 hno hld c0 f0 hx
    have hW5 := hW4.trans (hb5.mono hW4.size)
    go_wp2_with fail
    refine (slotawake_any _).mono ?_
    rintro e wz ⟨rfl, hbz⟩
    go_wp2_with fail
    go_ret
    exact ⟨rfl, below2 hW5 hbz⟩
  · have hx : Blk (v3.setCell ⟨w.heap.size, 6, none⟩ (.int .i64 (1 - (1 + k0)))) w.heap.size 37 (Sl.mk 1099511627776 1048575 1099511627776 65535 64 65535 (1 - (1 + k0)) 16383 0 1 2 1099511627777 1099511627777).cells := hB3.set_ 6 (.int .i64 (1 - (1 + k0)))
    have hno : (Sl.mk 1099511627776 1048575 1099511627776 65535 64 65535 (1 - (1 + k0)) 16383 0 1 2 1099511627777 1099511627777).ok 1 1 = false := no_of_chk (by simp [Sl.chk, Sl.chkA, Sl.maps, inb]; try omega)
    have hW4 := hW3.setCell (p := ⟨w.heap.size, 6, none⟩) (Nat.le_refl _) (.int .i64 (1 - (1 + k0)))
    have c0 : v3.cell? ⟨w.heap.size, 6, none⟩ = some (.int .i64 (1099511627776)) := hB3.cell 6
    have f0 := hB3.frozen 6
    have hld := run_ldB hx
    clear q0 q1
    go_wp2_with fail
    refine (slotput_any (Sl.mk 1099511627776 1048575 1099511627776 65535 64 65535 (1 - (1 + k0)) 16383 0 1 2 1099511627777 1099511627777) 1 1 _).mono ?_
    rintro e w5 ⟨ok, L5, rfl, hok, hL1, hL0, hb5⟩
    have hok2 : Hid (ok = false) := hok.out.trans hno
    obtain rfl := hok2.out
    obtain rfl := hL0.out rfl
    clear hok hL1 hL0 hok2 hno hld c0 f0 hx
    have hW5 := hW4.trans (hb5.mono hW4.size)
    go_wp2_with fail
    refine (slotawake_any _).mono ?_
    rintro e wz ⟨rfl, hbz⟩
    go_wp2_with fail
    go_ret
    exact ⟨rfl, below2 hW5 hbz⟩
  · obtain hj | hj | hj | hj : (1 + k0) % 4 = 0 ∨ (1 + k0) % 4 = 1 ∨ (1 + k0) % 4 = 2 ∨ (1 + k0) % 4 = 3 := by omega
    · have hx : Blk (v3.setCell ⟨w.heap.size, 7, none⟩ (.int .i64 (16383 + (1 + k0)))) w.heap.size 37 (Sl.mk 1099511627776 1048575 1099511627776 65535 64 65535 1099511627776 (16383 + (1 + k0)) 0 1 2 1099511627777 1099511627777).cells := hB3.set_ 7 (.int .i64 (16383 + (1 + k0)))
      have hno : (Sl.mk 1099511627776 1048575 1099511627776 65535 64 65535 1099511627776 (16383 + (1 + k0)) 0 1 2 1099511627777 1099511627777).ok 1 1 = false := no_of_chk (by simp [Sl.chk, Sl.chkA, Sl.maps, inb]; try omega)
      have hW4 := hW3.setCell (p := ⟨w.heap.size, 7, none⟩) (Nat.le_refl _) (.int .i64 (16383 + (1 + k0)))
      have c0 : v3.cell? ⟨w.heap.size, 7, none⟩ = some (.int .i64 (16383)) := hB3.cell 7
      have f0 := hB3.frozen 7
      have hld := run_ldB hx
      clear q0 q1
      go_wp2_with fail
      refine (slotput_any (Sl.mk 1099511627776 1048575 1099511627776 65535 64 65535 1099511627776 (16383 + (1 + k0)) 0 1 2 1099511627777 1099511627777) 1 1 _).mono ?_
      rintro e w5 ⟨ok, L5, rfl, hok, hL1, hL0, hb5⟩
      have hok2 : Hid (ok = false) := hok.out.trans hno
      obtain rfl := hok2.out
      obtain rfl := hL0.out rfl
      clear hok hL1 hL0 hok2 hno hld c0 f0 hx
      have hW5 := hW4.trans (hb5.mono hW4.size)
      go_wp2_with fail
      refine (slotawake_any _).mono ?_
      rintro e wz ⟨rfl, hbz⟩
      go_wp2_with fail
      go_ret
      exact ⟨rfl, below2 hW5 hbz⟩
    · have hx : Blk (v3.setCell ⟨w.heap.size, 8, none⟩ (.int .i64 (16383 + (1 + k0)))) w.heap.size 37 (Sl.mk 1099511627776 1048575 1099511627776 65535 64 65535 1099511627776 16383 (16383 + (1 + k0)) 1 2 1099511627777 1099511627777).cells := hB3.set_ 8 (.int .i64 (16383 + (1 + k0)))
      have hno : (Sl.mk 1099511627776 1048575 1099511627776 65535 64 65535 1099511627776 16383 (16383 + (1 + k0)) 1 2 1099511627777 1099511627777).ok 1 1 = false := no_of_chk (by simp [Sl.chk, Sl.chkA, Sl.maps, inb]; try omega)
      have hW4 := hW3.setCell (p := ⟨w.heap.size, 8, none⟩) (Nat.le_refl _) (.int .i64 (16383 + (1 + k0)))
      have c0 : v3.cell? ⟨w.heap.size, 8, none⟩ = some (.int .i64 (0)) := hB3.cell 8
      have f0 := hB3.frozen 8
      have hld := run_ldB hx
      clear q0 q1
      go_wp2_with fail
      refine (slotput_any (Sl.mk 1099511627776 1048575 1099511627776 65535 64 65535 1099511627776 16383 (16383 + (1 + k0)) 1 2 1099511627777 1099511627777) 1 1 _).mono ?_
      rintro e w5 ⟨ok, L5, rfl, hok, hL1, hL0, hb5⟩
      have hok2 : Hid (ok = false) := hok.out.trans hno
      obtain rfl := hok2.out
      obtain rfl := hL0.out rfl
      clear hok hL1 hL0 hok2 hno hld c0 f0 hx
      have hW5 := hW4.trans (hb5.mono hW4.size)
      go_wp2_with fail
      refine (slotawake_any _).mono ?_
      rintro e wz ⟨rfl, hbz⟩
      go_wp2_with fail
      go_ret
      exact ⟨rfl, below2 hW5 hbz⟩
    · have hx : Blk (v3.setCell ⟨w.heap.size, 9, none⟩ (.int .i64 (16383 + (1 + k0)))) w.heap.size 37 (Sl.mk 1099511627776 1048575 1099511627776 65535 64 65535 1099511627776 16383 0 (16383 + (1 + k0)) 2 1099511627777 1099511627777).cells := hB3.set_ 9 (.int .i64 (16383 + (1 + k0)))
      have hno : (Sl.mk 1099511627776 1048575 1099511627776 65535 64 65535 1099511627776 16383 0 (16383 + (1 + k0)) 2 1099511627777 1099511627777).ok 1 1 = false := no_of_chk (by simp [Sl.chk, Sl.chkA, Sl.maps, inb]; try omega)
      have hW4 := hW3.setCell (p := ⟨w.heap.size, 9, none⟩) (Nat.le_refl _) (.int .i64 (16383 + (1 + k0)))
      have c0 : v3.cell? ⟨w.heap.size, 9, none⟩ = some (.int .i64 (1)) := hB3.cell 9
      have f0 := hB3.frozen 9
      have hld := run_ldB hx
      clear q0 q1
      go_wp2_with fail
      refine (slotput_any (Sl.mk 1099511627776 1048575 1099511627776 65535 64 65535 1099511627776 16383 0 (16383 + (1 + k0)) 2 1099511627777 1099511627777) 1 1 _).mono ?_
      rintro e w5 ⟨ok, L5, rfl, hok, hL1, hL0, hb5⟩
      have hok2 : Hid (ok = false) := hok.out.trans hno
      obtain rfl := hok2.out
      obtain rfl := hL0.out rfl
      clear hok hL1 hL0 hok2 hno hld c0 f0 hx
      have hW5 := hW4.trans (hb5.mono hW4.size)
      go_wp2_with fail
      refine (slotawake_any _).mono ?_
      rintro e wz ⟨rfl, hbz⟩
      go_wp2_with fail
      go_ret
      exact ⟨rfl, below2 hW5 hbz⟩
    · have hx : Blk (v3.setCell ⟨w.heap.size, 10, none⟩ (.int .i64 (16383 + (1 + k0)))) w.heap.size 37 (Sl.mk 1099511627776 1048575 1099511627776 65535 64 65535 1099511627776 16383 0 1 (16383 + (1 + k0)) 1099511627777 1099511627777).cells := hB3.set_ 10 (.int .i64 (16383 + (1 + k0)))
      have hno : (Sl.mk 1099511627776 1048575 1099511627776 65535 64 65535 1099511627776 16383 0 1 (16383 + (1 + k0)) 1099511627777 1099511627777).ok 1 1 = false := no_of_chk (by simp [Sl.chk, Sl.chkA, Sl.maps, inb]; try omega)
      have hW4 := hW3.setCell (p := ⟨w.heap.size, 10, none⟩) (Nat.le_refl _) (.int .i64 (16383 + (1 + k0)))
      have c0 : v3.cell? ⟨w.heap.size, 10, none⟩ = some (.int .i64 (2)) := hB3.cell 10
      have f0 := hB3.frozen 10
      have hld := run_ldB hx
      clear q0 q1
      go_wp2_with fail
      refine (slotput_any (Sl.mk 1099511627776 1048575 1099511627776 65535 64 65535 1099511627776 16383 0 1 (16383 + (1 + k0)) 1099511627777 1099511627777) 1 1 _).mono ?_
      rintro e w5 ⟨ok, L5, rfl, hok, hL1, hL0, hb5⟩
      have hok2 : Hid (ok = false) := hok.out.trans hno
      obtain rfl := hok2.out
      obtain rfl := hL0.out rfl
      clear hok hL1 hL0 hok2 hno hld c0 f0 hx
      have hW5 := hW4.trans (hb5.mono hW4.size)
      go_wp2_with fail
      refine (slotawake_any _).mono ?_
      rintro e wz ⟨rfl, hbz⟩
      go_wp2_with fail
      go_ret
      exact ⟨rfl, below2 hW5 hbz⟩
  · have hx : Blk (v3.setCell ⟨w.heap.size, 11, none⟩ (.int .i64 (1099511627777 + (1 + k0)))) w.heap.size 37 (Sl.mk 1099511627776 1048575 1099511627776 65535 64 65535 1099511627776 16383 0 1 2 (1099511627777 + (1 + k0)) 1099511627777).cells := hB3.set_ 11 (.int .i64 (1099511627777 + (1 + k0)))
    have hno : (Sl.mk 1099511627776 1048575 1099511627776 65535 64 65535 1099511627776 16383 0 1 2 (1099511627777 + (1 + k0)) 1099511627777).ok 1 1 = false := no_of_chk (by simp [Sl.chk, Sl.chkA, Sl.maps, inb]; try omega)
    have hW4 := hW3.setCell (p := ⟨w.heap.size, 11, none⟩) (Nat.le_refl _) (.int .i64 (1099511627777 + (1 + k0)))
    have c0 : v3.cell? ⟨w.heap.size, 11, none⟩ = some (.int .i64 (1099511627777)) := hB3.cell 11
    have f0 := hB3.frozen 11
    have hld := run_ldB hx
    clear q0 q1
    go_wp2_with fail
    refine (slotput_any (Sl.mk 1099511627776 1048575 1099511627776 65535 64 65535 1099511627776 16383 0 1 2 (1099511627777 + (1 + k0)) 1099511627777) 1 1 _).mono ?_
    rintro e w5 ⟨ok, L5, rfl, hok, hL1, hL0, hb5⟩
    have hok2 : Hid (ok = false) := hok.out.trans hno
    obtain rfl := hok2.out
    obtain rfl := hL0.out rfl
    clear hok hL1 hL0 hok2 hno hld c0 f0 hx
    have hW5 := hW4.trans (hb5.mono hW4.size)
    go_wp2_with fail
    refine (slotawake_any _).mono ?_
    rintro e wz ⟨rfl, hbz⟩
    go_wp2_with fail
    go_ret
    exact ⟨rfl, below2 hW5 hbz⟩
  · have hno : edSl.ok (16 + (1 + k0)) 1 = false := by
      unfold Sl.ok inb; simp; omega
    have hld := run_ldB hB3
    clear q0 q1
    go_wp2_with fail
    refine (slotput_any edSl (16 + (1 + k0)) 1 _).mono ?_
    rintro e w5 ⟨ok, L5, rfl, hok, hL1, hL0, hb5⟩
    have hok2 : Hid (ok = false) := hok.out.trans hno
    obtain rfl := hok2.out
    obtain rfl := hL0.out rfl
    clear hok hL1 hL0 hok2 hno hld
    have hW5 := hW3.trans (hb5.mono hW3.size)
    go_wp2_with fail
    refine (slotawake_any _).mono ?_
    rintro e wz ⟨rfl, hbz⟩
    go_wp2_with fail
    go_ret
    exact ⟨rfl, below2 hW5 hbz⟩
  · have hno : edSl.ok 1 (65535 + (1 + k0)) = false := by
      unfold Sl.ok inb; simp; omega
    have hld := run_ldB hB3
    clear q0 q1
    go_wp2_with fail
    refine (slotput_any edSl 1 (65535 + (1 + k0)) _).mono ?_
    rintro e w5 ⟨ok, L5, rfl, hok, hL1, hL0, hb5⟩
    have hok2 : Hid (ok = false) := hok.out.trans hno
    obtain rfl := hok2.out
    obtain rfl := hL0.out rfl
    clear hok hL1 hL0 hok2 hno hld
    have hW5 := hW3.trans (hb5.mono hW3.size)
    go_wp2_with fail
    refine (slotawake_any _).mono ?_
    rintro e wz ⟨rfl, hbz⟩
    go_wp2_with fail
    go_ret
    exact ⟨rfl, below2 hW5 hbz⟩
  · have hx : Blk (v3.setCell ⟨w.heap.size, 12, none⟩ (.int .i64 (-(1 + k0)))) w.heap.size 37 (Sl.mk 1099511627776 1048575 1099511627776 65535 64 65535 1099511627776 16383 0 1 2 1099511627777 (-(1 + k0))).cells := hB3.set_ 12 (.int .i64 (-(1 + k0)))
    have hno : (Sl.mk 1099511627776 1048575 1099511627776 65535 64 65535 1099511627776 16383 0 1 2 1099511627777 (-(1 + k0))).ok 1 1 = false := no_of_chk (by simp [Sl.chk, Sl.chkA, Sl.maps, inb]; try omega)
    have hW4 := hW3.setCell (p := ⟨w.heap.size, 12, none⟩) (Nat.le_refl _) (.int .i64 (-(1 + k0)))
    have c0 : v3.cell? ⟨w.heap.size, 12, none⟩ = some (.int .i64 (1099511627777)) := hB3.cell 12
    have f0 := hB3.frozen 12
    have hld := run_ldB hx
    clear q0 q1
    go_wp2_with fail
    refine (slotput_any (Sl.mk 1099511627776 1048575 1099511627776 65535 64 65535 1099511627776 16383 0 1 2 1099511627777 (-(1 + k0))) 1 1 _).mono ?_
    rintro e w5 ⟨ok, L5, rfl, hok, hL1, hL0, hb5⟩
    have hok2 : Hid (ok = false) := hok.out.trans hno
    obtain rfl := hok2.out
    obtain rfl := hL0.out rfl
    clear hok hL1 hL0 hok2 hno hld c0 f0 hx
    have hW5 := hW4.trans (hb5.mono hW4.size)
    go_wp2_with fail
    refine (slotawake_any _).mono ?_
    rintro e wz ⟨rfl, hbz⟩
    go_wp2_with fail
    go_ret
    exact ⟨rfl, below2 hW5 hbz⟩
end
end Go.Proofs.Ytmpkcehjmjopdaa