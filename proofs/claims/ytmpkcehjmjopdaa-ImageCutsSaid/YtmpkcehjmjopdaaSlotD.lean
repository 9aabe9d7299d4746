import Derived.Test.YtmpkcehjmjopdaaPlainSlot
import Derived.BigRegion
import Derived.Deep.WholeRow
import Derived.BigQuiet
import Derived.Deep.QuietTactic
namespace Go.Proofs.Ytmpkcehjmjopdaa
open Go.RowKit

theorem checkX (x : Sl) (w : World) : Calls Try.prog 29 #[.agg x.cells] w fun e w' => e = .returned (.bool x.chk) ∧ Below w.heap.size w w' := by
  obtain ⟨num, life, clock, seg, at_, next, seq, m0, m1, m2, m3, sb, sn⟩ := x
  exact check_any num life clock seg at_ next seq m0 m1 m2 m3 sb sn w

/-- a slot's value into a variable that was just made -/
theorem st_new (w : World) (x : Sl) : (stV 37 (.pointer (some ⟨w.heap.size, 0, none⟩)) (.agg x.cells)).run Try.prog (w.alloc (.cells #[.int .i64 0, .int .i64 0, .int .i64 0, .int .i64 0, .int .i64 0, .int .i64 0, .int .i64 0, .int .i64 0, .int .i64 0, .int .i64 0, .int .i64 0, .int .i64 0, .int .i64 0] 37)) = .ok () (w.alloc (.cells x.cells 37)) := by
  rw [run_stB (x := x) (Blk.new w 37 _) rfl, World.setRow_alloc_new]
theorem cells_0 (x : Sl) : x.cells[0]? = some (.int .i64 x.num) := rfl
theorem cells_6 (x : Sl) : x.cells[6]? = some (.int .i64 x.seq) := rfl
theorem cells_7 (x : Sl) : x.cells[7]? = some (.int .i64 x.m0) := rfl
theorem cells_12 (x : Sl) : x.cells[12]? = some (.int .i64 x.sn) := rfl

/-- a block of bytes 0 -/
def zeros256 : List UInt8 := List.replicate 256 0
def zblk : Array Value := (bcells zeros256).toArray
theorem zeros256_length : zeros256.length = 256 := List.length_replicate
theorem mk_256 (w : World) : (Instr.makeSlice 27 (.int .i64 256) (.int .i64 256)).run Try.prog w = .ok (.slice (some ⟨w.heap.size, 0, none⟩) 256 256) (w.alloc (.cells zblk 5)) := make_bytes w 256 (by decide)
theorem conv_256 (w : World) (cap : Nat) : (convert 27 9 (.slice (some ⟨w.heap.size, 0, none⟩) 256 cap)).run Try.prog (w.alloc (.cells zblk 5)) = .ok (.string ⟨zeros256.toArray⟩) (w.alloc (.cells zblk 5)) := by
  have h := conv_blk (W := w.alloc (.cells zblk 5)) (g := w.heap.size) (t := 5) (l := zeros256) (x := #[]) (by simpa [zblk] using Blk.new w 5 zblk) cap
  rwa [zeros256_length] at h
theorem slGot_z : slGot zeros256 = .tuple #[.int .i64 0, .int .i64 0, .agg slZero.cells, .bool false] := slGot_zeros

section
attribute [local go_sem ↓] ld37 st37
attribute [local go_sem] st_new
/-- the example's slot -/
def exSl : Sl := ⟨1, 1, 0, 0, 0, 0, 7, 0, 0, 0, 0, 0, 0⟩
theorem exSl_ok : exSl.ok 2 5 = true := by decide +kernel

set_option maxRecDepth 100000 in
set_option maxHeartbeats 1000000 in
theorem slotawake_any (w : World) : Calls Try.prog 24 #[] w fun e w' => e = .returned (.bool true) ∧ Below w.heap.size w w' := by
  have hput : ∀ w, Calls Try.prog 25 #[.int .i64 2, .int .i64 5, .agg #[.int .i64 1, .int .i64 1, .int .i64 0, .int .i64 0, .int .i64 0, .int .i64 0, .int .i64 7, .int .i64 0, .int .i64 0, .int .i64 0, .int .i64 0, .int .i64 0, .int .i64 0]] w fun e w' => e = .returned (.tuple #[.string ⟨(exSl.block 2 5).toArray⟩, .bool true]) ∧ Below w.heap.size w w' :=
    fun w => slotput_yes 2 5 1 1 0 0 0 0 7 0 0 0 0 0 0 w rfl rfl rfl
  have Hput := Lib.hid hput
  clear hput
  have hmk := mk_256
  have hgot := slGot_block exSl_ok
  have hlen := (slot_summed exSl 2 5).length
  generalize exSl.block 2 5 = L at *
  have Hgot := Lib.hid hgot
  have Hlen := Lib.hid hlen
  clear hgot hlen
  go_enter Try.func24, Try.ntmps24
  go_wp2_with fail
  refine (Hput.out w).mono ?_
  rintro e w1 ⟨rfl, hb1⟩
  go_wp2_with fail
  refine (slotget_any ⟨L.toArray⟩ w1 (by show L.toArray.size ≤ _; simp [Hlen.out])).mono ?_
  rintro e w2 ⟨rfl, hb2⟩
  rw [show (⟨L.toArray⟩ : ByteArray).data.toList = L from rfl, Hgot.out]
  have cx : Blk (w2.alloc (.cells exSl.cells 37)) w2.heap.size 37 exSl.cells := Blk.new w2 37 _
  have hcv := conv_256 (w2.alloc (.cells exSl.cells 37)) 256
  rw [World.size_alloc] at hcv
  have hb3 : Below w2.heap.size w2 (w2.alloc (.cells exSl.cells 37)) := (Below.refl _ w2).alloc (Nat.le_refl _) _
  go_wp2_with fail
  clear hmk hcv
  have hb4 := below2 hb3 ((Below.refl _ (w2.alloc (.cells exSl.cells 37))).alloc (Nat.le_refl _) (.cells zblk 5))
  have cx2 := cx.alloc (.cells zblk 5)
  have sz : zeros256.toArray.size = 256 := by simp [zeros256_length]
  refine (slotget_any ⟨zeros256.toArray⟩ _ (by show zeros256.toArray.size ≤ _; rw [sz]; decide)).mono ?_
  rintro e w3 ⟨rfl, hb5⟩
  rw [show (⟨zeros256.toArray⟩ : ByteArray).data.toList = zeros256 from rfl, slGot_z]
  have cx3 := cx2.beyond hb5
  have hb6 := below2 hb4 hb5
  have c6 : (w3.alloc (.cells slZero.cells 37)).cell? ⟨w2.heap.size, 6, none⟩ = some (.int .i64 7) := (cx3.alloc (.cells slZero.cells 37)).cell 6
  have hb7 := (below2 hb6 ((Below.refl _ w3).alloc (Nat.le_refl _) (.cells slZero.cells 37)))
  clear cx cx2 cx3 hb3 hb4 hb5 hb6 sz
  go_wp2_with fail
  go_ret
  exact ⟨rfl, below3 hb1 hb2 hb7⟩
end

theorem cells_map (x : Sl) (k : Nat) (h : k < 4) : x.cells[7 + k]? = some (.int .i64 (x.maps.getD k 0)) := by
  obtain rfl | rfl | rfl | rfl : k = 0 ∨ k = 1 ∨ k = 2 ∨ k = 3 := by omega
  all_goals rfl

set_option maxRecDepth 100000 in
set_option maxHeartbeats 2000000 in
theorem same_yes (x : Sl) (w : World) : Calls Try.prog 31 #[.agg x.cells, .agg x.cells] w fun e w' => e = .returned (.bool true) ∧ Below w.heap.size w w' := by
  have g0 : Blk ((w.alloc (.cells x.cells 37)).alloc (.cells x.cells 37)) w.heap.size 37 x.cells := (Blk.new w 37 _).alloc _
  have g1 : Blk ((w.alloc (.cells x.cells 37)).alloc (.cells x.cells 37)) (w.heap.size + 1) 37 x.cells := by
    have := Blk.new (w.alloc (.cells x.cells 37)) 37 x.cells
    rwa [World.size_alloc] at this
  have gw : Below w.heap.size w ((w.alloc (.cells x.cells 37)).alloc (.cells x.cells 37)) := ((Below.refl _ w).alloc (Nat.le_refl _) _).alloc (by simp) _
  go_enter Try.func31, Try.ntmps31
  go_wp2_with fail
  generalize (w.alloc (.cells x.cells 37)).alloc (.cells x.cells 37) = v0 at *
  generalize w.heap.size + 1 = b1 at *
  go_loopw [5] (fun i wr => ∃ k : Nat, k ≤ 4 ∧ i = .int .i64 k ∧ Blk wr w.heap.size 37 x.cells ∧ Blk wr b1 37 x.cells ∧ Below w.heap.size w wr) (fun i _ => 4 - (intOf i).toNat)
  case atStart => exact ⟨0, by omega, rfl, g0, g1, gw⟩
  case round =>
    obtain ⟨k, hk, rfl, g0, g1, gw⟩ := hrel
    by_cases hk4 : k < 4
    · have hm := cells_map x k hk4
      generalize x.maps.getD k 0 = m at *
      have c0 : wr.cell? ⟨w.heap.size, 7 + k, none⟩ = some (.int .i64 m) := by rw [g0.cell, hm]
      have c1 : wr.cell? ⟨b1, 7 + k, none⟩ = some (.int .i64 m) := by rw [g1.cell, hm]
      clear hm
      go_wp2_with fail
      go_region
      all_goals
        go_wp2_with fail
        go_roundw
        case rel => exact ⟨k + 1, by omega, by go_num, g0.drew, g1.drew, gw.drew⟩
        case measure => simp [intOf]; omega
    · obtain rfl : k = 4 := by omega
      have c0 : wr.cell? ⟨w.heap.size, 0, none⟩ = some (.int .i64 x.num) := g0.cell 0
      have c1 : wr.cell? ⟨w.heap.size, 1, none⟩ = some (.int .i64 x.life) := g0.cell 1
      have c2 : wr.cell? ⟨w.heap.size, 2, none⟩ = some (.int .i64 x.clock) := g0.cell 2
      have c3 : wr.cell? ⟨w.heap.size, 3, none⟩ = some (.int .i64 x.seg) := g0.cell 3
      have c4 : wr.cell? ⟨w.heap.size, 4, none⟩ = some (.int .i64 x.at_) := g0.cell 4
      have c5 : wr.cell? ⟨w.heap.size, 5, none⟩ = some (.int .i64 x.next) := g0.cell 5
      have c6 : wr.cell? ⟨w.heap.size, 6, none⟩ = some (.int .i64 x.seq) := g0.cell 6
      have c7 : wr.cell? ⟨w.heap.size, 11, none⟩ = some (.int .i64 x.sb) := g0.cell 11
      have c8 : wr.cell? ⟨w.heap.size, 12, none⟩ = some (.int .i64 x.sn) := g0.cell 12
      have d0 : wr.cell? ⟨b1, 0, none⟩ = some (.int .i64 x.num) := g1.cell 0
      have d1 : wr.cell? ⟨b1, 1, none⟩ = some (.int .i64 x.life) := g1.cell 1
      have d2 : wr.cell? ⟨b1, 2, none⟩ = some (.int .i64 x.clock) := g1.cell 2
      have d3 : wr.cell? ⟨b1, 3, none⟩ = some (.int .i64 x.seg) := g1.cell 3
      have d4 : wr.cell? ⟨b1, 4, none⟩ = some (.int .i64 x.at_) := g1.cell 4
      have d5 : wr.cell? ⟨b1, 5, none⟩ = some (.int .i64 x.next) := g1.cell 5
      have d6 : wr.cell? ⟨b1, 6, none⟩ = some (.int .i64 x.seq) := g1.cell 6
      have d7 : wr.cell? ⟨b1, 11, none⟩ = some (.int .i64 x.sb) := g1.cell 11
      have d8 : wr.cell? ⟨b1, 12, none⟩ = some (.int .i64 x.sn) := g1.cell 12
      go_wp2_with fail
      go_ret
      exact ⟨rfl, gw⟩
end Go.Proofs.Ytmpkcehjmjopdaa
