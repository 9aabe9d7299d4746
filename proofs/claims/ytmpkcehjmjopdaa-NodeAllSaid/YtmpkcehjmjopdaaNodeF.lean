import Derived.Test.YtmpkcehjmjopdaaNodeE
namespace Go.Proofs.Ytmpkcehjmjopdaa
open Go.RowKit

/-- a node's value into a variable that was just made -/
theorem nst_new (w : World) (x : Nd) : (stV 65 (.pointer (some ⟨w.heap.size, 0, none⟩)) (.agg x.cells)).run Try.prog (w.alloc (.cells #[.int .i64 0, .int .i64 0, .int .i64 0, .int .i64 0, .int .i64 0, .int .i64 0, .int .i64 0, .int .i64 0, .int .i64 0, .int .i64 0, .int .i64 0, .int .i64 0, .int .i64 0, .int .i64 0, .int .i64 0, .int .i64 0, .int .i64 0, .int .i64 0, .int .i64 0] 65)) = .ok () (w.alloc (.cells x.cells 65)) := by
  rw [run_stN (x := x) (Blk.new w 65 _) rfl, World.setRow_alloc_new]
section
attribute [local go_sem ↓] ld65 st65 ld63
attribute [local go_sem] nst_new
/-- the example's node -/
def exNd : Nd := ⟨3, 1, 1, 700, 0, [0, 0, 0, 0, 0, 0, 0, 0, 0, 0, 0, 0, 0, 0], rfl⟩
theorem exNd_ok : exNd.chk = true := by decide +kernel

set_option maxRecDepth 100000 in
set_option maxHeartbeats 1000000 in
theorem nawake_any (w : World) : Calls Try.prog 45 #[] w fun e w' => e = .returned (.bool true) ∧ Below w.heap.size w w' := by
  have hput : ∀ w, Calls Try.prog 46 #[.agg #[.int .i64 3, .int .i64 1, .int .i64 1, .int .i64 700, .int .i64 0, .int .i64 0, .int .i64 0, .int .i64 0, .int .i64 0, .int .i64 0, .int .i64 0, .int .i64 0, .int .i64 0, .int .i64 0, .int .i64 0, .int .i64 0, .int .i64 0, .int .i64 0, .int .i64 0]] w fun e w' => e = .returned (.tuple #[.string ⟨exNd.block.toArray⟩, .bool true]) ∧ Below w.heap.size w w' :=
    fun w => nput_yes exNd w exNd_ok
  have Hput := Lib.hid hput
  clear hput
  have hmk := mk_256
  have hgot := ndGot_block exNd_ok
  have hlen := (nd_summed exNd).length
  generalize exNd.block = L at *
  have Hgot := Lib.hid hgot
  have Hlen := Lib.hid hlen
  clear hgot hlen
  go_enter Try.func45, Try.ntmps45
  go_wp2_with fail
  refine (Hput.out w).mono ?_
  rintro e w1 ⟨rfl, hb1⟩
  go_wp2_with fail
  refine (nget_any ⟨L.toArray⟩ w1 (by show L.toArray.size ≤ _; simp [Hlen.out])).mono ?_
  rintro e w2 ⟨rfl, hb2⟩
  rw [show (⟨L.toArray⟩ : ByteArray).data.toList = L from rfl, Hgot.out]
  have cx : Blk (w2.alloc (.cells exNd.cells 65)) w2.heap.size 65 exNd.cells := Blk.new w2 65 _
  have hcv := conv_256 (w2.alloc (.cells exNd.cells 65)) 256
  rw [World.size_alloc] at hcv
  have hb3 : Below w2.heap.size w2 (w2.alloc (.cells exNd.cells 65)) := (Below.refl _ w2).alloc (Nat.le_refl _) _
  go_wp2_with fail
  clear hmk hcv
  have hb4 := below2 hb3 ((Below.refl _ (w2.alloc (.cells exNd.cells 65))).alloc (Nat.le_refl _) (.cells zblk 5))
  have cx2 := cx.alloc (.cells zblk 5)
  have sz : zeros256.toArray.size = 256 := by simp [zeros256_length]
  refine (nget_any ⟨zeros256.toArray⟩ _ (by show zeros256.toArray.size ≤ _; rw [sz]; decide)).mono ?_
  rintro e w3 ⟨rfl, hb5⟩
  rw [show (⟨zeros256.toArray⟩ : ByteArray).data.toList = zeros256 from rfl, ndGot_z]
  have cx3 := cx2.beyond hb5
  have hb6 := below2 hb4 hb5
  have c0 : (w3.alloc (.cells ndZero.cells 65)).cell? ⟨w2.heap.size, 0, none⟩ = some (.int .i64 3) := (cx3.alloc (.cells ndZero.cells 65)).cell 0
  have c3 : (w3.alloc (.cells ndZero.cells 65)).cell? ⟨w2.heap.size, 3, none⟩ = some (.int .i64 700) := (cx3.alloc (.cells ndZero.cells 65)).cell 3
  have hb7 := (below2 hb6 ((Below.refl _ w3).alloc (Nat.le_refl _) (.cells ndZero.cells 65)))
  clear cx cx2 cx3 hb3 hb4 hb5 hb6 sz
  go_wp2_with fail
  go_ret
  exact ⟨rfl, below3 hb1 hb2 hb7⟩
end

set_option maxRecDepth 100000 in
set_option maxHeartbeats 2000000 in
theorem nsame_yes (x : Nd) (w : World) : Calls Try.prog 52 #[.agg x.cells, .agg x.cells] w fun e w' => e = .returned (.bool true) ∧ Below w.heap.size w w' := by
  have g0 : Blk ((w.alloc (.cells x.cells 65)).alloc (.cells x.cells 65)) w.heap.size 65 x.cells := (Blk.new w 65 _).alloc _
  have g1 : Blk ((w.alloc (.cells x.cells 65)).alloc (.cells x.cells 65)) (w.heap.size + 1) 65 x.cells := by
    have := Blk.new (w.alloc (.cells x.cells 65)) 65 x.cells
    rwa [World.size_alloc] at this
  have gw : Below w.heap.size w ((w.alloc (.cells x.cells 65)).alloc (.cells x.cells 65)) := ((Below.refl _ w).alloc (Nat.le_refl _) _).alloc (by simp) _
  go_enter Try.func52, Try.ntmps52
  go_wp2_with fail
  generalize (w.alloc (.cells x.cells 65)).alloc (.cells x.cells 65) = v0 at *
  generalize w.heap.size + 1 = b1 at *
  go_loopw [5] (fun i wr => ∃ k : Nat, k ≤ 14 ∧ i = .int .i64 k ∧ Blk wr w.heap.size 65 x.cells ∧ Blk wr b1 65 x.cells ∧ Below w.heap.size w wr) (fun i _ => 14 - (intOf i).toNat)
  case atStart => exact ⟨0, by omega, rfl, g0, g1, gw⟩
  case round =>
    obtain ⟨k, hk, rfl, g0, g1, gw⟩ := hrel
    by_cases hk4 : k < 14
    · have hm := x.cellp k hk4
      generalize x.p.getD k 0 = m at *
      have c0 : wr.cell? ⟨w.heap.size, 5 + k, none⟩ = some (.int .i64 m) := by rw [g0.cell, hm]
      have c1 : wr.cell? ⟨b1, 5 + k, none⟩ = some (.int .i64 m) := by rw [g1.cell, hm]
      clear hm
      go_wp2_with fail
      go_region
      all_goals
        go_wp2_with fail
        go_roundw
        case rel => exact ⟨k + 1, by omega, by go_num, g0.drew, g1.drew, gw.drew⟩
        case measure => simp [intOf]; omega
    · obtain rfl : k = 14 := by omega
      have c0 : wr.cell? ⟨w.heap.size, 0, none⟩ = some (.int .i64 x.num) := by rw [g0.cell, x.cell0]
      have c1 : wr.cell? ⟨w.heap.size, 1, none⟩ = some (.int .i64 x.kind) := by rw [g0.cell, x.cell1]
      have c2 : wr.cell? ⟨w.heap.size, 2, none⟩ = some (.int .i64 x.links) := by rw [g0.cell, x.cell2]
      have c3 : wr.cell? ⟨w.heap.size, 3, none⟩ = some (.int .i64 x.size) := by rw [g0.cell, x.cell3]
      have c4 : wr.cell? ⟨w.heap.size, 4, none⟩ = some (.int .i64 x.time) := by rw [g0.cell, x.cell4]
      have d0 : wr.cell? ⟨b1, 0, none⟩ = some (.int .i64 x.num) := by rw [g1.cell, x.cell0]
      have d1 : wr.cell? ⟨b1, 1, none⟩ = some (.int .i64 x.kind) := by rw [g1.cell, x.cell1]
      have d2 : wr.cell? ⟨b1, 2, none⟩ = some (.int .i64 x.links) := by rw [g1.cell, x.cell2]
      have d3 : wr.cell? ⟨b1, 3, none⟩ = some (.int .i64 x.size) := by rw [g1.cell, x.cell3]
      have d4 : wr.cell? ⟨b1, 4, none⟩ = some (.int .i64 x.time) := by rw [g1.cell, x.cell4]
      go_wp2_with fail
      go_ret
      exact ⟨rfl, gw⟩
end Go.Proofs.Ytmpkcehjmjopdaa
