import Derived.Test.YtmpkcehjmjopdaaNodeF
import Derived.Test.YtmpkcehjmjopdaaSlotBackWalk
namespace Go.Proofs.Ytmpkcehjmjopdaa
open Go.RowKit
section
attribute [local go_sem ↓] ld65 st65 ld63
attribute [local go_sem] nst_new

set_option maxRecDepth 100000 in
set_option maxHeartbeats 2000000 in
theorem nodeBack_no (x : Nd) (bit : Int) (w : World) (hx : x.chk = false) :
    Calls Try.prog 15 #[.agg x.cells, .int .i64 bit] w fun e w' => e = .returned (.bool true) ∧ Below w.heap.size w w' := by
  have hB : Blk (w.alloc (.cells x.cells 65)) w.heap.size 65 x.cells := Blk.new w 65 _
  have hW : Below w.heap.size w (w.alloc (.cells x.cells 65)) := (Below.refl _ w).alloc (Nat.le_refl _) _
  have HX := Lib.hid hx
  clear hx
  have hld := run_ldN hB
  go_enter Try.func15, Try.ntmps15
  go_wp2_with fail
  refine (nputX x _).mono ?_
  rintro e w1 ⟨ok, L, rfl, hok, hL1, hL0, hb1⟩
  have hok2 : Hid (ok = false) := by show _ = _; rw [hok.out, HX.out]
  have hB1 := hB.beyond hb1
  have hW1 := below2 hW hb1
  have hld := run_ldN hB1
  obtain rfl := hok2.out
  obtain rfl := hL0.out rfl
  clear hok hL1 hL0 hok2 hb1
  go_wp2_with fail
  refine (ncheckX x _).mono ?_
  rintro e w2 ⟨rfl, hb2⟩
  rw [HX.out]
  go_wp2_with fail
  refine (nawake_any _).mono ?_
  rintro e w3 ⟨rfl, hb3⟩
  go_wp2_with fail
  go_ret
  exact ⟨rfl, below3 hW1 hb2 hb3⟩

set_option maxRecDepth 100000 in
set_option maxHeartbeats 800000 in
theorem nodeBack_yes (x : Nd) (bit : Int) (w : World) (hx : x.chk = true) :
    Calls Try.prog 15 #[.agg x.cells, .int .i64 bit] w fun e w' => e = .returned (.bool true) ∧ Below w.heap.size w w' := by
  have hB : Blk (w.alloc (.cells x.cells 65)) w.heap.size 65 x.cells := Blk.new w 65 _
  have hW : Below w.heap.size w (w.alloc (.cells x.cells 65)) := (Below.refl _ w).alloc (Nat.le_refl _) _
  have HX := Lib.hid hx
  clear hx
  have hld := run_ldN hB
  go_enter Try.func15, Try.ntmps15
  go_wp2_with fail
  refine (nputX x _).mono ?_
  rintro e w1 ⟨ok, L, rfl, hok, hL1, hL0, hb1⟩
  have hok2 : Hid (ok = true) := by show _ = _; rw [hok.out, HX.out]
  have hB1 := hB.beyond hb1
  have hW1 := below2 hW hb1
  have hld := run_ldN hB1
  obtain rfl := hok2.out
  have hLL := hL1.out rfl
  have HG : Hid (ndGot L = .tuple #[.agg x.cells, .bool true]) := by show _ = _; rw [hLL]; exact ndGot_block HX.out
  have HS : Hid (Summed L) := by show Summed L; rw [hLL]; exact nd_summed _
  have hlen : L.length = 256 := HS.out.length
  have HL := Lib.hid hlen
  have hll : L.length ≤ 256 ∧ 256 ≤ L.length := by omega
  obtain ⟨hll1, hll2⟩ := hll
  clear hok hL1 hL0 hok2 hb1 hLL hlen
  go_wp2_with fail
  refine (ncheckX x _).mono ?_
  rintro e w2 ⟨rfl, hb2⟩
  rw [HX.out]
  have hB2 := hB1.beyond hb2
  have hW2 := below2 hW1 hb2
  clear hB hB1 hW hW1 hb2 hld
  go_wp2_with fail
  refine (nget_any ⟨L.toArray⟩ _ (by show L.toArray.size ≤ _; simp; omega)).mono ?_
  rintro e w3 ⟨rfl, hb3⟩
  rw [show (⟨L.toArray⟩ : ByteArray).data.toList = L from rfl, HG.out]
  have hB3 := (hB2.beyond hb3).alloc (.cells x.cells 65)
  have hW3 := (below2 hW2 hb3).alloc (below2 hW2 hb3).size (.cells x.cells 65)
  have hY3 := Blk.new w3 65 x.cells
  have hld1 := run_ldN hB3
  have hld2 := run_ldN hY3
  clear hb3 hW2 hB2
  go_wp2_with fail
  refine (nsame_yes x _).mono ?_
  rintro e w4 ⟨rfl, hb4⟩
  have hW4 := hW3.trans (hb4.mono hW3.size)
  clear hB3 hY3 hld1 hld2 hW3 hb4
  have hlb : ((L.length : Int) != 256) = false := by simp; omega
  have hcv := Lib.run_convert_string_bytes (P := Try.prog) w4 9 27 5 ⟨L.toArray⟩ Try.underlying9 Try.underlying27 Try.underlying5
  obtain ⟨z, n, hn, hBF⟩ := bytes_blk w4 ⟨L.toArray⟩
  have hW5 := below2 hW4 (bytesWorld_below w4 5 ⟨L.toArray⟩)
  go_wp2_with fail
  refine (place_any bit _ _ (by omega) (by omega)).mono ?_
  rintro e w1 ⟨rfl, rfl⟩
  have q0 := plc_nonneg bit (n := 8 * (L.length : Int)) (by omega)
  have q1 := plc_lt bit (n := 8 * (L.length : Int)) (by omega)
  generalize plc bit (8 * (L.length : Int)) = k at *
  obtain ⟨k, rfl⟩ := Int.eq_ofNat_of_zero_le q0
  clear q0 hcv
  have hn2 : 256 ≤ n := by
    have : (⟨L.toArray⟩ : ByteArray).size = L.length := by show L.toArray.size = _; simp
    omega
  clear hn
  have hk8 : k / 8 < L.length := by omega
  have hk256 : k / 8 < 256 := by omega
  have hG4 : w.heap.size ≤ w4.heap.size := hW4.size
  generalize Lib.bytesWorld w4 5 ⟨L.toArray⟩ = v5 at *
  have c1 := hBF.cell (k / 8)
  rw [bcells_get L _ hk8] at c1
  have f1 := hBF.frozen (i := k / 8) (by omega)
  have hst := hBF.set_ (k / 8) (.int .u8 (flip (L.getD (k / 8) 0) (k % 8)).toNat)
  rw [bcells_set L _ hk8] at hst
  have hW6 := hW5.setCell (p := ⟨w4.heap.size, k / 8, none⟩) hG4 (.int .u8 (flip (L.getD (k / 8) 0) (k % 8)).toNat)
  have HT : Hid (¬ Summed (L.set (k / 8) (flip (L.getD (k / 8) 0) (k % 8)))) := summed_flip HS.out hk256 (by omega)
  have hTl : Hid ((L.set (k / 8) (flip (L.getD (k / 8) 0) (k % 8))).length = L.length) := by show _ = _; simp
  have hfb := flip_bits (L.getD (k / 8) 0) (k % 8) (by omega)
  generalize L.set (k / 8) (flip (L.getD (k / 8) 0) (k % 8)) = T at *
  generalize flip (L.getD (k / 8) 0) (k % 8) = d at *
  generalize L.getD (k / 8) 0 = c at *
  have hcl := c.toNat_lt
  have hcvT : ∀ cap, (convert 27 9 (.slice (some ⟨w4.heap.size, 0, none⟩) L.length cap)).run Try.prog (v5.setCell ⟨w4.heap.size, k / 8, none⟩ (.int .u8 (d.toNat : Int))) = .ok (.string ⟨T.toArray⟩) (v5.setCell ⟨w4.heap.size, k / 8, none⟩ (.int .u8 (d.toNat : Int))) := by
    intro cap
    rw [← hTl.out]
    exact conv_blkF hst cap
  clear hst hBF
  go_wp2_with fail
  clear hcvT
  generalize v5.setCell ⟨w4.heap.size, k / 8, none⟩ (.int .u8 (d.toNat : Int)) = v6 at *
  refine (nget_any ⟨T.toArray⟩ _ (by show T.toArray.size ≤ _; simp [hTl.out]; omega)).mono ?_
  rintro e w7 ⟨rfl, hb7⟩
  rw [show (⟨T.toArray⟩ : ByteArray).data.toList = T from rfl, ndGot_bad HT.out]
  have hW7 := (below2 hW6 hb7).alloc (below2 hW6 hb7).size (.cells ndZero.cells 65)
  clear hb7 hW6 hW5 hW4 HT hTl hfb c1 f1
  go_wp2_with fail
  refine (nawake_any _).mono ?_
  rintro e wz ⟨rfl, hbz⟩
  go_wp2_with fail
  go_ret
  have fin := below2 hW7 hbz
  exact ⟨rfl, fin⟩
end

theorem nodeBack_walk (x : Nd) (bit : Int) (w : World) :
    Calls Try.prog 15 #[.agg x.cells, .int .i64 bit] w fun e w' => e = .returned (.bool true) ∧ Below w.heap.size w w' := by
  cases hx : x.chk
  · exact nodeBack_no x bit w hx
  · exact nodeBack_yes x bit w hx
end Go.Proofs.Ytmpkcehjmjopdaa
