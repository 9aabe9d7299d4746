import Derived.Test.YtmpkcehjmjopdaaCrc
namespace Go.Proofs.Ytmpkcehjmjopdaa
open Go.RowKit
set_option maxHeartbeats 400000 in
theorem crcAll_walk (s : ByteArray) (hs : s.size ≤ 140737488351232) (t : ByteArray) (ht : t.size ≤ 140737488351232) (w : World) :
    Calls Try.prog 3 #[.string s, .string t] w fun e w' => e = .returned (.bool true) ∧ Below w.heap.size w w' := by
  go_enter Try.func3, Try.ntmps3
  go_wp2_with fail
  refine (of_any s w hs).mono ?_
  rintro e w1 ⟨rfl, hb1⟩
  go_wp2_with fail
  refine (refof_any s w1 (by omega)).mono ?_
  rintro e w2 ⟨rfl, rfl⟩
  go_wp2_with fail
  refine (of_any s w1 hs).mono ?_
  rintro e w2 ⟨rfl, hb2⟩
  have hcl := Bq.crc_lt s.data.toList
  go_wp2_with fail
  refine (more_any (Bq.crc s.data.toList) t w2 hcl ht).mono ?_
  rintro e w3 ⟨rfl, hb3⟩
  rw [Bq.more_crc]
  go_wp2_with fail
  refine (refof_any (s ++ t) w3 (by simp; omega)).mono ?_
  rintro e w4 ⟨rfl, rfl⟩
  rw [show (s ++ t).data.toList = s.data.toList ++ t.data.toList by simp]
  go_wp2_with fail
  refine (awake_any w3).mono ?_
  rintro e w4 ⟨rfl, hb4⟩
  go_wp2_with fail
  go_ret
  exact ⟨rfl, ((hb1.trans (hb2.mono hb1.size)).trans (hb3.mono (by have := hb1.size; have := hb2.size; omega))).trans (hb4.mono (by have := hb1.size; have := hb2.size; have := hb3.size; omega))⟩
end Go.Proofs.Ytmpkcehjmjopdaa
