import Derived.Test.YtmpkcehjmjopdaaCrc
namespace Go.Proofs.Ytmpkcehjmjopdaa
open Go.RowKit

theorem crcParts_long (s : ByteArray) (a : Option Addr) (len cap : Nat) (w : World) (hm : len ≤ 9223372036854775807) (hl : s.size ≤ 9223372036854775807) (h : 2000 < s.size ∨ 20 < len) :
    Calls Try.prog 5 #[.string s, .slice a len cap] w fun e w' => e = .returned (.bool true) ∧ Below w.heap.size w w' := by
  by_cases h1 : 2000 < s.size
  · clear h
    go_enter Try.func5, Try.ntmps5
    go_wp2_with (go_at_call 22; refine (awake_any _).mono ?_; rintro e w1 ⟨rfl, hb1⟩)
    go_ret
    exact ⟨rfl, hb1⟩
  · have h2 : 20 < len := by omega
    clear h
    go_enter Try.func5, Try.ntmps5
    go_wp2_with (go_at_call 22; refine (awake_any _).mono ?_; rintro e w1 ⟨rfl, hb1⟩)
    go_ret
    exact ⟨rfl, hb1⟩

theorem extract_lists (r : ByteArray) (q : Nat) : (r.extract 0 q).data.toList ++ (r.extract q r.size).data.toList = r.data.toList := by
  rw [Lib.extract_data, Lib.extract_to_end]
  simp

set_option maxHeartbeats 400000 in
theorem crcParts_short (s : ByteArray) (a : Option Addr) (len cap : Nat) (zs : List Int) (w : World) (hs : s.size ≤ 2000) (hl : len ≤ 20)
    (ha : ∀ i, i < len → ∃ b o, b < w.heap.size ∧ a = some ⟨b, o, none⟩ ∧ w.cell? ⟨b, o + i, none⟩ = some (.int .i64 (zs.getD i 0))) :
    Calls Try.prog 5 #[.string s, .slice a len cap] w fun e w' => e = .returned (.bool true) ∧ Below w.heap.size w w' := by
  have hcrc : Hid (Bq.crc [] = 0) := Bq.crc_nil
  go_enter Try.func5, Try.ntmps5
  go_wp2_with fail
  refine (of_any ⟨#[]⟩ w (by decide)).mono ?_
  rintro e w1 ⟨rfl, hb1⟩
  rw [show (⟨#[]⟩ : ByteArray).data.toList = [] from rfl]
  go_wp2_with fail
  go_loopw [5, 6, 7] (fun x r i wr => ∃ (k : Nat) (p : List UInt8) (rs : ByteArray), k ≤ len ∧ i = .int .i64 k ∧ r = .string rs ∧ rs.size ≤ 2000 ∧ x = .int .u32 (Bq.crc p : Nat) ∧ Hid (p ++ rs.data.toList = s.data.toList) ∧ Below w.heap.size w wr) (fun _ _ i _ => len - (intOf i).toNat)
  case atStart => exact ⟨0, [], s, Nat.zero_le _, rfl, rfl, hs, rfl, rfl, hb1⟩
  case round =>
    obtain ⟨k, p, rs, hk, rfl, rfl, hrs, rfl, hp, hb⟩ := hrel
    by_cases hlt : k < len
    · obtain ⟨b, o, hbl, rfl, hcell⟩ := ha k hlt
      clear ha
      have hc2 : wr.cell? ⟨b, o + k, none⟩ = some (.int .i64 (zs.getD k 0)) := by rw [hb.cell (p := ⟨b, o + k, none⟩) hbl]; exact hcell
      clear hcell
      generalize zs.getD k 0 = z at *
      go_wp2_with fail
      refine (place_any z _ wr (by omega) (by omega)).mono ?_
      rintro e w2 ⟨rfl, rfl⟩
      have h0 := plc_nonneg z (n := (rs.size : Int) + 1) (by omega)
      have h1 := plc_lt z (n := (rs.size : Int) + 1) (by omega)
      generalize plc z ((rs.size : Int) + 1) = q at *
      obtain ⟨q, rfl⟩ := Int.eq_ofNat_of_zero_le h0
      clear h0
      have hcl := Bq.crc_lt p
      have hex := Lib.hid (extract_lists rs q)
      have hq1 : (rs.extract 0 q).size ≤ 140737488351232 := by simp; omega
      go_wp2_with fail
      refine (more_any (Bq.crc p) (rs.extract 0 q) wr hcl hq1).mono ?_
      rintro e w2 ⟨rfl, hb2⟩
      rw [Bq.more_crc]
      go_wp2_with fail
      go_roundw
      case rel => exact ⟨k + 1, p ++ (rs.extract 0 q).data.toList, rs.extract q rs.size, by omega, by go_num, rfl, by simp; omega, by rw [Lib.extract_data]; simp, by show _ = _; rw [List.append_assoc, hex.out, hp.out], hb.trans (hb2.mono hb.size)⟩
      case measure => simp [intOf]; omega
    · obtain rfl : k = len := by omega
      clear ha
      have hcl := Bq.crc_lt p
      go_wp2_with fail
      refine (more_any (Bq.crc p) rs wr hcl (by omega)).mono ?_
      rintro e w2 ⟨rfl, hb2⟩
      rw [Bq.more_crc, hp.out]
      go_wp2_with fail
      refine (of_any s w2 (by omega)).mono ?_
      rintro e w3 ⟨rfl, hb3⟩
      go_wp2_with fail
      refine (awake_any w3).mono ?_
      rintro e w4 ⟨rfl, hb4⟩
      go_wp2_with fail
      go_ret
      exact ⟨rfl, ((hb.trans (hb2.mono hb.size)).trans (hb3.mono (by have := hb.size; have := hb2.size; omega))).trans (hb4.mono (by have := hb.size; have := hb2.size; have := hb3.size; omega))⟩

theorem crcParts_walk (s : ByteArray) (hs : s.size ≤ 140737488351232) (a : Option Addr) (len cap : Nat) (zs : List Int) (w : World) (h : IsRow .i64 w a len cap zs) (hm : len ≤ 140737488351232) :
    Calls Try.prog 5 #[.string s, .slice a len cap] w fun e w' => e = .returned (.bool true) ∧ Below w.heap.size w w' := by
  by_cases hh : 2000 < s.size ∨ 20 < len
  · exact crcParts_long s a len cap w (by omega) (by omega) hh
  · refine crcParts_short s a len cap zs w (by omega) (by omega) fun i hi => ?_
    obtain ⟨b, o, ha, hb, _, _, hc, _⟩ := h.cells (by omega)
    exact ⟨b, o, hb, ha, hc i hi⟩
end Go.Proofs.Ytmpkcehjmjopdaa
