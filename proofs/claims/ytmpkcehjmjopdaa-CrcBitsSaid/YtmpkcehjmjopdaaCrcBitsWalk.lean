import Derived.Test.YtmpkcehjmjopdaaCrc
import Derived.Test.YtmpkcehjmjopdaaPlainTw
import Derived.Deep.RegionWith
namespace Go.Proofs.Ytmpkcehjmjopdaa
open Go.RowKit

theorem crcBits_out (a : Option Addr) (len cap : Nat) (n : Int) (r : Nat) (w : World) (hm : len ≤ 9223372036854775807) (h : len < 5 ∨ 2000 < len ∨ r = 0) :
    Calls Try.prog 4 #[.slice a len cap, .int .i64 n, .int .u32 r] w fun e w' => e = .returned (.bool true) ∧ Below w.heap.size w w' := by
  by_cases h1 : len < 5
  · clear h
    go_enter Try.func4, Try.ntmps4
    go_wp2_with (go_at_call 22; refine (awake_any _).mono ?_; rintro e w1 ⟨rfl, hb1⟩)
    go_ret
    exact ⟨rfl, hb1⟩
  by_cases h2 : 2000 < len
  · clear h
    go_enter Try.func4, Try.ntmps4
    go_wp2_with (go_at_call 22; refine (awake_any _).mono ?_; rintro e w1 ⟨rfl, hb1⟩)
    go_ret
    exact ⟨rfl, hb1⟩
  · obtain rfl : r = 0 := by omega
    clear h
    go_enter Try.func4, Try.ntmps4
    go_wp2_with (go_at_call 22; refine (awake_any _).mono ?_; rintro e w1 ⟨rfl, hb1⟩)
    go_ret
    exact ⟨rfl, hb1⟩

set_option maxRecDepth 100000 in
set_option maxHeartbeats 1000000 in
theorem crcBits_in (b o cap : Nat) (S : List UInt8) (n : Int) (r : Nat) (w : World) (h1 : 5 ≤ S.length) (h2 : S.length ≤ 2000) (h3 : r ≠ 0) (h4 : r < 4294967296) (hb : b < w.heap.size)
    (hcell : ∀ i, i < S.length → w.cell? ⟨b, o + i, none⟩ = some (.int .u8 (S.getD i 0).toNat)) :
    Calls Try.prog 4 #[.slice (some ⟨b, o, none⟩) S.length cap, .int .i64 n, .int .u32 r] w fun e w' => e = .returned (.bool true) ∧ Below w.heap.size w w' := by
  have hcellH := Lib.hid hcell
  clear hcell
  have hr : ((r : Int) == (0 : Int)) = false := by simp; omega
  go_enter Try.func4, Try.ntmps4
  go_wp2_with (at_builtin; refine wpList_copy_bytes _ rfl _ _ rfl rfl ⟨b, o, none⟩ S cap rfl ?c1 ?c2 ?c3 ?_)
  case c1 => intro j hj; simpa [Addr.add_lit] using hcellH.out j hj
  case c2 => omega
  case c3 => omega
  intro z cp w1 hB hw1
  go_wp2_with fail
  refine (place_any n _ w1 (by omega) (by omega)).mono ?_
  rintro e w2 ⟨rfl, rfl⟩
  have p0 := plc_nonneg n (n := 8 * (S.length : Int) - 39) (by omega)
  have p1 := plc_lt n (n := 8 * (S.length : Int) - 39) (by omega)
  generalize plc n (8 * (S.length : Int) - 39) = k at *
  obtain ⟨k, rfl⟩ := Int.eq_ofNat_of_zero_le p0
  clear p0
  have hsh0 : IntKind.u64.wrap ((r : Int) * 2 ^ (k % 8)) = ((2 ^ (k % 8) * r : Nat) : Int) := by
    have e : ((r : Int) * 2 ^ (k % 8)) = ((2 ^ (k % 8) * r : Nat) : Int) := by rw [Nat.mul_comm]; simp
    have : (2 : Nat) ^ (k % 8) ≤ 2 ^ 7 := Nat.pow_le_pow_right (by decide) (by omega)
    have h2 : 2 ^ (k % 8) * r ≤ 2 ^ 7 * r := Nat.mul_le_mul_right _ this
    rw [e, IntKind.wrap_u64]
    omega
  have hsh := Lib.hid hsh0
  have hx40 : 2 ^ (k % 8) * r < 1099511627776 := by
    have : (2 : Nat) ^ (k % 8) ≤ 2 ^ 7 := Nat.pow_le_pow_right (by decide) (by omega)
    have h2 : 2 ^ (k % 8) * r ≤ 2 ^ 7 * r := Nat.mul_le_mul_right _ this
    omega
  have hfin := Lib.hid (Bq.crc_turned S (k / 8) (2 ^ (k % 8) * r) r (k % 8) (by omega) rfl h3 (by omega) (by omega))
  clear hsh0
  go_wp2_with fail
  rw [hsh.out]
  clear hsh
  generalize 2 ^ (k % 8) * r = x at *
  have hko : k / 8 + 5 ≤ S.length := by omega
  have hk8 : k < 16000 := by omega
  go_loopw [10] (fun i wr => ∃ j : Nat, j ≤ 5 ∧ i = .int .i64 j ∧ Blk wr w.heap.size 5 ((bcells (Bq.tw S (k / 8) x j)).toArray ++ z) ∧ Below w.heap.size w wr) (fun i _ => 5 - (intOf i).toNat)
  case atStart => exact ⟨0, by omega, rfl, hB, hw1⟩
  case round =>
    obtain ⟨j, hj, rfl, hblk, hbel⟩ := hrel
    by_cases hlt : j < 5
    · have hl : k / 8 + j < (Bq.tw S (k / 8) x j).length := by rw [Bq.tw_length]; omega
      have hc := hblk.cell (k / 8 + j)
      rw [bcells_get _ _ hl] at hc
      have hf := hblk.frozen (k / 8 + j)
      have Hs : Hid (Bq.tw S (k / 8) x (j + 1) = (Bq.tw S (k / 8) x j).set (k / 8 + j) ((Bq.tw S (k / 8) x j).getD (k / 8 + j) 0 ^^^ Bq.byteOf x j)) := rfl
      generalize (Bq.tw S (k / 8) x j).getD (k / 8 + j) 0 = c at *
      have hcl := c.toNat_lt
      go_wp2_with fail
      go_roundw
      case rel =>
        refine ⟨j + 1, by omega, by go_num, ?_, hbel.setCell (Nat.le_refl _) _⟩
        have hv : bits .xor .u8 (c.toNat : Int) ((x : Int) / 2 ^ (8 * j) % 256) = ((c ^^^ Bq.byteOf x j).toNat : Int) := by
          have e1 : ((x : Int) / 2 ^ (8 * j) % 256) = ((Bq.byteOf x j).toNat : Int) := by
            rw [Bq.byteOf_toNat]
            have e1 : ((2 : Int) ^ (8 * j)) = ((256 ^ j : Nat) : Int) := by rw [Int.pow_mul]; simp
            rw [e1, ← Int.natCast_ediv]
            simp
          rw [e1, u8_xor_nat _ _ hcl (Bq.byteOf x j).toNat_lt, UInt8.toNat_xor]
        rw [hv]
        have hs := hblk.set_ (k / 8 + j) (.int .u8 (c ^^^ Bq.byteOf x j).toNat)
        rw [bcells_set _ _ hl] at hs
        rw [← Hs.out] at hs
        exact hs
      case measure => simp [intOf]; omega
    · obtain rfl : j = 5 := by omega
      have hne : ((Bq.crc S : Int) != (Bq.crc (Bq.tw S (k / 8) x 5) : Int)) = true := by
        have := hfin.out
        simp only [bne_iff_ne, ne_eq, Int.ofNat_inj]
        exact this
      have hTl : (Bq.tw S (k / 8) x 5).length = S.length := Bq.tw_length _ _ _ _
      have r2 : ∀ W, Below wr.heap.size wr W → (convert 27 9 (.slice (some ⟨w.heap.size, 0, none⟩) S.length cp)).run Try.prog W = .ok (.string ⟨(Bq.tw S (k / 8) x 5).toArray⟩) W := by
        intro W hW
        rw [← hTl]
        exact conv_blk (hblk.beyond hW) cp
      have r1 : ∀ W, Below wr.heap.size wr W → (convert 27 9 (.slice (some ⟨b, o, none⟩) S.length cap)).run Try.prog W = .ok (.string ⟨S.toArray⟩) W := by
        intro W hW
        refine conv_cells ?_ cap
        intro i hi
        rw [hW.cell (p := ⟨b, o + i, none⟩) (Nat.lt_of_lt_of_le hb hbel.size), hbel.cell (p := ⟨b, o + i, none⟩) hb]
        exact hcellH.out i hi
      have e1 : ((⟨S.toArray⟩ : ByteArray).data.toList) = S := rfl
      have s1 : (⟨S.toArray⟩ : ByteArray).size ≤ 140737488351232 := by show S.toArray.size ≤ _; simp; omega
      have s2 : (⟨(Bq.tw S (k / 8) x 5).toArray⟩ : ByteArray).size ≤ 140737488351232 := by show (Bq.tw S (k / 8) x 5).toArray.size ≤ _; simp; omega
      clear hTl hblk hcellH hfin
      generalize Bq.tw S (k / 8) x 5 = T at *
      have hd0 : Below wr.heap.size wr wr.drew := (Below.refl _ _).drew
      go_wp2_with fail
      go_region_with (first | (go_at_call 22; refine (awake_any _).mono ?_; rintro e w2 ⟨rfl, hb2⟩; have hk3 : Below wr.heap.size wr w2 := (by refine below2 ?_ hb2; assumption)) | (go_at_call 19; refine (of_any _ _ (by assumption)).mono ?_; rintro e w2 ⟨rfl, hb2⟩; have hk3 : Below wr.heap.size wr w2 := (by refine below2 ?_ hb2; assumption); clear hb2))
      all_goals
        go_wp2_with fail
        go_ret
        refine ⟨rfl, below2 hbel ?_⟩
        assumption

theorem crcBits_walk (a : Option Addr) (len cap : Nat) (zs : List Int) (w : World) (h : IsRow .u8 w a len cap zs) (hm : len ≤ 140737488351232) (n : Int) (r : Int) (hr : (Lit.int .u32 r).wf = true) :
    Calls Try.prog 4 #[.slice a len cap, .int .i64 n, .int .u32 r] w fun e w' => e = .returned (.bool true) ∧ Below w.heap.size w w' := by
  have h1 : IntKind.u32.min = 0 := rfl
  have h2 : IntKind.u32.max = 4294967295 := rfl
  simp only [Lit.wf, Bool.and_eq_true, decide_eq_true_eq, h1, h2] at hr
  obtain ⟨r, rfl⟩ := Int.eq_ofNat_of_zero_le hr.1
  by_cases hh : len < 5 ∨ 2000 < len ∨ r = 0
  · exact crcBits_out a len cap n r w (by omega) hh
  · obtain ⟨b, o, S, rfl, hb, rfl, hc⟩ := h.bytes (by omega)
    exact crcBits_in b o cap S n r w (by omega) (by omega) (by omega) (by omega) hb hc
end Go.Proofs.Ytmpkcehjmjopdaa
