import Derived.Test.YtmpkcehjmjopdaaSlotC
import Derived.Test.YtmpkcehjmjopdaaPlainSum
namespace Go.Proofs.Ytmpkcehjmjopdaa

theorem slot_bounds {x : Sl} {h g : Int} (hok : x.ok h g = true) : (1 ≤ h ∧ h ≤ 16) ∧ (1 ≤ g ∧ g ≤ 65535) ∧ x.chk = true := by
  unfold Sl.ok at hok
  simp only [Bool.and_eq_true] at hok
  exact ⟨inb_true hok.1.1, inb_true hok.1.2, hok.2⟩
theorem slot_summed (x : Sl) (h g : Int) : Summed (x.block h g) := ⟨x.body h g, Sl.body_length x h g, rfl⟩

theorem slot_eq (x : Sl) (h g : Int) : x.block h g = [66, 71, 83, 76] ++ les h.toNat 1 ++ les g.toNat 2 ++ les x.num.toNat 6 ++ les x.life.toNat 3 ++ les x.clock.toNat 6 ++ les x.seg.toNat 2 ++ les x.at_.toNat 2 ++ les x.next.toNat 2 ++ les x.seq.toNat 6 ++ les x.m0.toNat 4 ++ les x.m1.toNat 4 ++ les x.m2.toNat 4 ++ les x.m3.toNat 4 ++ les x.sb.toNat 6 ++ les x.sn.toNat 6 ++ List.replicate 190 0 ++ les (Bq.crc (x.body h g)) 4 := rfl
theorem slot_h (x : Sl) (h g : Int) (hv : h.toNat < 256 ^ 1) : num (x.block h g) 4 1 = h.toNat :=
  num_les (p := [66, 71, 83, 76]) (r := les g.toNat 2 ++ les x.num.toNat 6 ++ les x.life.toNat 3 ++ les x.clock.toNat 6 ++ les x.seg.toNat 2 ++ les x.at_.toNat 2 ++ les x.next.toNat 2 ++ les x.seq.toNat 6 ++ les x.m0.toNat 4 ++ les x.m1.toNat 4 ++ les x.m2.toNat 4 ++ les x.m3.toNat 4 ++ les x.sb.toNat 6 ++ les x.sn.toNat 6 ++ List.replicate 190 0 ++ les (Bq.crc (x.body h g)) 4) (by rw [slot_eq]; simp only [List.append_assoc]) rfl hv
theorem slot_g (x : Sl) (h g : Int) (hv : g.toNat < 256 ^ 2) : num (x.block h g) 5 2 = g.toNat :=
  num_les (p := [66, 71, 83, 76] ++ les h.toNat 1) (r := les x.num.toNat 6 ++ les x.life.toNat 3 ++ les x.clock.toNat 6 ++ les x.seg.toNat 2 ++ les x.at_.toNat 2 ++ les x.next.toNat 2 ++ les x.seq.toNat 6 ++ les x.m0.toNat 4 ++ les x.m1.toNat 4 ++ les x.m2.toNat 4 ++ les x.m3.toNat 4 ++ les x.sb.toNat 6 ++ les x.sn.toNat 6 ++ List.replicate 190 0 ++ les (Bq.crc (x.body h g)) 4) (by rw [slot_eq]; simp only [List.append_assoc]) (by simp [les_length]) hv
theorem slot_num (x : Sl) (h g : Int) (hv : x.num.toNat < 256 ^ 6) : num (x.block h g) 7 6 = x.num.toNat :=
  num_les (p := [66, 71, 83, 76] ++ les h.toNat 1 ++ les g.toNat 2) (r := les x.life.toNat 3 ++ les x.clock.toNat 6 ++ les x.seg.toNat 2 ++ les x.at_.toNat 2 ++ les x.next.toNat 2 ++ les x.seq.toNat 6 ++ les x.m0.toNat 4 ++ les x.m1.toNat 4 ++ les x.m2.toNat 4 ++ les x.m3.toNat 4 ++ les x.sb.toNat 6 ++ les x.sn.toNat 6 ++ List.replicate 190 0 ++ les (Bq.crc (x.body h g)) 4) (by rw [slot_eq]; simp only [List.append_assoc]) (by simp [les_length]) hv
theorem slot_life (x : Sl) (h g : Int) (hv : x.life.toNat < 256 ^ 3) : num (x.block h g) 13 3 = x.life.toNat :=
  num_les (p := [66, 71, 83, 76] ++ les h.toNat 1 ++ les g.toNat 2 ++ les x.num.toNat 6) (r := les x.clock.toNat 6 ++ les x.seg.toNat 2 ++ les x.at_.toNat 2 ++ les x.next.toNat 2 ++ les x.seq.toNat 6 ++ les x.m0.toNat 4 ++ les x.m1.toNat 4 ++ les x.m2.toNat 4 ++ les x.m3.toNat 4 ++ les x.sb.toNat 6 ++ les x.sn.toNat 6 ++ List.replicate 190 0 ++ les (Bq.crc (x.body h g)) 4) (by rw [slot_eq]; simp only [List.append_assoc]) (by simp [les_length]) hv
theorem slot_clock (x : Sl) (h g : Int) (hv : x.clock.toNat < 256 ^ 6) : num (x.block h g) 16 6 = x.clock.toNat :=
  num_les (p := [66, 71, 83, 76] ++ les h.toNat 1 ++ les g.toNat 2 ++ les x.num.toNat 6 ++ les x.life.toNat 3) (r := les x.seg.toNat 2 ++ les x.at_.toNat 2 ++ les x.next.toNat 2 ++ les x.seq.toNat 6 ++ les x.m0.toNat 4 ++ les x.m1.toNat 4 ++ les x.m2.toNat 4 ++ les x.m3.toNat 4 ++ les x.sb.toNat 6 ++ les x.sn.toNat 6 ++ List.replicate 190 0 ++ les (Bq.crc (x.body h g)) 4) (by rw [slot_eq]; simp only [List.append_assoc]) (by simp [les_length]) hv
theorem slot_seg (x : Sl) (h g : Int) (hv : x.seg.toNat < 256 ^ 2) : num (x.block h g) 22 2 = x.seg.toNat :=
  num_les (p := [66, 71, 83, 76] ++ les h.toNat 1 ++ les g.toNat 2 ++ les x.num.toNat 6 ++ les x.life.toNat 3 ++ les x.clock.toNat 6) (r := les x.at_.toNat 2 ++ les x.next.toNat 2 ++ les x.seq.toNat 6 ++ les x.m0.toNat 4 ++ les x.m1.toNat 4 ++ les x.m2.toNat 4 ++ les x.m3.toNat 4 ++ les x.sb.toNat 6 ++ les x.sn.toNat 6 ++ List.replicate 190 0 ++ les (Bq.crc (x.body h g)) 4) (by rw [slot_eq]; simp only [List.append_assoc]) (by simp [les_length]) hv
theorem slot_at_ (x : Sl) (h g : Int) (hv : x.at_.toNat < 256 ^ 2) : num (x.block h g) 24 2 = x.at_.toNat :=
  num_les (p := [66, 71, 83, 76] ++ les h.toNat 1 ++ les g.toNat 2 ++ les x.num.toNat 6 ++ les x.life.toNat 3 ++ les x.clock.toNat 6 ++ les x.seg.toNat 2) (r := les x.next.toNat 2 ++ les x.seq.toNat 6 ++ les x.m0.toNat 4 ++ les x.m1.toNat 4 ++ les x.m2.toNat 4 ++ les x.m3.toNat 4 ++ les x.sb.toNat 6 ++ les x.sn.toNat 6 ++ List.replicate 190 0 ++ les (Bq.crc (x.body h g)) 4) (by rw [slot_eq]; simp only [List.append_assoc]) (by simp [les_length]) hv
theorem slot_next (x : Sl) (h g : Int) (hv : x.next.toNat < 256 ^ 2) : num (x.block h g) 26 2 = x.next.toNat :=
  num_les (p := [66, 71, 83, 76] ++ les h.toNat 1 ++ les g.toNat 2 ++ les x.num.toNat 6 ++ les x.life.toNat 3 ++ les x.clock.toNat 6 ++ les x.seg.toNat 2 ++ les x.at_.toNat 2) (r := les x.seq.toNat 6 ++ les x.m0.toNat 4 ++ les x.m1.toNat 4 ++ les x.m2.toNat 4 ++ les x.m3.toNat 4 ++ les x.sb.toNat 6 ++ les x.sn.toNat 6 ++ List.replicate 190 0 ++ les (Bq.crc (x.body h g)) 4) (by rw [slot_eq]; simp only [List.append_assoc]) (by simp [les_length]) hv
theorem slot_seq (x : Sl) (h g : Int) (hv : x.seq.toNat < 256 ^ 6) : num (x.block h g) 28 6 = x.seq.toNat :=
  num_les (p := [66, 71, 83, 76] ++ les h.toNat 1 ++ les g.toNat 2 ++ les x.num.toNat 6 ++ les x.life.toNat 3 ++ les x.clock.toNat 6 ++ les x.seg.toNat 2 ++ les x.at_.toNat 2 ++ les x.next.toNat 2) (r := les x.m0.toNat 4 ++ les x.m1.toNat 4 ++ les x.m2.toNat 4 ++ les x.m3.toNat 4 ++ les x.sb.toNat 6 ++ les x.sn.toNat 6 ++ List.replicate 190 0 ++ les (Bq.crc (x.body h g)) 4) (by rw [slot_eq]; simp only [List.append_assoc]) (by simp [les_length]) hv
theorem slot_m0 (x : Sl) (h g : Int) (hv : x.m0.toNat < 256 ^ 4) : num (x.block h g) 34 4 = x.m0.toNat :=
  num_les (p := [66, 71, 83, 76] ++ les h.toNat 1 ++ les g.toNat 2 ++ les x.num.toNat 6 ++ les x.life.toNat 3 ++ les x.clock.toNat 6 ++ les x.seg.toNat 2 ++ les x.at_.toNat 2 ++ les x.next.toNat 2 ++ les x.seq.toNat 6) (r := les x.m1.toNat 4 ++ les x.m2.toNat 4 ++ les x.m3.toNat 4 ++ les x.sb.toNat 6 ++ les x.sn.toNat 6 ++ List.replicate 190 0 ++ les (Bq.crc (x.body h g)) 4) (by rw [slot_eq]; simp only [List.append_assoc]) (by simp [les_length]) hv
theorem slot_m1 (x : Sl) (h g : Int) (hv : x.m1.toNat < 256 ^ 4) : num (x.block h g) 38 4 = x.m1.toNat :=
  num_les (p := [66, 71, 83, 76] ++ les h.toNat 1 ++ les g.toNat 2 ++ les x.num.toNat 6 ++ les x.life.toNat 3 ++ les x.clock.toNat 6 ++ les x.seg.toNat 2 ++ les x.at_.toNat 2 ++ les x.next.toNat 2 ++ les x.seq.toNat 6 ++ les x.m0.toNat 4) (r := les x.m2.toNat 4 ++ les x.m3.toNat 4 ++ les x.sb.toNat 6 ++ les x.sn.toNat 6 ++ List.replicate 190 0 ++ les (Bq.crc (x.body h g)) 4) (by rw [slot_eq]; simp only [List.append_assoc]) (by simp [les_length]) hv
theorem slot_m2 (x : Sl) (h g : Int) (hv : x.m2.toNat < 256 ^ 4) : num (x.block h g) 42 4 = x.m2.toNat :=
  num_les (p := [66, 71, 83, 76] ++ les h.toNat 1 ++ les g.toNat 2 ++ les x.num.toNat 6 ++ les x.life.toNat 3 ++ les x.clock.toNat 6 ++ les x.seg.toNat 2 ++ les x.at_.toNat 2 ++ les x.next.toNat 2 ++ les x.seq.toNat 6 ++ les x.m0.toNat 4 ++ les x.m1.toNat 4) (r := les x.m3.toNat 4 ++ les x.sb.toNat 6 ++ les x.sn.toNat 6 ++ List.replicate 190 0 ++ les (Bq.crc (x.body h g)) 4) (by rw [slot_eq]; simp only [List.append_assoc]) (by simp [les_length]) hv
theorem slot_m3 (x : Sl) (h g : Int) (hv : x.m3.toNat < 256 ^ 4) : num (x.block h g) 46 4 = x.m3.toNat :=
  num_les (p := [66, 71, 83, 76] ++ les h.toNat 1 ++ les g.toNat 2 ++ les x.num.toNat 6 ++ les x.life.toNat 3 ++ les x.clock.toNat 6 ++ les x.seg.toNat 2 ++ les x.at_.toNat 2 ++ les x.next.toNat 2 ++ les x.seq.toNat 6 ++ les x.m0.toNat 4 ++ les x.m1.toNat 4 ++ les x.m2.toNat 4) (r := les x.sb.toNat 6 ++ les x.sn.toNat 6 ++ List.replicate 190 0 ++ les (Bq.crc (x.body h g)) 4) (by rw [slot_eq]; simp only [List.append_assoc]) (by simp [les_length]) hv
theorem slot_sb (x : Sl) (h g : Int) (hv : x.sb.toNat < 256 ^ 6) : num (x.block h g) 50 6 = x.sb.toNat :=
  num_les (p := [66, 71, 83, 76] ++ les h.toNat 1 ++ les g.toNat 2 ++ les x.num.toNat 6 ++ les x.life.toNat 3 ++ les x.clock.toNat 6 ++ les x.seg.toNat 2 ++ les x.at_.toNat 2 ++ les x.next.toNat 2 ++ les x.seq.toNat 6 ++ les x.m0.toNat 4 ++ les x.m1.toNat 4 ++ les x.m2.toNat 4 ++ les x.m3.toNat 4) (r := les x.sn.toNat 6 ++ List.replicate 190 0 ++ les (Bq.crc (x.body h g)) 4) (by rw [slot_eq]; simp only [List.append_assoc]) (by simp [les_length]) hv
theorem slot_sn (x : Sl) (h g : Int) (hv : x.sn.toNat < 256 ^ 6) : num (x.block h g) 56 6 = x.sn.toNat :=
  num_les (p := [66, 71, 83, 76] ++ les h.toNat 1 ++ les g.toNat 2 ++ les x.num.toNat 6 ++ les x.life.toNat 3 ++ les x.clock.toNat 6 ++ les x.seg.toNat 2 ++ les x.at_.toNat 2 ++ les x.next.toNat 2 ++ les x.seq.toNat 6 ++ les x.m0.toNat 4 ++ les x.m1.toNat 4 ++ les x.m2.toNat 4 ++ les x.m3.toNat 4 ++ les x.sb.toNat 6) (r := List.replicate 190 0 ++ les (Bq.crc (x.body h g)) 4) (by rw [slot_eq]; simp only [List.append_assoc]) (by simp [les_length]) hv

theorem slot_back {x : Sl} {h g : Int} (hok : x.ok h g = true) : slRead (x.block h g) = x ∧ (num (x.block h g) 4 1 : Int) = h ∧ (num (x.block h g) 5 2 : Int) = g := by
  obtain ⟨⟨h1, h2⟩, ⟨g1, g2⟩, hc⟩ := slot_bounds hok
  obtain ⟨⟨a1, b1⟩, ⟨a2, b2⟩, ⟨a3, b3⟩, ⟨a4, b4⟩, ⟨a5, b5⟩, ⟨a6, b6⟩, ⟨a7, b7⟩, ⟨a8, b8⟩, ⟨a9, b9⟩, ⟨a10, b10⟩, ⟨a11, b11⟩, ⟨a12, b12⟩, ⟨a13, b13⟩⟩ := Sl.chk_bounds hc
  refine ⟨?_, by rw [slot_h x h g (by omega)]; omega, by rw [slot_g x h g (by omega)]; omega⟩
  unfold slRead
  rw [slot_num x h g (by omega), slot_life x h g (by omega), slot_clock x h g (by omega), slot_seg x h g (by omega), slot_at_ x h g (by omega), slot_next x h g (by omega), slot_seq x h g (by omega), slot_m0 x h g (by omega), slot_m1 x h g (by omega), slot_m2 x h g (by omega), slot_m3 x h g (by omega), slot_sb x h g (by omega), slot_sn x h g (by omega)]
  obtain ⟨num, life, clock, seg, at_, next, seq, m0, m1, m2, m3, sb, sn⟩ := x
  simp only [Sl.mk.injEq]
  dsimp only at a1 b1 a2 b2 a3 b3 a4 b4 a5 b5 a6 b6 a7 b7 a8 b8 a9 b9 a10 b10 a11 b11 a12 b12 a13 b13 ⊢
  omega
theorem slot_good {x : Sl} {h g : Int} (hok : x.ok h g = true) : slGood (x.block h g) = true := by
  obtain ⟨h1, h2, h3⟩ := slot_back hok
  unfold slGood
  rw [h1, h2, h3, hok]; simp
theorem slGood_summed {l : List UInt8} (h : slGood l = true) : Summed l := by
  unfold slGood at h
  simp only [Bool.and_eq_true, decide_eq_true_eq] at h
  rw [← h.2]
  exact slot_summed _ _ _
theorem slGot_block {x : Sl} {h g : Int} (hok : x.ok h g = true) : slGot (x.block h g) = .tuple #[.int .i64 h, .int .i64 g, .agg x.cells, .bool true] := by
  obtain ⟨h1, h2, h3⟩ := slot_back hok
  unfold slGot
  rw [slot_good hok, h1, h2, h3]; rfl
theorem slGot_bad {l : List UInt8} (h : ¬ Summed l) : slGot l = .tuple #[.int .i64 0, .int .i64 0, .agg slZero.cells, .bool false] := by
  have : slGood l = false := by
    cases hg : slGood l
    · rfl
    · exact absurd (slGood_summed hg) h
  unfold slGot
  rw [this]; rfl
theorem slGot_zeros : slGot (List.replicate 256 0) = .tuple #[.int .i64 0, .int .i64 0, .agg slZero.cells, .bool false] := by
  have h0 : num (List.replicate 256 0) 4 1 = 0 := by decide +kernel
  have : slGood (List.replicate 256 0) = false := by
    unfold slGood Sl.ok
    rw [h0]; rfl
  unfold slGot
  rw [this]; rfl
end Go.Proofs.Ytmpkcehjmjopdaa