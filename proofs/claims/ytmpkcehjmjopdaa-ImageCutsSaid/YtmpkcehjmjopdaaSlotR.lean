import Derived.Test.YtmpkcehjmjopdaaSlotD
import Derived.Lib.QuietBelow
import Derived.Deep.DeepCutAuto
namespace Go.Proofs.Ytmpkcehjmjopdaa
open Go.RowKit

theorem refin_any (v a b : Int) (w : World) : Calls Try.prog 59 #[.int .i64 v, .int .i64 a, .int .i64 b] w fun e w' => e = .returned (.bool (inb v a b)) ∧ w = w' := by
  by_cases h1 : a ≤ v
  · by_cases h2 : v ≤ b
    · have hr : Hid (inb v a b = true) := by show _ = _; simp [inb, h1, h2]
      go_enter Try.func59, Try.ntmps59
      go_wp2
      go_ret
      exact ⟨by rw [hr.out]; rfl, rfl⟩
    · have hr : Hid (inb v a b = false) := by show _ = _; simp [inb]; omega
      go_enter Try.func59, Try.ntmps59
      go_wp2
      go_ret
      exact ⟨by rw [hr.out]; rfl, rfl⟩
  · have hr : Hid (inb v a b = false) := by show _ = _; simp [inb]; omega
    go_enter Try.func59, Try.ntmps59
    go_wp2
    go_ret
    exact ⟨by rw [hr.out]; rfl, rfl⟩

theorem maps_take (x : Sl) (k : Nat) (h : k < 4) : (x.maps.take (k + 1)).all (fun m => inb m 0 16383) = ((x.maps.take k).all (fun m => inb m 0 16383) && inb (x.maps.getD k 0) 0 16383) := by
  have hkl : k < x.maps.length := h
  rw [List.take_succ_eq_append_getElem hkl, List.all_append]
  simp [List.getD, hkl]
theorem maps_all (x : Sl) (k : Nat) (h : k < 4) (hf : inb (x.maps.getD k 0) 0 16383 = false) : x.chk = false := by
  unfold Sl.chk
  have : x.maps.all (fun m => inb m 0 16383) = false := by
    rw [List.all_eq_false]
    have hkl : k < x.maps.length := h
    exact ⟨x.maps.getD k 0, by simp [List.getD, hkl], by rw [hf]; decide⟩
  rw [this, Bool.and_false]

set_option maxRecDepth 100000 in
set_option maxHeartbeats 2000000 in
theorem refcheckX (x : Sl) (w : World) : Calls Try.prog 30 #[.agg x.cells] w fun e w' => e = .returned (.bool x.chk) ∧ Below w.heap.size w w' := by
  have g0 : Blk (w.alloc (.cells x.cells 37)) w.heap.size 37 x.cells := Blk.new w 37 _
  have gw : Below w.heap.size w (w.alloc (.cells x.cells 37)) := (Below.refl _ w).alloc (Nat.le_refl _) _
  go_enter Try.func30, Try.ntmps30
  go_wp2_with fail
  generalize w.alloc (.cells x.cells 37) = v0 at *
  go_loop [3] (fun i => ∃ k : Nat, k ≤ 4 ∧ i = .int .i64 k ∧ Hid ((x.maps.take k).all (fun m => inb m 0 16383) = true)) (fun i => 4 - (intOf i).toNat)
  case atStart => exact ⟨0, by omega, rfl, rfl⟩
  case round =>
    obtain ⟨k, hk, rfl, hall⟩ := hrel
    by_cases hk4 : k < 4
    · have hm := cells_map x k hk4
      have hno := maps_all x k hk4
      have hsn := Lib.hid (maps_take x k hk4)
      generalize x.maps.getD k 0 = m at *
      have c0 : v0.cell? ⟨w.heap.size, 7 + k, none⟩ = some (.int .i64 m) := by rw [g0.cell, hm]
      clear hm
      cases hb : inb m 0 16383 with
      | false =>
        have hc : Hid (x.chk = false) := hno hb
        clear hno
        go_wp2_with (go_at_call 59; refine (refin_any _ _ _ _).mono ?_; rintro e w' ⟨rfl, rfl⟩)
        go_ret
        exact ⟨by rw [hc.out]; rfl, gw⟩
      | true =>
        clear hno
        go_wp2_with (go_at_call 59; refine (refin_any _ _ _ _).mono ?_; rintro e w' ⟨rfl, rfl⟩)
        go_round
        case rel => exact ⟨k + 1, by omega, by go_num, by show _ = _; rw [hsn.out, hall.out, hb]; rfl⟩
        case measure => simp [intOf]; omega
    · obtain rfl : k = 4 := by omega
      have hc : Hid (x.chk = x.chkA) := by
        show _ = _
        unfold Sl.chk
        have : x.maps.all (fun m => inb m 0 16383) = true := hall.out
        rw [this, Bool.and_true]
      have c0 : v0.cell? ⟨w.heap.size, 0, none⟩ = some (.int .i64 x.num) := g0.cell 0
      have c1 : v0.cell? ⟨w.heap.size, 1, none⟩ = some (.int .i64 x.life) := g0.cell 1
      have c2 : v0.cell? ⟨w.heap.size, 2, none⟩ = some (.int .i64 x.clock) := g0.cell 2
      have c3 : v0.cell? ⟨w.heap.size, 3, none⟩ = some (.int .i64 x.seg) := g0.cell 3
      have c4 : v0.cell? ⟨w.heap.size, 4, none⟩ = some (.int .i64 x.at_) := g0.cell 4
      have c5 : v0.cell? ⟨w.heap.size, 5, none⟩ = some (.int .i64 x.next) := g0.cell 5
      have c6 : v0.cell? ⟨w.heap.size, 6, none⟩ = some (.int .i64 x.seq) := g0.cell 6
      have c7 : v0.cell? ⟨w.heap.size, 11, none⟩ = some (.int .i64 x.sb) := g0.cell 11
      have c8 : v0.cell? ⟨w.heap.size, 12, none⟩ = some (.int .i64 x.sn) := g0.cell 12
      go_wp2_with (go_at_call 59; refine (refin_any _ _ _ _).mono ?_; rintro e w' ⟨rfl, rfl⟩)
      all_goals
        go_ret
        exact ⟨by rw [hc.out]; unfold Sl.chkA; simp [*], gw⟩

theorem rp1 (v : Int) (w : World) (h0 : 0 ≤ v) (h : v < 9223372036854775808) :
    Calls Try.prog 60 #[.int .i64 v, .int .i64 1] w fun e w' => e = .returned (.string ⟨(les v.toNat 1).toArray⟩) ∧ Below w.heap.size w w' := by
  obtain ⟨v, rfl⟩ := Int.eq_ofNat_of_zero_le h0
  exact refput_any v 1 w (by omega) (by decide) (by decide)
theorem rp2 (v : Int) (w : World) (h0 : 0 ≤ v) (h : v < 9223372036854775808) :
    Calls Try.prog 60 #[.int .i64 v, .int .i64 2] w fun e w' => e = .returned (.string ⟨(les v.toNat 2).toArray⟩) ∧ Below w.heap.size w w' := by
  obtain ⟨v, rfl⟩ := Int.eq_ofNat_of_zero_le h0
  exact refput_any v 2 w (by omega) (by decide) (by decide)
theorem rp3 (v : Int) (w : World) (h0 : 0 ≤ v) (h : v < 9223372036854775808) :
    Calls Try.prog 60 #[.int .i64 v, .int .i64 3] w fun e w' => e = .returned (.string ⟨(les v.toNat 3).toArray⟩) ∧ Below w.heap.size w w' := by
  obtain ⟨v, rfl⟩ := Int.eq_ofNat_of_zero_le h0
  exact refput_any v 3 w (by omega) (by decide) (by decide)
theorem rp4 (v : Int) (w : World) (h0 : 0 ≤ v) (h : v < 9223372036854775808) :
    Calls Try.prog 60 #[.int .i64 v, .int .i64 4] w fun e w' => e = .returned (.string ⟨(les v.toNat 4).toArray⟩) ∧ Below w.heap.size w w' := by
  obtain ⟨v, rfl⟩ := Int.eq_ofNat_of_zero_le h0
  exact refput_any v 4 w (by omega) (by decide) (by decide)
theorem rp6 (v : Int) (w : World) (h0 : 0 ≤ v) (h : v < 9223372036854775808) :
    Calls Try.prog 60 #[.int .i64 v, .int .i64 6] w fun e w' => e = .returned (.string ⟨(les v.toNat 6).toArray⟩) ∧ Below w.heap.size w w' := by
  obtain ⟨v, rfl⟩ := Int.eq_ofNat_of_zero_le h0
  exact refput_any v 6 w (by omega) (by decide) (by decide)
theorem blk7 {w' : World} {b0 : Nat} {x : Sl} (h : Blk w' b0 37 x.cells) : w'.cell? ⟨b0, 0, none⟩ = some (.int .i64 x.num) ∧ w'.cell? ⟨b0, 1, none⟩ = some (.int .i64 x.life) ∧ w'.cell? ⟨b0, 2, none⟩ = some (.int .i64 x.clock) ∧ w'.cell? ⟨b0, 3, none⟩ = some (.int .i64 x.seg) ∧ w'.cell? ⟨b0, 4, none⟩ = some (.int .i64 x.at_) ∧ w'.cell? ⟨b0, 5, none⟩ = some (.int .i64 x.next) ∧ w'.cell? ⟨b0, 6, none⟩ = some (.int .i64 x.seq) := ⟨h.cell 0, h.cell 1, h.cell 2, h.cell 3, h.cell 4, h.cell 5, h.cell 6⟩
theorem blk2 {w' : World} {b0 : Nat} {x : Sl} (h : Blk w' b0 37 x.cells) : w'.cell? ⟨b0, 11, none⟩ = some (.int .i64 x.sb) ∧ w'.cell? ⟨b0, 12, none⟩ = some (.int .i64 x.sn) := ⟨h.cell 11, h.cell 12⟩
theorem les_len_le (v n : Nat) : (les v n).length ≤ n := by rw [les_length]; omega
/-- the front of a slot's text -/
def Sl.front (x : Sl) (h g : Int) : List UInt8 :=
  [66, 71, 83, 76] ++ les h.toNat 1 ++ les g.toNat 2 ++ les x.num.toNat 6 ++ les x.life.toNat 3 ++ les x.clock.toNat 6 ++ les x.seg.toNat 2 ++ les x.at_.toNat 2 ++ les x.next.toNat 2 ++ les x.seq.toNat 6
theorem Sl.front_length (x : Sl) (h g : Int) : (x.front h g).length = 34 := by simp [Sl.front, les_length]

/-- 190 bytes 0 -/
def zeros190 : List UInt8 := List.replicate 190 0
def zblk190 : Array Value := (bcells zeros190).toArray
theorem zeros190_length : zeros190.length = 190 := List.length_replicate
theorem conv_190 (w : World) (cap : Nat) : (convert 27 9 (.slice (some ⟨w.heap.size, 0, none⟩) 190 cap)).run Try.prog (w.alloc (.cells zblk190 5)) = .ok (.string ⟨zeros190.toArray⟩) (w.alloc (.cells zblk190 5)) := by
  have h := conv_blk (W := w.alloc (.cells zblk190 5)) (g := w.heap.size) (t := 5) (l := zeros190) (x := #[]) (by simpa [zblk190] using Blk.new w 5 zblk190) cap
  rwa [zeros190_length] at h
theorem mixed : Try.prog.follows .mixedOrders = true := by kernel_rfl
section
open Go.Sort
attribute [local go_sem ↓] ld37 st37
set_option maxRecDepth 100000 in
set_option maxHeartbeats 8000000 in
theorem refput_yes (x : Sl) (h g : Int) (w : World) (hok : x.ok h g = true) :
    Calls Try.prog 26 #[.int .i64 h, .int .i64 g, .agg x.cells] w fun e w' => e = .returned (.tuple #[.string ⟨(x.block h g).toArray⟩, .bool true]) ∧ Below w.heap.size w w' := by
  obtain ⟨⟨ha, hb⟩, ⟨ga, gb⟩, hc⟩ := slot_bounds hok
  obtain ⟨⟨a1, b1⟩, ⟨a2, b2⟩, ⟨a3, b3⟩, ⟨a4, b4⟩, ⟨a5, b5⟩, ⟨a6, b6⟩, ⟨a7, b7⟩, ⟨a8, b8⟩, ⟨a9, b9⟩, ⟨a10, b10⟩, ⟨a11, b11⟩, ⟨a12, b12⟩, ⟨a13, b13⟩⟩ := Sl.chk_bounds hc
  have h1 : inb h 1 16 = true := by simp [inb, ha, hb]
  have h2 : inb g 1 65535 = true := by simp [inb, ga, gb]
  have hB : Blk (w.alloc (.cells x.cells 37)) w.heap.size 37 x.cells := Blk.new w 37 _
  have hW : Below w.heap.size w (w.alloc (.cells x.cells 37)) := (Below.refl _ w).alloc (Nat.le_refl _) _
  have hld := run_ldB hB
  have hlen := les_length
  go_enter Try.func26, Try.ntmps26
  go_wp2_with (go_at_call 59; refine (refin_any _ _ _ _).mono ?_; rintro e w' ⟨rfl, rfl⟩)
  refine (refcheckX x _).mono ?_
  rintro e w1 ⟨rfl, hb1⟩
  rw [hc]
  have hB1 := hB.beyond hb1
  have hW1 := below2 hW hb1
  have hlt : w.heap.size < w1.heap.size := hB1.lt
  clear hB hW hb1 hld
  go_upto_region 3 with (fail)
  generalize w.heap.size = b0 at hB1 hlt ⊢
  have q0 : ∀ d os, Calls Try.prog 60 #[.int .i64 h, .int .i64 1] (grow (redrawn w1 d) os) fun e w'' => e = .returned (.string ⟨(les h.toNat 1).toArray⟩) ∧ ∃ p : Regrown, w'' = grow (redrawn w1 p.d) p.os := fun d os => Calls.regrown_of (rp1 h _ (by omega) (by omega))
  have q1 : ∀ d os, Calls Try.prog 60 #[.int .i64 g, .int .i64 2] (grow (redrawn w1 d) os) fun e w'' => e = .returned (.string ⟨(les g.toNat 2).toArray⟩) ∧ ∃ p : Regrown, w'' = grow (redrawn w1 p.d) p.os := fun d os => Calls.regrown_of (rp2 g _ (by omega) (by omega))
  have q2 : ∀ d os, Calls Try.prog 60 #[.int .i64 x.num, .int .i64 6] (grow (redrawn w1 d) os) fun e w'' => e = .returned (.string ⟨(les x.num.toNat 6).toArray⟩) ∧ ∃ p : Regrown, w'' = grow (redrawn w1 p.d) p.os := fun d os => Calls.regrown_of (rp6 x.num _ (by omega) (by omega))
  have q3 : ∀ d os, Calls Try.prog 60 #[.int .i64 x.life, .int .i64 3] (grow (redrawn w1 d) os) fun e w'' => e = .returned (.string ⟨(les x.life.toNat 3).toArray⟩) ∧ ∃ p : Regrown, w'' = grow (redrawn w1 p.d) p.os := fun d os => Calls.regrown_of (rp3 x.life _ (by omega) (by omega))
  have q4 : ∀ d os, Calls Try.prog 60 #[.int .i64 x.clock, .int .i64 6] (grow (redrawn w1 d) os) fun e w'' => e = .returned (.string ⟨(les x.clock.toNat 6).toArray⟩) ∧ ∃ p : Regrown, w'' = grow (redrawn w1 p.d) p.os := fun d os => Calls.regrown_of (rp6 x.clock _ (by omega) (by omega))
  have q5 : ∀ d os, Calls Try.prog 60 #[.int .i64 x.seg, .int .i64 2] (grow (redrawn w1 d) os) fun e w'' => e = .returned (.string ⟨(les x.seg.toNat 2).toArray⟩) ∧ ∃ p : Regrown, w'' = grow (redrawn w1 p.d) p.os := fun d os => Calls.regrown_of (rp2 x.seg _ (by omega) (by omega))
  have q6 : ∀ d os, Calls Try.prog 60 #[.int .i64 x.at_, .int .i64 2] (grow (redrawn w1 d) os) fun e w'' => e = .returned (.string ⟨(les x.at_.toNat 2).toArray⟩) ∧ ∃ p : Regrown, w'' = grow (redrawn w1 p.d) p.os := fun d os => Calls.regrown_of (rp2 x.at_ _ (by omega) (by omega))
  have q7 : ∀ d os, Calls Try.prog 60 #[.int .i64 x.next, .int .i64 2] (grow (redrawn w1 d) os) fun e w'' => e = .returned (.string ⟨(les x.next.toNat 2).toArray⟩) ∧ ∃ p : Regrown, w'' = grow (redrawn w1 p.d) p.os := fun d os => Calls.regrown_of (rp2 x.next _ (by omega) (by omega))
  have q8 : ∀ d os, Calls Try.prog 60 #[.int .i64 x.seq, .int .i64 6] (grow (redrawn w1 d) os) fun e w'' => e = .returned (.string ⟨(les x.seq.toNat 6).toArray⟩) ∧ ∃ p : Regrown, w'' = grow (redrawn w1 p.d) p.os := fun d os => Calls.regrown_of (rp6 x.seq _ (by omega) (by omega))
  have k0 := cell_regrown (show w1.cell? ⟨b0, 0, none⟩ = some (.int .i64 x.num) from hB1.cell 0)
  have k1 := cell_regrown (show w1.cell? ⟨b0, 1, none⟩ = some (.int .i64 x.life) from hB1.cell 1)
  have k2 := cell_regrown (show w1.cell? ⟨b0, 2, none⟩ = some (.int .i64 x.clock) from hB1.cell 2)
  have k3 := cell_regrown (show w1.cell? ⟨b0, 3, none⟩ = some (.int .i64 x.seg) from hB1.cell 3)
  have k4 := cell_regrown (show w1.cell? ⟨b0, 4, none⟩ = some (.int .i64 x.at_) from hB1.cell 4)
  have k5 := cell_regrown (show w1.cell? ⟨b0, 5, none⟩ = some (.int .i64 x.next) from hB1.cell 5)
  have k6 := cell_regrown (show w1.cell? ⟨b0, 6, none⟩ = some (.int .i64 x.seq) from hB1.cell 6)
  refine wp_region_quiet_below mixed (by kernel_rfl) ?_
  repeat (go_big_quiet_step (first | with_reducible exact q0 _ _ | with_reducible exact q1 _ _ | with_reducible exact q2 _ _ | with_reducible exact q3 _ _ | with_reducible exact q4 _ _ | with_reducible exact q5 _ _ | with_reducible exact q6 _ _ | with_reducible exact q7 _ _ | with_reducible exact q8 _ _))

  refine wpQuiet_nil ?_
  intro _ hw'
  obtain ⟨⟨dq, osq⟩, hw''⟩ := hw'
  subst hw''
  have hb2 := below_regrown w1 dq osq
  generalize grow (redrawn w1 dq) osq = w2 at *
  clear q0 q1 q2 q3 q4 q5 q6 q7 q8 k0 k1 k2 k3 k4 k5 k6
  have hfr : (⟨#[66, 71, 83, 76]⟩ ++ ⟨(les h.toNat 1).toArray⟩ ++ ⟨(les g.toNat 2).toArray⟩ ++ ⟨(les x.num.toNat 6).toArray⟩ ++ ⟨(les x.life.toNat 3).toArray⟩ ++ ⟨(les x.clock.toNat 6).toArray⟩ ++ ⟨(les x.seg.toNat 2).toArray⟩ ++ ⟨(les x.at_.toNat 2).toArray⟩ ++ ⟨(les x.next.toNat 2).toArray⟩ ++ ⟨(les x.seq.toNat 6).toArray⟩ : ByteArray) = ⟨(x.front h g).toArray⟩ := by
    apply ByteArray.ext
    simp [Sl.front]
  rw [hfr]
  clear hfr hlen
  have hB2 := hB1.beyond hb2
  have hW2 : Hid (Below w.heap.size w w2) := below2 hW1 hb2
  clear hB1 hb2 hW1
  have HC := Lib.hid hc
  clear hc
  have HF := Lib.hid (Sl.front_length x h g)
  have HT : Hid (x.text h g = x.front h g ++ x.maps.flatMap (fun m => les m.toNat 4) ++ les x.sb.toNat 6 ++ les x.sn.toNat 6) := by
    show _ = _
    simp [Sl.text, Sl.front, Sl.maps]
  have HBd : Hid (x.body h g = x.text h g ++ zeros190) := rfl
  have HBk : Hid (x.block h g = x.body h g ++ les (Bq.crc (x.body h g)) 4) := rfl
  have HTl := Lib.hid (Sl.text_length x h g)
  have HBl := Lib.hid (Sl.body_length x h g)
  have hmb : Hid (∀ k, k < 4 → 0 ≤ x.maps.getD k 0 ∧ x.maps.getD k 0 ≤ 16383) := by
    intro k hk
    obtain rfl | rfl | rfl | rfl : k = 0 ∨ k = 1 ∨ k = 2 ∨ k = 3 := by omega
    · exact ⟨a10, b10⟩
    · exact ⟨a11, b11⟩
    · exact ⟨a12, b12⟩
    · exact ⟨a13, b13⟩
  clear a10 b10 a11 b11 a12 b12 a13 b13
  generalize x.front h g = FR at *
  go_wp2_with fail
  go_loopw [8, 9] (fun s i wr => ∃ (k : Nat) (L : List UInt8), k ≤ 4 ∧ i = .int .i64 k ∧ s = .string ⟨L.toArray⟩ ∧ Hid (L = FR ++ (x.maps.take k).flatMap (fun m => les m.toNat 4)) ∧ L.length ≤ 34 + 4 * k ∧ Blk wr b0 37 x.cells ∧ Hid (Below w.heap.size w wr)) (fun _ i _ => 4 - (intOf i).toNat)
  case atStart => exact ⟨0, FR, by omega, rfl, rfl, by show _ = _; simp, by rw [HF.out]; omega, hB2, hW2⟩
  case round =>
    obtain ⟨k, L, hk, rfl, rfl, HL, hll, hBr, hWr⟩ := hrel
    clear hB2 hW2
    by_cases hk4 : k < 4
    · have hm := cells_map x k hk4
      obtain ⟨mb0, mb1⟩ := hmb.out k hk4
      have hfl := Lib.hid (flat4 x.maps k hk4)
      generalize x.maps.getD k 0 = m at *
      have c0 : wr.cell? ⟨b0, 7 + k, none⟩ = some (.int .i64 m) := by rw [hBr.cell, hm]
      clear hm
      have hl4 := les_len_le m.toNat 4
      go_wp2_with fail
      refine (rp4 m _ (by omega) (by omega)).mono ?_
      rintro e wn ⟨rfl, hbn⟩
      go_wp2_with fail
      have e1 : (⟨L.toArray⟩ ++ ⟨(les m.toNat 4).toArray⟩ : ByteArray) = ⟨(L ++ les m.toNat 4).toArray⟩ := by apply ByteArray.ext; simp
      go_roundw
      case rel => exact ⟨k + 1, L ++ les m.toNat 4, by omega, by go_num, by rw [e1], by show _ = _; rw [HL.out, hfl.out, List.append_assoc], by simp; omega, hBr.beyond hbn, below2 hWr.out hbn⟩
      case measure => simp [intOf]; omega
    · obtain rfl : k = 4 := by omega
      have q0 : ∀ d os, Calls Try.prog 60 #[.int .i64 x.sb, .int .i64 6] (grow (redrawn wr d) os) fun e w'' => e = .returned (.string ⟨(les x.sb.toNat 6).toArray⟩) ∧ ∃ p : Regrown, w'' = grow (redrawn wr p.d) p.os := fun d os => Calls.regrown_of (rp6 x.sb _ (by omega) (by omega))
      have q1 : ∀ d os, Calls Try.prog 60 #[.int .i64 x.sn, .int .i64 6] (grow (redrawn wr d) os) fun e w'' => e = .returned (.string ⟨(les x.sn.toNat 6).toArray⟩) ∧ ∃ p : Regrown, w'' = grow (redrawn wr p.d) p.os := fun d os => Calls.regrown_of (rp6 x.sn _ (by omega) (by omega))
      have k0 := cell_regrown (show wr.cell? ⟨b0, 11, none⟩ = some (.int .i64 x.sb) from hBr.cell 11)
      have k1 := cell_regrown (show wr.cell? ⟨b0, 12, none⟩ = some (.int .i64 x.sn) from hBr.cell 12)
      have hl5 := les_len_le x.sb.toNat 6
      have hl6 := les_len_le x.sn.toNat 6
      have n1 : ¬ 9223372036854775807 < L.length + (les x.sb.toNat 6).length := by omega
      have n2 : ¬ 9223372036854775807 < L.length + (les x.sb.toNat 6).length + (les x.sn.toNat 6).length := by omega
      go_upto_region 8 with (fail)
      refine wp_region_quiet_below mixed (by kernel_rfl) ?_
      repeat (go_big_quiet_step (first | with_reducible exact q0 _ _ | with_reducible exact q1 _ _))
      refine wpQuiet_nil ?_
      intro _ hw'
      obtain ⟨⟨dq, osq⟩, hw''⟩ := hw'
      subst hw''
      have hb3 := below_regrown wr dq osq
      generalize grow (redrawn wr dq) osq = w3 at *
      clear q0 q1 k0 k1 n1 n2
      have hW3 := below2 hWr.out hb3
      have hTx : (⟨L.toArray⟩ ++ ⟨(les x.sb.toNat 6).toArray⟩ ++ ⟨(les x.sn.toNat 6).toArray⟩ : ByteArray) = ⟨(x.text h g).toArray⟩ := by
        rw [HT.out]
        apply ByteArray.ext
        simp [HL.out, List.take_of_length_le (show x.maps.length ≤ 4 from Nat.le_refl 4)]
      rw [hTx]
      clear hTx HL hll hBr hWr hb3 HT hl5 hl6
      have t1 : (x.text h g).length ≤ 62 := by rw [HTl.out]; omega
      have hmk : ∀ w, (Instr.makeSlice 27 (.int .i64 (252 - ((x.text h g).length : Int))) (.int .i64 (252 - ((x.text h g).length : Int)))).run Try.prog w = .ok (.slice (some ⟨w.heap.size, 0, none⟩) 190 190) (w.alloc (.cells zblk190 5)) := by
        intro w; rw [HTl.out]; exact make_bytes w 190 (by decide)
      have hcv := conv_190 w3
      generalize x.text h g = TX at *
      have hz : zeros190.length ≤ 190 := by rw [zeros190_length]; omega
      go_wp2_with fail
      have hb1 : (⟨TX.toArray⟩ ++ ⟨zeros190.toArray⟩ : ByteArray) = ⟨(x.body h g).toArray⟩ := by
        rw [HBd.out]
        apply ByteArray.ext
        simp
      rw [hb1]
      clear hb1 HBd hmk hcv hz t1 HTl
      have hbl : (x.body h g).length ≤ 252 := by rw [HBl.out]; omega
      generalize x.body h g = BD at *
      refine (refof_any ⟨BD.toArray⟩ _ (by show BD.toArray.size ≤ _; simp; omega)).mono ?_
      rintro e w4 ⟨rfl, hw4⟩
      rw [show (⟨BD.toArray⟩ : ByteArray).data.toList = BD from rfl]
      have hcl := Bq.crc_lt BD
      have hW4 : Below w.heap.size w w4 := by rw [← hw4]; exact hW3.alloc hW3.size _
      clear hw4 hW3
      generalize Bq.crc BD = c at *
      go_wp2_with fail
      refine (rp4 (c : Int) _ (by omega) (by omega)).mono ?_
      rintro e w5 ⟨rfl, hb5⟩
      rw [Int.toNat_natCast]
      have hl4 := les_len_le c 4
      have hend : (⟨BD.toArray⟩ ++ ⟨(les c 4).toArray⟩ : ByteArray) = ⟨(x.block h g).toArray⟩ := by
        rw [HBk.out]
        apply ByteArray.ext
        simp
      go_wp2_with fail
      go_ret2
      exact ⟨rfl, below2 hW4 hb5⟩
end
section
attribute [local go_sem ↓] ld37 st37
set_option maxRecDepth 100000 in
set_option maxHeartbeats 1000000 in
theorem refput_no (x : Sl) (h g : Int) (w : World) (hno : x.ok h g = false) :
    Calls Try.prog 26 #[.int .i64 h, .int .i64 g, .agg x.cells] w fun e w' => e = .returned (.tuple #[.string ⟨#[]⟩, .bool false]) ∧ Below w.heap.size w w' := by
  have hB : Blk (w.alloc (.cells x.cells 37)) w.heap.size 37 x.cells := Blk.new w 37 _
  have HW : Hid (Below w.heap.size w (w.alloc (.cells x.cells 37))) := (Below.refl _ w).alloc (Nat.le_refl _) _
  have hld := run_ldB hB
  unfold Sl.ok at hno
  by_cases h1 : inb h 1 16 = true
  · by_cases h2 : inb g 1 65535 = true
    · have h3 : Hid (x.chk = false) := by show _ = _; simpa [h1, h2] using hno
      clear hno
      go_enter Try.func26, Try.ntmps26
      go_wp2_with (go_at_call 59; refine (refin_any _ _ _ _).mono ?_; rintro e w' ⟨rfl, rfl⟩)
      refine (refcheckX x _).mono ?_
      rintro e w' ⟨rfl, hb⟩
      rw [h3.out]
      go_wp2_with fail
      go_ret2
      exact ⟨rfl, below2 HW.out hb⟩
    · have h2 : inb g 1 65535 = false := by simpa using h2
      clear hno
      go_enter Try.func26, Try.ntmps26
      go_wp2_with (go_at_call 59; refine (refin_any _ _ _ _).mono ?_; rintro e w' ⟨rfl, rfl⟩)
      go_ret2
      exact ⟨rfl, HW.out⟩
  · have h1 : inb h 1 16 = false := by simpa using h1
    clear hno
    go_enter Try.func26, Try.ntmps26
    go_wp2_with (go_at_call 59; refine (refin_any _ _ _ _).mono ?_; rintro e w' ⟨rfl, rfl⟩)
    go_ret2
    exact ⟨rfl, HW.out⟩
end

theorem refputX (x : Sl) (h g : Int) (w : World) :
    Calls Try.prog 26 #[.int .i64 h, .int .i64 g, .agg x.cells] w fun e w' => ∃ (ok : Bool) (L : List UInt8), e = .returned (.tuple #[.string ⟨L.toArray⟩, .bool ok]) ∧ Hid (ok = x.ok h g) ∧ Hid (ok = true → L = x.block h g) ∧ Hid (ok = false → L = []) ∧ Below w.heap.size w w' := by
  cases hok : x.ok h g
  · exact (refput_no x h g w hok).mono fun e w' ⟨h2, h3⟩ => ⟨false, [], h2, rfl, (fun h => by cases h), (fun _ => rfl), h3⟩
  · exact (refput_yes x h g w hok).mono fun e w' ⟨h2, h3⟩ => ⟨true, _, h2, rfl, (fun _ => rfl), (fun h => by cases h), h3⟩

theorem refnum_any (s : ByteArray) (a n : Nat) (w : World) (hn : n ≤ 7) (ha : a ≤ 4611686018427387904) (hs : s.size ≤ 4611686018427387904) :
    Calls Try.prog 63 #[.string s, .int .i64 a, .int .i64 n] w fun e w' => e = .returned (.int .i64 (num s.data.toList a n : Nat)) ∧ w = w' := by
  go_enter Try.func63, Try.ntmps63
  go_wp2_with fail
  refine (refget_any s a n w hn ha hs).mono ?_
  rintro e w' ⟨⟨b, rfl⟩, rfl⟩
  go_wp2_with fail
  go_ret
  exact ⟨rfl, rfl⟩
end Go.Proofs.Ytmpkcehjmjopdaa