import Derived.Test.YtmpkcehjmjopdaaNodeB
import Derived.Test.YtmpkcehjmjopdaaSlotR
import Derived.Test.YtmpkcehjmjopdaaRepeat
namespace Go.Proofs.Ytmpkcehjmjopdaa
open Go.RowKit

theorem Nd.chk_bounds {x : Nd} (h : x.chk = true) : (1 ≤ x.num ∧ x.num ≤ 255) ∧ (1 ≤ x.kind ∧ x.kind ≤ 2) ∧ (0 ≤ x.links ∧ x.links ≤ 100) ∧ (0 ≤ x.size ∧ x.size ≤ 150528) ∧ (0 ≤ x.time ∧ x.time ≤ 1099511627776) ∧ (∀ k, k < 14 → 0 ≤ x.p.getD k 0 ∧ x.p.getD k 0 ≤ 16383) := by
  unfold Nd.chk Nd.chkA at h
  simp only [Bool.and_eq_true] at h
  obtain ⟨⟨⟨⟨⟨⟨h1, h2⟩, h3⟩, h4⟩, _⟩, h5⟩, h6⟩ := h
  refine ⟨inb_true h1, inb_true h2, inb_true h3, inb_true h4, inb_true h5, fun k hk => ?_⟩
  have hkl : k < x.p.length := by rw [x.hp]; exact hk
  have := (List.all_eq_true.1 h6) (x.p.getD k 0) (by simp [List.getD, hkl])
  exact inb_true this

/-- the front of a node's text -/
def Nd.front (x : Nd) : List UInt8 :=
  [66, 71, 78, 68] ++ les x.num.toNat 1 ++ les x.kind.toNat 1 ++ les x.links.toNat 1 ++ les x.size.toNat 4 ++ les x.time.toNat 6
theorem Nd.front_length (x : Nd) : x.front.length = 17 := by simp [Nd.front, les_length]
def Nd.text (x : Nd) : List UInt8 := x.front ++ x.p.flatMap (fun m => les m.toNat 2)
theorem flat_len (l : List Int) : (l.flatMap (fun m => les m.toNat 2)).length = 2 * l.length := by
  induction l with
  | nil => rfl
  | cons a l ih => rw [List.flatMap_cons, List.length_append, ih, les_length, List.length_cons]; omega
theorem Nd.text_length (x : Nd) : x.text.length = 45 := by rw [Nd.text, List.length_append, x.front_length, flat_len, x.hp]
def zeros207 : List UInt8 := List.replicate 207 0
theorem zeros207_length : zeros207.length = 207 := List.length_replicate
def Nd.body (x : Nd) : List UInt8 := x.text ++ zeros207
theorem Nd.body_length (x : Nd) : x.body.length = 252 := by rw [Nd.body, List.length_append, zeros207_length, x.text_length]
/-- a node's block -/
def Nd.block (x : Nd) : List UInt8 := x.body ++ les (Bq.crc x.body) 4
theorem Nd.block_length (x : Nd) : x.block.length = 256 := by rw [Nd.block, List.length_append, x.body_length, les_length]
theorem nd_summed (x : Nd) : Summed x.block := ⟨x.body, x.body_length, rfl⟩
theorem flat2 (ms : List Int) (k : Nat) (h : k < ms.length) : (ms.take (k + 1)).flatMap (fun m => les m.toNat 2) = (ms.take k).flatMap (fun m => les m.toNat 2) ++ les (ms.getD k 0).toNat 2 := by
  rw [List.take_succ_eq_append_getElem h, List.flatMap_append]
  simp [List.getD, h]
theorem repeat207 (w : World) :
    Calls Try.prog 69 #[.string ⟨#[0]⟩, .int .i64 207] w fun e w' => e = .returned (.string ⟨zeros207.toArray⟩) ∧ Below w.heap.size w w' := repeat_any 207 w (by omega)
theorem bp1 (v : Int) (w : World) (h0 : 0 ≤ v) (h : v < 9223372036854775808) :
    Calls Try.prog 58 #[.int .i64 v, .int .i64 1] w fun e w' => e = .returned (.string ⟨(les v.toNat 1).toArray⟩) ∧ Below w.heap.size w w' := by
  obtain ⟨v, rfl⟩ := Int.eq_ofNat_of_zero_le h0
  exact binput_any v 1 w (by omega) (by decide) (by decide)
theorem bp2 (v : Int) (w : World) (h0 : 0 ≤ v) (h : v < 9223372036854775808) :
    Calls Try.prog 58 #[.int .i64 v, .int .i64 2] w fun e w' => e = .returned (.string ⟨(les v.toNat 2).toArray⟩) ∧ Below w.heap.size w w' := by
  obtain ⟨v, rfl⟩ := Int.eq_ofNat_of_zero_le h0
  exact binput_any v 2 w (by omega) (by decide) (by decide)
theorem bp4 (v : Int) (w : World) (h0 : 0 ≤ v) (h : v < 9223372036854775808) :
    Calls Try.prog 58 #[.int .i64 v, .int .i64 4] w fun e w' => e = .returned (.string ⟨(les v.toNat 4).toArray⟩) ∧ Below w.heap.size w w' := by
  obtain ⟨v, rfl⟩ := Int.eq_ofNat_of_zero_le h0
  exact binput_any v 4 w (by omega) (by decide) (by decide)
theorem bp6 (v : Int) (w : World) (h0 : 0 ≤ v) (h : v < 9223372036854775808) :
    Calls Try.prog 58 #[.int .i64 v, .int .i64 6] w fun e w' => e = .returned (.string ⟨(les v.toNat 6).toArray⟩) ∧ Below w.heap.size w w' := by
  obtain ⟨v, rfl⟩ := Int.eq_ofNat_of_zero_le h0
  exact binput_any v 6 w (by omega) (by decide) (by decide)

section
open Go.Sort
attribute [local go_sem ↓] ld65 st65 ld63
set_option maxRecDepth 100000 in
set_option maxHeartbeats 8000000 in
theorem nput_yes (x : Nd) (w : World) (hok : x.chk = true) :
    Calls Try.prog 46 #[.agg x.cells] w fun e w' => e = .returned (.tuple #[.string ⟨x.block.toArray⟩, .bool true]) ∧ Below w.heap.size w w' := by
  obtain ⟨⟨a1, b1⟩, ⟨a2, b2⟩, ⟨a3, b3⟩, ⟨a4, b4⟩, ⟨a5, b5⟩, hmp⟩ := Nd.chk_bounds hok
  have hmb := Lib.hid hmp
  clear hmp
  have hB : Blk (w.alloc (.cells x.cells 65)) w.heap.size 65 x.cells := Blk.new w 65 _
  have hW : Below w.heap.size w (w.alloc (.cells x.cells 65)) := (Below.refl _ w).alloc (Nat.le_refl _) _
  have hld := run_ldN hB
  have hlen := les_length
  go_enter Try.func46, Try.ntmps46
  go_wp2_with fail
  refine (ncheckX x _).mono ?_
  rintro e w1 ⟨rfl, hb1⟩
  rw [hok]
  have hB1 := hB.beyond hb1
  have hW1 := below2 hW hb1
  have hlt : w.heap.size < w1.heap.size := hB1.lt
  clear hB hW hb1 hld
  go_upto_region 3 with (fail)
  generalize w.heap.size = b0 at hB1 hlt ⊢
  have q0 : ∀ d os, Calls Try.prog 58 #[.int .i64 x.num, .int .i64 1] (grow (redrawn w1 d) os) fun e w'' => e = .returned (.string ⟨(les x.num.toNat 1).toArray⟩) ∧ ∃ p : Regrown, w'' = grow (redrawn w1 p.d) p.os := fun d os => Calls.regrown_of (bp1 x.num _ (by omega) (by omega))
  have q1 : ∀ d os, Calls Try.prog 58 #[.int .i64 x.kind, .int .i64 1] (grow (redrawn w1 d) os) fun e w'' => e = .returned (.string ⟨(les x.kind.toNat 1).toArray⟩) ∧ ∃ p : Regrown, w'' = grow (redrawn w1 p.d) p.os := fun d os => Calls.regrown_of (bp1 x.kind _ (by omega) (by omega))
  have q2 : ∀ d os, Calls Try.prog 58 #[.int .i64 x.links, .int .i64 1] (grow (redrawn w1 d) os) fun e w'' => e = .returned (.string ⟨(les x.links.toNat 1).toArray⟩) ∧ ∃ p : Regrown, w'' = grow (redrawn w1 p.d) p.os := fun d os => Calls.regrown_of (bp1 x.links _ (by omega) (by omega))
  have q3 : ∀ d os, Calls Try.prog 58 #[.int .i64 x.size, .int .i64 4] (grow (redrawn w1 d) os) fun e w'' => e = .returned (.string ⟨(les x.size.toNat 4).toArray⟩) ∧ ∃ p : Regrown, w'' = grow (redrawn w1 p.d) p.os := fun d os => Calls.regrown_of (bp4 x.size _ (by omega) (by omega))
  have q4 : ∀ d os, Calls Try.prog 58 #[.int .i64 x.time, .int .i64 6] (grow (redrawn w1 d) os) fun e w'' => e = .returned (.string ⟨(les x.time.toNat 6).toArray⟩) ∧ ∃ p : Regrown, w'' = grow (redrawn w1 p.d) p.os := fun d os => Calls.regrown_of (bp6 x.time _ (by omega) (by omega))
  have k0 := cell_regrown (show w1.cell? ⟨b0, 0, none⟩ = some (.int .i64 x.num) from by rw [hB1.cell, x.cell0])
  have k1 := cell_regrown (show w1.cell? ⟨b0, 1, none⟩ = some (.int .i64 x.kind) from by rw [hB1.cell, x.cell1])
  have k2 := cell_regrown (show w1.cell? ⟨b0, 2, none⟩ = some (.int .i64 x.links) from by rw [hB1.cell, x.cell2])
  have k3 := cell_regrown (show w1.cell? ⟨b0, 3, none⟩ = some (.int .i64 x.size) from by rw [hB1.cell, x.cell3])
  have k4 := cell_regrown (show w1.cell? ⟨b0, 4, none⟩ = some (.int .i64 x.time) from by rw [hB1.cell, x.cell4])
  refine wp_region_quiet_below mixed (by kernel_rfl) ?_
  repeat (go_big_quiet_step (first | with_reducible exact q0 _ _ | with_reducible exact q1 _ _ | with_reducible exact q2 _ _ | with_reducible exact q3 _ _ | with_reducible exact q4 _ _))

  refine wpQuiet_nil ?_
  intro _ hw'
  obtain ⟨⟨dq, osq⟩, hw''⟩ := hw'
  subst hw''
  have hb2 := below_regrown w1 dq osq
  generalize grow (redrawn w1 dq) osq = w2 at *
  clear q0 q1 q2 q3 q4 k0 k1 k2 k3 k4
  have hfr : (⟨#[66, 71, 78, 68]⟩ ++ ⟨(les x.num.toNat 1).toArray⟩ ++ ⟨(les x.kind.toNat 1).toArray⟩ ++ ⟨(les x.links.toNat 1).toArray⟩ ++ ⟨(les x.size.toNat 4).toArray⟩ ++ ⟨(les x.time.toNat 6).toArray⟩ : ByteArray) = ⟨x.front.toArray⟩ := by
    apply ByteArray.ext
    simp [Nd.front]
  rw [hfr]
  clear hfr hlen
  have hB2 := hB1.beyond hb2
  have hW2 : Hid (Below w.heap.size w w2) := below2 hW1 hb2
  clear hB1 hb2 hW1
  have HC := Lib.hid hok
  clear hok
  have HF := Lib.hid x.front_length
  have HT : Hid (x.text = x.front ++ x.p.flatMap (fun m => les m.toNat 2)) := rfl
  have HBd : Hid (x.body = x.text ++ zeros207) := rfl
  have HBk : Hid (x.block = x.body ++ les (Bq.crc x.body) 4) := rfl
  have HTl := Lib.hid x.text_length
  have HBl := Lib.hid x.body_length
  have Hidx := Lib.hid (idx14 x)
  have Hlen := Lib.hid x.hp
  generalize x.front = FR at *
  have hlp := run_ldP hB2
  go_wp2_with fail
  clear hlp
  go_loopw [4, 32] (fun s i wr => ∃ (k : Nat) (L : List UInt8), k ≤ 14 ∧ i = .int .i64 k ∧ s = .string ⟨L.toArray⟩ ∧ Hid (L = FR ++ (x.p.take k).flatMap (fun m => les m.toNat 2)) ∧ L.length ≤ 17 + 2 * k ∧ Hid (Below w.heap.size w wr)) (fun _ i _ => 14 - (intOf i).toNat)
  case atStart => exact ⟨0, FR, by omega, rfl, rfl, by show _ = _; simp, by rw [HF.out]; omega, hW2⟩
  case round =>
    obtain ⟨k, L, hk, rfl, rfl, HL, hll, hWr⟩ := hrel
    clear hB2 hW2
    by_cases hk4 : k < 14
    · have hix := Hidx.out k hk4
      obtain ⟨mb0, mb1⟩ := hmb.out k hk4
      have hfl := Lib.hid (flat2 x.p k (by rw [Hlen.out]; exact hk4))
      generalize x.p.getD k 0 = m at *
      have hl4 := les_len_le m.toNat 2
      go_wp2_with fail
      refine (bp2 m _ (by omega) (by omega)).mono ?_
      rintro e wn ⟨rfl, hbn⟩
      go_wp2_with fail
      have e1 : (⟨L.toArray⟩ ++ ⟨(les m.toNat 2).toArray⟩ : ByteArray) = ⟨(L ++ les m.toNat 2).toArray⟩ := by apply ByteArray.ext; simp
      go_roundw
      case rel => exact ⟨k + 1, L ++ les m.toNat 2, by omega, by go_num, by rw [e1], by show _ = _; rw [HL.out, hfl.out, List.append_assoc], by simp; omega, below2 hWr.out hbn⟩
      case measure => simp [intOf]; omega
    · obtain rfl : k = 14 := by omega
      have hLt : Hid (L = x.text) := by
        show _ = _
        rw [HL.out, HT.out, List.take_of_length_le (by rw [Hlen.out]; omega)]
      obtain ⟨TX, hTX⟩ : ∃ TX, x.text = TX := ⟨_, rfl⟩
      rw [hTX] at hLt HBd HTl
      obtain rfl := hLt.out
      have t1 : L.length = 45 := HTl.out
      clear hLt HL hll HT hTX
      have hsub : (252 : Int) - (L.length : Int) = 207 := by omega
      have hrep : ∀ w, Calls Try.prog 69 #[.string ⟨#[0]⟩, .int .i64 (252 - (L.length : Int))] w fun e w' => e = .returned (.string ⟨zeros207.toArray⟩) ∧ Below w.heap.size w w' := by
        rw [hsub]; exact repeat207
      clear hsub
      go_wp2_with fail
      first | with_reducible refine (hrep _).mono ?_ | with_reducible refine (repeat207 _).mono ?_
      rintro e w3 ⟨rfl, hb3⟩
      have hW3 := below2 hWr.out hb3
      have hz : zeros207.length ≤ 207 := by rw [zeros207_length]; omega
      clear hrep hb3 hWr
      go_wp2_with fail
      have hb1 : (⟨L.toArray⟩ ++ ⟨zeros207.toArray⟩ : ByteArray) = ⟨x.body.toArray⟩ := by
        rw [HBd.out]
        apply ByteArray.ext
        simp
      rw [hb1]
      clear hb1 HBd hz HTl t1
      have hbl : x.body.length ≤ 252 := by rw [HBl.out]; omega
      generalize x.body = BD at *
      refine (ofL BD _ (by omega)).mono ?_
      rintro e w4 ⟨c, rfl, hc, hcl, hb4⟩
      have hW4 := below2 hW3 hb4
      clear hW3 hb4
      go_wp2_with fail
      refine (bp4 (c : Int) _ (by omega) (by omega)).mono ?_
      rintro e w5 ⟨rfl, hb5⟩
      rw [Int.toNat_natCast]
      have hl4 := les_len_le c 4
      have hend : (⟨BD.toArray⟩ ++ ⟨(les c 4).toArray⟩ : ByteArray) = ⟨x.block.toArray⟩ := put_end HBk hc
      go_wp2_with fail
      go_ret2
      exact ⟨rfl, below2 hW4 hb5⟩
end
section
attribute [local go_sem ↓] ld65 st65
set_option maxRecDepth 100000 in
set_option maxHeartbeats 1000000 in
theorem nput_no (x : Nd) (w : World) (hno : x.chk = false) :
    Calls Try.prog 46 #[.agg x.cells] w fun e w' => e = .returned (.tuple #[.string ⟨#[]⟩, .bool false]) ∧ Below w.heap.size w w' := by
  have hB : Blk (w.alloc (.cells x.cells 65)) w.heap.size 65 x.cells := Blk.new w 65 _
  have HW : Hid (Below w.heap.size w (w.alloc (.cells x.cells 65))) := (Below.refl _ w).alloc (Nat.le_refl _) _
  have hld := run_ldN hB
  go_enter Try.func46, Try.ntmps46
  go_wp2_with fail
  refine (ncheckX x _).mono ?_
  rintro e w' ⟨rfl, hb⟩
  rw [hno]
  go_wp2_with fail
  go_ret2
  exact ⟨rfl, below2 HW.out hb⟩
end
theorem nputX (x : Nd) (w : World) :
    Calls Try.prog 46 #[.agg x.cells] w fun e w' => ∃ (ok : Bool) (L : List UInt8), e = .returned (.tuple #[.string ⟨L.toArray⟩, .bool ok]) ∧ Hid (ok = x.chk) ∧ Hid (ok = true → L = x.block) ∧ Hid (ok = false → L = []) ∧ Below w.heap.size w w' := by
  cases hok : x.chk
  · exact (nput_no x w hok).mono fun e w' ⟨h2, h3⟩ => ⟨false, [], h2, rfl, (fun h => by cases h), (fun _ => rfl), h3⟩
  · exact (nput_yes x w hok).mono fun e w' ⟨h2, h3⟩ => ⟨true, _, h2, rfl, (fun _ => rfl), (fun h => by cases h), h3⟩
end Go.Proofs.Ytmpkcehjmjopdaa
