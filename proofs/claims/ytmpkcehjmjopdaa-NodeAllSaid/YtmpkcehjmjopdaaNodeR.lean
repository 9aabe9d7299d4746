import Derived.Test.YtmpkcehjmjopdaaNodeF
import Derived.Test.YtmpkcehjmjopdaaSlotR
namespace Go.Proofs.Ytmpkcehjmjopdaa
open Go.RowKit

theorem nall_take (x : Nd) (k : Nat) (h : k < 14) : (x.p.take (k + 1)).all (fun m => inb m 0 16383) = ((x.p.take k).all (fun m => inb m 0 16383) && inb (x.p.getD k 0) 0 16383) := by
  have hkl : k < x.p.length := by rw [x.hp]; exact h
  rw [List.take_succ_eq_append_getElem hkl, List.all_append]
  simp [List.getD, hkl]
theorem nall_no (x : Nd) (k : Nat) (h : k < 14) (hf : inb (x.p.getD k 0) 0 16383 = false) : x.chk = false := by
  unfold Nd.chk
  have : x.p.all (fun m => inb m 0 16383) = false := by
    rw [List.all_eq_false]
    have hkl : k < x.p.length := by rw [x.hp]; exact h
    exact ⟨x.p.getD k 0, by simp [List.getD, hkl], by rw [hf]; decide⟩
  rw [this, Bool.and_false]
/-- the reference's own words for a node's numbers -/
def Nd.refA (x : Nd) : Bool := inb x.num 1 255 && inb x.kind 1 2 && inb x.links 0 100 && inb x.size 0 150528 && (x.kind == 1 || x.size.tmod 256 == 0) && inb x.time 0 1099511627776
theorem Nd.refA_eq (x : Nd) : x.chkA = x.refA := by
  unfold Nd.chkA Nd.refA
  cases hk : inb x.kind 1 2
  · simp
  · obtain ⟨h1, h2⟩ := inb_true hk
    have : (x.kind != 2) = (x.kind == 1) := by
      obtain h | h : x.kind = 1 ∨ x.kind = 2 := by omega
      all_goals rw [h]; rfl
    rw [this]

set_option maxRecDepth 100000 in
set_option maxHeartbeats 4000000 in
theorem nrefcheckX (x : Nd) (w : World) : Calls Try.prog 51 #[.agg x.cells] w fun e w' => e = .returned (.bool x.chk) ∧ Below w.heap.size w w' := by
  have g0 : Blk (w.alloc (.cells x.cells 65)) w.heap.size 65 x.cells := Blk.new w 65 _
  have gw : Below w.heap.size w (w.alloc (.cells x.cells 65)) := (Below.refl _ w).alloc (Nat.le_refl _) _
  go_enter Try.func51, Try.ntmps51
  go_wp2_with fail
  generalize w.alloc (.cells x.cells 65) = v0 at *
  go_loop [3] (fun i => ∃ k : Nat, k ≤ 14 ∧ i = .int .i64 k ∧ Hid ((x.p.take k).all (fun m => inb m 0 16383) = true)) (fun i => 14 - (intOf i).toNat)
  case atStart => exact ⟨0, by omega, rfl, by show _ = _; simp⟩
  case round =>
    obtain ⟨k, hk, rfl, hall⟩ := hrel
    by_cases hk4 : k < 14
    · have hm := x.cellp k hk4
      have hno := nall_no x k hk4
      have hsn := Lib.hid (nall_take x k hk4)
      generalize x.p.getD k 0 = m at *
      have c0 : v0.cell? ⟨w.heap.size, 5 + k, none⟩ = some (.int .i64 m) := by rw [g0.cell, hm]
      clear hm
      cases hb : inb m 0 16383 with
      | false =>
        have hc : Hid (x.chk = false) := hno hb
        clear hno
        go_wp2_with (go_at_call 73; refine (nrefin_any _ _ _ _).mono ?_; rintro e w' ⟨rfl, rfl⟩)
        go_ret
        exact ⟨by rw [hc.out]; rfl, gw⟩
      | true =>
        clear hno
        go_wp2_with (go_at_call 73; refine (nrefin_any _ _ _ _).mono ?_; rintro e w' ⟨rfl, rfl⟩)
        go_round
        case rel => exact ⟨k + 1, by omega, by go_num, by show _ = _; rw [hsn.out, hall.out, hb]; rfl⟩
        case measure => simp [intOf]; omega
    · obtain rfl : k = 14 := by omega
      have hc : Hid (x.chk = x.refA) := by
        show _ = _
        unfold Nd.chk
        have h1 : x.p.all (fun m => inb m 0 16383) = true := by
          have := hall.out
          rwa [List.take_of_length_le (by rw [x.hp]; omega)] at this
        rw [h1, Bool.and_true, Nd.refA_eq]
      have c0 : v0.cell? ⟨w.heap.size, 0, none⟩ = some (.int .i64 x.num) := by rw [g0.cell, x.cell0]
      have c1 : v0.cell? ⟨w.heap.size, 1, none⟩ = some (.int .i64 x.kind) := by rw [g0.cell, x.cell1]
      have c2 : v0.cell? ⟨w.heap.size, 2, none⟩ = some (.int .i64 x.links) := by rw [g0.cell, x.cell2]
      have c3 : v0.cell? ⟨w.heap.size, 3, none⟩ = some (.int .i64 x.size) := by rw [g0.cell, x.cell3]
      have c4 : v0.cell? ⟨w.heap.size, 4, none⟩ = some (.int .i64 x.time) := by rw [g0.cell, x.cell4]
      clear hall g0
      have HA : Hid (x.refA = (inb x.num 1 255 && inb x.kind 1 2 && inb x.links 0 100 && inb x.size 0 150528 && (x.kind == 1 || x.size.tmod 256 == 0) && inb x.time 0 1099511627776)) := rfl
      go_wp2_with (go_at_call 73; refine (nrefin_any _ _ _ _).mono ?_; rintro e w' ⟨rfl, rfl⟩)
      all_goals
        go_ret
        refine ⟨?_, gw⟩
        rw [hc.out, HA.out]
        clear c0 c1 c2 c3 c4 hc HA gw
        simp [*] <;> (intro _; rfl)

/-- 207 bytes 0, as cells -/
def zblk207 : Array Value := (bcells zeros207).toArray
theorem conv_207 (w : World) (cap : Nat) : (convert 27 9 (.slice (some ⟨w.heap.size, 0, none⟩) 207 cap)).run Try.prog (w.alloc (.cells zblk207 5)) = .ok (.string ⟨zeros207.toArray⟩) (w.alloc (.cells zblk207 5)) := by
  have h := conv_blk (W := w.alloc (.cells zblk207 5)) (g := w.heap.size) (t := 5) (l := zeros207) (x := #[]) (by simpa [zblk207] using Blk.new w 5 zblk207) cap
  rwa [zeros207_length] at h
section
open Go.Sort
attribute [local go_sem ↓] ld65 st65
set_option maxRecDepth 100000 in
set_option maxHeartbeats 8000000 in
theorem nrefput_yes (x : Nd) (w : World) (hok : x.chk = true) :
    Calls Try.prog 47 #[.agg x.cells] w fun e w' => e = .returned (.tuple #[.string ⟨x.block.toArray⟩, .bool true]) ∧ Below w.heap.size w w' := by
  obtain ⟨⟨a1, b1⟩, ⟨a2, b2⟩, ⟨a3, b3⟩, ⟨a4, b4⟩, ⟨a5, b5⟩, hmp⟩ := Nd.chk_bounds hok
  have hmb := Lib.hid hmp
  clear hmp
  have hB : Blk (w.alloc (.cells x.cells 65)) w.heap.size 65 x.cells := Blk.new w 65 _
  have hW : Below w.heap.size w (w.alloc (.cells x.cells 65)) := (Below.refl _ w).alloc (Nat.le_refl _) _
  have hld := run_ldN hB
  have hlen := les_length
  go_enter Try.func47, Try.ntmps47
  go_wp2_with fail
  refine (nrefcheckX x _).mono ?_
  rintro e w1 ⟨rfl, hb1⟩
  rw [hok]
  have hB1 := hB.beyond hb1
  have hW1 := below2 hW hb1
  have hlt : w.heap.size < w1.heap.size := hB1.lt
  clear hB hW hb1 hld
  go_upto_region 3 with (fail)
  generalize w.heap.size = b0 at hB1 hlt ⊢
  have q0 : ∀ d os, Calls Try.prog 60 #[.int .i64 x.num, .int .i64 1] (grow (redrawn w1 d) os) fun e w'' => e = .returned (.string ⟨(les x.num.toNat 1).toArray⟩) ∧ ∃ p : Regrown, w'' = grow (redrawn w1 p.d) p.os := fun d os => Calls.regrown_of (rp1 x.num _ (by omega) (by omega))
  have q1 : ∀ d os, Calls Try.prog 60 #[.int .i64 x.kind, .int .i64 1] (grow (redrawn w1 d) os) fun e w'' => e = .returned (.string ⟨(les x.kind.toNat 1).toArray⟩) ∧ ∃ p : Regrown, w'' = grow (redrawn w1 p.d) p.os := fun d os => Calls.regrown_of (rp1 x.kind _ (by omega) (by omega))
  have q2 : ∀ d os, Calls Try.prog 60 #[.int .i64 x.links, .int .i64 1] (grow (redrawn w1 d) os) fun e w'' => e = .returned (.string ⟨(les x.links.toNat 1).toArray⟩) ∧ ∃ p : Regrown, w'' = grow (redrawn w1 p.d) p.os := fun d os => Calls.regrown_of (rp1 x.links _ (by omega) (by omega))
  have q3 : ∀ d os, Calls Try.prog 60 #[.int .i64 x.size, .int .i64 4] (grow (redrawn w1 d) os) fun e w'' => e = .returned (.string ⟨(les x.size.toNat 4).toArray⟩) ∧ ∃ p : Regrown, w'' = grow (redrawn w1 p.d) p.os := fun d os => Calls.regrown_of (rp4 x.size _ (by omega) (by omega))
  have q4 : ∀ d os, Calls Try.prog 60 #[.int .i64 x.time, .int .i64 6] (grow (redrawn w1 d) os) fun e w'' => e = .returned (.string ⟨(les x.time.toNat 6).toArray⟩) ∧ ∃ p : Regrown, w'' = grow (redrawn w1 p.d) p.os := fun d os => Calls.regrown_of (rp6 x.time _ (by omega) (by omega))
  have k0 := cell_regrown (show w1.cell? ⟨b0, 0, none⟩ = some (.int .i64 x.num) from by rw [hB1.cell, x.cell0])
  have k1 := cell_regrown (show w1.cell? ⟨b0, 1, none⟩ = some (.int .i64 x.kind) from by rw [hB1.cell, x.cell1])
  have k2 := cell_regrown (show w1.cell? ⟨b0, 2, none⟩ = some (.int .i64 x.links) from by rw [hB1.cell, x.cell2])
  have k3 := cell_regrown (show w1.cell? ⟨b0, 3, none⟩ = some (.int .i64 x.size) from by rw [hB1.cell, x.cell3])
  have k4 := cell_regrown (show w1.cell? ⟨b0, 4, none⟩ = some (.int .i64 x.time) from by rw [hB1.cell, x.cell4])
  refine wp_region_quiet_below mixed (by kernel_rfl) ?_
  repeat (go_big_quiet_step (first | with_reducible exact q0 _ _ | with_reducible exact q1 _ _ | with_reducible exact q2 _ _ | with_reducible exact q3 _ _ | with_reducible exact q4 _ _))
  refine wpQuiet_nil ?_
  intro _ hw'
  obtain ⟨⟨dq, osq⟩, hw''⟩ := hw'
  subst hw''
  have hb2 := below_regrown w1 dq osq
  generalize grow (redrawn w1 dq) osq = w2 at *
  clear q0 q1 q2 q3 q4 k0 k1 k2 k3 k4
  have hfr : (⟨#[66, 71, 78, 68]⟩ ++ ⟨(les x.num.toNat 1).toArray⟩ ++ ⟨(les x.kind.toNat 1).toArray⟩ ++ ⟨(les x.links.toNat 1).toArray⟩ ++ ⟨(les x.size.toNat 4).toArray⟩ ++ ⟨(les x.time.toNat 6).toArray⟩ : ByteArray) = ⟨x.front.toArray⟩ := by
    apply ByteArray.ext
    simp [Nd.front]
  rw [hfr]
  clear hfr hlen
  have hB2 := hB1.beyond hb2
  have hW2 : Hid (Below w.heap.size w w2) := below2 hW1 hb2
  clear hB1 hb2 hW1
  have HC := Lib.hid hok
  clear hok
  have HF := Lib.hid x.front_length
  have HT : Hid (x.text = x.front ++ x.p.flatMap (fun m => les m.toNat 2)) := rfl
  have HBd : Hid (x.body = x.text ++ zeros207) := rfl
  have HBk : Hid (x.block = x.body ++ les (Bq.crc x.body) 4) := rfl
  have HTl := Lib.hid x.text_length
  have HBl := Lib.hid x.body_length
  have Hlen := Lib.hid x.hp
  generalize x.front = FR at *
  go_wp2_with fail
  go_loopw [4, 5] (fun s i wr => ∃ (k : Nat) (L : List UInt8), k ≤ 14 ∧ i = .int .i64 k ∧ s = .string ⟨L.toArray⟩ ∧ Hid (L = FR ++ (x.p.take k).flatMap (fun m => les m.toNat 2)) ∧ L.length ≤ 17 + 2 * k ∧ Blk wr b0 65 x.cells ∧ Hid (Below w.heap.size w wr)) (fun _ i _ => 14 - (intOf i).toNat)
  case atStart => exact ⟨0, FR, by omega, rfl, rfl, by show _ = _; simp, by rw [HF.out]; omega, hB2, hW2⟩
  case round =>
    obtain ⟨k, L, hk, rfl, rfl, HL, hll, hBr, hWr⟩ := hrel
    clear hB2 hW2
    by_cases hk4 : k < 14
    · have hm := x.cellp k hk4
      obtain ⟨mb0, mb1⟩ := hmb.out k hk4
      have hfl := Lib.hid (flat2 x.p k (by rw [Hlen.out]; exact hk4))
      generalize x.p.getD k 0 = m at *
      have c0 : wr.cell? ⟨b0, 5 + k, none⟩ = some (.int .i64 m) := by rw [hBr.cell, hm]
      clear hm
      have hl4 := les_len_le m.toNat 2
      go_wp2_with fail
      refine (rp2 m _ (by omega) (by omega)).mono ?_
      rintro e wn ⟨rfl, hbn⟩
      go_wp2_with fail
      have e1 : (⟨L.toArray⟩ ++ ⟨(les m.toNat 2).toArray⟩ : ByteArray) = ⟨(L ++ les m.toNat 2).toArray⟩ := by apply ByteArray.ext; simp
      go_roundw
      case rel => exact ⟨k + 1, L ++ les m.toNat 2, by omega, by go_num, by rw [e1], by show _ = _; rw [HL.out, hfl.out, List.append_assoc], by simp; omega, hBr.beyond hbn, below2 hWr.out hbn⟩
      case measure => simp [intOf]; omega
    · obtain rfl : k = 14 := by omega
      have hLt : Hid (L = x.text) := by
        show _ = _
        rw [HL.out, HT.out, List.take_of_length_le (by rw [Hlen.out]; omega)]
      obtain ⟨TX, hTX⟩ : ∃ TX, x.text = TX := ⟨_, rfl⟩
      rw [hTX] at hLt HBd HTl
      obtain rfl := hLt.out
      have t1 : L.length ≤ 45 := by rw [HTl.out]; omega
      clear hLt HL hll HT hTX hBr
      have hmk : ∀ w, (Instr.makeSlice 27 (.int .i64 (252 - (L.length : Int))) (.int .i64 (252 - (L.length : Int)))).run Try.prog w = .ok (.slice (some ⟨w.heap.size, 0, none⟩) 207 207) (w.alloc (.cells zblk207 5)) := by
        intro w; rw [HTl.out]; exact make_bytes w 207 (by decide)
      have hcv := conv_207 wr
      have hz : zeros207.length ≤ 207 := by rw [zeros207_length]; omega
      go_wp2_with fail
      have hb1 : (⟨L.toArray⟩ ++ ⟨zeros207.toArray⟩ : ByteArray) = ⟨x.body.toArray⟩ := by
        rw [HBd.out]
        apply ByteArray.ext
        simp
      rw [hb1]
      clear hb1 HBd hmk hcv hz HTl t1
      have hbl : x.body.length ≤ 252 := by rw [HBl.out]; omega
      generalize x.body = BD at *
      refine (refof_any ⟨BD.toArray⟩ _ (by show BD.toArray.size ≤ _; simp; omega)).mono ?_
      rintro e w4 ⟨rfl, hw4⟩
      rw [show (⟨BD.toArray⟩ : ByteArray).data.toList = BD from rfl]
      have hcl := Bq.crc_lt BD
      have hW4 : Below w.heap.size w w4 := by rw [← hw4]; exact hWr.out.alloc hWr.out.size _
      clear hw4 hWr
      generalize Bq.crc BD = c at *
      go_wp2_with fail
      refine (rp4 (c : Int) _ (by omega) (by omega)).mono ?_
      rintro e w5 ⟨rfl, hb5⟩
      rw [Int.toNat_natCast]
      have hl4 := les_len_le c 4
      have hend : (⟨BD.toArray⟩ ++ ⟨(les c 4).toArray⟩ : ByteArray) = ⟨x.block.toArray⟩ := by
        rw [HBk.out]
        apply ByteArray.ext
        simp
      go_wp2_with fail
      go_ret2
      exact ⟨rfl, below2 hW4 hb5⟩
end
section
attribute [local go_sem ↓] ld65 st65
set_option maxRecDepth 100000 in
set_option maxHeartbeats 1000000 in
theorem nrefput_no (x : Nd) (w : World) (hno : x.chk = false) :
    Calls Try.prog 47 #[.agg x.cells] w fun e w' => e = .returned (.tuple #[.string ⟨#[]⟩, .bool false]) ∧ Below w.heap.size w w' := by
  have hB : Blk (w.alloc (.cells x.cells 65)) w.heap.size 65 x.cells := Blk.new w 65 _
  have HW : Hid (Below w.heap.size w (w.alloc (.cells x.cells 65))) := (Below.refl _ w).alloc (Nat.le_refl _) _
  have hld := run_ldN hB
  go_enter Try.func47, Try.ntmps47
  go_wp2_with fail
  refine (nrefcheckX x _).mono ?_
  rintro e w' ⟨rfl, hb⟩
  rw [hno]
  go_wp2_with fail
  go_ret2
  exact ⟨rfl, below2 HW.out hb⟩
end
/-- what a Put of a node answers -/
def Nd.out (x : Nd) : List UInt8 := if x.chk then x.block else []
theorem nputV (x : Nd) (w : World) :
    Calls Try.prog 46 #[.agg x.cells] w fun e w' => e = .returned (.tuple #[.string ⟨x.out.toArray⟩, .bool x.chk]) ∧ Below w.heap.size w w' := by
  unfold Nd.out
  cases hok : x.chk
  · exact nput_no x w hok
  · exact nput_yes x w hok
theorem nrefputV (x : Nd) (w : World) :
    Calls Try.prog 47 #[.agg x.cells] w fun e w' => e = .returned (.tuple #[.string ⟨x.out.toArray⟩, .bool x.chk]) ∧ Below w.heap.size w w' := by
  unfold Nd.out
  cases hok : x.chk
  · exact nrefput_no x w hok
  · exact nrefput_yes x w hok
theorem nrefnum_any (s : ByteArray) (a n : Nat) (w : World) (hn : n ≤ 7) (ha : a ≤ 4611686018427387904) (hs : s.size ≤ 4611686018427387904) :
    Calls Try.prog 71 #[.string s, .int .i64 a, .int .i64 n] w fun e w' => e = .returned (.int .i64 (num s.data.toList a n : Nat)) ∧ w = w' := by
  go_enter Try.func71, Try.ntmps71
  go_wp2_with fail
  refine (refget_any s a n w hn ha hs).mono ?_
  rintro e w' ⟨⟨b, rfl⟩, rfl⟩
  go_wp2_with fail
  go_ret
  exact ⟨rfl, rfl⟩
end Go.Proofs.Ytmpkcehjmjopdaa
