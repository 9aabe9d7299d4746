import Derived.Test.YtmpkcehjmjopdaaNodeA
namespace Go.Proofs.Ytmpkcehjmjopdaa
open Go.RowKit

/-- two nodes compared, as one step -/
def neqN (a b : Value) : Sem Value := binOp .neq 65 a b
theorem ne65 (a b : Value) : binOp .neq 65 a b = neqN a b := rfl
section
attribute [local go_sem ↓] ld65 st65 ld63 ne65
set_option maxRecDepth 100000 in
set_option maxHeartbeats 4000000 in
theorem ncheckX (x : Nd) (w : World) :
    Calls Try.prog 50 #[.agg x.cells] w fun e w' => e = .returned (.bool x.chk) ∧ Below w.heap.size w w' := by
  have hB : Blk (w.alloc (.cells x.cells 65)) w.heap.size 65 x.cells := Blk.new w 65 _
  have HW : Hid (Below w.heap.size w (w.alloc (.cells x.cells 65))) := (Below.refl _ w).alloc (Nat.le_refl _) _
  obtain ⟨B, hB0, hBn⟩ := ndNe x ndZero (w.alloc (.cells x.cells 65))
  have hne : (neqN (.agg x.cells) (.agg #[.int .i64 0, .int .i64 0, .int .i64 0, .int .i64 0, .int .i64 0, .int .i64 0, .int .i64 0, .int .i64 0, .int .i64 0, .int .i64 0, .int .i64 0, .int .i64 0, .int .i64 0, .int .i64 0, .int .i64 0, .int .i64 0, .int .i64 0, .int .i64 0, .int .i64 0])).run Try.prog (w.alloc (.cells x.cells 65)) = .ok (.bool B) (w.alloc (.cells x.cells 65)) := hB0
  clear hB0
  have c0 : (w.alloc (.cells x.cells 65)).cell? ⟨w.heap.size, 0, none⟩ = some (.int .i64 x.num) := by rw [hB.cell, x.cell0]
  have c1 : (w.alloc (.cells x.cells 65)).cell? ⟨w.heap.size, 1, none⟩ = some (.int .i64 x.kind) := by rw [hB.cell, x.cell1]
  have c2 : (w.alloc (.cells x.cells 65)).cell? ⟨w.heap.size, 2, none⟩ = some (.int .i64 x.links) := by rw [hB.cell, x.cell2]
  have c3 : (w.alloc (.cells x.cells 65)).cell? ⟨w.heap.size, 3, none⟩ = some (.int .i64 x.size) := by rw [hB.cell, x.cell3]
  have c4 : (w.alloc (.cells x.cells 65)).cell? ⟨w.heap.size, 4, none⟩ = some (.int .i64 x.time) := by rw [hB.cell, x.cell4]
  have hld := run_ldN hB
  have hlp := run_ldP hB
  have HC : Hid (x.chk = (x.chkA && (x.p.take 14).all fun m => inb m 0 16383)) := by
    show _ = _
    rw [List.take_of_length_le (by rw [x.hp]; omega)]; rfl
  have HA : Hid (x.chkA = (inb x.num 1 255 && inb x.kind 1 2 && inb x.links 0 100 && inb x.size 0 150528 && (x.kind != 2 || x.size.tmod 256 == 0) && inb x.time 0 1099511627776)) := rfl
  have HN : Hid (B = false → x.num = 0) := hBn
  clear hBn hB
  generalize x.chkA = cA at *
  go_enter Try.func50, Try.ntmps50
  go_upto_region 1 with fail
  generalize w.alloc (.cells x.cells 65) = v0 at *
  go_cut [3] (fun s3 wx => s3 = .bool cA ∧ wx = v0)
  case first =>
    cases B with
    | false =>
      have hz : x.num = 0 := HN.out rfl
      have hcA : Hid (cA = false) := by show _ = _; rw [HA.out, hz]; rfl
      clear HA HN hz
      go_wp2_with (go_at_call 72; refine (nin_any _ _ _ _).mono ?_; rintro e w' ⟨rfl, rfl⟩)
      go_meet
      exact ⟨by rw [hcA.out], rfl⟩
    | true =>
      clear HN
      go_wp2_with (go_at_call 72; refine (nin_any _ _ _ _).mono ?_; rintro e w' ⟨rfl, rfl⟩)
      all_goals
        go_meet
        refine ⟨?_, rfl⟩
        rw [HA.out]
        clear hne c0 c1 c2 c3 c4 hld hlp HA HC HW
        simp [*] <;> (intro _; rfl)
  case rest =>
    obtain ⟨rfl, rfl⟩ := hcut
    clear hne c0 c1 c2 c3 c4 hld HA HN
    have Hidx := Lib.hid (idx14 x)
    have Hlen := Lib.hid x.hp
    generalize x.p = ms at *
    go_wp2_with fail
    go_loop [3, 47] (fun b i => ∃ (k : Nat) (c : Bool), k ≤ 14 ∧ i = .int .i64 k ∧ b = .bool c ∧ Hid (c = (cA && (ms.take k).all fun m => inb m 0 16383))) (fun _ i => 14 - (intOf i).toNat)
    case atStart => exact ⟨0, cA, by omega, rfl, rfl, by show _ = _; simp⟩
    case round =>
      obtain ⟨k, c2, hk, rfl, rfl, hc⟩ := hrel
      by_cases hlt : k < 14
      · have hix := Hidx.out k hlt
        have hsn : Hid ((ms.take (k + 1)).all (fun m => inb m 0 16383) = ((ms.take k).all (fun m => inb m 0 16383) && inb (ms.getD k 0) 0 16383)) := by
          show _ = _
          have hkl : k < ms.length := by rw [Hlen.out]; exact hlt
          rw [List.take_succ_eq_append_getElem hkl, List.all_append]
          simp [List.getD, hkl]
        generalize ms.getD k 0 = m at *
        cases c2 with
        | false =>
          go_wp2_with (go_at_call 72; refine (nin_any _ _ _ _).mono ?_; rintro e w' ⟨rfl, rfl⟩)
          go_round
          case rel => exact ⟨k + 1, false, by omega, by go_num, rfl, by show _ = _; rw [hsn.out, ← Bool.and_assoc, ← hc.out]; rfl⟩
          case measure => simp [intOf]; omega
        | true =>
          go_wp2_with (go_at_call 72; refine (nin_any _ _ _ _).mono ?_; rintro e w' ⟨rfl, rfl⟩)
          go_round
          case rel => exact ⟨k + 1, inb m 0 16383, by omega, by go_num, rfl, by show _ = _; rw [hsn.out, ← Bool.and_assoc, ← hc.out]; rfl⟩
          case measure => simp [intOf]; omega
      · obtain rfl : k = 14 := by omega
        go_wp2_with fail
        go_ret
        exact ⟨by rw [HC.out, ← hc.out]; rfl, HW.out⟩
end
end Go.Proofs.Ytmpkcehjmjopdaa
