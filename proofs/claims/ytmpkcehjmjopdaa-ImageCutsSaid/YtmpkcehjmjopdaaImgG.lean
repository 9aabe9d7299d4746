import Derived.Test.YtmpkcehjmjopdaaImgF
import Derived.Test.YtmpkcehjmjopdaaSlotBackWalk
import Derived.Test.YtmpkcehjmjopdaaRepeat
namespace Go.Proofs.Ytmpkcehjmjopdaa
open Go.RowKit

theorem slotAt_any (h c i : Nat) (w : World) (h1 : 1 ≤ h) (h2 : h ≤ 16) (hc : c ≤ 1) (hi : i = 14 + 2 * h + c) :
    Calls Try.prog 77 #[.int .i64 h, .int .i64 c] w fun e w' => e = .returned (.int .i64 i) ∧ w = w' := by
  have d1 : decide ((h : Int) < 1) = false := by simp; omega
  have d2 : decide (16 < (h : Int)) = false := by simp; omega
  have d3 : decide ((c : Int) < 0) = false := by simp
  have d4 : decide (1 < (c : Int)) = false := by simp; omega
  have HI := Lib.hid hi
  clear hi
  go_enter Try.func77, Try.ntmps77
  go_wp2_with fail
  go_ret
  exact ⟨ret_int (by rw [HI.out]; omega), rfl⟩

theorem results64 {tmps : Array Value} {w : World} {b : Nat} {u v : Value} (h : Blk w b 87 #[u, v]) (h2 : tmps.getD 2 undef = .pointer (some ⟨b, 0, none⟩)) :
    (results Try.f64 tmps).run Try.prog w = .ok (.agg #[u, v]) w := by
  have h2' : tmps[2]?.getD undef = .pointer (some ⟨b, 0, none⟩) := by simpa using h2
  simp [results, Try.results64, h2', asAddr, run_loadVar_row w b 87 87 #[u, v] (0, 0) _ h Try.underlying87 rfl (by kernel_rfl)]
theorem st87 (v u : Value) : Instr.storeAt 87 v u = stV 87 v u := rfl
theorem run_st87_new (w : World) (a b : Int) : (stV 87 (.pointer (some ⟨w.heap.size, 0, none⟩)) (.agg #[.int .i64 a, .int .i64 b])).run Try.prog (w.alloc (.cells #[.int .i64 0, .int .i64 0] 87)) = .ok () (w.alloc (.cells #[.int .i64 a, .int .i64 b] 87)) := by
  simp only [stV, Instr.storeAt, Instr.sureAddr, Sem.run_bind, Sem.run_pure, Result.andThen_ok]
  rw [run_storeVar_row (P := Try.prog) _ w.heap.size 87 87 #[.int .i64 0, .int .i64 0] #[.int .i64 a, .int .i64 b] (Blk.new w 87 _) (by kernel_rfl) rfl (by simp [Value.oneCell']), World.setRow_alloc_new]
section
attribute [local go_sem ↓] st87
attribute [local go_sem] run_st87_new
set_option maxRecDepth 100000 in
theorem copies_any (h a b : Nat) (w : World) (h1 : 1 ≤ h) (h2 : h ≤ 16) (ha : a = 14 + 2 * h) (hb : b = 15 + 2 * h) :
    Calls Try.prog 64 #[.int .i64 h] w fun e w' => e = .returned (.agg #[.int .i64 a, .int .i64 b]) ∧ Below w.heap.size w w' := by
  have m0 : Hid (∀ w, Calls Try.prog 77 #[.int .i64 h, .int .i64 0] w fun e w' => e = .returned (.int .i64 a) ∧ w = w') := fun w => slotAt_any h 0 a w h1 h2 (by decide) (by omega)
  have m1 : Hid (∀ w, Calls Try.prog 77 #[.int .i64 h, .int .i64 1] w fun e w' => e = .returned (.int .i64 b) ∧ w = w') := fun w => slotAt_any h 1 b w h1 h2 (by decide) (by omega)
  clear ha hb h1 h2
  have hB : Blk (w.alloc (.cells #[.int .i64 a, .int .i64 b] 87)) w.heap.size 87 #[.int .i64 a, .int .i64 b] := Blk.new w 87 _
  have hW : Below w.heap.size w (w.alloc (.cells #[.int .i64 a, .int .i64 b] 87)) := (Below.refl _ w).alloc (Nat.le_refl _) _
  go_enter Try.func64, Try.ntmps64
  go_wp2_with fail
  refine (m0.out _).mono ?_
  rintro e w' ⟨rfl, rfl⟩
  go_wp2_with fail
  refine (m1.out _).mono ?_
  rintro e w' ⟨rfl, rfl⟩
  go_wp2_with fail
  exact bodyPost_ret (results64 hB rfl) rfl ⟨rfl, hW⟩
end

/-- a slot by numbers -/
def mkSl (num v : Int) : Sl := ⟨1 + plc num 1048576, 1 + plc v 1048576 % 100, plc v 1048576, plc v 1048576 % 9, plc v 1048576 % 33, plc v 1048576 % 7, 1 + plc v 1048576, 0, 0, 0, 0, 0, 0⟩
theorem mkSl_num (num v : Int) : 1 ≤ (mkSl num v).num ∧ (mkSl num v).num ≤ 1048576 := by
  have p0 := plc_nonneg num (n := 1048576) (by omega)
  have p1 := plc_lt num (n := 1048576) (by omega)
  show 1 ≤ 1 + plc num 1048576 ∧ 1 + plc num 1048576 ≤ 1048576
  omega
theorem mkSl_chk (num v : Int) : (mkSl num v).chk = true := by
  have p0 := plc_nonneg num (n := 1048576) (by omega)
  have p1 := plc_lt num (n := 1048576) (by omega)
  have q0 := plc_nonneg v (n := 1048576) (by omega)
  have q1 := plc_lt v (n := 1048576) (by omega)
  unfold mkSl
  generalize plc num 1048576 = a at *
  generalize plc v 1048576 = k at *
  simp [Sl.chk, Sl.chkA, Sl.maps, inb]
  omega
theorem mkSl_ok (num v : Int) (h g : Int) (h1 : 1 ≤ h) (h2 : h ≤ 16) (g1 : 1 ≤ g) (g2 : g ≤ 65535) : (mkSl num v).ok h g = true := by
  unfold Sl.ok
  rw [mkSl_chk]
  simp [inb, h1, h2, g1, g2]
theorem results34 {tmps : Array Value} {w : World} {b : Nat} {x : Sl} (h : Blk w b 37 x.cells) (h4 : tmps.getD 4 undef = .pointer (some ⟨b, 0, none⟩)) :
    (results Try.f34 tmps).run Try.prog w = .ok (.agg x.cells) w := by
  have h4' : tmps[4]?.getD undef = .pointer (some ⟨b, 0, none⟩) := by simpa using h4
  simp [results, Try.results34, h4', asAddr, run_loadVar_row w b 37 37 x.cells (0, 0) _ h Try.underlying37 rfl (by kernel_rfl)]
section
attribute [local go_sem ↓] ld37 st37
set_option maxRecDepth 100000 in
theorem made_any (num v : Int) (w : World) :
    Calls Try.prog 34 #[.int .i64 num, .int .i64 v] w fun e w' => e = .returned (.agg (mkSl num v).cells) ∧ Below w.heap.size w w' := by
  have hB : Blk (w.alloc (.cells (mkSl num v).cells 37)) w.heap.size 37 (mkSl num v).cells := Blk.new w 37 _
  have hW : Below w.heap.size w (w.alloc (.cells (mkSl num v).cells 37)) := (Below.refl _ w).alloc (Nat.le_refl _) _
  have hst := st_new w (mkSl num v)
  have HM : Hid (mkSl num v = ⟨1 + plc num 1048576, 1 + plc v 1048576 % 100, plc v 1048576, plc v 1048576 % 9, plc v 1048576 % 33, plc v 1048576 % 7, 1 + plc v 1048576, 0, 0, 0, 0, 0, 0⟩) := rfl
  have p0 := plc_nonneg num (n := 1048576) (by omega)
  have p1 := plc_lt num (n := 1048576) (by omega)
  have q0 := plc_nonneg v (n := 1048576) (by omega)
  have q1 := plc_lt v (n := 1048576) (by omega)
  have m0 : Hid (∀ w, Calls Try.prog 23 #[.int .i64 v, .int .i64 1048576] w fun e w' => e = .returned (.int .i64 (plc v 1048576)) ∧ w = w') := fun w => place_any v 1048576 w (by omega) (by omega)
  have m1 : Hid (∀ w, Calls Try.prog 23 #[.int .i64 num, .int .i64 1048576] w fun e w' => e = .returned (.int .i64 (plc num 1048576)) ∧ w = w') := fun w => place_any num 1048576 w (by omega) (by omega)
  rw [HM.out] at hst
  dsimp only [Sl.cells] at hst
  generalize plc num 1048576 = a at *
  generalize plc v 1048576 = k at *
  go_enter Try.func34, Try.ntmps34
  go_wp2_with fail
  refine (m0.out _).mono ?_
  rintro e w' ⟨rfl, rfl⟩
  go_wp2_with fail
  refine (m1.out _).mono ?_
  rintro e w' ⟨rfl, rfl⟩
  go_wp2_with fail
  refine bodyPost_ret (results34 (x := mkSl num v) ?_ rfl) rfl ⟨rfl, ?_⟩
  · rw [HM.out] at hB ⊢; exact hB
  · rw [HM.out] at hW; exact hW
end

theorem zero_any (w : World) : Calls Try.prog 40 #[] w fun e w' => e = .returned (.string ⟨zeros256.toArray⟩) ∧ Below w.heap.size w w' := by
  have hmk := mk_256 w
  have hcv := conv_256 w 256
  have hW : Below w.heap.size w (w.alloc (.cells zblk 5)) := (Below.refl _ w).alloc (Nat.le_refl _) _
  go_enter Try.func40, Try.ntmps40
  go_wp2_with fail
  go_ret
  exact ⟨rfl, hW⟩
end Go.Proofs.Ytmpkcehjmjopdaa
