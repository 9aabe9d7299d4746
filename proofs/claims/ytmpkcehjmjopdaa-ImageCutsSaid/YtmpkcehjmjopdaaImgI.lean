import Derived.Test.YtmpkcehjmjopdaaImgG
import Derived.Test.YtmpkcehjmjopdaaNodeA
namespace Go.Proofs.Ytmpkcehjmjopdaa
open Go.RowKit

theorem run_ix87 (a b : Int) (k : Nat) (hk : k < 2) (w : World) : (Instr.index 87 (.agg #[.int .i64 a, .int .i64 b]) (.int .i64 k)).run Try.prog w = .ok (.int .i64 (if k = 0 then a else b)) w := by
  have hp := part3 (xs := #[.int .i64 a, .int .i64 b]) (off := k) (v := .int .i64 (if k = 0 then a else b)) (by
    obtain rfl | rfl : k = 0 ∨ k = 1 := by omega
    all_goals rfl) w
  have h0 : (0 : Int) ≤ k ∧ (k : Int) < ((2 : Nat) : Int) := by omega
  simp only [Instr.index, asIntOf, Sem.run_bind, Sem.run_pure, run_underlying Try.underlying87, Result.andThen_ok, if_pos h0, size3, Nat.mul_one, Int.toNat_natCast, hp]

/-- what a sector says: nothing, or a house's slot -/
def sayV : Option (Int × Int × Sl) → Value
  | none => .tuple #[.int .i64 0, .int .i64 0, .agg slZero.cells, .bool false]
  | some (h, g, x) => .tuple #[.int .i64 h, .int .i64 g, .agg x.cells, .bool true]
/-- the newer of what was found and what a sector says -/
def nwStep (h g : Int) (st : Sl × Bool) (o : Option (Int × Int × Sl)) : Sl × Bool :=
  match o with
  | none => st
  | some (h', g', x) => if h' = h ∧ g' = g ∧ (st.2 = false ∨ st.1.num < x.num) then (x, true) else st
def nwUpto (h g : Int) (oa ob : Option (Int × Int × Sl)) : Nat → Sl × Bool
  | 0 => (slZero, false)
  | 1 => nwStep h g (slZero, false) oa
  | _ => nwStep h g (nwStep h g (slZero, false) oa) ob
theorem Dk.rd_len {w : World} {B g gd : Nat} {wv : Value} {d : Dk} (H : DkAt w B g gd wv d) (i : Nat) (hi : i < d.dur.length) : (d.rd i).length = 256 := rdFold_len _ (dur_len H.dur i hi)
theorem results37 {tmps : Array Value} {w : World} {b : Nat} {x : Sl} {v7 : Value} (h : Blk w b 37 x.cells) (h6 : tmps.getD 6 undef = .pointer (some ⟨b, 0, none⟩)) (h7 : tmps.getD 7 undef = v7) :
    (results Try.f37 tmps).run Try.prog w = .ok (.tuple #[.agg x.cells, v7]) w := by
  have h6' : tmps[6]?.getD undef = .pointer (some ⟨b, 0, none⟩) := by simpa using h6
  have h7' : tmps[7]?.getD undef = v7 := by simpa using h7
  simp [results, Try.results37, h6', h7', asAddr, run_loadVar_row w b 37 37 x.cells (0, 0) _ h Try.underlying37 rfl (by kernel_rfl)]

section
attribute [local go_sem ↓] ld37 st37
attribute [local go_sem] st_new
set_option maxRecDepth 100000 in
set_option maxHeartbeats 4000000 in
theorem inewest {w : World} {B g gd : Nat} {wv : Value} {d : Dk} (H : DkAt w B g gd wv d) (h : Nat) (gen : Int) (h1 : 1 ≤ h) (h2 : h ≤ 16) (hn : 15 + 2 * h < d.dur.length) (hd : d.down = false)
    (oa ob : Option (Int × Int × Sl)) (Sa : slGot (d.rd (14 + 2 * h)) = sayV oa) (Sb : slGot (d.rd (15 + 2 * h)) = sayV ob) :
    Calls Try.prog 37 #[.pointer (some ⟨g, 0, none⟩), .int .i64 h, .int .i64 gen] w fun e w' => e = .returned (.tuple #[.agg (nwUpto h gen oa ob 2).1.cells, .bool (nwUpto h gen oa ob 2).2]) ∧ Below w.heap.size w w' := by
  obtain ⟨a, ha⟩ : ∃ a, a = 14 + 2 * h := ⟨_, rfl⟩
  obtain ⟨b, hb⟩ : ∃ b, b = 15 + 2 * h := ⟨_, rfl⟩
  rw [← ha] at Sa
  rw [← hb] at Sb
  have hround : Hid (∀ k : Nat, k < 2 → ∃ (i : Nat) (o : Option (Int × Int × Sl)), (∀ w, (Instr.index 87 (.agg #[.int .i64 a, .int .i64 b]) (.int .i64 k)).run Try.prog w = .ok (.int .i64 i) w) ∧ i < d.dur.length ∧ slGot (d.rd i) = sayV o ∧ nwUpto h gen oa ob (k + 1) = nwStep h gen (nwUpto h gen oa ob k) o) := by
    intro k hk
    obtain rfl | rfl : k = 0 ∨ k = 1 := by omega
    · exact ⟨a, oa, fun w => run_ix87 a b 0 (by omega) w, by omega, Sa, rfl⟩
    · exact ⟨b, ob, fun w => run_ix87 a b 1 (by omega) w, by omega, Sb, rfl⟩
  have HC : Hid (∀ w, Calls Try.prog 64 #[.int .i64 h] w fun e w' => e = .returned (.agg #[.int .i64 a, .int .i64 b]) ∧ Below w.heap.size w w') := fun w => copies_any h a b w h1 h2 ha hb
  have HH := Lib.hid H
  have HD := Lib.hid hd
  clear Sa Sb ha hb hn H hd h1 h2
  have e0 : (nwUpto h gen oa ob 0) = (slZero, false) := rfl
  have H0 := Lib.hid e0
  clear e0
  have g0 : Blk ((w.alloc (.cells slZero.cells 37)).alloc (.cells slZero.cells 37)) w.heap.size 37 slZero.cells := (Blk.new w 37 _).alloc _
  have g1 : Blk ((w.alloc (.cells slZero.cells 37)).alloc (.cells slZero.cells 37)) (w.heap.size + 1) 37 slZero.cells := by
    have := Blk.new (w.alloc (.cells slZero.cells 37)) 37 slZero.cells
    rwa [World.size_alloc] at this
  have gw : Below w.heap.size w ((w.alloc (.cells slZero.cells 37)).alloc (.cells slZero.cells 37)) := ((Below.refl _ w).alloc (Nat.le_refl _) _).alloc (by simp) _
  simp only [slZero, Sl.cells] at g0 g1 gw
  go_enter Try.func37, Try.ntmps37
  go_wp2_with fail
  generalize (w.alloc (.cells #[.int .i64 0, .int .i64 0, .int .i64 0, .int .i64 0, .int .i64 0, .int .i64 0, .int .i64 0, .int .i64 0, .int .i64 0, .int .i64 0, .int .i64 0, .int .i64 0, .int .i64 0] 37)).alloc (.cells #[.int .i64 0, .int .i64 0, .int .i64 0, .int .i64 0, .int .i64 0, .int .i64 0, .int .i64 0, .int .i64 0, .int .i64 0, .int .i64 0, .int .i64 0, .int .i64 0, .int .i64 0] 37) = v0 at *
  have hlt : w.heap.size < w.heap.size + 1 := by omega
  generalize w.heap.size + 1 = b8 at *
  refine (HC.out _).mono ?_
  rintro e v1 ⟨rfl, hb1⟩
  have g0 := g0.beyond hb1
  have g1 := g1.beyond hb1
  have gw := below2 gw hb1
  clear hb1 HC
  go_wp2_with fail
  go_loopw [9, 20] (fun f k wr => ∃ k' : Nat, k' ≤ 2 ∧ k = .int .i64 k' ∧ f = .bool (nwUpto h gen oa ob k').2 ∧ Blk wr w.heap.size 37 slZero.cells ∧ Blk wr b8 37 (nwUpto h gen oa ob k').1.cells ∧ Below w.heap.size w wr) (fun _ k _ => 2 - (intOf k).toNat)
  case atStart => exact ⟨0, by omega, rfl, by rw [H0.out], g0, by rw [H0.out]; exact g1, gw⟩
  case round =>
    clear g0 g1 gw
    obtain ⟨k, hk, rfl, rfl, g0, g1, gw⟩ := hrel
    by_cases hk2 : k < 2
    · obtain ⟨i, o, hix, hi, hS, hst⟩ := hround.out k hk2
      have HS := Lib.hid hS
      have Hst := Lib.hid hst
      clear hS hst
      generalize nwUpto h gen oa ob k = st at *
      have hA := HH.out.beyond gw
      have hlen := Dk.rd_len hA i hi
      have hix := hix wr
      go_wp2_with fail
      refine (dread hA i hi HD.out).mono ?_
      rintro e w1 ⟨rfl, hb1⟩
      go_wp2_with fail
      refine (slotget_any ⟨(d.rd i).toArray⟩ _ (by show (d.rd i).toArray.size ≤ _; simp; omega)).mono ?_
      rintro e w2 ⟨rfl, hb2⟩
      rw [show (⟨(d.rd i).toArray⟩ : ByteArray).data.toList = d.rd i from rfl, HS.out]
      have g0 := (g0.beyond hb1).beyond hb2
      have g1 := (g1.beyond hb1).beyond hb2
      have gw := below3 gw hb1 hb2
      clear hb1 hb2 hA hix hlen
      cases o with
      | none =>
        have E : Hid (nwUpto h gen oa ob (k + 1) = st) := Hst.out
        dsimp only [sayV]
        go_wp2_with fail
        go_roundw
        case rel => exact ⟨k + 1, by omega, by go_num, by rw [E.out], g0.alloc _, by rw [E.out]; exact g1.alloc _, gw.alloc gw.size _⟩
        case measure => simp [intOf]; omega
      | some o =>
        obtain ⟨h', g', x⟩ := o
        have E0 : Hid (nwUpto h gen oa ob (k + 1) = if h' = h ∧ g' = gen ∧ (st.2 = false ∨ st.1.num < x.num) then (x, true) else st) := Hst.out
        clear Hst
        dsimp only [sayV]
        have c16 : (w2.alloc (.cells x.cells 37)).cell? ⟨w2.heap.size, 0, none⟩ = some (.int .i64 x.num) := (Blk.new w2 37 x.cells).cell 0
        have c8 : (w2.alloc (.cells x.cells 37)).cell? ⟨b8, 0, none⟩ = some (.int .i64 st.1.num) := (g1.alloc (.cells x.cells 37)).cell 0
        by_cases k1 : h' = h
        · by_cases k2 : g' = gen
          · have t1 : (h' == (h : Int)) = true := by simp [k1]
            have t2 : (g' == gen) = true := by simp [k2]
            cases hf : st.2 with
            | false =>
              have E : Hid (nwUpto h gen oa ob (k + 1) = (x, true)) := E0.out.trans (if_pos ⟨k1, k2, .inl hf⟩)
              clear E0 k1 k2
              have hldx := run_ldB (Blk.new w2 37 x.cells)
              have hstx := run_stB (x := x) (g1.alloc (.cells x.cells 37)) rfl
              go_wp2_with fail
              go_roundw
              case rel => exact ⟨k + 1, by omega, by go_num, by rw [E.out], (g0.alloc _).row_far _ (by omega), by rw [E.out]; exact (g1.alloc _).row _, below_row (gw.alloc gw.size _) (by omega) _⟩
              case measure => simp [intOf]; omega
            | true =>
              by_cases k3 : st.1.num < x.num
              · have E : Hid (nwUpto h gen oa ob (k + 1) = (x, true)) := E0.out.trans (if_pos ⟨k1, k2, .inr k3⟩)
                have t3 : decide (st.1.num < x.num) = true := by simpa using k3
                clear E0 k1 k2 k3
                have hldx := run_ldB (Blk.new w2 37 x.cells)
                have hstx := run_stB (x := x) (g1.alloc (.cells x.cells 37)) rfl
                go_wp2_with fail
                go_roundw
                case rel => exact ⟨k + 1, by omega, by go_num, by rw [E.out], (g0.alloc _).row_far _ (by omega), by rw [E.out]; exact (g1.alloc _).row _, below_row (gw.alloc gw.size _) (by omega) _⟩
                case measure => simp [intOf]; omega
              · have E : Hid (nwUpto h gen oa ob (k + 1) = st) := E0.out.trans (if_neg (by rintro ⟨_, _, hc | hc⟩; rw [hf] at hc; cases hc; exact k3 hc))
                have t3 : decide (st.1.num < x.num) = false := by simpa using k3
                have Hf := Lib.hid hf
                clear E0 k1 k2 k3
                go_wp2_with fail
                go_roundw
                case rel => exact ⟨k + 1, by omega, by go_num, by rw [E.out, Hf.out], g0.alloc _, by rw [E.out]; exact g1.alloc _, gw.alloc gw.size _⟩
                case measure => simp [intOf]; omega
          · have E : Hid (nwUpto h gen oa ob (k + 1) = st) := E0.out.trans (if_neg (fun hc => k2 hc.2.1))
            have t1 : (h' == (h : Int)) = true := by simp [k1]
            have t2 : (g' == gen) = false := by simpa using k2
            clear E0 k1 k2
            go_wp2_with fail
            go_roundw
            case rel => exact ⟨k + 1, by omega, by go_num, by rw [E.out], g0.alloc _, by rw [E.out]; exact g1.alloc _, gw.alloc gw.size _⟩
            case measure => simp [intOf]; omega
        · have E : Hid (nwUpto h gen oa ob (k + 1) = st) := E0.out.trans (if_neg (fun hc => k1 hc.1))
          have t1 : (h' == (h : Int)) = false := by simpa using k1
          clear E0 k1
          go_wp2_with fail
          go_roundw
          case rel => exact ⟨k + 1, by omega, by go_num, by rw [E.out], g0.alloc _, by rw [E.out]; exact g1.alloc _, gw.alloc gw.size _⟩
          case measure => simp [intOf]; omega
    · obtain rfl : k = 2 := by omega
      have hld := run_ldB g1
      have hst := run_stB (x := (nwUpto h gen oa ob 2).1) g0 rfl
      go_wp2_with fail
      exact bodyPost_ret (results37 (g0.row _) rfl rfl) rfl ⟨rfl, below_row gw (Nat.le_refl _) _⟩
end
end Go.Proofs.Ytmpkcehjmjopdaa
