import Derived.Test.YtmpkcehjmjopdaaBin
import Derived.Test.YtmpkcehjmjopdaaCrc
import Derived.Deep.DeepCutAuto
import Derived.Deep.RegionWith
import Derived.Deep.LoopGhost
namespace Go.Proofs.Ytmpkcehjmjopdaa
open Go.RowKit

/-- a number from a least to a most -/
def inb (v a b : Int) : Bool := decide (a ≤ v) && decide (v ≤ b)
theorem in_any (v a b : Int) (w : World) : Calls Try.prog 56 #[.int .i64 v, .int .i64 a, .int .i64 b] w fun e w' => e = .returned (.bool (inb v a b)) ∧ w = w' := by
  by_cases h1 : a ≤ v
  · by_cases h2 : v ≤ b
    · have hr : Hid (inb v a b = true) := by show _ = _; simp [inb, h1, h2]
      go_enter Try.func56, Try.ntmps56
      go_wp2
      go_ret
      exact ⟨by rw [hr.out]; rfl, rfl⟩
    · have hr : Hid (inb v a b = false) := by show _ = _; simp [inb]; omega
      go_enter Try.func56, Try.ntmps56
      go_wp2
      go_ret
      exact ⟨by rw [hr.out]; rfl, rfl⟩
  · have hr : Hid (inb v a b = false) := by show _ = _; simp [inb]; omega
    go_enter Try.func56, Try.ntmps56
    go_wp2
    go_ret
    exact ⟨by rw [hr.out]; rfl, rfl⟩

/-- a slot's numbers -/
structure Sl where
  (num life clock seg at_ next seq m0 m1 m2 m3 sb sn : Int)
def Sl.cells (x : Sl) : Array Value := #[.int .i64 x.num, .int .i64 x.life, .int .i64 x.clock, .int .i64 x.seg, .int .i64 x.at_, .int .i64 x.next, .int .i64 x.seq, .int .i64 x.m0, .int .i64 x.m1, .int .i64 x.m2, .int .i64 x.m3, .int .i64 x.sb, .int .i64 x.sn]
def Sl.chkA (x : Sl) : Bool := inb x.num 1 1099511627776 && inb x.life 1 1048575 && inb x.clock 0 1099511627776 && inb x.sb 0 1099511627777 && inb x.sn 0 1099511627777 && inb x.seg 0 65535 && inb x.next 0 65535 && inb x.at_ 0 64 && inb x.seq 1 1099511627776
def Sl.maps (x : Sl) : List Int := [x.m0, x.m1, x.m2, x.m3]
def Sl.chk (x : Sl) : Bool := x.chkA && (x.maps.all fun m => inb m 0 16383)

theorem idx4_0 (m0 m1 m2 m3 : Int) (w : World) : (Instr.index 35 (.agg #[.int .i64 m0, .int .i64 m1, .int .i64 m2, .int .i64 m3]) (.int .i64 ((0 : Nat) : Int))).run Try.prog w = .ok (.int .i64 m0) w := by kernel_rfl
theorem idx4_1 (m0 m1 m2 m3 : Int) (w : World) : (Instr.index 35 (.agg #[.int .i64 m0, .int .i64 m1, .int .i64 m2, .int .i64 m3]) (.int .i64 ((1 : Nat) : Int))).run Try.prog w = .ok (.int .i64 m1) w := by kernel_rfl
theorem idx4_2 (m0 m1 m2 m3 : Int) (w : World) : (Instr.index 35 (.agg #[.int .i64 m0, .int .i64 m1, .int .i64 m2, .int .i64 m3]) (.int .i64 ((2 : Nat) : Int))).run Try.prog w = .ok (.int .i64 m2) w := by kernel_rfl
theorem idx4_3 (m0 m1 m2 m3 : Int) (w : World) : (Instr.index 35 (.agg #[.int .i64 m0, .int .i64 m1, .int .i64 m2, .int .i64 m3]) (.int .i64 ((3 : Nat) : Int))).run Try.prog w = .ok (.int .i64 m3) w := by kernel_rfl
theorem idx4 (m0 m1 m2 m3 : Int) (k : Nat) (hk : k < 4) (w : World) : (Instr.index 35 (.agg #[.int .i64 m0, .int .i64 m1, .int .i64 m2, .int .i64 m3]) (.int .i64 (k : Int))).run Try.prog w = .ok (.int .i64 ([m0, m1, m2, m3].getD k 0)) w := by
  obtain rfl | rfl | rfl | rfl : k = 0 ∨ k = 1 ∨ k = 2 ∨ k = 3 := by omega
  · exact idx4_0 m0 m1 m2 m3 w
  · exact idx4_1 m0 m1 m2 m3 w
  · exact idx4_2 m0 m1 m2 m3 w
  · exact idx4_3 m0 m1 m2 m3 w

set_option maxHeartbeats 1000000 in
theorem check_any (num life clock seg at_ next seq m0 m1 m2 m3 sb sn : Int) (w : World) :
    Calls Try.prog 29 #[.agg (Sl.mk num life clock seg at_ next seq m0 m1 m2 m3 sb sn).cells] w fun e w' => e = .returned (.bool (Sl.mk num life clock seg at_ next seq m0 m1 m2 m3 sb sn).chk) ∧ Below w.heap.size w w' := by
  unfold Sl.cells
  dsimp only
  go_enter Try.func29, Try.ntmps29
  go_upto_region 1 with fail
  go_cut [3] (fun s3 wx => s3 = .bool (Sl.mk num life clock seg at_ next seq m0 m1 m2 m3 sb sn).chkA ∧ wx = w.alloc (.cells (Sl.mk num life clock seg at_ next seq m0 m1 m2 m3 sb sn).cells 37))
  case first =>
    go_wp2_with (go_at_call 56; refine (in_any _ _ _ _).mono ?_; rintro e w' ⟨rfl, rfl⟩)
    all_goals (go_meet; exact ⟨by simp [Sl.chkA, *], rfl⟩)
  case rest =>
    obtain ⟨rfl, rfl⟩ := hcut
    dsimp only [Sl.cells]
    have hidx := idx4 m0 m1 m2 m3
    have Hidx := Lib.hid hidx
    clear hidx
    go_wp2_with fail
    have hW : Hid (Below w.heap.size w (w.alloc (.cells (Sl.mk num life clock seg at_ next seq m0 m1 m2 m3 sb sn).cells 37))) := (Below.refl _ w).alloc (Nat.le_refl _) _
    dsimp only [Sl.cells] at hW
    have HC : Hid ((Sl.mk num life clock seg at_ next seq m0 m1 m2 m3 sb sn).chk = ((Sl.mk num life clock seg at_ next seq m0 m1 m2 m3 sb sn).chkA && ((Sl.mk num life clock seg at_ next seq m0 m1 m2 m3 sb sn).maps.take 4).all fun m => inb m 0 16383)) := rfl
    have hml : Hid ((Sl.mk num life clock seg at_ next seq m0 m1 m2 m3 sb sn).maps.length = 4) := rfl
    generalize (Sl.mk num life clock seg at_ next seq m0 m1 m2 m3 sb sn).chkA = cA at *
    have hms : Hid ([m0, m1, m2, m3] = (Sl.mk num life clock seg at_ next seq m0 m1 m2 m3 sb sn).maps) := rfl
    generalize (Sl.mk num life clock seg at_ next seq m0 m1 m2 m3 sb sn).maps = ms at *
    go_loop [3, 51] (fun b i => ∃ (k : Nat) (c : Bool), k ≤ 4 ∧ i = .int .i64 k ∧ b = .bool c ∧ Hid (c = (cA && (ms.take k).all fun m => inb m 0 16383))) (fun _ i => 4 - (intOf i).toNat)
    case atStart => exact ⟨0, cA, by omega, rfl, rfl, by show _ = _; simp⟩
    case round =>
      obtain ⟨k, c2, hk, rfl, rfl, hc⟩ := hrel
      by_cases hlt : k < 4
      · have hix : ∀ w, (Instr.index 35 (.agg #[.int .i64 m0, .int .i64 m1, .int .i64 m2, .int .i64 m3]) (.int .i64 (k : Int))).run Try.prog w = .ok (.int .i64 (ms.getD k 0)) w := by rw [← hms.out]; exact Hidx.out k hlt
        have hsn : Hid ((ms.take (k + 1)).all (fun m => inb m 0 16383) = ((ms.take k).all (fun m => inb m 0 16383) && inb (ms.getD k 0) 0 16383)) := by
          show _ = _
          have hkl : k < ms.length := by rw [hml.out]; exact hlt
          rw [List.take_succ_eq_append_getElem hkl, List.all_append]
          simp [List.getD, hkl]
        generalize ms.getD k 0 = m at *
        cases c2 with
        | false =>
          go_wp2_with (go_at_call 56; refine (in_any _ _ _ _).mono ?_; rintro e w' ⟨rfl, rfl⟩)
          go_round
          case rel => exact ⟨k + 1, false, by omega, by go_num, rfl, by show _ = _; rw [hsn.out, ← Bool.and_assoc, ← hc.out]; rfl⟩
          case measure => simp [intOf]; omega
        | true =>
          go_wp2_with (go_at_call 56; refine (in_any _ _ _ _).mono ?_; rintro e w' ⟨rfl, rfl⟩)
          go_round
          case rel => exact ⟨k + 1, inb m 0 16383, by omega, by go_num, rfl, by show _ = _; rw [hsn.out, ← Bool.and_assoc, ← hc.out]; rfl⟩
          case measure => simp [intOf]; omega
      · obtain rfl : k = 4 := by omega
        go_wp2_with fail
        go_ret
        exact ⟨by rw [HC.out, ← hc.out]; rfl, hW.out⟩
set_option maxHeartbeats 1000000 in
theorem put_any (v n g : Nat) (s : ByteArray) (w : World) (hv : v < 9223372036854775808) (hn0 : 0 < n) (hn : n ≤ 7) (hB : Blk w g 9 #[.string s]) (hs : s.size ≤ 1000) :
    Calls Try.prog 57 #[.int .i64 v, .int .i64 n, .pointer (some ⟨g, 0, none⟩)] w fun e w' => e = .returned (.tuple #[]) ∧ Below g w w' ∧ Blk w' g 9 #[.string (s ++ ⟨(les v n).toArray⟩)] := by
  have HB := Lib.hid hB
  have hc : w.cell? ⟨g, 0, none⟩ = some (.string s) := by rw [hB.cell]; rfl
  have hf : w.frozen? ⟨g, 0, none⟩ = false := hB.frozen 0
  have hlt := hB.lt
  clear hB
  have hl7 : (les v n).length ≤ 7 := by rw [les_length]; exact hn
  go_enter Try.func57, Try.ntmps57
  go_wp2_with fail
  go_region_with (go_at_call 58; refine (binput_any v n _ hv hn0 hn).mono ?_; rintro e w1 ⟨rfl, hb⟩; have hc1 : w1.cell? ⟨g, 0, none⟩ = some (.string s) := (by rw [hb.cell (p := ⟨g, 0, none⟩) hlt]; exact hc); have hf1 : w1.frozen? ⟨g, 0, none⟩ = false := (by rw [hb.frozen (p := ⟨g, 0, none⟩) hlt]; exact hf))
  all_goals go_wp2_with fail
  all_goals
    go_end0
    have hb' : Below w.heap.size w w1 := below2 (Below.refl _ w).drew hb
    exact ⟨rfl, (hb'.mono (Nat.le_of_lt hlt)).setCell (Nat.le_refl _) _, (HB.out.beyond hb').set_ 0 _⟩

/-- the closure that puts a number's bytes behind a text -/
theorem putL (v : Int) (n g : Nat) (L : List UInt8) (w : World) (hv0 : 0 ≤ v) (hv : v < 9223372036854775808) (hn0 : 0 < n) (hn : n ≤ 7) (hB : Blk w g 9 #[.string ⟨L.toArray⟩]) (hs : L.length ≤ 900) :
    Calls Try.prog 57 #[.int .i64 v, .int .i64 n, .pointer (some ⟨g, 0, none⟩)] w fun e w' => e = .returned (.tuple #[]) ∧
      ∃ L', Hid (L' = L ++ les v.toNat n) ∧ L'.length = L.length + n ∧ Below g w w' ∧ Blk w' g 9 #[.string ⟨L'.toArray⟩] := by
  obtain ⟨v, rfl⟩ := Int.eq_ofNat_of_zero_le hv0
  refine (put_any v n g ⟨L.toArray⟩ w (by omega) hn0 hn hB (by show L.toArray.size ≤ _; simp; omega)).mono fun e w' ⟨h1, h2, h3⟩ => ⟨h1, L ++ les v n, rfl, by simp [les_length], h2, ?_⟩
  have e : (⟨L.toArray⟩ ++ ⟨(les v n).toArray⟩ : ByteArray) = ⟨(L ++ les v n).toArray⟩ := by
    apply ByteArray.ext
    simp
  rw [e] at h3
  exact h3

/-- what stands of a slot ahead of the bytes 0 -/
def Sl.text (x : Sl) (h g : Int) : List UInt8 :=
  [66, 71, 83, 76] ++ les h.toNat 1 ++ les g.toNat 2 ++ les x.num.toNat 6 ++ les x.life.toNat 3 ++ les x.clock.toNat 6 ++ les x.seg.toNat 2 ++ les x.at_.toNat 2 ++ les x.next.toNat 2 ++ les x.seq.toNat 6 ++ les x.m0.toNat 4 ++ les x.m1.toNat 4 ++ les x.m2.toNat 4 ++ les x.m3.toNat 4 ++ les x.sb.toNat 6 ++ les x.sn.toNat 6
theorem Sl.text_length (x : Sl) (h g : Int) : (x.text h g).length = 62 := by simp [Sl.text, les_length]
def Sl.body (x : Sl) (h g : Int) : List UInt8 := x.text h g ++ List.replicate 190 0
theorem Sl.body_length (x : Sl) (h g : Int) : (x.body h g).length = 252 := by rw [Sl.body, List.length_append, List.length_replicate, Sl.text_length]
/-- a slot's block -/
def Sl.block (x : Sl) (h g : Int) : List UInt8 := x.body h g ++ les (Bq.crc (x.body h g)) 4
theorem Sl.block_length (x : Sl) (h g : Int) : (x.block h g).length = 256 := by rw [Sl.block, List.length_append, Sl.body_length, les_length]

theorem inb_true {v a b : Int} (h : inb v a b = true) : a ≤ v ∧ v ≤ b := by simpa [inb] using h
end Go.Proofs.Ytmpkcehjmjopdaa
