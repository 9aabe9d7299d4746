import Derived.Test.YtmpkcehjmjopdaaImgK
namespace Go.Proofs.Ytmpkcehjmjopdaa
open Go.RowKit Go.Sort

theorem repeat256 (w : World) :
    Calls Try.prog 69 #[.string ⟨#[0]⟩, .int .i64 256] w fun e w' => e = .returned (.string ⟨zeros256.toArray⟩) ∧ Below w.heap.size w w' := repeat_any 256 w (by omega)
/-- both copies of a house written over, so many of them -/
def Dk.wiped (d : Dk) (a b : Nat) : Nat → Dk
  | 0 => d
  | 1 => d.write 0 a zeros256 zeros256_length
  | _ => (d.write 0 a zeros256 zeros256_length).write 0 b zeros256 zeros256_length
set_option maxRecDepth 100000 in
set_option maxHeartbeats 1000000 in
theorem iwipe {w : World} {B g gd : Nat} {d : Dk} (H : DkAt w B g gd (.slice none 0 0) d) (h a b : Nat) (h1 : 1 ≤ h) (h2 : h ≤ 16) (ha : a = 14 + 2 * h) (hb : b = 15 + 2 * h) (hn : b < d.dur.length) (hd : d.down = false) (hct : d.cut = -1) (hws : d.ws = []) (hwr : d.writes < 800000) :
    Calls Try.prog 53 #[.pointer (some ⟨g, 0, none⟩), .int .i64 0, .int .i64 h] w fun e w' => e = .returned (.bool true) ∧ ∃ wv, DkAt w' B g gd wv (d.wiped a b 2) ∧ DkTo w w' g gd (.slice none 0 0) wv := by
  have HC : Hid (∀ w, Calls Try.prog 64 #[.int .i64 h] w fun e w' => e = .returned (.agg #[.int .i64 a, .int .i64 b]) ∧ Below w.heap.size w w') := fun w => copies_any h a b w h1 h2 ha hb
  have hround : Hid (∀ k : Nat, k < 2 → ∃ i : Nat, (∀ w, (Instr.index 87 (.agg #[.int .i64 a, .int .i64 b]) (.int .i64 k)).run Try.prog w = .ok (.int .i64 i) w) ∧ 0 < i ∧ i < d.dur.length ∧ (d.wiped a b k).dur.length = d.dur.length ∧ ((d.wiped a b k).ws = [] ∨ (d.wiped a b k).own = 0) ∧ (d.wiped a b k).down = false ∧ (d.wiped a b k).ws.length < 1000 ∧ (d.wiped a b k).writes < 900000 ∧ d.wiped a b (k + 1) = (d.wiped a b k).write 0 i zeros256 zeros256_length) := by
    intro k hk
    obtain rfl | rfl : k = 0 ∨ k = 1 := by omega
    · exact ⟨a, fun w => run_ix87 a b 0 (by omega) w, by omega, by omega, rfl, .inl hws, hd, by show d.ws.length < 1000; rw [hws]; decide, by show d.writes < 900000; omega, rfl⟩
    · exact ⟨b, fun w => run_ix87 a b 1 (by omega) w, by omega, by omega, rfl, .inr rfl, by show decide (cutDown d.cut = 0) = false; rw [hct]; rfl, by show (d.ws ++ [_]).length < 1000; rw [hws]; exact (by decide : 1 < 1000), by show d.writes + 1 < 900000; omega, rfl⟩
  have H0 : Hid (DkAt w B g gd (.slice none 0 0) (d.wiped a b 0)) := H
  clear H h1 h2 ha hb hn hd hct hws hwr
  go_enter Try.func53, Try.ntmps53
  go_wp2_with fail
  refine (HC.out _).mono ?_
  rintro e v1 ⟨rfl, hb1⟩
  have hA1 := H0.out.beyond hb1
  have hT1 : DkTo w v1 g gd (.slice none 0 0) (.slice none 0 0) := .of_below hb1
  clear H0 hb1 HC
  go_wp2_with fail
  go_loopw [7, 12] (fun f k wr => ∃ (k' : Nat) (wv : Value), k' ≤ 2 ∧ k = .int .i64 k' ∧ f = .bool true ∧ DkAt wr B g gd wv (d.wiped a b k') ∧ DkTo w wr g gd (.slice none 0 0) wv) (fun _ k _ => 2 - (intOf k).toNat)
  case atStart => exact ⟨0, _, by omega, rfl, rfl, hA1, hT1⟩
  case round =>
    clear hA1 hT1
    obtain ⟨k, wv, hk, rfl, rfl, hA, hT⟩ := hrel
    by_cases hk2 : k < 2
    · obtain ⟨i, hix, hi0, hi, hl, how, hd, hwl, hwr, hst⟩ := hround.out k hk2
      have HST := Lib.hid hst
      have hix := hix wr
      have t1 : decide ((0 : Int) < (i : Int)) = true := by simp; omega
      have t1' : decide (0 < i) = true := by simpa using hi0
      have hil : i < (d.wiped a b k).dur.length := by rw [hl]; exact hi
      clear hst hl hi
      generalize d.wiped a b k = dk at *
      go_wp2_with fail
      refine (repeat256 _).mono ?_
      rintro e v2 ⟨rfl, hb2⟩
      have hA2 := hA.beyond hb2
      have hT2 := hT.trans (.of_below hb2)
      clear hA hT hb2 hix
      go_wp2_with fail
      refine (dwrite hA2 0 i (by decide) hil zeros256 zeros256_length how hd hwl hwr).mono ?_
      rintro e v3 ⟨rfl, wv3, hA3, hT3⟩
      have hT4 := hT2.trans hT3
      clear hA2 hT2 hT3
      go_wp2_with fail
      go_roundw
      case rel => exact ⟨k + 1, wv3, by omega, by go_num, rfl, by rw [HST.out]; exact hA3, hT4⟩
      case measure => simp [intOf]; omega
    · obtain rfl : k = 2 := by omega
      go_wp2_with fail
      go_ret
      exact ⟨rfl, wv, hA, hT⟩
end Go.Proofs.Ytmpkcehjmjopdaa
