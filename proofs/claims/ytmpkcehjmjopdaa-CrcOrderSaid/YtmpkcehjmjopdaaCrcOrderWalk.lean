import Derived.Test.YtmpkcehjmjopdaaCrc
import Derived.BigRegion
import Derived.RegionTactic
import Derived.ChangeAlike
import Derived.Laws.BytesArg
namespace Go.Proofs.Ytmpkcehjmjopdaa
open Go.RowKit
/-- the lowest bytes of a number -/
def les (a : Nat) : Nat → List UInt8
  | 0 => []
  | n + 1 => les a n ++ [UInt8.ofNat (a / 256 ^ n % 256)]

/-- a text of one byte, out of a slice of one -/
theorem conv_one (W : World) (b : Nat) (x : Int) (h : W.cell? ⟨b, 0, none⟩ = some (.int .u8 x)) :
    (convert 27 9 (.slice (some ⟨b, 0, none⟩) 1 1)).run Try.prog W = .ok (.string ⟨#[UInt8.ofNat x.toNat]⟩) W :=
  run_convert_bytes_arg W 27 5 Try.underlying27 Try.underlying5 b 0 1 1 [x] rfl (fun i hi => by
    obtain rfl : i = 0 := by omega
    exact h) 9 Try.underlying9
theorem cell_new (W : World) (o : Value) (T : TypeId) : (W.alloc (.cells #[o] T)).cell? ⟨W.heap.size, 0, none⟩ = some o := by
  rw [World.cell?_alloc_at _ _ _ _ rfl]; rfl

theorem les_length (a n : Nat) : (les a n).length = n := by induction n with
  | zero => rfl
  | succ n ih => simp [les, ih]
theorem les_size {xs : ByteArray} {a n : Nat} (h : Hid (xs.data.toList = les a n)) : xs.size = n := by
  have := congrArg List.length h.out
  rw [les_length] at this
  simpa using this
theorem les_next {xs : ByteArray} {a k : Nat} (h : Hid (xs.data.toList = les a k)) : Hid ((xs ++ ⟨#[UInt8.ofNat ((a : Int) / 2 ^ (8 * k) % 256).toNat]⟩ : ByteArray).data.toList = les a (k + 1)) := by
  show _ = _
  have e : ((a : Int) / 2 ^ (8 * k) % 256).toNat = a / 256 ^ k % 256 := by
    have e1 : ((2 : Int) ^ (8 * k)) = ((256 ^ k : Nat) : Int) := by rw [Int.pow_mul]; simp
    rw [e1, ← Int.natCast_ediv]
    omega
  rw [e]
  simp [les, h.out]

set_option maxHeartbeats 1000000 in
theorem crcOrder_in (a b : Nat) (n : Int) (w : World) (_ha : a < 4294967296) (_hb : b < 4294967296) :
    Calls Try.prog 6 #[.int .u32 a, .int .u32 b, .int .i64 n] w fun e w' => e = .returned (.bool true) ∧ Below w.heap.size w w' := by
  go_enter Try.func6, Try.ntmps6
  go_wp2_with fail
  refine (place_any n 5 w (by omega) (by omega)).mono ?_
  rintro e w2 ⟨rfl, rfl⟩
  have h0 := plc_nonneg n (n := 5) (by omega)
  have h1 := plc_lt n (n := 5) (by omega)
  generalize plc n 5 = q at *
  obtain ⟨q, rfl⟩ := Int.eq_ofNat_of_zero_le h0
  clear h0
  go_wp2_with fail
  go_loopw [8, 9, 10] (fun x y i wr => ∃ (k : Nat) (xs ys : ByteArray), k ≤ q ∧ i = .int .i64 k ∧ x = .string xs ∧ y = .string ys ∧ Hid (xs.data.toList = les a k) ∧ Hid (ys.data.toList = les b k) ∧ Below w.heap.size w wr) (fun _ _ i _ => q - (intOf i).toNat)
  case atStart => exact ⟨0, ⟨#[]⟩, ⟨#[]⟩, Nat.zero_le _, rfl, rfl, rfl, rfl, rfl, Below.refl _ _⟩
  case round =>
    obtain ⟨k, xs, ys, hk, rfl, rfl, rfl, hx, hy, hb⟩ := hrel
    by_cases hlt : k < q
    · have c1 : ∀ x, (convert 27 9 (.slice (some ⟨wr.heap.size, 0, none⟩) 1 1)).run Try.prog (wr.alloc (.cells #[.int .u8 x] 5)).drew = .ok (.string ⟨#[UInt8.ofNat x.toNat]⟩) (wr.alloc (.cells #[.int .u8 x] 5)).drew :=
        fun x => conv_one _ _ _ (cell_new wr _ _)
      have c2 : ∀ x y, (convert 27 9 (.slice (some ⟨wr.heap.size, 0, none⟩) 1 1)).run Try.prog ((wr.alloc (.cells #[.int .u8 x] 5)).alloc (.cells #[.int .u8 y] 5)).drew = .ok (.string ⟨#[UInt8.ofNat x.toNat]⟩) ((wr.alloc (.cells #[.int .u8 x] 5)).alloc (.cells #[.int .u8 y] 5)).drew :=
        fun x y => conv_one _ _ _ (by show World.cell? (World.alloc _ _) _ = _; rw [World.cell?_alloc_past _ _ _ (by simp)]; exact cell_new wr _ _)
      have c3 : ∀ x y, (convert 27 9 (.slice (some ⟨wr.heap.size + 1, 0, none⟩) 1 1)).run Try.prog ((wr.alloc (.cells #[.int .u8 x] 5)).alloc (.cells #[.int .u8 y] 5)).drew = .ok (.string ⟨#[UInt8.ofNat y.toNat]⟩) ((wr.alloc (.cells #[.int .u8 x] 5)).alloc (.cells #[.int .u8 y] 5)).drew :=
        fun x y => conv_one _ _ _ (by show World.cell? (World.alloc _ _) _ = _; rw [World.cell?_alloc_at _ _ _ _ (by simp)]; rfl)
      have s1 : xs.size ≤ 4 := by have := les_size hx; omega
      have s2 : ys.size ≤ 4 := by have := les_size hy; omega
      go_wp2_with fail
      go_region
      all_goals
        clear c1 c2 c3
        go_wp2
        go_roundw
        case rel => exact ⟨k + 1, _, _, by omega, by go_num, rfl, rfl, les_next hx, les_next hy, ((hb.alloc (by have := hb.size; omega) _).alloc (by have := hb.size; simp; omega) _).drew⟩
        case measure => simp [intOf]; omega
    · obtain rfl : k = q := by omega
      have s1 : xs.size ≤ 4 := by have := les_size hx; omega
      have s2 : ys.size ≤ 4 := by have := les_size hy; omega
      by_cases hxy : xs = ys
      · subst hxy
        go_wp2_with fail
        refine (of_any xs wr (by omega)).mono ?_
        rintro e w2 ⟨rfl, hb2⟩
        go_wp2_with fail
        refine (of_any xs w2 (by omega)).mono ?_
        rintro e w3 ⟨rfl, hb3⟩
        go_wp2_with fail
        refine (awake_any w3).mono ?_
        rintro e w4 ⟨rfl, hb4⟩
        go_wp2_with fail
        go_ret
        exact ⟨rfl, below4 hb hb2 hb3 hb4⟩
      · have hne : ((Bq.crc xs.data.toList : Int) == (Bq.crc ys.data.toList : Int)) = false := by
          simp only [beq_eq_false_iff_ne, ne_eq, Int.ofNat_inj]
          intro hh
          have := Bq.crc_short _ _ (by rw [hx.out, hy.out, les_length, les_length]) (by simpa using s1) hh
          exact hxy (ByteArray.ext (Array.toList_inj.1 this))
        have hst : (xs.toList == ys.toList) = false := str_ne fun h => hxy (ByteArray.ext (Array.toList_inj.1 h))
        go_wp2_with fail
        refine (of_any xs wr (by omega)).mono ?_
        rintro e w2 ⟨rfl, hb2⟩
        go_wp2_with fail
        refine (of_any ys w2 (by omega)).mono ?_
        rintro e w3 ⟨rfl, hb3⟩
        go_wp2_with fail
        refine (awake_any w3).mono ?_
        rintro e w4 ⟨rfl, hb4⟩
        go_wp2_with fail
        go_ret
        exact ⟨rfl, below4 hb hb2 hb3 hb4⟩

theorem crcOrder_walk (a : Int) (ha : (Lit.int .u32 a).wf = true) (b : Int) (hb : (Lit.int .u32 b).wf = true) (n : Int) (w : World) :
    Calls Try.prog 6 #[.int .u32 a, .int .u32 b, .int .i64 n] w fun e w' => e = .returned (.bool true) ∧ Below w.heap.size w w' := by
  have h1 : IntKind.u32.min = 0 := rfl
  have h2 : IntKind.u32.max = 4294967295 := rfl
  simp only [Lit.wf, Bool.and_eq_true, decide_eq_true_eq, h1, h2] at ha hb
  obtain ⟨a, rfl⟩ := Int.eq_ofNat_of_zero_le ha.1
  obtain ⟨b, rfl⟩ := Int.eq_ofNat_of_zero_le hb.1
  exact crcOrder_in a b n w (by omega) (by omega)
end Go.Proofs.Ytmpkcehjmjopdaa
