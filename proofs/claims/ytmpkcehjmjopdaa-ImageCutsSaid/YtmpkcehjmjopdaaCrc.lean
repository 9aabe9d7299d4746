import Derived.Test.YtmpkcehjmjopdaaBase
import Derived.Test.YtmpkcehjmjopdaaPlainCrc
namespace Go.Proofs.Ytmpkcehjmjopdaa
open Go.RowKit

theorem it_T (k v : Nat) : Bq.It (k + 1) v = Bq.T (Bq.It k v) := by rw [Bq.It_add]; rfl
theorem T_bits (x : Nat) (h : x < 4294967296) :
    bits .xor .u32 ((x : Int) / 2) (3988292384 * bits .and .u32 (x : Int) 1 % 4294967296) = ((Bq.T x : Nat) : Int) := by
  have h1 : bits .and .u32 (x : Int) 1 = ((x % 2 : Nat) : Int) := by
    have := bits_mask .u32 32 (by decide) (fun n h0 h1 => by rw [IntKind.wrap_u32]; omega) 1 (by decide) (x : Int) (by omega) (by omega)
    simpa using this
  rw [h1]
  have h2 : (3988292384 * ((x % 2 : Nat) : Int)) % 4294967296 = ((if x % 2 = 1 then Bq.poly else 0 : Nat) : Int) := by
    rcases Nat.mod_two_eq_zero_or_one x with h | h <;> simp [h, Bq.poly]
  rw [h2]
  have h3 : ((x : Int) / 2) = ((x / 2 : Nat) : Int) := by omega
  rw [h3]
  have h4 : (if x % 2 = 1 then Bq.poly else 0) < 4294967296 := by split <;> simp [Bq.poly]
  exact u32_xor_nat _ _ (by omega) h4

set_option maxHeartbeats 400000 in
theorem more_any (v : Nat) (s : ByteArray) (w : World) (hv : v < 4294967296) (hs : s.size ≤ 140737488351232) :
    Calls Try.prog 21 #[.int .u32 v, .string s] w fun e w' => e = .returned (.int .u32 (Bq.more v s.data.toList)) ∧ Below w.heap.size w w' := by
  have hc := fun w => Lib.run_convert_string_bytes (P := Try.prog) w 9 27 5 s Try.underlying9 Try.underlying27 Try.underlying5
  have hcell := Lib.bytesWorld_cell w 5 s
  have hbel := bytesWorld_below w 5 s
  have hx0 : bits .xor .u32 IntKind.u32.max (v : Int) = ((v ^^^ 4294967295 : Nat) : Int) := by
    have : (IntKind.u32.max : Int) = ((4294967295 : Nat) : Int) := rfl
    rw [this, u32_xor_nat _ _ (by decide) hv, Nat.xor_comm]
  have hv0 : v ^^^ 4294967295 < 4294967296 := Nat.xor_lt_two_pow (n := 32) hv (by decide)
  have hmore : Hid (Bq.more v s.data.toList = Bq.upd (v ^^^ 4294967295) s.data.toList ^^^ 4294967295) := rfl
  go_enter Try.func21, Try.ntmps21
  go_wp2
  generalize hW : Lib.bytesWorld w 5 s = W at hcell hbel ⊢
  clear hW hc hx0
  generalize v ^^^ 4294967295 = v0 at *
  go_loop [5, 13] (fun x i => ∃ k : Nat, k ≤ s.size ∧ i = .int .i64 k ∧ x = .int .u32 (Bq.upd v0 (s.data.toList.take k) : Nat)) (fun _ i => s.size - (intOf i).toNat)
  case atStart => exact ⟨0, Nat.zero_le _, rfl, rfl⟩
  case round =>
    obtain ⟨k, hk, rfl, rfl⟩ := hrel
    have hul : Bq.upd v0 (s.data.toList.take k) < 4294967296 := Bq.upd_lt _ hv0
    by_cases hlt : k < s.size
    · have hck := hcell k hlt
      have Hts := Lib.hid (take_snoc s k hlt)
      clear hcell
      generalize s.data.toList.getD k 0 = c at *
      have Hup : Hid (Bq.upd v0 (s.data.toList.take (k + 1)) = Bq.It 8 (Bq.upd v0 (s.data.toList.take k) ^^^ c.toNat)) := by
        show _ = _
        rw [Hts.out, Bq.upd_append]; rfl
      clear Hts
      generalize Bq.upd v0 (s.data.toList.take k) = X at *
      have hcl := c.toNat_lt
      have hx1 : bits .xor .u32 (X : Int) (c.toNat : Int) = ((X ^^^ c.toNat : Nat) : Int) := u32_xor_nat _ _ hul (by omega)
      have hYl : X ^^^ c.toNat < 4294967296 := Nat.xor_lt_two_pow (n := 32) hul (by omega)
      go_wp2
      generalize X ^^^ c.toNat = Y at *
      go_loop [5, 21] (fun x i => ∃ j : Nat, j ≤ 8 ∧ i = .int .i64 j ∧ x = .int .u32 (Bq.It j Y : Nat)) (fun _ i => 8 - (intOf i).toNat)
      case atStart => exact ⟨0, Nat.zero_le _, rfl, rfl⟩
      case round =>
        obtain ⟨j, hj, rfl, rfl⟩ := hrel
        have hil : Bq.It j Y < 4294967296 := Bq.It_lt _ hYl
        have HT := Lib.hid (it_T j Y)
        have hT := T_bits _ hil
        by_cases h8 : j < 8
        · go_wp2
          go_round
          case rel => exact ⟨j + 1, by omega, by go_num, by rw [HT.out]⟩
          case measure => simp [intOf]; omega
        · obtain rfl : j = 8 := by omega
          go_wp2
          go_round
          case rel => exact ⟨k + 1, by omega, by go_num, by rw [Hup.out]⟩
          case measure => simp [intOf]; omega
    · obtain rfl : k = s.size := by omega
      have hx1 : bits .xor .u32 IntKind.u32.max (Bq.upd v0 (s.data.toList.take s.size) : Nat) = ((Bq.upd v0 s.data.toList ^^^ 4294967295 : Nat) : Int) := by
        have : (IntKind.u32.max : Int) = ((4294967295 : Nat) : Int) := rfl
        rw [this, u32_xor_nat _ _ (by decide) hul, Nat.xor_comm, List.take_of_length_le (by simp)]
      go_wp2
      go_ret
      exact ⟨ret_int (by rw [hmore.out]), hbel⟩

theorem of_any (s : ByteArray) (w : World) (hs : s.size ≤ 140737488351232) :
    Calls Try.prog 19 #[.string s] w fun e w' => e = .returned (.int .u32 (Bq.crc s.data.toList)) ∧ Below w.heap.size w w' := by
  go_enter Try.func19, Try.ntmps19
  go_wp2_with fail
  refine (more_any 0 s w (by decide) hs).mono ?_
  rintro e w1 ⟨rfl, hb⟩
  go_wp2
  go_ret
  exact ⟨rfl, hb⟩

theorem T_odd (x : Nat) (h : x < 4294967296) (ho : x % 2 = 1) : bits .xor .u32 ((x : Int) / 2) 3988292384 = ((Bq.T x : Nat) : Int) := by
  have h3 : ((x : Int) / 2) = ((x / 2 : Nat) : Int) := by omega
  rw [h3]
  have := u32_xor_nat (x / 2) 3988292384 (by omega) (by decide)
  rw [show ((3988292384 : Nat) : Int) = 3988292384 from rfl] at this
  rw [this]; unfold Bq.T; rw [if_pos ho]; rfl
theorem T_even (x : Nat) (ho : ¬ x % 2 = 1) : ((x : Int) / 2) = ((Bq.T x : Nat) : Int) := by
  unfold Bq.T; rw [if_neg ho, Nat.xor_zero]; omega
theorem and_one (x : Nat) (h : x < 4294967296) : bits .and .u32 (x : Int) 1 = ((x % 2 : Nat) : Int) := by
  have := bits_mask .u32 32 (by decide) (fun n h0 h1 => by rw [IntKind.wrap_u32]; omega) 1 (by decide) (x : Int) (by omega) (by omega)
  simpa using this

set_option maxHeartbeats 400000 in
theorem refmore_any (v : Nat) (s : ByteArray) (w : World) (hv : v < 4294967296) (hs : s.size ≤ 4611686018427387904) :
    Calls Try.prog 55 #[.int .u32 v, .string s] w fun e w' => e = .returned (.int .u32 (Bq.more v s.data.toList)) ∧ w = w' := by
  have hx0 : bits .xor .u32 IntKind.u32.max (v : Int) = ((v ^^^ 4294967295 : Nat) : Int) := by
    have : (IntKind.u32.max : Int) = ((4294967295 : Nat) : Int) := rfl
    rw [this, u32_xor_nat _ _ (by decide) hv, Nat.xor_comm]
  have hv0 : v ^^^ 4294967295 < 4294967296 := Nat.xor_lt_two_pow (n := 32) hv (by decide)
  have hmore : Hid (Bq.more v s.data.toList = Bq.upd (v ^^^ 4294967295) s.data.toList ^^^ 4294967295) := rfl
  go_enter Try.func55, Try.ntmps55
  go_wp2
  clear hx0
  generalize v ^^^ 4294967295 = v0 at *
  go_loop [5, 6] (fun x i => ∃ k : Nat, k ≤ s.size ∧ i = .int .i64 k ∧ x = .int .u32 (Bq.upd v0 (s.data.toList.take k) : Nat)) (fun _ i => s.size - (intOf i).toNat)
  case atStart => exact ⟨0, Nat.zero_le _, rfl, rfl⟩
  case round =>
    obtain ⟨k, hk, rfl, rfl⟩ := hrel
    have hul : Bq.upd v0 (s.data.toList.take k) < 4294967296 := Bq.upd_lt _ hv0
    by_cases hlt : k < s.size
    · have Hts := Lib.hid (take_snoc s k hlt)
      have Hup : Hid (Bq.upd v0 (s.data.toList.take (k + 1)) = Bq.It 8 (Bq.upd v0 (s.data.toList.take k) ^^^ (s.data.toList.getD k 0).toNat)) := by
        show _ = _
        rw [Hts.out, Bq.upd_append]; rfl
      clear Hts
      have hcc : Hid (s.data.toList.getD k 0 = s[k]'hlt) := by show _ = _; simp [List.getD, hlt]; rfl
      rw [hcc.out] at Hup
      have hcl := (s[k]'hlt).toNat_lt
      generalize Bq.upd v0 (s.data.toList.take k) = X at *
      have hx1 : bits .xor .u32 (X : Int) ((s[k]'hlt).toNat : Int) = ((X ^^^ (s[k]'hlt).toNat : Nat) : Int) := u32_xor_nat _ _ hul (by omega)
      have hYl : X ^^^ (s[k]'hlt).toNat < 4294967296 := Nat.xor_lt_two_pow (n := 32) hul (by omega)
      go_wp2
      generalize X ^^^ (s[k]'hlt).toNat = Y at *
      go_loop [5, 7] (fun x i => ∃ j : Nat, j ≤ 8 ∧ i = .int .i64 j ∧ x = .int .u32 (Bq.It j Y : Nat)) (fun _ i => 8 - (intOf i).toNat)
      case atStart => exact ⟨0, Nat.zero_le _, rfl, rfl⟩
      case round =>
        obtain ⟨j, hj, rfl, rfl⟩ := hrel
        have hil : Bq.It j Y < 4294967296 := Bq.It_lt _ hYl
        have HT := Lib.hid (it_T j Y)
        have h1 := and_one _ hil
        by_cases h8 : j < 8
        · by_cases ho : Bq.It j Y % 2 = 1
          · have hT := T_odd _ hil ho
            have hd : (bits .and .u32 ((Bq.It j Y : Nat) : Int) 1 == 1) = true := by rw [h1, ho]; rfl
            clear h1 ho
            go_wp2
            go_round
            case rel => exact ⟨j + 1, by omega, by go_num, by rw [HT.out]⟩
            case measure => simp [intOf]; omega
          · have hT := Lib.hid (T_even _ ho)
            have hd : (bits .and .u32 ((Bq.It j Y : Nat) : Int) 1 == 1) = false := by rw [h1]; simp; omega
            clear h1 ho
            go_wp2
            go_round
            case rel => exact ⟨j + 1, by omega, by go_num, by rw [HT.out, hT.out]⟩
            case measure => simp [intOf]; omega
        · obtain rfl : j = 8 := by omega
          go_wp2
          go_round
          case rel => exact ⟨k + 1, by omega, by go_num, by rw [Hup.out]⟩
          case measure => simp [intOf]; omega
    · obtain rfl : k = s.size := by omega
      have hx1 : bits .xor .u32 IntKind.u32.max (Bq.upd v0 (s.data.toList.take s.size) : Nat) = ((Bq.upd v0 s.data.toList ^^^ 4294967295 : Nat) : Int) := by
        have : (IntKind.u32.max : Int) = ((4294967295 : Nat) : Int) := rfl
        rw [this, u32_xor_nat _ _ (by decide) hul, Nat.xor_comm, List.take_of_length_le (by simp)]
      go_wp2
      go_ret
      exact ⟨ret_int (by rw [hmore.out]), rfl⟩

theorem refof_any (s : ByteArray) (w : World) (hs : s.size ≤ 4611686018427387904) :
    Calls Try.prog 20 #[.string s] w fun e w' => e = .returned (.int .u32 (Bq.crc s.data.toList)) ∧ w = w' := by
  go_enter Try.func20, Try.ntmps20
  go_wp2_with fail
  refine (refmore_any 0 s w (by decide) hs).mono ?_
  rintro e w1 ⟨rfl, rfl⟩
  go_wp2
  go_ret
  exact ⟨rfl, rfl⟩

theorem crc_nums : Bq.crc [49, 50, 51, 52, 53, 54, 55, 56, 57] = 3421780262 := by decide +kernel
theorem awake_any (w : World) : Calls Try.prog 22 #[] w fun e w' => e = .returned (.bool true) ∧ Below w.heap.size w w' := by
  go_enter Try.func22, Try.ntmps22
  go_wp2_with fail
  refine (of_any ⟨#[49, 50, 51, 52, 53, 54, 55, 56, 57]⟩ w (by decide)).mono ?_
  rintro e w1 ⟨rfl, hb⟩
  rw [show (⟨#[49, 50, 51, 52, 53, 54, 55, 56, 57]⟩ : ByteArray).data.toList = [49, 50, 51, 52, 53, 54, 55, 56, 57] from rfl, crc_nums]
  go_wp2_with fail
  refine (of_any ⟨#[]⟩ w1 (by decide)).mono ?_
  rintro e w2 ⟨rfl, hb2⟩
  rw [show (⟨#[]⟩ : ByteArray).data.toList = [] from rfl, Bq.crc_nil]
  go_wp2
  go_ret
  exact ⟨rfl, hb.trans (hb2.mono hb.size)⟩

/-- any number as one of so many places -/
def plc (v n : Int) : Int := v % n
theorem plc_nonneg (v : Int) {n : Int} (h : 0 < n) : 0 ≤ plc v n := Int.emod_nonneg _ (by omega)
theorem plc_lt (v : Int) {n : Int} (h : 0 < n) : plc v n < n := Int.emod_lt_of_pos _ h
theorem place_any (v n : Int) (w : World) (hn : 0 < n) (hm : n ≤ 4611686018427387904) :
    Calls Try.prog 23 #[.int .i64 v, .int .i64 n] w fun e w' => e = .returned (.int .i64 (plc v n)) ∧ w = w' := by
  have hr0 : -n < v.tmod n := Int.lt_tmod_of_pos v hn
  have hr1 : v.tmod n < n := Int.tmod_lt_of_pos v hn
  have hne : (n == 0) = false := by simp; omega
  have hp : Hid (plc v n = if v.tmod n < 0 then v.tmod n + n else v.tmod n) := by
    show _ = _
    unfold plc
    have := Int.tmod_eq_emod (a := v) (b := n)
    have h2 := Int.emod_nonneg v (show n ≠ 0 by omega)
    have h3 := Int.emod_lt_of_pos v hn
    rw [this]
    split <;> split <;> omega
  by_cases h : v.tmod n < 0
  · go_enter Try.func23, Try.ntmps23
    go_wp2
    go_ret
    exact ⟨ret_int (by rw [hp.out, if_pos h]), rfl⟩
  · go_enter Try.func23, Try.ntmps23
    go_wp2
    go_ret
    exact ⟨ret_int (by rw [hp.out, if_neg (by omega)]), rfl⟩
end Go.Proofs.Ytmpkcehjmjopdaa
