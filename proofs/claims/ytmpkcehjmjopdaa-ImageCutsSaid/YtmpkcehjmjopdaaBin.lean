import Derived.Test.YtmpkcehjmjopdaaBase
import Derived.Test.YtmpkcehjmjopdaaPlainCrc
namespace Go.Proofs.Ytmpkcehjmjopdaa
open Go.RowKit

/-- make([]byte, n) -/
theorem make_bytes (w : World) (n : Nat) (h : n ≤ 140737488351232) :
    (Instr.makeSlice 27 (.int .i64 (n : Int)) (.int .i64 (n : Int))).run Try.prog w = .ok (.slice (some ⟨w.heap.size, 0, none⟩) n n) (w.alloc (.cells (bcells (List.replicate n 0)).toArray 5)) := by
  obtain ⟨i0, hi, hz0, hz1, hz2⟩ := info_parts info5
  have := run_make (P := Try.prog) w 27 5 i0 (.int .u8 0) Try.underlying27 hi hz0 .i64 .i64 (n : Int) (n : Int) (by omega) (by omega) (by rw [hz2]; omega) (by omega)
  have e : madeCells (Value.cells (.int .u8 0)) n = (bcells (List.replicate n 0)).toArray := by
    apply Array.ext
    · simp [madeCells, bcells]
    · intro i h1 h2
      simp [madeCells, bcells, Value.cells, Nat.mod_one]
  rw [this, hz1, Int.toNat_natCast, Nat.mul_one, e]

/-- the lowest bytes of a number, the lowest first -/
def les (a : Nat) : Nat → List UInt8
  | 0 => []
  | n + 1 => les a n ++ [UInt8.ofNat (a / 256 ^ n % 256)]
theorem les_length (a n : Nat) : (les a n).length = n := by induction n with
  | zero => rfl
  | succ n ih => simp [les, ih]
theorem les_fill (a n k : Nat) (h : k < n) : (les a k ++ List.replicate (n - k) 0).set k (UInt8.ofNat (a / 256 ^ k % 256)) = les a (k + 1) ++ List.replicate (n - (k + 1)) 0 := by
  rw [List.set_append_right _ _ (by rw [les_length]; omega), les_length, Nat.sub_self, show n - k = (n - (k + 1)) + 1 by omega, List.replicate_succ]
  simp [les]
theorem byte_shift (a k : Nat) : ((a : Int) / 2 ^ (8 * k) % 256) = ((UInt8.ofNat (a / 256 ^ k % 256)).toNat : Int) := by
  have e1 : ((2 : Int) ^ (8 * k)) = ((256 ^ k : Nat) : Int) := by rw [Int.pow_mul]; simp
  rw [e1, ← Int.natCast_ediv, UInt8.toNat_ofNat']
  omega

set_option maxHeartbeats 400000 in
theorem order_any (v n : Nat) (w : World) (_hv : v < 18446744073709551616) (hn : n ≤ 7) :
    Calls Try.prog 74 #[.int .u64 v, .int .i64 n] w fun e w' => e = .returned (.slice (some ⟨w.heap.size, 0, none⟩) n n) ∧ Below w.heap.size w w' ∧ Blk w' w.heap.size 5 (bcells (les v n)).toArray := by
  have hmk := make_bytes w n (by omega)
  have hb0 := Blk.new w 5 (bcells (List.replicate n 0)).toArray
  have hbl : Below w.heap.size w (w.alloc (.cells (bcells (List.replicate n 0)).toArray 5)) := (Below.refl _ w).alloc (Nat.le_refl _) _
  go_enter Try.func74, Try.ntmps74
  go_wp2_with fail
  clear hmk
  generalize (w.alloc (.cells (bcells (List.replicate n 0)).toArray 5)) = w0 at *
  go_loopw [11] (fun i wr => ∃ k : Nat, k ≤ n ∧ i = .int .i64 k ∧ Blk wr w.heap.size 5 (bcells (les v k ++ List.replicate (n - k) 0)).toArray ∧ Below w.heap.size w wr) (fun i _ => n - (intOf i).toNat)
  case atStart => exact ⟨0, Nat.zero_le _, rfl, hb0, hbl⟩
  case round =>
    obtain ⟨k, hk, rfl, hB, hbel⟩ := hrel
    by_cases hlt : k < n
    · have hl : k < (les v k ++ List.replicate (n - k) 0).length := by simp [les_length]; omega
      have hc := hB.cell k
      have hf := hB.frozen k
      have h2 := bcells_get _ _ hl #[]
      rw [Array.append_empty] at h2
      rw [h2] at hc
      clear h2
      have Hs := bcells_set _ _ hl #[] (UInt8.ofNat (v / 256 ^ k % 256))
      rw [les_fill v n k hlt, Array.append_empty, Array.append_empty] at Hs
      have hst := hB.set_ k (.int .u8 (UInt8.ofNat (v / 256 ^ k % 256)).toNat)
      rw [Hs] at hst
      clear Hs
      have Hst := Lib.hid hst
      clear hst
      generalize (les v k ++ List.replicate (n - k) 0).getD k 0 = c at *
      have hbs := Lib.hid (byte_shift v k)
      go_wp2_with fail
      go_roundw
      case rel => exact ⟨k + 1, by omega, by go_num, by rw [hbs.out]; exact Hst.out, hbel.setCell (Nat.le_refl _) _⟩
      case measure => simp [intOf]; omega
    · obtain rfl : k = n := by omega
      go_wp2_with fail
      go_ret
      exact ⟨rfl, hbel, by simpa using hB⟩

theorem binput_any (v n : Nat) (w : World) (hv : v < 9223372036854775808) (hn0 : 0 < n) (hn : n ≤ 7) :
    Calls Try.prog 58 #[.int .i64 v, .int .i64 n] w fun e w' => e = .returned (.string ⟨(les v n).toArray⟩) ∧ Below w.heap.size w w' := by
  go_enter Try.func58, Try.ntmps58
  go_wp2_with fail
  refine (order_any v n w (by omega) hn).mono ?_
  rintro e w1 ⟨rfl, hb, hB⟩
  have hl := les_length v n
  have hconv : ∀ cap, (convert 27 9 (.slice (some ⟨w.heap.size, 0, none⟩) n cap)).run Try.prog w1 = .ok (.string ⟨(les v n).toArray⟩) w1 := by
    intro cap
    have h := conv_blk (W := w1) (g := w.heap.size) (t := 5) (l := les v n) (x := #[]) (by simpa using hB) cap
    rwa [hl] at h
  go_wp2_with fail
  go_ret
  exact ⟨rfl, hb⟩

theorem or_byte (v : Nat) (c : UInt8) (h : v < 281474976710656) : bits .or .i64 ((v : Int) * 256) (c.toNat : Int) = ((c.toNat + 256 * v : Nat) : Int) := by
  have hc := c.toNat_lt
  rw [bits_join .i64 62 (by decide) (fun n h0 h1 => by rw [IntKind.wrap_i64]; omega) 8 _ _ (by omega) (by omega) (by omega) (by omega) (by omega) (by omega)]
  omega

theorem val_drop (l : List UInt8) (k : Nat) (h : k < l.length) : Bq.val (l.drop k) = (l.getD k 0).toNat + 256 * Bq.val (l.drop (k + 1)) := by
  rw [List.drop_eq_getElem_cons h]
  simp [Bq.val, List.getD, h]
theorem val_small (l : List UInt8) (k : Nat) (h : l.length ≤ k + 6) : Bq.val (l.drop k) < 281474976710656 := by
  have := Bq.val_lt (l.drop k)
  have h2 : 2 ^ (8 * (l.drop k).length) ≤ 2 ^ 48 := Nat.pow_le_pow_right (by decide) (by simp; omega)
  omega

set_option maxHeartbeats 400000 in
theorem number_any (l : List UInt8) (n cap g : Nat) (w : World) (hl : l.length = n) (hn : n ≤ 7) (hc : ∀ i, i < l.length → w.cell? ⟨g, i, none⟩ = some (.int .u8 (l.getD i 0).toNat)) :
    Calls Try.prog 75 #[.slice (some ⟨g, 0, none⟩) n cap] w fun e w' => e = .returned (.int .i64 (Bq.val l : Nat)) ∧ w = w' := by
  subst hl
  have hcH := Lib.hid hc
  clear hc
  go_enter Try.func75, Try.ntmps75
  go_wp2_with fail
  go_loop [3, 4] (fun v i => ∃ k : Nat, k ≤ l.length ∧ i = .int .i64 ((k : Int) - 1) ∧ v = .int .i64 (Bq.val (l.drop k) : Nat)) (fun _ i => (intOf i + 1).toNat)
  case atStart => exact ⟨l.length, Nat.le_refl _, rfl, by simp [Bq.val]⟩
  case round =>
    obtain ⟨k, hk, rfl, rfl⟩ := hrel
    by_cases h0 : k = 0
    · subst h0
      go_wp2_with fail
      go_ret
      exact ⟨ret_int (by simp), rfl⟩
    · obtain ⟨k, rfl⟩ : ∃ j, k = j + 1 := ⟨k - 1, by omega⟩
      have hck := hcH.out k (by omega)
      have hv := Lib.hid (val_drop l k (by omega))
      have hs := val_small l (k + 1) (by omega)
      generalize l.getD k 0 = c at *
      generalize Bq.val (l.drop (k + 1)) = v at *
      have ho := or_byte v c hs
      have hcl := c.toNat_lt
      go_wp2_with fail
      go_round
      case rel => exact ⟨k, by omega, rfl, by rw [hv.out]; go_num⟩
      case measure => simp [intOf]

/-- the number that stands in a text, of so many bytes from a place on; 0: there are too few -/
def num (l : List UInt8) (a n : Nat) : Nat := if a + n ≤ l.length then Bq.val ((l.drop a).take n) else 0
theorem extract_at (s : ByteArray) (a n : Nat) : (s.extract a (a + n)).data.toList = (s.data.toList.drop a).take n := by
  rw [Lib.extract_data, show a + n - a = n by omega]

set_option maxHeartbeats 400000 in
theorem binget_in (s : ByteArray) (a n : Nat) (w : World) (h : a + n ≤ s.size) (hn : n ≤ 7) (hs : s.size ≤ 4611686018427387904) :
    Calls Try.prog 62 #[.string s, .int .i64 a, .int .i64 n] w fun e w' => e = .returned (.tuple #[.int .i64 (num s.data.toList a n : Nat), .bool true]) ∧ Below w.heap.size w w' := by
  have hnum : num s.data.toList a n = Bq.val (s.extract a (a + n)).data.toList := by
    unfold num; rw [if_pos (by simpa using h), extract_at]
  have hc := fun w => Lib.run_convert_string_bytes (P := Try.prog) w 9 27 5 (s.extract a (a + n)) Try.underlying9 Try.underlying27 Try.underlying5
  have hcell := Lib.bytesWorld_cell w 5 (s.extract a (a + n))
  have hbel := bytesWorld_below w 5 (s.extract a (a + n))
  have hsz : (s.extract a (a + n)).size = n := by simp; omega
  have HN := Lib.hid hnum
  clear hnum
  have H1 : (s.extract a (a + n)).data.toList.length = n := by simp; omega
  rw [hsz] at hc hcell
  have Hcell := Lib.hid hcell
  have Hbel := Lib.hid hbel
  have Hsz := Lib.hid hsz
  have HL := Lib.hid H1
  clear hcell hbel hsz H1
  have b1 : ((n : Int) < 0) = False := by simp
  go_enter Try.func62, Try.ntmps62
  go_wp2_with fail
  refine (number_any (s.extract a (a + n)).data.toList n _ w.heap.size _ HL.out hn fun i hi => Hcell.out i (by rw [← HL.out]; exact hi)).mono ?_
  rintro e w1 ⟨rfl, rfl⟩
  rw [← HN.out]
  go_wp2_with fail
  go_ret2
  exact ⟨rfl, Hbel.out⟩

theorem binget_out (s : ByteArray) (a n : Nat) (w : World) (h : ¬ a + n ≤ s.size) (hn : n ≤ 7) (ha : a ≤ 4611686018427387904) (hs : s.size ≤ 4611686018427387904) :
    Calls Try.prog 62 #[.string s, .int .i64 a, .int .i64 n] w fun e w' => e = .returned (.tuple #[.int .i64 (num s.data.toList a n : Nat), .bool false]) ∧ w = w' := by
  have hnum : num s.data.toList a n = 0 := by unfold num; rw [if_neg (by simpa using h)]
  rw [hnum]
  clear hnum
  go_enter Try.func62, Try.ntmps62
  go_wp2_with fail
  go_ret2
  exact ⟨rfl, rfl⟩

theorem binget_any (s : ByteArray) (a n : Nat) (w : World) (hn : n ≤ 7) (ha : a ≤ 4611686018427387904) (hs : s.size ≤ 4611686018427387904) :
    Calls Try.prog 62 #[.string s, .int .i64 a, .int .i64 n] w fun e w' => (∃ b, e = .returned (.tuple #[.int .i64 (num s.data.toList a n : Nat), .bool b])) ∧ Below w.heap.size w w' := by
  by_cases h : a + n ≤ s.size
  · exact (binget_in s a n w h hn hs).mono fun e w' ⟨h1, h2⟩ => ⟨⟨_, h1⟩, h2⟩
  · exact (binget_out s a n w h hn ha hs).mono fun e w' ⟨h1, h2⟩ => ⟨⟨_, h1⟩, h2 ▸ Below.refl _ _⟩

theorem refget_out (s : ByteArray) (a n : Nat) (w : World) (h : ¬ a + n ≤ s.size) (hn : n ≤ 7) (_ha : a ≤ 4611686018427387904) (_hs : s.size ≤ 4611686018427387904) :
    Calls Try.prog 76 #[.string s, .int .i64 a, .int .i64 n] w fun e w' => e = .returned (.tuple #[.int .i64 (num s.data.toList a n : Nat), .bool false]) ∧ w = w' := by
  have hnum : num s.data.toList a n = 0 := by unfold num; rw [if_neg (by simpa using h)]
  rw [hnum]
  clear hnum
  by_cases h2 : s.size < a
  all_goals
    go_enter Try.func76, Try.ntmps76
    go_wp2_with fail
    go_ret2
    exact ⟨rfl, rfl⟩

set_option maxHeartbeats 400000 in
theorem refget_in (s : ByteArray) (a n : Nat) (w : World) (h : a + n ≤ s.size) (hn : n ≤ 7) (hs : s.size ≤ 4611686018427387904) :
    Calls Try.prog 76 #[.string s, .int .i64 a, .int .i64 n] w fun e w' => e = .returned (.tuple #[.int .i64 (num s.data.toList a n : Nat), .bool true]) ∧ w = w' := by
  have hnum : num s.data.toList a n = Bq.val ((s.data.toList.drop a).take n) := by
    unfold num; rw [if_pos (by simpa using h)]
  have HN := Lib.hid hnum
  clear hnum
  have H1 : Hid (((s.data.toList.drop a).take n).length = n) := by show _ = _; simp; omega
  have d1 : decide (7 < (n : Int)) = false := by simp; omega
  have d2 : decide (s.size < a) = false := by simp; omega
  have d3 : decide ((s.size : Int) - (a : Int) < (n : Int)) = false := by simp; omega
  go_enter Try.func76, Try.ntmps76
  go_wp2_with fail
  go_loop [8, 9] (fun v i => ∃ k : Nat, k ≤ n ∧ i = .int .i64 ((k : Int) - 1) ∧ v = .int .i64 (Bq.val (((s.data.toList.drop a).take n).drop k) : Nat)) (fun _ i => (intOf i + 1).toNat)
  case atStart => exact ⟨n, Nat.le_refl _, rfl, by rw [List.drop_of_length_le (by rw [H1.out]; omega)]; rfl⟩
  case round =>
    obtain ⟨k, hk, rfl, rfl⟩ := hrel
    by_cases h0 : k = 0
    · subst h0
      go_wp2_with fail
      go_ret2
      exact ⟨by rw [HN.out]; simp, rfl⟩
    · obtain ⟨k, rfl⟩ : ∃ j, k = j + 1 := ⟨k - 1, by omega⟩
      have hv := Lib.hid (val_drop ((s.data.toList.drop a).take n) k (by rw [H1.out]; omega))
      have hs := val_small ((s.data.toList.drop a).take n) (k + 1) (by rw [H1.out]; omega)
      have hlt : a + k < s.size := by omega
      have hg : ((s.data.toList.drop a).take n).getD k 0 = s[a + k]'hlt := by
        simp [List.getD, show k < n by omega, hlt]; rfl
      rw [hg] at hv
      clear hg
      generalize Bq.val (((s.data.toList.drop a).take n).drop (k + 1)) = v at *
      have ho := or_byte v (s[a + k]'hlt) hs
      have hcl := (s[a + k]'hlt).toNat_lt
      go_wp2_with fail
      go_round
      case rel => exact ⟨k, by omega, rfl, by rw [hv.out]; go_num⟩
      case measure => simp [intOf]

theorem refget_any (s : ByteArray) (a n : Nat) (w : World) (hn : n ≤ 7) (ha : a ≤ 4611686018427387904) (hs : s.size ≤ 4611686018427387904) :
    Calls Try.prog 76 #[.string s, .int .i64 a, .int .i64 n] w fun e w' => (∃ b, e = .returned (.tuple #[.int .i64 (num s.data.toList a n : Nat), .bool b])) ∧ w = w' := by
  by_cases h : a + n ≤ s.size
  · exact (refget_in s a n w h hn hs).mono fun e w' ⟨h1, h2⟩ => ⟨⟨_, h1⟩, h2⟩
  · exact (refget_out s a n w h hn ha hs).mono fun e w' ⟨h1, h2⟩ => ⟨⟨_, h1⟩, h2⟩
theorem les_byte (v k : Nat) : (UInt8.ofNat (v / 256 ^ k % 256)).toNat = v / 256 ^ k % 256 := by
  rw [UInt8.toNat_ofNat']; omega

/-- a text out of a row of the call's own -/
theorem conv_own {W : World} {B g cap : Nat} {l : List UInt8} {t : TypeId} (h : W.ownsRow B t 1 (.slice (some ⟨g, 0, none⟩) l.length cap) l.length (bcells l)) :
    (convert 27 9 (.slice (some ⟨g, 0, none⟩) l.length cap)).run Try.prog W = .ok (.string ⟨l.toArray⟩) W := by
  refine conv_cells (fun i hi => ?_) cap
  have := h.cells (g := g) rfl i (.int .u8 (l.getD i 0).toNat) (by simp [bcells, List.getD, hi])
  simpa [Addr.add_lit] using this

set_option maxRecDepth 100000 in
set_option maxHeartbeats 400000 in
theorem refput_any (v n : Nat) (w : World) (hv : v < 9223372036854775808) (hn0 : 0 < n) (hn : n ≤ 7) :
    Calls Try.prog 60 #[.int .i64 v, .int .i64 n] w fun e w' => e = .returned (.string ⟨(les v n).toArray⟩) ∧ Below w.heap.size w w' := by
  obtain ⟨i0, hi, hz0, hz1, hz2⟩ := info_parts info5
  go_enter Try.func60, Try.ntmps60
  go_wp2_with fail
  go_loopw [0, 5, 6] (fun x b i wr => ∃ k : Nat, k ≤ n ∧ i = .int .i64 k ∧ x = .int .i64 (v / 256 ^ k : Nat) ∧ Below w.heap.size w wr ∧ wr.ownsRow w.heap.size 5 1 b k (bcells (les v k))) (fun _ _ i _ => n - (intOf i).toNat)
  case atStart => exact ⟨0, Nat.zero_le _, rfl, by simp, Below.refl _ _, World.ownsRow_nil _ _ _ _⟩
  case round =>
    obtain ⟨k, hk, rfl, rfl, hb, hown⟩ := hrel
    by_cases hlt : k < n
    · have hlt7 : k < 7 := by omega
      have HB := Lib.hid (les_byte v k)
      have HD : Hid (v / 256 ^ k / 256 = v / 256 ^ (k + 1)) := by show _ = _; rw [Nat.div_div_eq_div_mul, Nat.pow_succ]
      have hvk : v / 256 ^ k < 9223372036854775808 := Nat.lt_of_le_of_lt (Nat.div_le_self _ _) hv
      have hles : Hid (bcells (les v (k + 1)) = bcells (les v k) ++ [.int .u8 (UInt8.ofNat (v / 256 ^ k % 256)).toNat]) := by show _ = _; simp [bcells, les]
      generalize v / 256 ^ k = y at *
      go_wp2_with (at_builtin; refine wpList_append_own _ rfl _ _ 27 rfl w.heap.size 5 i0 (.int .u8 0) 1 1 Try.underlying27 hi hz0 hz1 hz2 rfl (by decide) _ _ _ rfl (hown.alloc _) ⟨wr.heap.size, 0, none⟩ 1 1 [.int .u8 ((y : Int) % 256)] rfl rfl ?c1 ?c2 ?c3 ?c4 ?c5 ?_)
      case c1 => exact cell_one_new _ _ _
      case c2 => simp [Value.oneCell']
      case c3 => unfold maxLen; omega
      case c4 => omega
      case c5 => have := hb.size; simp; omega
      intro v' w1 hown1 hgrow _
      have hb1 : Below w.heap.size w w1 := (hb.alloc hb.size _).grown hgrow (by have := hb.size; simp; omega) (fun j hj => (hown.lt j hj).1)
      have hown2 : w1.ownsRow w.heap.size 5 1 v' (k + 1) (bcells (les v (k + 1))) := by rw [hles.out, HB.out]; simpa using hown1
      clear hown1 hgrow hown hb
      go_wp2_with fail
      go_roundw
      case rel => exact ⟨k + 1, by omega, by go_num, by rw [← HD.out]; go_num, hb1, hown2⟩
      case measure => simp [intOf]; omega
    · obtain rfl : k = n := by omega
      have hlt7 : decide ((k : Int) < (k : Int)) = false := by simp
      obtain ⟨g, cp, hvv⟩ : ∃ g cp, u5 = .slice (some ⟨g, 0, none⟩) k cp := by
        rcases hown.2 with ⟨_, h0⟩ | ⟨g, cp, _, hv, _⟩
        · omega
        · exact ⟨g, cp, hv⟩
      subst hvv
      have hl := les_length v k
      have hconv : (convert 27 9 (.slice (some ⟨g, 0, none⟩) k cp)).run Try.prog wr = .ok (.string ⟨(les v k).toArray⟩) wr := by
        have := conv_own (W := wr) (B := w.heap.size) (g := g) (cap := cp) (l := les v k) (t := 5) (by rw [hl]; exact hown)
        rwa [hl] at this
      clear hown hl
      go_wp2_with fail
      go_ret
      exact ⟨rfl, hb⟩
end Go.Proofs.Ytmpkcehjmjopdaa
