import Derived.Test.YtmpkcehjmjopdaaPlainCrc
namespace Bq
/-- a byte of a number -/
def byteOf (x i : Nat) : UInt8 := UInt8.ofNat (x / 256 ^ i % 256)
/-- a list whose bytes from place o on are turned by a number's lowest n bytes -/
def tw (S : List UInt8) (o x : Nat) : Nat → List UInt8
  | 0 => S
  | n + 1 => (tw S o x n).set (o + n) ((tw S o x n).getD (o + n) 0 ^^^ byteOf x n)

theorem tw_length (S : List UInt8) (o x n : Nat) : (tw S o x n).length = S.length := by
  induction n with
  | zero => rfl
  | succ n ih => simp [tw, ih]

theorem byteOf_toNat (x i : Nat) : (byteOf x i).toNat = x / 256 ^ i % 256 := by
  unfold byteOf
  rw [UInt8.toNat_ofNat']
  omega

theorem cut3 (S : List UInt8) (o : Nat) (h : o + 5 ≤ S.length) : ∃ p a b c d e q, S = p ++ ([a, b, c, d, e] ++ q) ∧ p.length = o := by
  have h1 : S = S.take o ++ S.drop o := (List.take_append_drop o S).symm
  have h2 : 5 ≤ (S.drop o).length := by simp; omega
  match hd : S.drop o, h2 with
  | a :: b :: c :: d :: e :: q, _ => exact ⟨S.take o, a, b, c, d, e, q, by rw [hd] at h1; simpa using h1, by simp; omega⟩

theorem set_at (p : List UInt8) (u q : List UInt8) (o n : Nat) (z : UInt8) (hp : p.length = o) (hn : n < u.length) : (p ++ (u ++ q)).set (o + n) z = p ++ (u.set n z ++ q) := by
  subst hp
  rw [List.set_append_right _ _ (by omega), show p.length + n - p.length = n by omega, List.set_append_left _ _ hn]
theorem get_at (p : List UInt8) (u q : List UInt8) (o n : Nat) (hp : p.length = o) (hn : n < u.length) : (p ++ (u ++ q)).getD (o + n) 0 = u.getD n 0 := by
  subst hp
  simp [List.getD, List.getElem?_append_right, List.getElem?_append_left hn]

theorem tw_five (p : List UInt8) (a b c d e : UInt8) (q : List UInt8) (o x : Nat) (hp : p.length = o) :
    tw (p ++ ([a, b, c, d, e] ++ q)) o x 5 = p ++ ([a ^^^ byteOf x 0, b ^^^ byteOf x 1, c ^^^ byteOf x 2, d ^^^ byteOf x 3, e ^^^ byteOf x 4] ++ q) := by
  simp only [tw]
  rw [get_at p _ q o 0 hp (by simp), set_at p _ q o 0 _ hp (by simp)]
  simp only [List.set, List.getD_cons_zero]
  rw [get_at p _ q o 1 hp (by simp), set_at p _ q o 1 _ hp (by simp)]
  simp only [List.set, List.getD_cons_zero, List.getD_cons_succ]
  rw [get_at p _ q o 2 hp (by simp), set_at p _ q o 2 _ hp (by simp)]
  simp only [List.set, List.getD_cons_zero, List.getD_cons_succ]
  rw [get_at p _ q o 3 hp (by simp), set_at p _ q o 3 _ hp (by simp)]
  simp only [List.set, List.getD_cons_zero, List.getD_cons_succ]
  rw [get_at p _ q o 4 hp (by simp), set_at p _ q o 4 _ hp (by simp)]
  simp only [List.set, List.getD_cons_zero, List.getD_cons_succ]

theorem xor_low (a b y z : Nat) (ha : a < 256) (hb : b < 256) : (a + 256 * y) ^^^ (b + 256 * z) = (a ^^^ b) + 256 * (y ^^^ z) := by
  have e : ∀ (a y : Nat), a < 256 → a + 256 * y = 256 * y ^^^ a := by
    intro a y h
    have := low_xor (UInt8.ofNat a) y
    rw [UInt8.toNat_ofNat', Nat.mod_eq_of_lt (by simpa using h)] at this
    rw [this, Nat.xor_comm]
  have hx : a ^^^ b < 256 := Nat.xor_lt_two_pow (n := 8) ha hb
  rw [e a y ha, e b z hb, e _ _ hx]
  have hm : 256 * (y ^^^ z) = 256 * y ^^^ 256 * z := by
    have := @Nat.shiftLeft_xor_distrib 8 y z
    simpa [Nat.shiftLeft_eq, Nat.mul_comm] using this
  rw [hm, Nat.xor_assoc, Nat.xor_assoc, xor_lc a]

/-- what is turned, as a number -/
theorem val_turned (u v : List UInt8) : ∀ (x : Nat), u.length = v.length → (∀ i, i < u.length → v.getD i 0 = u.getD i 0 ^^^ byteOf x i) → x < 256 ^ u.length → val u ^^^ val v = x := by
  induction u generalizing v with
  | nil =>
    intro x hl _ hx
    cases v with
    | nil => simp at hx; simp [val, hx]
    | cons _ _ => simp at hl
  | cons c u ih =>
    intro x hl h hx
    cases v with
    | nil => simp at hl
    | cons d v =>
      have h0 := h 0 (by simp)
      simp only [List.getD_cons_zero] at h0
      have hr := ih v (x / 256) (by simpa using hl) (fun i hi => by
        have := h (i + 1) (by simpa using hi)
        simp only [List.getD_cons_succ] at this
        rw [this]
        congr 1
        unfold byteOf
        rw [Nat.pow_succ, Nat.mul_comm, ← Nat.div_div_eq_div_mul]) (by
        simp only [List.length_cons, Nat.pow_succ] at hx
        omega)
      simp only [val]
      rw [xor_low _ _ _ _ c.toNat_lt d.toNat_lt, hr, h0, UInt8.toNat_xor, ← Nat.xor_assoc, Nat.xor_self, Nat.zero_xor, byteOf_toNat]
      simp only [Nat.pow_zero, Nat.div_one]
      omega

/-- bits that are turned within 32 in a row turn the sum -/
theorem crc_turned (S : List UInt8) (o x r j : Nat) (h : o + 5 ≤ S.length) (hx : x = 2 ^ j * r) (hr0 : r ≠ 0) (hr : r < 2 ^ 32) (hj : j < 8) : crc S ≠ crc (tw S o x 5) := by
  obtain ⟨p, a, b, c, d, e, q, rfl, hp⟩ := cut3 S o h
  rw [tw_five p a b c d e q o x hp]
  have h40 : x < 256 ^ 5 := by
    have : (2 : Nat) ^ j ≤ 2 ^ 7 := Nat.pow_le_pow_right (by decide) (by omega)
    have h2 : 2 ^ j * r ≤ 2 ^ 7 * r := Nat.mul_le_mul_right _ this
    rw [hx]
    have : (256 : Nat) ^ 5 = 1099511627776 := by decide
    rw [this]
    omega
  refine crc_burst p _ _ q rfl r j ?_ hr0 hr (by simp; omega)
  rw [← hx]
  refine val_turned _ _ x rfl ?_ h40
  intro i hi
  simp only [List.length_cons, List.length_nil] at hi
  match i, hi with
  | 0, _ => rfl
  | 1, _ => rfl
  | 2, _ => rfl
  | 3, _ => rfl
  | 4, _ => rfl
end Bq
