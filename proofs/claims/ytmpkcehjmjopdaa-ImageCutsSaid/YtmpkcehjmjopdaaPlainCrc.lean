namespace Bq

/-- the polynomial of the sum -/
def poly : Nat := 0xEDB88320
/-- one bit shifted out -/
def T (v : Nat) : Nat := v / 2 ^^^ (if v % 2 = 1 then poly else 0)
/-- so many bits shifted out -/
def It : Nat → Nat → Nat
  | 0, v => v
  | n + 1, v => It n (T v)

theorem xor_lc (a b c : Nat) : a ^^^ (b ^^^ c) = b ^^^ (a ^^^ c) := by
  rw [← Nat.xor_assoc, Nat.xor_comm a b, Nat.xor_assoc]
theorem xor_zero_iff (a b : Nat) : a ^^^ b = 0 ↔ a = b := by
  constructor
  · intro h
    have : a ^^^ b ^^^ b = b := by rw [h, Nat.zero_xor]
    rwa [Nat.xor_assoc, Nat.xor_self, Nat.xor_zero] at this
  · rintro rfl; exact Nat.xor_self _
theorem xor_cancel (a b c : Nat) (h : a ^^^ c = b ^^^ c) : a = b := by
  have : a ^^^ c ^^^ c = b ^^^ c ^^^ c := by rw [h]
  simpa [Nat.xor_assoc] using this

theorem poly_lt : poly < 2 ^ 32 := by decide
theorem T_zero : T 0 = 0 := by decide
theorem T_lt {v : Nat} (h : v < 2 ^ 32) : T v < 2 ^ 32 := by
  unfold T
  apply Nat.xor_lt_two_pow
  · omega
  · split
    · exact poly_lt
    · decide
theorem T_xor (a b : Nat) : T (a ^^^ b) = T a ^^^ T b := by
  unfold T
  rw [Nat.xor_div_two]
  have hm := @Nat.xor_mod_two_eq_one a b
  by_cases ha : a % 2 = 1 <;> by_cases hb : b % 2 = 1 <;> simp only [ha, hb, hm] <;> simp
  · rw [Nat.xor_assoc, xor_lc poly, Nat.xor_self, Nat.xor_zero]
  · rw [Nat.xor_assoc, Nat.xor_comm (b / 2), Nat.xor_assoc]
  · rw [Nat.xor_assoc]
theorem T_ne {v : Nat} (h : v < 2 ^ 32) (hv : v ≠ 0) : T v ≠ 0 := by
  unfold T
  by_cases hm : v % 2 = 1
  · rw [if_pos hm]
    intro he
    have := (xor_zero_iff _ _).1 he
    have hp : poly = 3988292384 := rfl
    omega
  · rw [if_neg hm, Nat.xor_zero]; omega
theorem T_double (x : Nat) : T (2 * x) = x := by
  unfold T
  rw [if_neg (by omega), Nat.xor_zero]; omega

theorem It_zero (n : Nat) : It n 0 = 0 := by
  induction n with
  | zero => rfl
  | succ n ih => simp only [It]; rw [T_zero, ih]
theorem It_lt (n : Nat) : ∀ {v : Nat}, v < 2 ^ 32 → It n v < 2 ^ 32 := by
  induction n with
  | zero => exact fun h => h
  | succ n ih => intro v h; exact ih (T_lt h)
theorem It_xor (n : Nat) : ∀ (a b : Nat), It n (a ^^^ b) = It n a ^^^ It n b := by
  induction n with
  | zero => exact fun _ _ => rfl
  | succ n ih => intro a b; simp only [It]; rw [T_xor, ih]
theorem It_ne (n : Nat) : ∀ {v : Nat}, v < 2 ^ 32 → v ≠ 0 → It n v ≠ 0 := by
  induction n with
  | zero => exact fun _ h => h
  | succ n ih => intro v h hv; exact ih (T_lt h) (T_ne h hv)
theorem It_shift (n : Nat) : ∀ (x : Nat), It n (2 ^ n * x) = x := by
  induction n with
  | zero => intro x; simp [It]
  | succ n ih =>
    intro x
    simp only [It]
    rw [show 2 ^ (n + 1) * x = 2 * (2 ^ n * x) by rw [Nat.pow_succ, Nat.mul_comm (2 ^ n) 2, Nat.mul_assoc], T_double, ih]
theorem It_add (m n : Nat) : ∀ (x : Nat), It (m + n) x = It n (It m x) := by
  induction m with
  | zero => intro x; simp [It]
  | succ m ih => intro x; rw [Nat.succ_add]; simp only [It]; rw [ih]
theorem It_inj (n : Nat) {a b : Nat} (ha : a < 2 ^ 32) (hb : b < 2 ^ 32) (h : It n a = It n b) : a = b := by
  have hx : It n (a ^^^ b) = 0 := by rw [It_xor, h, Nat.xor_self]
  by_cases hz : a ^^^ b = 0
  · exact (xor_zero_iff _ _).1 hz
  · exact absurd hx (It_ne n (Nat.xor_lt_two_pow ha hb) hz)

/-- bytes taken in -/
def upd : Nat → List UInt8 → Nat
  | v, [] => v
  | v, c :: l => upd (It 8 (v ^^^ c.toNat)) l
/-- the number of bytes, the lowest first -/
def val : List UInt8 → Nat
  | [] => 0
  | c :: l => c.toNat + 256 * val l

theorem byte_lt (c : UInt8) : c.toNat < 2 ^ 32 := Nat.lt_trans c.toNat_lt (by decide)
theorem upd_append (l m : List UInt8) : ∀ v, upd v (l ++ m) = upd (upd v l) m := by
  induction l with
  | nil => exact fun _ => rfl
  | cons c l ih => intro v; simp only [List.cons_append, upd]; rw [ih]
theorem upd_lt (l : List UInt8) : ∀ {v : Nat}, v < 2 ^ 32 → upd v l < 2 ^ 32 := by
  induction l with
  | nil => exact fun h => h
  | cons c l ih => intro v h; exact ih (It_lt 8 (Nat.xor_lt_two_pow h (byte_lt c)))
theorem upd_inj (l : List UInt8) : ∀ {a b : Nat}, a < 2 ^ 32 → b < 2 ^ 32 → upd a l = upd b l → a = b := by
  induction l with
  | nil => exact fun _ _ h => h
  | cons c l ih =>
    intro a b ha hb h
    have hc := byte_lt c
    have := ih (It_lt 8 (Nat.xor_lt_two_pow ha hc)) (It_lt 8 (Nat.xor_lt_two_pow hb hc)) h
    exact xor_cancel _ _ _ (It_inj 8 (Nat.xor_lt_two_pow ha hc) (Nat.xor_lt_two_pow hb hc) this)
theorem low_xor (c : UInt8) (y : Nat) : c.toNat + 256 * y = c.toNat ^^^ 256 * y := by
  have h := c.toNat_lt
  apply Nat.eq_of_testBit_eq
  intro i
  rw [Nat.testBit_xor, Nat.add_comm, show 256 * y = 2 ^ 8 * y from rfl, Nat.testBit_two_pow_mul_add y (by simpa using h), Nat.testBit_two_pow_mul]
  by_cases hi : i < 8
  · simp [hi, Nat.not_le.2 hi]
  · have hc : c.toNat.testBit i = false := Nat.testBit_lt_two_pow (Nat.lt_of_lt_of_le h (Nat.pow_le_pow_right (by decide) (Nat.not_lt.1 hi)))
    simp [hi, Nat.not_lt.1 hi, hc]
theorem upd_val (l : List UInt8) : ∀ v, upd v l = It (8 * l.length) (v ^^^ val l) := by
  induction l with
  | nil => intro v; simp [upd, val, It]
  | cons c l ih =>
    intro v
    simp only [upd, val, List.length_cons]
    rw [ih, show 8 * (l.length + 1) = 8 + 8 * l.length by omega, It_add, low_xor, ← Nat.xor_assoc, It_xor 8 (v ^^^ c.toNat),
      show 256 * val l = 2 ^ 8 * val l from rfl, It_shift]
theorem val_lt (l : List UInt8) : val l < 2 ^ (8 * l.length) := by
  induction l with
  | nil => simp [val]
  | cons c l ih =>
    have h := c.toNat_lt
    simp only [val, List.length_cons]
    rw [show 8 * (l.length + 1) = 8 + 8 * l.length by omega, Nat.pow_add]
    omega
theorem val_inj (l : List UInt8) : ∀ {m : List UInt8}, l.length = m.length → val l = val m → l = m := by
  induction l with
  | nil => intro m hl _; cases m with
    | nil => rfl
    | cons _ _ => simp at hl
  | cons c l ih =>
    intro m hl h
    cases m with
    | nil => simp at hl
    | cons d m =>
      simp only [val] at h
      have h1 := c.toNat_lt
      have h2 := d.toNat_lt
      have e : c = d := UInt8.toNat_inj.1 (by omega)
      rw [e, ih (by simpa using hl) (by omega)]

/-- the sum of a text and another one -/
def more (sum : Nat) (l : List UInt8) : Nat := upd (sum ^^^ 4294967295) l ^^^ 4294967295
/-- the sum of a text -/
def crc (l : List UInt8) : Nat := more 0 l

theorem more_lt {s : Nat} (h : s < 2 ^ 32) (l : List UInt8) : more s l < 2 ^ 32 :=
  Nat.xor_lt_two_pow (upd_lt l (Nat.xor_lt_two_pow h (by decide))) (by decide)
theorem crc_lt (l : List UInt8) : crc l < 2 ^ 32 := more_lt (by decide) l
theorem more_append (s : Nat) (l m : List UInt8) : more (more s l) m = more s (l ++ m) := by
  unfold more
  rw [upd_append, Nat.xor_assoc, Nat.xor_self, Nat.xor_zero]
theorem more_crc (l m : List UInt8) : more (crc l) m = crc (l ++ m) := more_append 0 l m
theorem crc_nil : crc [] = 0 := by decide

/-- bits that are turned within 32 in a row turn the sum -/
theorem crc_burst (p u v q : List UInt8) (hl : u.length = v.length) (x j : Nat) (hx : val u ^^^ val v = 2 ^ j * x) (x0 : x ≠ 0) (x1 : x < 2 ^ 32)
    (hj : j ≤ 8 * u.length) : crc (p ++ (u ++ q)) ≠ crc (p ++ (v ++ q)) := by
  intro h
  unfold crc more at h
  have h1 := xor_cancel _ _ _ h
  simp only [upd_append] at h1
  generalize hs : upd (0 ^^^ 4294967295) p = s at h1
  have hsl : s < 2 ^ 32 := by rw [← hs]; exact upd_lt p (by decide)
  have h2 := upd_inj q (upd_lt u hsl) (upd_lt v hsl) h1
  rw [upd_val, upd_val, ← hl] at h2
  have h3 : It (8 * u.length) (val u ^^^ val v) = 0 := by
    have : It (8 * u.length) ((s ^^^ val u) ^^^ (s ^^^ val v)) = 0 := by rw [It_xor, h2, Nat.xor_self]
    rwa [Nat.xor_assoc, xor_lc (val u), ← Nat.xor_assoc, Nat.xor_self, Nat.zero_xor] at this
  rw [hx, show 8 * u.length = j + (8 * u.length - j) by omega, It_add, It_shift] at h3
  exact It_ne _ x1 x0 h3

/-- a bit of a byte that is turned turns the sum -/
theorem crc_bit (p q : List UInt8) (c d : UInt8) (j : Nat) (hj : j < 8) (hx : c.toNat ^^^ d.toNat = 2 ^ j) : crc (p ++ c :: q) ≠ crc (p ++ d :: q) :=
  crc_burst p [c] [d] q rfl 1 j (by simpa [val] using hx) (by decide) (by decide) (by simp; omega)

/-- short texts of one length have unlike sums -/
theorem crc_short (u v : List UInt8) (hl : u.length = v.length) (h4 : u.length ≤ 4) (h : crc u = crc v) : u = v := by
  by_cases hx : val u ^^^ val v = 0
  · exact val_inj u hl ((xor_zero_iff _ _).1 hx)
  · have hp : 2 ^ (8 * u.length) ≤ 2 ^ 32 := Nat.pow_le_pow_right (by decide) (by omega)
    have hu := val_lt u
    have hv := val_lt v
    rw [← hl] at hv
    have := crc_burst [] u v [] hl (val u ^^^ val v) 0 (by simp) hx (Nat.xor_lt_two_pow (by omega) (by omega)) (by omega)
    simp at this
    exact absurd h this
end Bq
