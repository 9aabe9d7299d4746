import Derived.Test.YtmpkcehjmjopdaaBin
namespace Go.Proofs.Ytmpkcehjmjopdaa

theorem val_append (l m : List UInt8) : Bq.val (l ++ m) = Bq.val l + 256 ^ l.length * Bq.val m := by
  induction l with
  | nil => simp [Bq.val]
  | cons c l ih => simp only [List.cons_append, Bq.val, ih, List.length_cons, Nat.pow_succ]; rw [Nat.mul_add, Nat.add_assoc, Nat.mul_comm (256 ^ l.length) 256, Nat.mul_assoc]
theorem val_les (v n : Nat) : Bq.val (les v n) = v % 256 ^ n := by
  induction n with
  | zero => simp [les, Bq.val, Nat.mod_one]
  | succ n ih =>
    simp only [les, val_append, ih, les_length, Bq.val, les_byte]
    rw [Nat.pow_succ, Nat.mod_mul, Nat.mul_zero, Nat.add_zero]
theorem les_inj {a b n : Nat} (ha : a < 256 ^ n) (hb : b < 256 ^ n) (h : les a n = les b n) : a = b := by
  have := congrArg Bq.val h
  rwa [val_les, val_les, Nat.mod_eq_of_lt ha, Nat.mod_eq_of_lt hb] at this
theorem num_at {l p q r : List UInt8} {a n : Nat} (h : l = p ++ (q ++ r)) (hp : p.length = a) (hq : q.length = n) : num l a n = Bq.val q := by
  subst h hp hq
  unfold num
  rw [if_pos (by simp)]
  simp
theorem num_les {l p r : List UInt8} {a n v : Nat} (h : l = p ++ (les v n ++ r)) (hp : p.length = a) (hv : v < 256 ^ n) : num l a n = v := by
  rw [num_at h hp (les_length v n), val_les, Nat.mod_eq_of_lt hv]

/-- 252 bytes and their sum -/
def Summed (l : List UInt8) : Prop := ∃ b : List UInt8, b.length = 252 ∧ l = b ++ les (Bq.crc b) 4
theorem Summed.length {l : List UInt8} (h : Summed l) : l.length = 256 := by
  obtain ⟨b, hb, rfl⟩ := h
  rw [List.length_append, hb, les_length]

/-- a byte of which one bit is turned -/
def flip (c : UInt8) (j : Nat) : UInt8 := c ^^^ UInt8.ofNat (2 ^ j)
theorem flip_nat (c : UInt8) {j : Nat} (hj : j < 8) : c.toNat ^^^ (flip c j).toNat = 2 ^ j := by
  have : 2 ^ j < 256 := Nat.lt_of_le_of_lt (Nat.pow_le_pow_right (by decide) (show j ≤ 7 by omega)) (by decide)
  unfold flip
  rw [UInt8.toNat_xor, UInt8.toNat_ofNat', ← Nat.xor_assoc, Nat.xor_self, Nat.zero_xor]
  exact Nat.mod_eq_of_lt this
theorem flip_ne (c : UInt8) {j : Nat} (hj : j < 8) : flip c j ≠ c := by
  intro h
  have := flip_nat c hj
  rw [h, Nat.xor_self] at this
  have h2 := Nat.two_pow_pos j
  omega

theorem split_at (l : List UInt8) (i : Nat) (h : i < l.length) : ∃ p q, l = p ++ l.getD i 0 :: q ∧ p.length = i := by
  refine ⟨l.take i, l.drop (i + 1), ?_, by simp; omega⟩
  have : l.drop i = l.getD i 0 :: l.drop (i + 1) := by
    rw [List.drop_eq_getElem_cons h]; simp [List.getD, h]
  rw [← this, List.take_append_drop]

/-- a bit that is turned: it is no longer summed -/
theorem summed_flip {s : List UInt8} (hs : Summed s) {i j : Nat} (hi : i < 256) (hj : j < 8) : ¬ Summed (s.set i (flip (s.getD i 0) j)) := by
  obtain ⟨b, hb, rfl⟩ := hs
  rintro ⟨b', hb', he⟩
  by_cases h : i < 252
  · have hbl : i < b.length := by omega
    rw [List.set_append_left _ _ hbl] at he
    have hg : (b ++ les (Bq.crc b) 4).getD i 0 = b.getD i 0 := by simp [List.getD, List.getElem?_append_left hbl]
    rw [hg] at he
    have hlen : (b.set i (flip (b.getD i 0) j)).length = b'.length := by rw [List.length_set, hb, hb']
    obtain ⟨h1, h2⟩ := List.append_inj he hlen
    have hc := les_inj (Bq.crc_lt b) (Bq.crc_lt b') h2
    rw [← h1] at hc
    obtain ⟨p, q, hpq, hp⟩ := split_at b i hbl
    generalize b.getD i 0 = c at *
    subst hp
    subst hpq
    rw [List.set_append_right _ _ (Nat.le_refl _), Nat.sub_self, List.set_cons_zero] at hc
    exact Bq.crc_bit p q c (flip c j) j hj (flip_nat c hj) hc
  · have hbl : b.length ≤ i := by omega
    rw [List.set_append_right _ _ hbl] at he
    obtain ⟨h1, h2⟩ := List.append_inj he (by rw [hb, hb'])
    subst h1
    have hil : i - b.length < (les (Bq.crc b) 4).length := by rw [les_length]; omega
    have h3 := congrArg (fun l => l.getD (i - b.length) 0) h2
    have hg : (b ++ les (Bq.crc b) 4).getD i 0 = (les (Bq.crc b) 4).getD (i - b.length) 0 := by simp [List.getD, List.getElem?_append_right hbl]
    rw [hg] at h3
    generalize les (Bq.crc b) 4 = m at *
    simp only [List.getD, List.getElem?_set_self hil, Option.getD_some] at h3
    exact flip_ne _ hj h3
end Go.Proofs.Ytmpkcehjmjopdaa
