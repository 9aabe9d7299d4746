import Derived.Test.YtmpkcehjmjopdaaSlotD

namespace Go.Proofs.Ytmpkcehjmjopdaa
open Go.RowKit
theorem ok_of_chk {x : Sl} {h g : Int} (h1 : 1 ≤ h ∧ h ≤ 16) (h2 : 1 ≤ g ∧ g ≤ 65535) : x.ok h g = x.chk := by
  unfold Sl.ok inb
  simp [h1.1, h1.2, h2.1, h2.2]
section
attribute [local go_sem ↓] ld37 st37
attribute [local go_sem] st_new

set_option maxRecDepth 100000 in
set_option maxHeartbeats 2000000 in
theorem slotBack_no (house gen : Int) (x : Sl) (bit : Int) (w : World) (hx : x.chk = false) :
    Calls Try.prog 8 #[.int .i64 house, .int .i64 gen, .agg x.cells, .int .i64 bit] w fun e w' => e = .returned (.bool true) ∧ Below w.heap.size w w' := by
  have hB : Blk (w.alloc (.cells x.cells 37)) w.heap.size 37 x.cells := Blk.new w 37 _
  have hW : Below w.heap.size w (w.alloc (.cells x.cells 37)) := (Below.refl _ w).alloc (Nat.le_refl _) _
  have HX := Lib.hid hx
  clear hx
  go_enter Try.func8, Try.ntmps8
  go_wp2_with fail
  refine (place_any house 16 _ (by omega) (by omega)).mono ?_
  rintro e w1 ⟨rfl, rfl⟩
  have p0 := plc_nonneg house (n := 16) (by omega)
  have p1 := plc_lt house (n := 16) (by omega)
  generalize plc house 16 = h at *
  go_wp2_with fail
  refine (place_any gen 65535 _ (by omega) (by omega)).mono ?_
  rintro e w1 ⟨rfl, rfl⟩
  have p2 := plc_nonneg gen (n := 65535) (by omega)
  have p3 := plc_lt gen (n := 65535) (by omega)
  generalize plc gen 65535 = g at *
  have hld := run_ldB hB
  go_wp2_with fail
  refine (slotput_any x (1 + h) (1 + g) _).mono ?_
  rintro e w1 ⟨ok, L, rfl, hok, hL1, hL0, hb1⟩
  have hok2 : Hid (ok = false) := by show _ = _; rw [hok.out, ok_of_chk (by omega) (by omega), HX.out]
  have hB1 := hB.beyond hb1
  have hW1 := below2 hW hb1
  have hld := run_ldB hB1
  obtain rfl := hok2.out
  obtain rfl := hL0.out rfl
  clear hok hL1 hL0 hok2 hb1
  go_wp2_with fail
  refine (checkX x _).mono ?_
  rintro e w2 ⟨rfl, hb2⟩
  rw [HX.out]
  go_wp2_with fail
  refine (slotawake_any _).mono ?_
  rintro e w3 ⟨rfl, hb3⟩
  go_wp2_with fail
  go_ret
  exact ⟨rfl, below3 hW1 hb2 hb3⟩
end

/-- block g is just these cells, with a mark -/
def BlkF (w : World) (g : Nat) (t : TypeId) (cs : Array Value) (fr : Nat × Nat) : Prop := w.heap[g]? = some (.cells cs t fr)
theorem BlkF.lt {w : World} {g : Nat} {t : TypeId} {cs : Array Value} {fr : Nat × Nat} (h : BlkF w g t cs fr) : g < w.heap.size := by
  rcases Nat.lt_or_ge g w.heap.size with hlt | hge
  · exact hlt
  · unfold BlkF at h; rw [Array.getElem?_eq_none hge] at h; cases h
theorem BlkF.cell {w : World} {g : Nat} {t : TypeId} {cs : Array Value} {fr : Nat × Nat} (h : BlkF w g t cs fr) (i : Nat) : w.cell? ⟨g, i, none⟩ = cs[i]? := cell_of_row w g i cs t fr h
theorem BlkF.frozen {w : World} {g : Nat} {t : TypeId} {cs : Array Value} {a b : Nat} (h : BlkF w g t cs (a, b)) {i : Nat} (hi : i < a) : w.frozen? ⟨g, i, none⟩ = false := by
  unfold BlkF at h
  simp [World.frozen?, h]
  omega
theorem BlkF.set_ {w : World} {g : Nat} {t : TypeId} {cs : Array Value} {fr : Nat × Nat} (h : BlkF w g t cs fr) (i : Nat) (u : Value) : BlkF (w.setCell ⟨g, i, none⟩ u) g t (cs.setIfInBounds i u) fr := by
  unfold BlkF at h ⊢
  simp [World.setCell, Array.getElem?_modify, h]
theorem BlkF.beyond {w w' : World} {g : Nat} {t : TypeId} {cs : Array Value} {fr : Nat × Nat} (h : BlkF w g t cs fr) (hb : Below w.heap.size w w') : BlkF w' g t cs fr := (hb.block g h.lt).trans h
theorem bytes_blk (w : World) (s : ByteArray) : ∃ z n, s.size ≤ n ∧ BlkF (Lib.bytesWorld w 5 s) w.heap.size 5 ((bcells s.data.toList).toArray ++ z) (n, n + 1) := by
  have e : Lib.bytesCells w 5 s = (bcells s.data.toList).toArray ++ Array.replicate (grownCap w s.size 0 5 - s.size) (.int .u8 0) := by
    unfold Lib.bytesCells bcells
    congr 1
    apply Array.ext <;> simp
  refine ⟨Array.replicate (grownCap w s.size 0 5 - s.size) (.int .u8 0), (Lib.bytesCells w 5 s).size, by simp [Lib.bytesCells], ?_⟩
  have := Lib.bytesWorld_at_new w 5 s
  rwa [e] at this ⊢
theorem conv_blkF {W : World} {g : Nat} {t : TypeId} {l : List UInt8} {x : Array Value} {fr : Nat × Nat} (h : BlkF W g t ((bcells l).toArray ++ x) fr) (cap : Nat) :
    (convert 27 9 (.slice (some ⟨g, 0, none⟩) l.length cap)).run Try.prog W = .ok (.string ⟨l.toArray⟩) W :=
  conv_cells (fun i hi => by rw [h.cell, Nat.zero_add, bcells_get l i hi]) cap

theorem shl_one (j : Nat) (hj : j < 8) : ((2 : Int) ^ j % 256) = ((UInt8.ofNat (2 ^ j)).toNat : Int) := by
  have : j = 0 ∨ j = 1 ∨ j = 2 ∨ j = 3 ∨ j = 4 ∨ j = 5 ∨ j = 6 ∨ j = 7 := by omega
  rcases this with rfl | rfl | rfl | rfl | rfl | rfl | rfl | rfl <;> rfl
theorem flip_bits (c : UInt8) (j : Nat) (hj : j < 8) : bits .xor .u8 (c.toNat : Int) ((2 : Int) ^ j % 256) = ((flip c j).toNat : Int) := by
  rw [shl_one j hj, u8_xor_nat _ _ c.toNat_lt (UInt8.toNat_lt _)]
  unfold flip
  rw [UInt8.toNat_xor]

theorem long_len (L : List UInt8) : ((⟨L.toArray⟩ : ByteArray) ++ ⟨#[120]⟩).data.toList.length = L.length + 1 := by simp
theorem long_not (L : List UInt8) (h : 256 ≤ L.length) : ¬ Summed ((⟨L.toArray⟩ : ByteArray) ++ ⟨#[120]⟩).data.toList := by
  intro hc
  have h1 := hc.length
  rw [long_len] at h1
  omega
theorem long_size (L : List UInt8) (h : L.length ≤ 256) : ((⟨L.toArray⟩ : ByteArray) ++ ⟨#[120]⟩).size ≤ 4611686018427387904 := by
  have h2 : ((⟨L.toArray⟩ : ByteArray) ++ ⟨#[120]⟩).data.toList.length = ((⟨L.toArray⟩ : ByteArray) ++ ⟨#[120]⟩).size := rfl
  rw [long_len] at h2
  omega
section
attribute [local go_sem ↓] ld37 st37
attribute [local go_sem] st_new
set_option maxRecDepth 100000 in
set_option maxHeartbeats 800000 in
theorem slotBack_yes (house gen : Int) (x : Sl) (bit : Int) (w : World) (hx : x.chk = true) :
    Calls Try.prog 8 #[.int .i64 house, .int .i64 gen, .agg x.cells, .int .i64 bit] w fun e w' => e = .returned (.bool true) ∧ Below w.heap.size w w' := by
  have hB : Blk (w.alloc (.cells x.cells 37)) w.heap.size 37 x.cells := Blk.new w 37 _
  have hW : Below w.heap.size w (w.alloc (.cells x.cells 37)) := (Below.refl _ w).alloc (Nat.le_refl _) _
  have HX := Lib.hid hx
  clear hx
  go_enter Try.func8, Try.ntmps8
  go_wp2_with fail
  refine (place_any house 16 _ (by omega) (by omega)).mono ?_
  rintro e w1 ⟨rfl, rfl⟩
  have p0 := plc_nonneg house (n := 16) (by omega)
  have p1 := plc_lt house (n := 16) (by omega)
  generalize plc house 16 = h at *
  go_wp2_with fail
  refine (place_any gen 65535 _ (by omega) (by omega)).mono ?_
  rintro e w1 ⟨rfl, rfl⟩
  have p2 := plc_nonneg gen (n := 65535) (by omega)
  have p3 := plc_lt gen (n := 65535) (by omega)
  generalize plc gen 65535 = g at *
  have hld := run_ldB hB
  go_wp2_with fail
  refine (slotput_any x (1 + h) (1 + g) _).mono ?_
  rintro e w1 ⟨ok, L, rfl, hok, hL1, hL0, hb1⟩
  have hok2 : Hid (ok = true) := by show _ = _; rw [hok.out, ok_of_chk (by omega) (by omega), HX.out]
  have hB1 := hB.beyond hb1
  have hW1 := below2 hW hb1
  have hld := run_ldB hB1
  obtain rfl := hok2.out
  have hLL := hL1.out rfl
  have HOK : Hid (x.ok (1 + h) (1 + g) = true) := hok.out.symm
  have HG : Hid (slGot L = .tuple #[.int .i64 (1 + h), .int .i64 (1 + g), .agg x.cells, .bool true]) := by show _ = _; rw [hLL]; exact slGot_block HOK.out
  have HS : Hid (Summed L) := by show Summed L; rw [hLL]; exact slot_summed _ _ _
  have hlen : L.length = 256 := HS.out.length
  have HL := Lib.hid hlen
  have hll : L.length ≤ 256 ∧ 256 ≤ L.length := by omega
  obtain ⟨hll1, hll2⟩ := hll
  clear hok hL1 hL0 hok2 hb1 hLL hlen
  go_wp2_with fail
  refine (checkX x _).mono ?_
  rintro e w2 ⟨rfl, hb2⟩
  rw [HX.out]
  have hB2 := hB1.beyond hb2
  have hW2 := below2 hW1 hb2
  clear hB hB1 hW hW1 hb2 hld
  go_wp2_with fail
  refine (slotget_any ⟨L.toArray⟩ _ (by show L.toArray.size ≤ _; simp; omega)).mono ?_
  rintro e w3 ⟨rfl, hb3⟩
  rw [show (⟨L.toArray⟩ : ByteArray).data.toList = L from rfl, HG.out]
  have hB3 := (hB2.beyond hb3).alloc (.cells x.cells 37)
  have hW3 := (below2 hW2 hb3).alloc (below2 hW2 hb3).size (.cells x.cells 37)
  have hY3 := Blk.new w3 37 x.cells
  have hld1 := run_ldB hB3
  have hld2 := run_ldB hY3
  clear hb3 hW2 hB2
  go_wp2_with fail
  refine (same_yes x _).mono ?_
  rintro e w4 ⟨rfl, hb4⟩
  have hW4 := hW3.trans (hb4.mono hW3.size)
  clear hB3 hY3 hld1 hld2 hW3 hb4
  have hlb : ((L.length : Int) != 256) = false := by simp; omega
  have hcv := Lib.run_convert_string_bytes (P := Try.prog) w4 9 27 5 ⟨L.toArray⟩ Try.underlying9 Try.underlying27 Try.underlying5
  obtain ⟨z, n, hn, hBF⟩ := bytes_blk w4 ⟨L.toArray⟩
  have hW5 := below2 hW4 (bytesWorld_below w4 5 ⟨L.toArray⟩)
  go_wp2_with fail
  refine (place_any bit _ _ (by omega) (by omega)).mono ?_
  rintro e w1 ⟨rfl, rfl⟩
  have q0 := plc_nonneg bit (n := 8 * (L.length : Int)) (by omega)
  have q1 := plc_lt bit (n := 8 * (L.length : Int)) (by omega)
  generalize plc bit (8 * (L.length : Int)) = k at *
  obtain ⟨k, rfl⟩ := Int.eq_ofNat_of_zero_le q0
  clear q0 hcv
  have hn2 : 256 ≤ n := by
    have : (⟨L.toArray⟩ : ByteArray).size = L.length := by show L.toArray.size = _; simp
    omega
  clear hn
  have hk8 : k / 8 < L.length := by omega
  have hk256 : k / 8 < 256 := by omega
  have hG4 : w.heap.size ≤ w4.heap.size := hW4.size
  generalize Lib.bytesWorld w4 5 ⟨L.toArray⟩ = v5 at *
  have c1 := hBF.cell (k / 8)
  rw [bcells_get L _ hk8] at c1
  have f1 := hBF.frozen (i := k / 8) (by omega)
  have hst := hBF.set_ (k / 8) (.int .u8 (flip (L.getD (k / 8) 0) (k % 8)).toNat)
  rw [bcells_set L _ hk8] at hst
  have hW6 := hW5.setCell (p := ⟨w4.heap.size, k / 8, none⟩) hG4 (.int .u8 (flip (L.getD (k / 8) 0) (k % 8)).toNat)
  have HT : Hid (¬ Summed (L.set (k / 8) (flip (L.getD (k / 8) 0) (k % 8)))) := summed_flip HS.out hk256 (by omega)
  have hTl : Hid ((L.set (k / 8) (flip (L.getD (k / 8) 0) (k % 8))).length = L.length) := by show _ = _; simp
  have hfb := flip_bits (L.getD (k / 8) 0) (k % 8) (by omega)
  generalize L.set (k / 8) (flip (L.getD (k / 8) 0) (k % 8)) = T at *
  generalize flip (L.getD (k / 8) 0) (k % 8) = d at *
  generalize L.getD (k / 8) 0 = c at *
  have hcl := c.toNat_lt
  have hcvT : ∀ cap, (convert 27 9 (.slice (some ⟨w4.heap.size, 0, none⟩) L.length cap)).run Try.prog (v5.setCell ⟨w4.heap.size, k / 8, none⟩ (.int .u8 (d.toNat : Int))) = .ok (.string ⟨T.toArray⟩) (v5.setCell ⟨w4.heap.size, k / 8, none⟩ (.int .u8 (d.toNat : Int))) := by
    intro cap
    rw [← hTl.out]
    exact conv_blkF hst cap
  clear hst hBF
  go_wp2_with fail
  clear hcvT
  generalize v5.setCell ⟨w4.heap.size, k / 8, none⟩ (.int .u8 (d.toNat : Int)) = v6 at *
  refine (slotget_any ⟨T.toArray⟩ _ (by show T.toArray.size ≤ _; simp [hTl.out]; omega)).mono ?_
  rintro e w7 ⟨rfl, hb7⟩
  rw [show (⟨T.toArray⟩ : ByteArray).data.toList = T from rfl, slGot_bad HT.out]
  have hW7 := (below2 hW6 hb7).alloc (below2 hW6 hb7).size (.cells slZero.cells 37)
  clear hb7 hW6 hW5 hW4 HT hTl hfb c1 f1
  have hs1 : ((⟨L.toArray⟩ : ByteArray).extract 0 (k / 8)).size ≤ 255 := by
    simp
    show min (k / 8) L.toArray.size ≤ 255
    simp; omega
  have hn1 : ¬ Summed ((⟨L.toArray⟩ : ByteArray).extract 0 (k / 8)).data.toList := by
    intro hc
    have h1 := hc.length
    have h2 : ((⟨L.toArray⟩ : ByteArray).extract 0 (k / 8)).data.toList.length = ((⟨L.toArray⟩ : ByteArray).extract 0 (k / 8)).size := rfl
    omega
  go_wp2_with fail
  refine (slotget_any ((⟨L.toArray⟩ : ByteArray).extract 0 (k / 8)) _ (by omega)).mono ?_
  rintro e w8 ⟨rfl, hb8⟩
  rw [slGot_bad hn1]
  have hW8 := (hW7.trans (hb8.mono hW7.size)).alloc (hW7.trans (hb8.mono hW7.size)).size (.cells slZero.cells 37)
  clear hb8 hs1 hn1 hW7
  go_wp2_with fail
  have hn2 := long_not L hll2
  have hs2 := long_size L hll1
  have key := slotget_any ((⟨L.toArray⟩ : ByteArray) ++ ⟨#[120]⟩) (w8.alloc (.cells slZero.cells 37)) hs2
  rw [slGot_bad hn2] at key
  refine key.mono ?_
  clear key hs2 hn2
  rintro e w9 ⟨rfl, hb9⟩
  have hW9 := (hW8.trans (hb9.mono hW8.size)).alloc (hW8.trans (hb9.mono hW8.size)).size (.cells slZero.cells 37)
  clear hb9 hW8
  go_wp2_with fail
  refine (slotawake_any _).mono ?_
  rintro e wz ⟨rfl, hbz⟩
  go_wp2_with fail
  go_ret
  have fin := below2 hW9 hbz
  exact ⟨rfl, fin⟩
end

theorem slotBack_walk (house gen : Int) (x : Sl) (bit : Int) (w : World) :
    Calls Try.prog 8 #[.int .i64 house, .int .i64 gen, .agg x.cells, .int .i64 bit] w fun e w' => e = .returned (.bool true) ∧ Below w.heap.size w w' := by
  cases hx : x.chk
  · exact slotBack_no house gen x bit w hx
  · exact slotBack_yes house gen x bit w hx
end Go.Proofs.Ytmpkcehjmjopdaa
