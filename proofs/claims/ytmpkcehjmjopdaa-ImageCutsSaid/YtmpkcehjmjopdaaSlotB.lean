import Derived.Test.YtmpkcehjmjopdaaSlotA
namespace Go.Proofs.Ytmpkcehjmjopdaa
open Go.RowKit

theorem Sl.chk_bounds {x : Sl} (h : x.chk = true) : (1 ≤ x.num ∧ x.num ≤ 1099511627776) ∧ (1 ≤ x.life ∧ x.life ≤ 1048575) ∧ (0 ≤ x.clock ∧ x.clock ≤ 1099511627776) ∧ (0 ≤ x.sb ∧ x.sb ≤ 1099511627777) ∧ (0 ≤ x.sn ∧ x.sn ≤ 1099511627777) ∧ (0 ≤ x.seg ∧ x.seg ≤ 65535) ∧ (0 ≤ x.next ∧ x.next ≤ 65535) ∧ (0 ≤ x.at_ ∧ x.at_ ≤ 64) ∧ (1 ≤ x.seq ∧ x.seq ≤ 1099511627776) ∧ (0 ≤ x.m0 ∧ x.m0 ≤ 16383) ∧ (0 ≤ x.m1 ∧ x.m1 ≤ 16383) ∧ (0 ≤ x.m2 ∧ x.m2 ≤ 16383) ∧ (0 ≤ x.m3 ∧ x.m3 ≤ 16383) := by
  simp [Sl.chk, Sl.chkA, Sl.maps, inb] at h
  omega

set_option maxRecDepth 100000 in
set_option maxHeartbeats 1000000 in
theorem slotput_no (h g num life clock seg at_ next seq m0 m1 m2 m3 sb sn : Int) (w : World) (hno : (inb h 1 16 && inb g 1 65535 && (Sl.mk num life clock seg at_ next seq m0 m1 m2 m3 sb sn).chk) = false) :
    Calls Try.prog 25 #[.int .i64 h, .int .i64 g, .agg (Sl.mk num life clock seg at_ next seq m0 m1 m2 m3 sb sn).cells] w fun e w' => e = .returned (.tuple #[.string ⟨#[]⟩, .bool false]) ∧ Below w.heap.size w w' := by
  have hca := check_any num life clock seg at_ next seq m0 m1 m2 m3 sb sn
  unfold Sl.cells at hca ⊢
  dsimp only at hca ⊢
  have Hca := Lib.hid hca
  clear hca
  have HW : Hid (Below w.heap.size w (w.alloc (.cells #[.int .i64 num, .int .i64 life, .int .i64 clock, .int .i64 seg, .int .i64 at_, .int .i64 next, .int .i64 seq, .int .i64 m0, .int .i64 m1, .int .i64 m2, .int .i64 m3, .int .i64 sb, .int .i64 sn] 37))) := (Below.refl _ w).alloc (Nat.le_refl _) _
  by_cases h1 : inb h 1 16 = true
  · by_cases h2 : inb g 1 65535 = true
    · have h3 : (Sl.mk num life clock seg at_ next seq m0 m1 m2 m3 sb sn).chk = false := by simpa [h1, h2] using hno
      clear hno
      generalize (Sl.mk num life clock seg at_ next seq m0 m1 m2 m3 sb sn).chk = c at *
      subst h3
      go_enter Try.func25, Try.ntmps25
      go_wp2_with fail
      refine (in_any _ _ _ _).mono ?_
      rintro e w' ⟨rfl, rfl⟩
      go_wp2_with fail
      refine (in_any _ _ _ _).mono ?_
      rintro e w' ⟨rfl, rfl⟩
      go_wp2_with fail
      refine (Hca.out _).mono ?_
      rintro e w' ⟨rfl, hb⟩
      go_wp2_with fail
      go_ret2
      exact ⟨rfl, below2 HW.out hb⟩
    · have h2 : inb g 1 65535 = false := by simpa using h2
      clear hno
      go_enter Try.func25, Try.ntmps25
      go_wp2_with fail
      refine (in_any _ _ _ _).mono ?_
      rintro e w' ⟨rfl, rfl⟩
      go_wp2_with fail
      refine (in_any _ _ _ _).mono ?_
      rintro e w' ⟨rfl, rfl⟩
      go_wp2_with fail
      go_ret2
      exact ⟨rfl, HW.out⟩
  · have h1 : inb h 1 16 = false := by simpa using h1
    clear hno
    go_enter Try.func25, Try.ntmps25
    go_wp2_with fail
    refine (in_any _ _ _ _).mono ?_
    rintro e w' ⟨rfl, rfl⟩
    go_wp2_with fail
    go_ret2
    exact ⟨rfl, HW.out⟩

theorem flat4 (ms : List Int) (k : Nat) (h : k < ms.length) : (ms.take (k + 1)).flatMap (fun m => les m.toNat 4) = (ms.take k).flatMap (fun m => les m.toNat 4) ++ les (ms.getD k 0).toNat 4 := by
  rw [List.take_succ_eq_append_getElem h, List.flatMap_append]
  simp [List.getD, h]
theorem les_zero : les 0 1 = [0] := by decide
theorem pad_next {L L' Lb : List UInt8} {k : Nat} (h : Hid (L = Lb ++ List.replicate (190 - k) 0)) (h' : Hid (L' = L ++ les (0 : Int).toNat 1)) (hl : L.length + k = 252) (hb : Lb.length = 62) (hk : ¬ k = 0) : Hid (L' = Lb ++ List.replicate (190 - (k - 1)) 0) := by
  show _ = _
  have hle : k ≤ 190 := by
    have := congrArg List.length h.out
    rw [List.length_append, List.length_replicate] at this
    omega
  rw [h'.out, show (0 : Int).toNat = 0 from rfl, les_zero, h.out, List.append_assoc, ← List.replicate_succ', show 190 - k + 1 = 190 - (k - 1) by omega]

theorem ret_two {a b : ByteArray} {t : Bool} (h : a = b) : Ending.returned (.tuple #[.string a, .bool t]) = .returned (.tuple #[.string b, .bool t]) := by rw [h]
theorem put_end {B L : List UInt8} {c : Nat} (h : Hid (B = L ++ les (Bq.crc L) 4)) (hc : Hid (c = Bq.crc L)) : (⟨L.toArray⟩ ++ ⟨(les c 4).toArray⟩ : ByteArray) = ⟨B.toArray⟩ := by
  rw [h.out, ← hc.out]
  apply ByteArray.ext
  simp
theorem binput4 (v : Nat) (w : World) (hv : v < 4294967296) :
    Calls Try.prog 58 #[.int .i64 v, .int .i64 4] w fun e w' => e = .returned (.string ⟨(les v 4).toArray⟩) ∧ Below w.heap.size w w' := binput_any v 4 w (by omega) (by omega) (by omega)
theorem ofL (L : List UInt8) (w : World) (hs : L.length ≤ 1000) :
    Calls Try.prog 19 #[.string ⟨L.toArray⟩] w fun e w' => ∃ c : Nat, e = .returned (.int .u32 c) ∧ Hid (c = Bq.crc L) ∧ c < 4294967296 ∧ Below w.heap.size w w' :=
  (of_any ⟨L.toArray⟩ w (by show L.toArray.size ≤ _; simp; omega)).mono fun _ _ ⟨h1, h2⟩ => ⟨_, h1, rfl, Bq.crc_lt _, h2⟩

set_option maxRecDepth 100000 in
set_option maxHeartbeats 4000000 in
theorem slotput_yes (h g num life clock seg at_ next seq m0 m1 m2 m3 sb sn : Int) (w : World) (hh : inb h 1 16 = true) (hg : inb g 1 65535 = true) (hx : (Sl.mk num life clock seg at_ next seq m0 m1 m2 m3 sb sn).chk = true) :
    Calls Try.prog 25 #[.int .i64 h, .int .i64 g, .agg (Sl.mk num life clock seg at_ next seq m0 m1 m2 m3 sb sn).cells] w fun e w' => e = .returned (.tuple #[.string ⟨((Sl.mk num life clock seg at_ next seq m0 m1 m2 m3 sb sn).block h g).toArray⟩, .bool true]) ∧ Below w.heap.size w w' := by
  have hca := check_any num life clock seg at_ next seq m0 m1 m2 m3 sb sn
  have hmf : ∀ (fn : Fn) (first cap : Array Value) (w : World), (Instr.makeFunc fn first cap).run Try.prog w = .ok (.func fn first cap) w := fun _ _ _ _ => rfl
  have Hidx := Lib.hid (idx4 m0 m1 m2 m3)
  obtain ⟨⟨a1, b1⟩, ⟨a2, b2⟩, ⟨a3, b3⟩, ⟨a4, b4⟩, ⟨a5, b5⟩, ⟨a6, b6⟩, ⟨a7, b7⟩, ⟨a8, b8⟩, ⟨a9, b9⟩, ⟨a10, b10⟩, ⟨a11, b11⟩, ⟨a12, b12⟩, ⟨a13, b13⟩⟩ := Sl.chk_bounds hx
  dsimp only at a1 b1 a2 b2 a3 b3 a4 b4 a5 b5 a6 b6 a7 b7 a8 b8 a9 b9 a10 b10 a11 b11 a12 b12 a13 b13
  obtain ⟨ha, hb⟩ := inb_true hh
  obtain ⟨ga, gb⟩ := inb_true hg
  have HT : Hid ((Sl.mk num life clock seg at_ next seq m0 m1 m2 m3 sb sn).text h g = [66, 71, 83, 76] ++ les h.toNat 1 ++ les g.toNat 2 ++ les num.toNat 6 ++ les life.toNat 3 ++ les clock.toNat 6 ++ les seg.toNat 2 ++ les at_.toNat 2 ++ les next.toNat 2 ++ les seq.toNat 6 ++ [m0, m1, m2, m3].flatMap (fun m => les m.toNat 4) ++ les sb.toNat 6 ++ les sn.toNat 6) := by
    show _ = _
    simp [Sl.text]
  have HX := Lib.hid hx
  clear hx
  unfold Sl.cells at hca ⊢
  dsimp only at hca ⊢
  rw [HX.out] at hca
  have Hca := Lib.hid hca
  clear hca
  have HW : Hid (Below w.heap.size w (w.alloc (.cells #[.int .i64 num, .int .i64 life, .int .i64 clock, .int .i64 seg, .int .i64 at_, .int .i64 next, .int .i64 seq, .int .i64 m0, .int .i64 m1, .int .i64 m2, .int .i64 m3, .int .i64 sb, .int .i64 sn] 37))) := (Below.refl _ w).alloc (Nat.le_refl _) _
  go_enter Try.func25, Try.ntmps25
  go_wp2_with fail
  refine (in_any _ _ _ _).mono ?_
  rintro e w' ⟨rfl, rfl⟩
  go_wp2_with fail
  refine (in_any _ _ _ _).mono ?_
  rintro e w' ⟨rfl, rfl⟩
  go_wp2_with fail
  refine (Hca.out _).mono ?_
  rintro e wc ⟨rfl, hbc⟩
  have hX : Blk wc w.heap.size 37 (Sl.mk num life clock seg at_ next seq m0 m1 m2 m3 sb sn).cells := (Blk.new w 37 _).beyond hbc
  have hWc := below2 HW.out hbc
  have hlt : w.heap.size < wc.heap.size := hX.lt
  have hX0 := hX.alloc (.cells #[.string ⟨[66, 71, 83, 76].toArray⟩] 9)
  have HB0 := Blk.new wc 9 #[.string ⟨[66, 71, 83, 76].toArray⟩]
  have hG0 : Below wc.heap.size wc (wc.alloc (.cells #[.string ⟨[66, 71, 83, 76].toArray⟩] 9)) := (Below.refl _ wc).alloc (Nat.le_refl _) _
  clear hbc Hca HW hh hg hX
  go_wp2_with fail

  refine (putL h 1 wc.heap.size [66, 71, 83, 76] _ (by omega) (by omega) (by omega) (by omega) HB0 (by decide)).mono ?_
  rintro e w1 ⟨rfl, L1, HL1, hl1, hbel1, HB1⟩
  have ll1 : L1.length ≤ 5 := by rw [hl1]; decide
  have hX1 := hX0.below hbel1 hlt
  have hG1 := hG0.trans hbel1
  clear hl1 hX0 hbel1 HB0
  go_wp2_with fail
  refine (putL g 2 wc.heap.size L1 _ (by omega) (by omega) (by omega) (by omega) HB1 (by omega)).mono ?_
  rintro e w2 ⟨rfl, L2, HL2, hl2, hbel2, HB2⟩
  have ll2 : L2.length ≤ 7 := by omega
  have hX2 := hX1.below hbel2 hlt
  have hG2 := hG1.trans hbel2
  clear hl2 hX1 hbel2 HB1 ll1 hG1
  have hc2 : w2.cell? ⟨w.heap.size, 0, none⟩ = some (.int .i64 num) := hX2.cell 0
  go_wp2_with fail
  clear hc2
  refine (putL num 6 wc.heap.size L2 _ (by omega) (by omega) (by omega) (by omega) HB2 (by omega)).mono ?_
  rintro e w3 ⟨rfl, L3, HL3, hl3, hbel3, HB3⟩
  have ll3 : L3.length ≤ 13 := by omega
  have hX3 := hX2.below hbel3 hlt
  have hG3 := hG2.trans hbel3
  clear hl3 hX2 hbel3 HB2 ll2 hG2
  have hc3 : w3.cell? ⟨w.heap.size, 1, none⟩ = some (.int .i64 life) := hX3.cell 1
  go_wp2_with fail
  clear hc3
  refine (putL life 3 wc.heap.size L3 _ (by omega) (by omega) (by omega) (by omega) HB3 (by omega)).mono ?_
  rintro e w4 ⟨rfl, L4, HL4, hl4, hbel4, HB4⟩
  have ll4 : L4.length ≤ 16 := by omega
  have hX4 := hX3.below hbel4 hlt
  have hG4 := hG3.trans hbel4
  clear hl4 hX3 hbel4 HB3 ll3 hG3
  have hc4 : w4.cell? ⟨w.heap.size, 2, none⟩ = some (.int .i64 clock) := hX4.cell 2
  go_wp2_with fail
  clear hc4
  refine (putL clock 6 wc.heap.size L4 _ (by omega) (by omega) (by omega) (by omega) HB4 (by omega)).mono ?_
  rintro e w5 ⟨rfl, L5, HL5, hl5, hbel5, HB5⟩
  have ll5 : L5.length ≤ 22 := by omega
  have hX5 := hX4.below hbel5 hlt
  have hG5 := hG4.trans hbel5
  clear hl5 hX4 hbel5 HB4 ll4 hG4
  have hc5 : w5.cell? ⟨w.heap.size, 3, none⟩ = some (.int .i64 seg) := hX5.cell 3
  go_wp2_with fail
  clear hc5
  refine (putL seg 2 wc.heap.size L5 _ (by omega) (by omega) (by omega) (by omega) HB5 (by omega)).mono ?_
  rintro e w6 ⟨rfl, L6, HL6, hl6, hbel6, HB6⟩
  have ll6 : L6.length ≤ 24 := by omega
  have hX6 := hX5.below hbel6 hlt
  have hG6 := hG5.trans hbel6
  clear hl6 hX5 hbel6 HB5 ll5 hG5
  have hc6 : w6.cell? ⟨w.heap.size, 4, none⟩ = some (.int .i64 at_) := hX6.cell 4
  go_wp2_with fail
  clear hc6
  refine (putL at_ 2 wc.heap.size L6 _ (by omega) (by omega) (by omega) (by omega) HB6 (by omega)).mono ?_
  rintro e w7 ⟨rfl, L7, HL7, hl7, hbel7, HB7⟩
  have ll7 : L7.length ≤ 26 := by omega
  have hX7 := hX6.below hbel7 hlt
  have hG7 := hG6.trans hbel7
  clear hl7 hX6 hbel7 HB6 ll6 hG6
  have hc7 : w7.cell? ⟨w.heap.size, 5, none⟩ = some (.int .i64 next) := hX7.cell 5
  go_wp2_with fail
  clear hc7
  refine (putL next 2 wc.heap.size L7 _ (by omega) (by omega) (by omega) (by omega) HB7 (by omega)).mono ?_
  rintro e w8 ⟨rfl, L8, HL8, hl8, hbel8, HB8⟩
  have ll8 : L8.length ≤ 28 := by omega
  have hX8 := hX7.below hbel8 hlt
  have hG8 := hG7.trans hbel8
  clear hl8 hX7 hbel8 HB7 ll7 hG7
  have hc8 : w8.cell? ⟨w.heap.size, 6, none⟩ = some (.int .i64 seq) := hX8.cell 6
  go_wp2_with fail
  clear hc8
  refine (putL seq 6 wc.heap.size L8 _ (by omega) (by omega) (by omega) (by omega) HB8 (by omega)).mono ?_
  rintro e w9 ⟨rfl, L9, HL9, hl9, hbel9, HB9⟩
  have ll9 : L9.length ≤ 34 := by omega
  have hX9 := hX8.below hbel9 hlt
  have hG9 := hG8.trans hbel9
  clear hl9 hX8 hbel9 HB8 ll8 hG8
  have hc9_0 : w9.cell? ⟨w.heap.size, 7, none⟩ = some (.int .i64 m0) := hX9.cell 7
  have hc9_1 : w9.cell? ⟨w.heap.size, 8, none⟩ = some (.int .i64 m1) := hX9.cell 8
  have hc9_2 : w9.cell? ⟨w.heap.size, 9, none⟩ = some (.int .i64 m2) := hX9.cell 9
  have hc9_3 : w9.cell? ⟨w.heap.size, 10, none⟩ = some (.int .i64 m3) := hX9.cell 10
  go_wp2_with fail
  clear hc9_0 hc9_1 hc9_2 hc9_3
  have hml : Hid ([m0, m1, m2, m3].length = 4) := rfl
  have hmb : Hid (∀ k, k < 4 → 0 ≤ [m0, m1, m2, m3].getD k 0 ∧ [m0, m1, m2, m3].getD k 0 ≤ 16383) := by
    intro k hk
    obtain rfl | rfl | rfl | rfl : k = 0 ∨ k = 1 ∨ k = 2 ∨ k = 3 := by omega
    · exact ⟨a10, b10⟩
    · exact ⟨a11, b11⟩
    · exact ⟨a12, b12⟩
    · exact ⟨a13, b13⟩
  have hms : Hid (∀ k : Nat, k < 4 → ∀ w, (Instr.index 35 (.agg #[.int .i64 m0, .int .i64 m1, .int .i64 m2, .int .i64 m3]) (.int .i64 (k : Int))).run Try.prog w = .ok (.int .i64 ([m0, m1, m2, m3].getD k 0)) w) := Hidx.out
  generalize hmg : [m0, m1, m2, m3] = ms at hml hmb hms HT
  clear hmg Hidx
  go_loopw [62] (fun i wr => ∃ (k : Nat) (L : List UInt8), k ≤ 4 ∧ i = .int .i64 k ∧ Hid (L = L9 ++ (ms.take k).flatMap (fun m => les m.toNat 4)) ∧ L.length ≤ 34 + 4 * k ∧ Blk wr wc.heap.size 9 #[.string ⟨L.toArray⟩] ∧ Blk wr w.heap.size 37 (Sl.mk num life clock seg at_ next seq m0 m1 m2 m3 sb sn).cells ∧ Below wc.heap.size wc wr) (fun i _ => 4 - (intOf i).toNat)
  case atStart => exact ⟨0, L9, by omega, rfl, by show _ = _; simp, by omega, HB9, hX9, hG9⟩
  case round =>
    obtain ⟨k, L, hk, rfl, HL, hll, HB, hX, hG⟩ := hrel
    clear HB9 hX9 hG9 ll9
    by_cases hk4 : k < 4
    · have hix := hms.out k hk4
      obtain ⟨mb0, mb1⟩ := hmb.out k hk4
      have hfl := Lib.hid (flat4 ms k (by rw [hml.out]; exact hk4))
      generalize ms.getD k 0 = m at *
      go_wp2_with fail
      refine (putL m 4 wc.heap.size L _ (by omega) (by omega) (by omega) (by omega) HB (by omega)).mono ?_
      rintro e wn ⟨rfl, L', HL', hl', hbel, HB'⟩
      have ll' : L'.length ≤ L.length + 4 := by omega
      clear hl'
      go_wp2_with fail
      go_roundw
      case rel => exact ⟨k + 1, L', by omega, by go_num, by show _ = _; rw [HL'.out, HL.out, hfl.out, List.append_assoc], by omega, HB', hX.below hbel hlt, hG.trans hbel⟩
      case measure => simp [intOf]; omega
    · obtain rfl : k = 4 := by omega
      have hc1 : wr.cell? ⟨w.heap.size, 11, none⟩ = some (.int .i64 sb) := hX.cell 11
      go_wp2_with fail
      refine (putL sb 6 wc.heap.size L _ (by omega) (by omega) (by omega) (by omega) HB (by omega)).mono ?_
      rintro e wa ⟨rfl, La, HLa, hla, hbela, HBa⟩
      have lla : La.length ≤ L.length + 6 := by omega
      have hXa := hX.below hbela hlt
      have hGa := hG.trans hbela
      clear hla hc1 hX HB hG hbela
      have hc1 : wa.cell? ⟨w.heap.size, 12, none⟩ = some (.int .i64 sn) := hXa.cell 12
      go_wp2_with fail
      refine (putL sn 6 wc.heap.size La _ (by omega) (by omega) (by omega) (by omega) HBa (by omega)).mono ?_
      rintro e wb ⟨rfl, Lb, HLb, hlb, hbelb, HBb⟩
      have hGb := hGa.trans hbelb
      have hLb : Hid (Lb = (Sl.mk num life clock seg at_ next seq m0 m1 m2 m3 sb sn).text h g) := by
        show _ = _
        rw [HLb.out, HLa.out, HL.out, HT.out, HL9.out, HL8.out, HL7.out, HL6.out, HL5.out, HL4.out, HL3.out, HL2.out, HL1.out, List.take_of_length_le (by rw [hml.out]; omega)]
      clear hlb hc1 hXa HBa hGa hbelb lla HLa HL hll HLb
      have hlb : Hid (Lb.length = 62) := by show _ = _; rw [hLb.out, Sl.text_length]
      have hlb2 : Lb.length ≤ 62 := by rw [hlb.out]; omega
      go_wp2_with fail
      go_loopg [] 190 (fun k wr => ∃ (L : List UInt8), Hid (L = Lb ++ List.replicate (190 - k) 0) ∧ L.length + k = 252 ∧ Blk wr wc.heap.size 9 #[.string ⟨L.toArray⟩] ∧ Below wc.heap.size wc wr)
      case atStart => exact ⟨Lb, by show _ = _; simp, by rw [hlb.out], HBb, hGb⟩
      case round =>
        obtain ⟨L, HL, hll, HB, hG⟩ := hrel
        clear HBb hGb
        have hc1 : wr.cell? ⟨wc.heap.size, 0, none⟩ = some (.string ⟨L.toArray⟩) := HB.cell 0
        by_cases hk : gk = 0
        · have hl252 : 252 ≤ L.length ∧ L.length ≤ 252 := by omega
          have hbody : Hid (L = (Sl.mk num life clock seg at_ next seq m0 m1 m2 m3 sb sn).body h g) := by
            show _ = _
            rw [HL.out, hk, hLb.out]; rfl
          clear hll HL hk
          obtain ⟨q1, q2⟩ := hl252
          have q3 : decide (L.length < 252) = false := by simp; omega
          have hblk : Hid ((Sl.mk num life clock seg at_ next seq m0 m1 m2 m3 sb sn).block h g = L ++ les (Bq.crc L) 4) := by show _ = _; rw [hbody.out]; rfl
          go_wp2_with fail
          have hGlt := HB.lt
          have hd0 : Below wr.heap.size wr wr.drew := (Below.refl _ _).drew
          have hlen : L.length ≤ 1000 := by omega
          have hG' : Below wc.heap.size wc wr := hG
          go_region_with (first | (go_at_call 19; refine (ofL L _ hlen).mono ?_; rintro e w1 ⟨c, rfl, hc, hcl, hb1⟩; have h4 : (les c 4).length ≤ 4 := (by rw [les_length]; omega); have hwr : IntKind.i64.wrap (c : Int) = (c : Int) := (by rw [IntKind.wrap_i64]; omega); have hk1 : Below wr.heap.size wr w1 := (by refine below2 ?_ hb1; assumption); have hc2 : w1.cell? ⟨wc.heap.size, 0, none⟩ = some (.string ⟨L.toArray⟩) := (by rw [hk1.cell (p := ⟨wc.heap.size, 0, none⟩) hGlt]; exact hc1); clear hb1) | (go_at_call 58; (with_reducible refine (binput4 _ _ ?_).mono ?_); (first | assumption | skip); rintro e w2 ⟨rfl, hb2⟩; have hk2 : Below wr.heap.size wr w2 := (by refine below2 ?_ hb2; assumption); have hc3 : w2.cell? ⟨wc.heap.size, 0, none⟩ = some (.string ⟨L.toArray⟩) := (by rw [hk2.cell (p := ⟨wc.heap.size, 0, none⟩) hGlt]; exact hc1); clear hb2))
          all_goals
            go_wp2_with fail
            go_ret2
            exact ⟨ret_two (put_end hblk hc), below3 hWc hG' hk2⟩
        · have hl252 : L.length < 252 := by omega
          have hlL : L.length = 252 - gk := by omega
          have HlL := Lib.hid hlL
          have Hll := Lib.hid hll
          clear hll hlL
          have q3 : decide (L.length < 252) = true := by simp; omega
          go_wp2_with fail
          refine (putL 0 1 wc.heap.size L _ (by omega) (by omega) (by omega) (by omega) HB (by omega)).mono ?_
          rintro e wn ⟨rfl, L', HL', hl', hbel, HB'⟩
          have Hl' := Lib.hid hl'
          clear hl'
          go_wp2_with fail
          go_roundg (gk - 1)
          case measure => omega
          case rel => exact ⟨L', pad_next HL HL' Hll.out hlb.out hk, by have := Hl'.out; have := Hll.out; omega, HB', hG.trans hbel⟩
end Go.Proofs.Ytmpkcehjmjopdaa