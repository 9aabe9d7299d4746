import Derived.Test.YtmpkcehjmjopdaaImgK
namespace Go.Proofs.Ytmpkcehjmjopdaa
open Go.RowKit Go.Sort

/-- a copy's bytes, whether a bit of it is turned -/
def tornS (s : List UInt8) (k : Nat) (t : Bool) : List UInt8 := if t then s.set (k / 8) (flip (s.getD (k / 8) 0) (k % 8)) else s
theorem tornS_length (s : List UInt8) (k : Nat) (t : Bool) : (tornS s k t).length = s.length := by unfold tornS; split <;> simp
theorem torn_step {d : Dk} {h k c i : Nat} {q : Int} {s5 s6 s T : List UInt8} (hTl : T.length = 256) (hw : ∀ x ∈ d.ws, x.when_ < d.writes) (hi : i = 14 + 2 * h + c) (hc : c < 2)
    (hra : d.rd (14 + 2 * h) = tornS s6 k (decide (0 < c ∧ (q = 0 ∨ q = 2)))) (hrb : d.rd (15 + 2 * h) = tornS s5 k (decide (1 < c ∧ (q = 1 ∨ q = 2))))
    (hs : s = if c = 0 then s6 else s5) (hT : T = tornS s k true) (hq : q = c ∨ q = 2) :
    (d.write h i T hTl).rd (14 + 2 * h) = tornS s6 k (decide (0 < c + 1 ∧ (q = 0 ∨ q = 2))) ∧ (d.write h i T hTl).rd (15 + 2 * h) = tornS s5 k (decide (1 < c + 1 ∧ (q = 1 ∨ q = 2))) := by
  rw [rd_write _ _ _ _ hw, rd_write _ _ _ _ hw, hra, hrb]
  obtain rfl | rfl : c = 0 ∨ c = 1 := by omega
  · have h1 : i = 14 + 2 * h := by omega
    have h2 : ¬ i = 15 + 2 * h := by omega
    have h3 : q = 0 ∨ q = 2 := by simpa using hq
    rw [if_pos h1, if_neg h2, hT, hs]
    refine ⟨by simp [h3], by simp⟩
  · have h1 : ¬ i = 14 + 2 * h := by omega
    have h2 : i = 15 + 2 * h := by omega
    have h3 : q = 1 ∨ q = 2 := by simpa using hq
    rw [if_neg h1, if_pos h2, hT, hs]
    refine ⟨by simp, by simp [h3]⟩
theorem torn_skip {d : Dk} {h k c : Nat} {q : Int} {s5 s6 : List UInt8} (hc : c < 2)
    (hra : d.rd (14 + 2 * h) = tornS s6 k (decide (0 < c ∧ (q = 0 ∨ q = 2)))) (hrb : d.rd (15 + 2 * h) = tornS s5 k (decide (1 < c ∧ (q = 1 ∨ q = 2)))) (hq : ¬ (q = c ∨ q = 2)) :
    d.rd (14 + 2 * h) = tornS s6 k (decide (0 < c + 1 ∧ (q = 0 ∨ q = 2))) ∧ d.rd (15 + 2 * h) = tornS s5 k (decide (1 < c + 1 ∧ (q = 1 ∨ q = 2))) := by
  rw [hra, hrb]
  obtain rfl | rfl : c = 0 ∨ c = 1 := by omega
  · have h3 : ¬ (q = 0 ∨ q = 2) := by simpa using hq
    refine ⟨by simp [h3], by simp⟩
  · have h3 : ¬ (q = 1 ∨ q = 2) := by simpa using hq
    refine ⟨by simp, by simp [h3]⟩
section
attribute [local go_sem ↓] ld37 st37
attribute [local go_sem] st_new
set_option maxRecDepth 100000 in
set_option maxHeartbeats 4000000 in
theorem imageTorn_walk (house bit which : Int) (w : World) :
    Calls Try.prog 11 #[.int .i64 house, .int .i64 bit, .int .i64 which] w fun e w' => e = .returned (.bool true) ∧ Below w.heap.size w w' := by
  obtain ⟨h, h1, h2, hh, hplc⟩ := place_h house w
  have hadd : (1 : Int) + ((h : Int) - 1) = h := by omega
  have M4 : Hid (∀ w, Calls Try.prog 34 #[.int .i64 4, .int .i64 1] w fun e w' => e = .returned (.agg (mkSl 4 1).cells) ∧ Below w.heap.size w w') := fun w => made_any 4 1 w
  have M5 : Hid (∀ w, Calls Try.prog 34 #[.int .i64 5, .int .i64 2] w fun e w' => e = .returned (.agg (mkSl 5 2).cells) ∧ Below w.heap.size w w') := fun w => made_any 5 2 w
  have n5 : (mkSl 4 1).num = 5 := by decide
  have n6 : (mkSl 5 2).num = 6 := by decide
  have ok5 := mkSl_ok 4 1 h 9 (by omega) (by omega) (by decide) (by decide)
  have ok6 := mkSl_ok 5 2 h 9 (by omega) (by omega) (by decide) (by decide)
  obtain ⟨s5, hs5⟩ : ∃ s, s = (mkSl 4 1).block h 9 := ⟨_, rfl⟩
  obtain ⟨s6, hs6⟩ : ∃ s, s = (mkSl 5 2).block h 9 := ⟨_, rfl⟩
  have l5 : s5.length = 256 := by rw [hs5]; exact Sl.block_length _ _ _
  have l6 : s6.length = 256 := by rw [hs6]; exact Sl.block_length _ _ _
  generalize mkSl 4 1 = x5 at *
  generalize mkSl 5 2 = x6 at *
  have OK5 := Lib.hid ok5
  have OK6 := Lib.hid ok6
  have S5 := Lib.hid hs5
  have S6 := Lib.hid hs6
  have N5 := Lib.hid n5
  have N6 := Lib.hid n6
  clear ok5 ok6 hs5 hs6 n5 n6 hh
  go_enter Try.func11, Try.ntmps11
  go_wp2_with fail
  refine hplc.mono ?_
  rintro e w' ⟨rfl, rfl⟩
  clear hplc
  go_wp2_with fail
  refine (dnew60 _).mono ?_
  rintro e w1 ⟨g, gd, rfl, hA1, hb1⟩
  go_wp2_with fail
  refine (M4.out _).mono ?_
  rintro e w2 ⟨rfl, hb2⟩
  have hA2 := hA1.beyond hb2
  have hW2 := below2 hb1 hb2
  clear hA1 hb1 hb2
  go_wp2_with fail
  refine (isave_yes hA2 h (15 + 2 * h) 9 x5 s5 l5 S5.out h1 h2 OK5.out (by rw [N5.out]; omega) (by rw [dkNew_len]; omega) (.inl rfl) rfl (by decide) (by decide)).mono ?_
  rintro e w3 ⟨rfl, hA3, hT3⟩
  have hW3 := hA2.below hT3 hW2
  rw [saved_eq _ _ _ l5 rfl] at hA3
  clear hA2 hT3 hW2
  go_wp2_with fail
  refine (M5.out _).mono ?_
  rintro e w4 ⟨rfl, hb4⟩
  have hA4 := hA3.beyond hb4
  have hW4 := below2 hW3 hb4
  clear hA3 hb4 hW3
  go_wp2_with fail
  refine (isave_yes hA4 h (14 + 2 * h) 9 x6 s6 l6 S6.out h1 h2 OK6.out (by rw [N6.out]; omega) (by show _ < (List.set _ _ _).length; rw [List.length_set, dkNew_len]; omega) (.inl rfl) rfl (by show 0 + 1 < 800000; decide) (by show cutDown (cutDown (-1)) ≠ 0; decide)).mono ?_
  rintro e w5 ⟨rfl, hA5, hT5⟩
  have hW5 := hA4.below hT5 hW4
  rw [saved_eq _ _ _ l6 rfl] at hA5
  clear hA4 hT5 hW4
  have hra : (((dkNew 60).saved h (15 + 2 * h) s5).saved h (14 + 2 * h) s6).rd (14 + 2 * h) = s6 := by
    rw [Dk.rd_nil rfl]
    show (List.set _ _ _).getD _ _ = _
    rw [getD_set _ _ _ _ (by show _ < (List.set _ _ _).length; rw [List.length_set, dkNew_len]; omega), if_pos rfl]
  have hrb : (((dkNew 60).saved h (15 + 2 * h) s5).saved h (14 + 2 * h) s6).rd (15 + 2 * h) = s5 := by
    rw [Dk.rd_nil rfl]
    show (List.set _ _ _).getD _ _ = _
    rw [getD_set _ _ _ _ (by show _ < (List.set _ _ _).length; rw [List.length_set, dkNew_len]; omega), if_neg (by omega)]
    show (List.set _ _ _).getD _ _ = _
    rw [getD_set _ _ _ _ (by rw [dkNew_len]; omega), if_pos rfl]
  have hlen : (((dkNew 60).saved h (15 + 2 * h) s5).saved h (14 + 2 * h) s6).dur.length = 60 := by
    show (List.set _ _ _).length = _
    rw [List.length_set]
    show (List.set _ _ _).length = _
    rw [List.length_set, dkNew_len]
  have hdn : (((dkNew 60).saved h (15 + 2 * h) s5).saved h (14 + 2 * h) s6).down = false := rfl
  have hwn : (((dkNew 60).saved h (15 + 2 * h) s5).saved h (14 + 2 * h) s6).ws = [] := rfl
  have hcn : (((dkNew 60).saved h (15 + 2 * h) s5).saved h (14 + 2 * h) s6).cut = -1 := rfl
  have hwr : (((dkNew 60).saved h (15 + 2 * h) s5).saved h (14 + 2 * h) s6).writes = 2 := rfl
  generalize ((dkNew 60).saved h (15 + 2 * h) s5).saved h (14 + 2 * h) s6 = d5 at *
  go_wp2_with fail
  refine (place_any bit 2048 _ (by omega) (by omega)).mono ?_
  rintro e w' ⟨rfl, rfl⟩
  have p0 := plc_nonneg bit (n := 2048) (by omega)
  have p1 := plc_lt bit (n := 2048) (by omega)
  generalize plc bit 2048 = k at *
  obtain ⟨k, rfl⟩ := Int.eq_ofNat_of_zero_le p0
  go_wp2_with fail
  refine (place_any which 3 _ (by omega) (by omega)).mono ?_
  rintro e w' ⟨rfl, rfl⟩
  have q0 := plc_nonneg which (n := 3) (by omega)
  have q1 := plc_lt which (n := 3) (by omega)
  generalize plc which 3 = q at *
  go_wp2_with fail
  have HK : Hid (k < 2048) := by show k < 2048; omega
  have T6 := Lib.hid (fun t => show slGot (tornS s6 k t) = sayV (if t then none else some (h, 9, x6)) by
    cases t
    · show slGot s6 = _; rw [S6.out]; exact slGot_block' OK6.out
    · exact slGot_flip S6.out k HK.out)
  have T5 := Lib.hid (fun t => show slGot (tornS s5 k t) = sayV (if t then none else some (h, 9, x5)) by
    cases t
    · show slGot s5 = _; rw [S5.out]; exact slGot_block' OK5.out
    · exact slGot_flip S5.out k HK.out)
  go_loopw [11] (fun c wr => ∃ (c' : Nat) (wv : Value) (d : Dk), c' ≤ 2 ∧ c = .int .i64 c' ∧ DkAt wr w.heap.size g gd wv d ∧ d.down = false ∧ d.cut = -1 ∧ d.dur.length = 60 ∧ (d.ws = [] ∨ d.own = h) ∧ d.ws.length ≤ c' ∧ d.writes ≤ 2 + c' ∧
      Hid (d.rd (14 + 2 * h) = tornS s6 k (decide (0 < c' ∧ (q = 0 ∨ q = 2)))) ∧ Hid (d.rd (15 + 2 * h) = tornS s5 k (decide (1 < c' ∧ (q = 1 ∨ q = 2)))) ∧ Below w.heap.size w wr) (fun c _ => 2 - (intOf c).toNat)
  case atStart => exact ⟨0, _, d5, by omega, rfl, hA5, hdn, hcn, hlen, .inl hwn, by rw [hwn]; exact Nat.zero_le _, by rw [hwr]; exact Nat.le_refl _, by show _ = _; rw [hra]; simp [tornS], by show _ = _; rw [hrb]; simp [tornS], hW5⟩
  case round =>
    clear hra hrb hlen hdn hwn hcn hwr hA5 hW5
    obtain ⟨c, wv, d, hc, rfl, hA, hd, hct, hdl, how, hwl, hwr, hra, hrb, hW⟩ := hrel
    by_cases hc2 : c < 2
    · obtain ⟨i, hi⟩ : ∃ i, i = 14 + 2 * h + c := ⟨_, rfl⟩
      have hat : (16 : Int) + 2 * ((h : Int) - 1) + (c : Int) = (i : Int) := by omega
      have hil : i < d.dur.length := by rw [hdl]; omega
      obtain ⟨s, hsd⟩ : ∃ s, s = if c = 0 then s6 else s5 := ⟨_, rfl⟩
      have hrs : d.rd i = s := by
        rw [hsd, hi]
        obtain rfl | rfl : c = 0 ∨ c = 1 := by omega
        · have := hra.out; simpa [tornS] using this
        · have := hrb.out
          rw [show 14 + 2 * h + 1 = 15 + 2 * h by omega]
          simpa [tornS] using this
      have hsl : s.length = 256 := by rw [hsd]; split <;> assumption
      have hs256 : ((s.length : Int) != 256) = false := by simp [hsl]
      have HI := Lib.hid hi
      have HSD := Lib.hid hsd
      have key := dread hA i hil hd
      rw [hrs] at key
      have HKey := Lib.hid key
      clear key hrs hi hsd
      go_wp2_with fail
      refine HKey.out.mono ?_
      rintro e v ⟨rfl, hbv⟩
      have hA2 := hA.beyond hbv
      have hW2 := below2 hW hbv
      clear hA hW hbv HKey
      have hcv := Lib.run_convert_string_bytes (P := Try.prog) v 9 27 5 ⟨s.toArray⟩ Try.underlying9 Try.underlying27 Try.underlying5
      obtain ⟨z, n, hn, hBF⟩ := bytes_blk v ⟨s.toArray⟩
      have hn2 : 256 ≤ n := by
        have : (⟨s.toArray⟩ : ByteArray).size = s.length := by show s.toArray.size = _; simp
        omega
      have hbel := bytesWorld_below v 5 ⟨s.toArray⟩
      have hk8 : k / 8 < s.length := by omega
      have c1 := hBF.cell (k / 8)
      rw [bcells_get s _ hk8] at c1
      have f1 := hBF.frozen (i := k / 8) (by omega)
      have hst := hBF.set_ (k / 8) (.int .u8 (flip (s.getD (k / 8) 0) (k % 8)).toNat)
      rw [bcells_set s _ hk8] at hst
      have hbel6 := hbel.setCell (p := ⟨v.heap.size, k / 8, none⟩) (Nat.le_refl _) (.int .u8 (flip (s.getD (k / 8) 0) (k % 8)).toNat)
      have hA6 := hA2.beyond hbel6
      have hW6 := below2 hW2 hbel6
      obtain ⟨T, hT⟩ : ∃ T, T = s.set (k / 8) (flip (s.getD (k / 8) 0) (k % 8)) := ⟨_, rfl⟩
      have HT : Hid (T = tornS s k true) := hT
      have hTl : T.length = 256 := by rw [hT, List.length_set]; exact hsl
      have hcvT : ∀ cap, (convert 27 9 (.slice (some ⟨v.heap.size, 0, none⟩) 256 cap)).run Try.prog ((Lib.bytesWorld v 5 ⟨s.toArray⟩).setCell ⟨v.heap.size, k / 8, none⟩ (.int .u8 ((flip (s.getD (k / 8) 0) (k % 8)).toNat : Int))) = .ok (.string ⟨T.toArray⟩) ((Lib.bytesWorld v 5 ⟨s.toArray⟩).setCell ⟨v.heap.size, k / 8, none⟩ (.int .u8 ((flip (s.getD (k / 8) 0) (k % 8)).toNat : Int))) := by
        intro cap
        rw [← hT] at hst
        have h9 := conv_blkF hst cap
        rwa [hTl] at h9
      have hfb := flip_bits (s.getD (k / 8) 0) (k % 8) (by omega)
      clear hn hBF hbel hst hbel6 hA2 hW2 hT
      generalize flip (s.getD (k / 8) 0) (k % 8) = dd at *
      generalize s.getD (k / 8) 0 = ch at *
      have hcl := ch.toNat_lt
      by_cases hq : q = c ∨ q = 2
      · have HQ := Lib.hid hq
        by_cases hqc : q = c
        · have t1 : (q == (c : Int)) = true := by simp [hqc]
          clear hqc hq
          clear hcl
          go_wp2_with fail
          refine (dwrite hA6 h i h2 hil T hTl how hd (by omega) (by omega)).mono ?_
          rintro e w7 ⟨rfl, wv', hA7, hT7⟩
          have hW7 := hA6.below hT7 hW6
          have hrr := torn_step hTl hA6.whens HI.out hc2 hra.out hrb.out HSD.out HT.out HQ.out
          go_wp2_with fail
          go_roundw
          case rel => exact ⟨c + 1, wv', _, by omega, by go_num, hA7, by show decide (cutDown d.cut = 0) = false; rw [hct]; rfl, by show cutDown d.cut = -1; rw [hct]; rfl, hdl, .inr rfl, by show (d.ws ++ [(⟨d.writes, i, T, hTl⟩ : Wr)]).length ≤ c + 1; rw [List.length_append]; simp; omega, by show d.writes + 1 ≤ 2 + (c + 1); omega, hrr.1, hrr.2, hW7⟩
          case measure => simp [intOf]; omega
        · have t1 : (q == (c : Int)) = false := by simpa using hqc
          have t2 : (q == 2) = true := by
            rcases hq with h0 | h0
            · exact absurd h0 hqc
            · simp [h0]
          clear hqc hq
          clear hcl
          go_wp2_with fail
          refine (dwrite hA6 h i h2 hil T hTl how hd (by omega) (by omega)).mono ?_
          rintro e w7 ⟨rfl, wv', hA7, hT7⟩
          have hW7 := hA6.below hT7 hW6
          have hrr := torn_step hTl hA6.whens HI.out hc2 hra.out hrb.out HSD.out HT.out HQ.out
          go_wp2_with fail
          go_roundw
          case rel => exact ⟨c + 1, wv', _, by omega, by go_num, hA7, by show decide (cutDown d.cut = 0) = false; rw [hct]; rfl, by show cutDown d.cut = -1; rw [hct]; rfl, hdl, .inr rfl, by show (d.ws ++ [(⟨d.writes, i, T, hTl⟩ : Wr)]).length ≤ c + 1; rw [List.length_append]; simp; omega, by show d.writes + 1 ≤ 2 + (c + 1); omega, hrr.1, hrr.2, hW7⟩
          case measure => simp [intOf]; omega
      · have HQ := Lib.hid hq
        have t1 : (q == (c : Int)) = false := by rw [beq_eq_false_iff_ne]; exact fun e => hq (.inl e)
        have t2 : (q == 2) = false := by rw [beq_eq_false_iff_ne]; exact fun e => hq (.inr e)
        clear hq hcl
        have hrr := torn_skip hc2 hra.out hrb.out HQ.out
        have hr1 := Lib.hid hrr.1
        have hr2 := Lib.hid hrr.2
        clear hrr
        go_wp2_with fail
        go_roundw
        case rel => exact ⟨c + 1, wv, d, by omega, by go_num, hA6, hd, hct, hdl, how, by omega, by omega, hr1, hr2, hW6⟩
        case measure => simp [intOf]; omega
    · obtain rfl : c = 2 := by omega
      have key := inewest hA h 9 h1 h2 (by rw [hdl]; omega) hd _ _ (by rw [hra.out]; exact T6.out _) (by rw [hrb.out]; exact T5.out _)
      have HKey := Lib.hid key
      clear key hra hrb hA
      have h0 : q = 0 ∨ q = 1 ∨ q = 2 := by omega
      rcases h0 with rfl | rfl | rfl
      · have hE : nwUpto (h : Int) 9 (if decide (0 < 2 ∧ ((0 : Int) = 0 ∨ (0 : Int) = 2)) = true then none else some ((h : Int), 9, x6)) (if decide (1 < 2 ∧ ((0 : Int) = 1 ∨ (0 : Int) = 2)) = true then none else some ((h : Int), 9, x5)) 2 = (x5, true) := by
          simp [nwUpto, nwStep]
        rw [hE] at HKey
        go_wp2_with fail
        refine HKey.out.mono ?_
        rintro e w6 ⟨rfl, hb6⟩
        have c0 : (w6.alloc (.cells x5.cells 37)).cell? ⟨w6.heap.size, 0, none⟩ = some (.int .i64 5) := by rw [← N5.out]; exact (Blk.new w6 37 x5.cells).cell 0
        have hW7 := (below2 hW hb6).alloc (below2 hW hb6).size (.cells x5.cells 37)
        clear hE HKey
        go_wp2_with fail
        refine (iawake_any _).mono ?_
        rintro e wz ⟨rfl, hbz⟩
        go_wp2_with fail
        go_ret
        exact ⟨rfl, below2 hW7 hbz⟩
      · have hE : nwUpto (h : Int) 9 (if decide (0 < 2 ∧ ((1 : Int) = 0 ∨ (1 : Int) = 2)) = true then none else some ((h : Int), 9, x6)) (if decide (1 < 2 ∧ ((1 : Int) = 1 ∨ (1 : Int) = 2)) = true then none else some ((h : Int), 9, x5)) 2 = (x6, true) := by
          simp [nwUpto, nwStep]
        rw [hE] at HKey
        go_wp2_with fail
        refine HKey.out.mono ?_
        rintro e w6 ⟨rfl, hb6⟩
        have c0 : (w6.alloc (.cells x6.cells 37)).cell? ⟨w6.heap.size, 0, none⟩ = some (.int .i64 6) := by rw [← N6.out]; exact (Blk.new w6 37 x6.cells).cell 0
        have hW7 := (below2 hW hb6).alloc (below2 hW hb6).size (.cells x6.cells 37)
        clear hE HKey
        go_wp2_with fail
        refine (iawake_any _).mono ?_
        rintro e wz ⟨rfl, hbz⟩
        go_wp2_with fail
        go_ret
        exact ⟨rfl, below2 hW7 hbz⟩
      · have hE : nwUpto (h : Int) 9 (if decide (0 < 2 ∧ ((2 : Int) = 0 ∨ (2 : Int) = 2)) = true then none else some ((h : Int), 9, x6)) (if decide (1 < 2 ∧ ((2 : Int) = 1 ∨ (2 : Int) = 2)) = true then none else some ((h : Int), 9, x5)) 2 = (slZero, false) := by
          simp [nwUpto, nwStep]
        rw [hE] at HKey
        go_wp2_with fail
        refine HKey.out.mono ?_
        rintro e w6 ⟨rfl, hb6⟩
        have c0 : (w6.alloc (.cells slZero.cells 37)).cell? ⟨w6.heap.size, 0, none⟩ = some (.int .i64 0) := (Blk.new w6 37 slZero.cells).cell 0
        have hW7 := (below2 hW hb6).alloc (below2 hW hb6).size (.cells slZero.cells 37)
        clear hE HKey
        go_wp2_with fail
        refine (iawake_any _).mono ?_
        rintro e wz ⟨rfl, hbz⟩
        go_wp2_with fail
        go_ret
        exact ⟨rfl, below2 hW7 hbz⟩
end
end Go.Proofs.Ytmpkcehjmjopdaa
