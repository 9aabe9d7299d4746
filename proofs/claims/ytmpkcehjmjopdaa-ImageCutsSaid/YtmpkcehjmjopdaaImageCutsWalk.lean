import Derived.Test.YtmpkcehjmjopdaaImgP
import Derived.Test.YtmpkcehjmjopdaaImgO
namespace Go.Proofs.Ytmpkcehjmjopdaa
open Go.RowKit Go.Sort

theorem nw7 (x7 : Sl) : nwUpto ((2 : Nat) : Int) 3 none (some (2, 3, x7)) 2 = (x7, true) := by simp [nwUpto, nwStep]
theorem nw8 (x7 x8 : Sl) (h : ¬ x8.num < x7.num) : nwUpto ((2 : Nat) : Int) 3 (some (2, 3, x8)) (some (2, 3, x7)) 2 = (x8, true) := by simp [nwUpto, nwStep, h]
theorem bs61 (n : Nat) (p : Array (Nat × Value)) : Instr.buildSlice 61 n p = bsV 61 n p := rfl
theorem info32 : (Try.prog.info? 32).map (fun i => (i.zero, i.size, i.bytes)) = some (some (.slice none 0 0), 1, 24) := by kernel_rfl
theorem run_bs61 (a : Option Addr) (n c : Nat) (w : World) : (bsV 61 3 #[(0, .slice none 0 0), (1, .slice none 0 0), (2, .slice a n c)]).run Try.prog w = .ok (.slice (some ⟨w.heap.size, 0, none⟩) 3 3) (w.alloc (.cells #[.slice none 0 0, .slice none 0 0, .slice a n c] 32)) := by
  obtain ⟨i0, hi, hz, hsz, _⟩ := info_parts info32
  refine run_buildSlice w 61 32 3 _ _ i0 _ Try.underlying61 hi hz (by rw [hsz]; decide) (by rw [hsz]; decide) ?_
  rw [hsz]
  kernel_rfl
/-- the places that are kept, in whatever world of the call's own -/
theorem plc_row {w w1 : World} {a : Option Addr} {len cap : Nat} {zs : List Int} (h : IsRow .i64 w a len cap zs) (hb : Below w.heap.size w w1) : ∀ wr, Below w.heap.size w1 wr → Plc wr a len := by
  intro wr hb2 h0
  obtain ⟨b, o, e, hlt, _, _, hc, _⟩ := h.cells h0
  have hb3 := hb.trans hb2
  exact ⟨b, o, fun j => zs.getD j 0, e, Nat.lt_of_lt_of_le hlt hb3.size, fun j hj => (hb3.cell hlt).trans (hc j hj)⟩

section
attribute [local go_sem ↓] ld37 st37 bs61
attribute [local go_sem] st_new run_bs61
set_option maxRecDepth 100000 in
theorem imageCuts_long (v cut : Int) (a : Option Addr) (len cap : Nat) (w : World) (hlong : 20 < len) :
    Calls Try.prog 13 #[.int .i64 v, .int .i64 cut, .slice a len cap] w fun e w' => e = .returned (.bool true) ∧ Below w.heap.size w w' := by
  have t20 : decide ((20 : Int) < (len : Int)) = true := by simp; omega
  have t20' : decide (20 < len) = true := by simpa using hlong
  clear hlong
  go_enter Try.func13, Try.ntmps13
  go_wp2_with fail
  refine (dnew48 _).mono ?_
  rintro e w1 ⟨g, gd, rfl, hA1, hb1⟩
  go_wp2_with fail
  refine (iawake_any _).mono ?_
  rintro e wz ⟨rfl, hbz⟩
  go_wp2_with fail
  go_ret
  exact ⟨rfl, below2 hb1 hbz⟩

set_option maxRecDepth 100000 in
set_option maxHeartbeats 4000000 in
theorem imageCuts_short (v cut : Int) (a : Option Addr) (len cap : Nat) (zs : List Int) (w : World) (hrow : IsRow .i64 w a len cap zs) (hshort : len ≤ 20) :
    Calls Try.prog 13 #[.int .i64 v, .int .i64 cut, .slice a len cap] w fun e w' => e = .returned (.bool true) ∧ Below w.heap.size w w' := by
  have t20 : decide ((20 : Int) < (len : Int)) = false := by simp; omega
  have t20' : decide (20 < len) = false := by simp; omega
  have HRow := Lib.hid hrow
  have M6 : Hid (∀ w, Calls Try.prog 34 #[.int .i64 6, .int .i64 v] w fun e w' => e = .returned (.agg (mkSl 6 v).cells) ∧ Below w.heap.size w w') := fun w => made_any 6 v w
  have M7 : Hid (∀ w, Calls Try.prog 34 #[.int .i64 7, .int .i64 v] w fun e w' => e = .returned (.agg (mkSl 7 v).cells) ∧ Below w.heap.size w w') := fun w => made_any 7 v w
  have n7 : (mkSl 6 v).num = 7 := by show 1 + plc 6 1048576 = 7; decide
  have n8 : (mkSl 7 v).num = 8 := by show 1 + plc 7 1048576 = 8; decide
  have e8 : mkSl 7 v = Sl.mk 8 (mkSl 6 v).life (mkSl 6 v).clock (mkSl 6 v).seg (mkSl 6 v).at_ (mkSl 6 v).next (mkSl 6 v).seq (mkSl 6 v).m0 (mkSl 6 v).m1 (mkSl 6 v).m2 (mkSl 6 v).m3 (mkSl 6 v).sb (mkSl 6 v).sn := by
    have h8 : (8 : Int) = 1 + plc 7 1048576 := by decide
    rw [h8]; rfl
  have ok7 := mkSl_ok 6 v 2 3 (by decide) (by decide) (by decide) (by decide)
  have ok8 := mkSl_ok 7 v 2 3 (by decide) (by decide) (by decide) (by decide)
  obtain ⟨s7, hs7⟩ : ∃ s, s = (mkSl 6 v).block 2 3 := ⟨_, rfl⟩
  obtain ⟨s8, hs8⟩ : ∃ s, s = (mkSl 7 v).block 2 3 := ⟨_, rfl⟩
  have l7 : s7.length = 256 := by rw [hs7]; exact Sl.block_length _ _ _
  have l8 : s8.length = 256 := by rw [hs8]; exact Sl.block_length _ _ _
  have S78 : Hid (∀ w, Calls Try.prog 31 #[.agg (mkSl 7 v).cells, .agg (mkSl 6 v).cells] w fun e w' => e = .returned (.bool false) ∧ Below w.heap.size w w') := by
    intro w
    rw [e8]
    exact same_num (mkSl 6 v) 8 (by rw [n7]; decide) w
  generalize mkSl 6 v = x7 at *
  generalize mkSl 7 v = x8 at *
  have OK7 := Lib.hid ok7
  have OK8 := Lib.hid ok8
  have S7 := Lib.hid hs7
  have S8 := Lib.hid hs8
  have N7 := Lib.hid n7
  have N8 := Lib.hid n8
  have G7 : Hid (slGot s7 = sayV (some (2, 3, x7))) := by show _ = _; rw [hs7]; exact slGot_block' ok7
  have G8 : Hid (slGot s8 = sayV (some (2, 3, x8))) := by show _ = _; rw [hs8]; exact slGot_block' ok8
  have HF : Hid (∀ w, Calls Try.prog 42 #[.int .i64 9] w fun e w' => e = .returned (.string ⟨filled9.toArray⟩) ∧ Below w.heap.size w w') := filled_any
  have lF : filled9.length = 256 := fillTo_length 256
  generalize filled9 = F at *
  clear ok7 ok8 hs7 hs8 n7 n8 e8 hrow
  go_enter Try.func13, Try.ntmps13
  go_wp2_with fail
  refine (dnew48 _).mono ?_
  rintro e w1 ⟨g, gd, rfl, hA1, hb1⟩
  go_wp2_with fail
  refine (M6.out _).mono ?_
  rintro e w2 ⟨rfl, hb2⟩
  have hA2 := hA1.beyond hb2
  have hW2 := below2 hb1 hb2
  clear hA1 hb1 hb2
  go_wp2_with fail
  refine (isave_yes hA2 2 19 3 x7 s7 l7 S7.out (by decide) (by decide) OK7.out (by rw [N7.out]; decide) (by rw [dkNew_len]; decide) (.inl rfl) rfl (by decide) (by decide)).mono ?_
  rintro e w3 ⟨rfl, hA3, hT3⟩
  have hW3 := hA2.below hT3 hW2
  rw [saved_eq _ _ _ l7 rfl] at hA3
  have D19 : ((dkNew 48).saved 2 19 s7).dur.getD 19 [] = s7 := by
    show (List.set _ _ _).getD _ _ = _
    rw [getD_set _ _ _ _ (by rw [dkNew_len]; decide), if_pos rfl]
  have D18 : ((dkNew 48).saved 2 19 s7).dur.getD 18 [] = zeros256 := by
    show (List.set _ _ _).getD _ _ = _
    rw [getD_set _ _ _ _ (by rw [dkNew_len]; decide), if_neg (by decide), dkNew_get 48 _ (by decide)]
  have L48 : ((dkNew 48).saved 2 19 s7).dur.length = 48 := by show (List.set _ _ _).length = _; rw [List.length_set, dkNew_len]
  have dn1 : ((dkNew 48).saved 2 19 s7).down = false := rfl
  have ws1 : ((dkNew 48).saved 2 19 s7).ws = [] := rfl
  have wr1 : ((dkNew 48).saved 2 19 s7).writes = 1 := rfl
  have ct1 : ((dkNew 48).saved 2 19 s7).cut = -1 := rfl
  generalize (dkNew 48).saved 2 19 s7 = d1 at *
  clear hA2 hT3 hW2
  go_wp2_with fail
  refine (HF.out _).mono ?_
  rintro e w4 ⟨rfl, hb4⟩
  have hA4 := hA3.beyond hb4
  have hW4 := below2 hW3 hb4
  clear hA3 hb4 hW3
  go_wp2_with fail
  refine (dwrite hA4 2 47 (by decide) (by rw [L48]; decide) F lF (.inl ws1) dn1 (by rw [ws1]; decide) (by rw [wr1]; decide)).mono ?_
  rintro e w5 ⟨rfl, wv5, hA5, hT5⟩
  have hW5 := hA4.below hT5 hW4
  clear hA4 hT5 hW4
  have hws2 : (d1.write 2 47 F lF).ws = [⟨d1.writes, 47, F, lF⟩] := by show d1.ws ++ [_] = _; rw [ws1]; rfl
  have hdr2 : (d1.write 2 47 F lF).dur = d1.dur := rfl
  have how2 : (d1.write 2 47 F lF).own = 2 := rfl
  have hwr2 : (d1.write 2 47 F lF).writes = 2 := by show d1.writes + 1 = 2; rw [wr1]
  have hdn2 : (d1.write 2 47 F lF).down = false := by show decide (cutDown d1.cut = 0) = false; rw [ct1]; rfl
  generalize d1.write 2 47 F lF = d2 at *
  go_wp2_with fail
  refine (place_any cut 3 _ (by omega) (by omega)).mono ?_
  rintro e w' ⟨rfl, rfl⟩
  have q0 := plc_nonneg cut (n := 3) (by omega)
  have q1 := plc_lt cut (n := 3) (by omega)
  generalize plc cut 3 = q at *
  obtain ⟨n, rfl⟩ := Int.eq_ofNat_of_zero_le q0
  have hn3 : n < 3 := by omega
  clear q0 q1
  go_wp2_with fail
  refine (dcut hA5 n (by omega) hdn2).mono ?_
  rintro e w6 ⟨rfl, hA6, hT6⟩
  have hW6 := hA5.below hT6 hW5
  clear hA5 hT6 hW5
  go_wp2_with fail
  refine (M7.out _).mono ?_
  rintro e w7 ⟨rfl, hb7⟩
  have hA7 := hA6.beyond hb7
  have hW7 := below2 hW6 hb7
  clear hA6 hb7 hW6
  go_wp2_with fail
  obtain h0 | h0 | h0 : n = 0 ∨ n = 1 ∨ n = 2 := by omega
  · subst h0
    have hdn : (d2.cutAt 0).down = true := rfl
    refine (isave_down hA7 2 3 x8 hdn).mono ?_
    rintro e w8 ⟨rfl, hb8⟩
    have hA8 := hA7.beyond hb8
    have hW8 := below2 hW7 hb8
    clear hA7 hW7 hb8
    have hb9 : Below w8.heap.size w8 (w8.alloc (.cells #[.slice none 0 0, .slice none 0 0, .slice a len cap] 32)) := (Below.refl _ _).alloc (Nat.le_refl _) _
    have hK := hA8.loc 32 #[.slice none 0 0, .slice none 0 0, .slice a len cap]
    have hA9 := hA8.beyond hb9
    have hW9 := below2 hW8 hb9
    have HBack := Lib.hid (dback hA9 ⟨d1.writes, 47, F, lF⟩ (.inr ⟨how2, hws2⟩) a len cap hK (plc_row HRow.out hW9) (by omega))
    clear hA8 hb9 hK
    generalize hv9 : w8.alloc (.cells #[.slice none 0 0, .slice none 0 0, .slice a len cap] 32) = v9 at *
    go_wp2_with fail
    clear hv9
    refine HBack.out.mono ?_
    rintro e w10 ⟨rfl, wv10, d', hA10, hBT, hT10⟩
    have hW10 := hA9.below hT10 hW9
    clear hA9 hT10 hW9 HBack
    obtain ⟨hbw, hbr, _, _, hbd⟩ := hBT
    have hbd2 : d'.dur = d1.dur ∨ d'.dur = d1.dur.set 47 F := by
      rcases hbd with h | ⟨y, hy, h⟩
      · left; rw [h]; exact hdr2
      · right
        have hy2 : y ∈ d2.ws := hy
        rw [hws2] at hy2
        obtain rfl : y = ⟨d1.writes, 47, F, lF⟩ := by simpa using hy2
        rw [h]; show d2.dur.set 47 F = _; rw [hdr2]
    clear hbd
    obtain ⟨S47, hS47⟩ : ∃ S47, ({ d' with cut := -1, down := false } : Dk).rd 47 = S47 := ⟨_, rfl⟩
    have hlen : ({ d' with cut := -1, down := false } : Dk).dur.length = 48 := by
      show d'.dur.length = 48
      rcases hbd2 with h | h
      · rw [h, L48]
      · rw [h, List.length_set, L48]
    have hS18 : slGot (({ d' with cut := -1, down := false } : Dk).rd 18) = sayV none := by
      rw [Dk.rd_nil (d := { d' with cut := -1, down := false }) hbw]
      show slGot (d'.dur.getD 18 []) = _
      rcases hbd2 with h | h
      · rw [h, D18]; exact slGot_zero'
      · rw [h, getD_set _ _ _ _ (by rw [L48]; decide), if_neg (by decide), D18]; exact slGot_zero'
    have hS19 : slGot (({ d' with cut := -1, down := false } : Dk).rd 19) = sayV (some (2, 3, x7)) := by
      rw [Dk.rd_nil (d := { d' with cut := -1, down := false }) hbw]
      show slGot (d'.dur.getD 19 []) = _
      rcases hbd2 with h | h
      · rw [h, D19]; exact G7.out
      · rw [h, getD_set _ _ _ _ (by rw [L48]; decide), if_neg (by decide), D19]; exact G7.out
    have H47 : Hid (({ d' with cut := -1, down := false } : Dk).rd 47 = S47) := hS47
    generalize hd5 : ({ d' with cut := -1, down := false } : Dk) = d5 at *
    have hdn5 : d5.down = false := by rw [← hd5]
    clear hd5
    go_wp2_with fail
    refine (inewest hA10 2 3 (by decide) (by decide) (by rw [hlen]; decide) hdn5 _ _ hS18 hS19).mono ?_
    rintro e w11 ⟨rfl, hb11⟩
    rw [nw7]
    have hb11a : Below w10.heap.size w10 (w11.alloc (.cells x7.cells 37)) := hb11.alloc hb11.size _
    have hA11 := hA10.beyond hb11a
    have hW11 := below2 hW10 hb11a
    have hX11 := Blk.new w11 37 x7.cells
    clear hA10 hW10 hb11 hb11a hS18 hS19
    generalize hv11 : w11.alloc (.cells x7.cells 37) = v11 at *
    go_wp2_with fail
    clear hv11
    have key := dread hA11 47 (by rw [hlen]; decide) hdn5
    rw [H47.out] at key
    have HKey := Lib.hid key
    clear key
    refine HKey.out.mono ?_
    rintro e w12 ⟨rfl, hb12⟩
    have hX12 := hX11.beyond hb12
    have hW12 := below2 hW11 hb12
    clear hA11 hW11 hX11 hb12 HKey H47
    go_upto_region 10 with (fail)
    have l0 : ∀ d os, (ldV 37 (.pointer (some ⟨w11.heap.size, 0, none⟩))).run Try.prog (grow (redrawn w12 d) os) = .ok (.agg x7.cells) (grow (redrawn w12 d) os) := fun d os => run_ldB (hX12.beyond (below_regrown w12 d os))
    have m0 : ∀ d os, Calls Try.prog 34 #[.int .i64 6, .int .i64 v] (grow (redrawn w12 d) os) fun e w'' => e = .returned (.agg x7.cells) ∧ ∃ p : Regrown, w'' = grow (redrawn w12 p.d) p.os := fun d os => Calls.regrown_of (M6.out _)
    have m1 : ∀ d os, Calls Try.prog 31 #[.agg x7.cells, .agg x7.cells] (grow (redrawn w12 d) os) fun e w'' => e = .returned (.bool true) ∧ ∃ p : Regrown, w'' = grow (redrawn w12 p.d) p.os := fun d os => Calls.regrown_of (same_yes _ _)
    have m2 : ∀ d os, Calls Try.prog 34 #[.int .i64 7, .int .i64 v] (grow (redrawn w12 d) os) fun e w'' => e = .returned (.agg x8.cells) ∧ ∃ p : Regrown, w'' = grow (redrawn w12 p.d) p.os := fun d os => Calls.regrown_of (M7.out _)
    have m3 : ∀ d os, Calls Try.prog 31 #[.agg x8.cells, .agg x8.cells] (grow (redrawn w12 d) os) fun e w'' => e = .returned (.bool true) ∧ ∃ p : Regrown, w'' = grow (redrawn w12 p.d) p.os := fun d os => Calls.regrown_of (same_yes _ _)
    refine wp_region_quiet_below mixed (by kernel_rfl) ?_
    repeat (go_big_quiet_step (first | with_reducible exact m0 _ _ | with_reducible exact m1 _ _ | with_reducible exact m2 _ _ | with_reducible exact m3 _ _))
    refine wpQuiet_nil ?_
    intro _ hw'
    obtain ⟨⟨dq, osq⟩, hw''⟩ := hw'
    subst hw''
    have hb13 := below_regrown w12 dq osq
    generalize grow (redrawn w12 dq) osq = w13 at *
    have hX13 := hX12.beyond hb13
    have hW13 := below2 hW12 hb13
    have c0 : w13.cell? ⟨w11.heap.size, 0, none⟩ = some (.int .i64 7) := by rw [← N7.out]; exact (hX13.cell 0).trans (cells_0 _)
    clear l0 m0 m1 m2 m3 hX12 hW12 hb13
    go_wp2_with fail
    refine (iawake_any _).mono ?_
    rintro e wz ⟨rfl, hbz⟩
    go_wp2_with fail
    go_ret
    exact ⟨rfl, below2 hW13 hbz⟩
  · subst h0
    refine (isave_cut hA7 2 18 3 x8 s8 l8 S8.out (by decide) (by decide) OK8.out (by rw [N8.out]; decide) (by show 18 < d2.dur.length; rw [hdr2, L48]; decide) (.inr how2) rfl (by show d2.writes < 800000; rw [hwr2]; decide) (by show cutDown ((1 : Nat) : Int) = 0; decide)).mono ?_
    rintro e w8 ⟨rfl, wv8, hA8, hT8⟩
    have hW8 := hA7.below hT8 hW7
    clear hA7 hW7 hT8
    have hdr4 : (((d2.cutAt 1).flushed 2).write 2 18 s8 l8).dur = d1.dur.set 47 F := by
      show putAll d2.dur d2.ws = _
      rw [hws2, hdr2]; rfl
    have hws4 : (((d2.cutAt 1).flushed 2).write 2 18 s8 l8).ws = [⟨d2.writes, 18, s8, l8⟩] := rfl
    have how4 : (((d2.cutAt 1).flushed 2).write 2 18 s8 l8).own = 2 := rfl
    generalize ((d2.cutAt 1).flushed 2).write 2 18 s8 l8 = d4 at *
    have hb9 : Below w8.heap.size w8 (w8.alloc (.cells #[.slice none 0 0, .slice none 0 0, .slice a len cap] 32)) := (Below.refl _ _).alloc (Nat.le_refl _) _
    have hK := hA8.loc 32 #[.slice none 0 0, .slice none 0 0, .slice a len cap]
    have hA9 := hA8.beyond hb9
    have hW9 := below2 hW8 hb9
    have HBack := Lib.hid (dback hA9 ⟨d2.writes, 18, s8, l8⟩ (.inr ⟨how4, hws4⟩) a len cap hK (plc_row HRow.out hW9) (by omega))
    clear hA8 hb9 hK
    generalize hv9 : w8.alloc (.cells #[.slice none 0 0, .slice none 0 0, .slice a len cap] 32) = v9 at *
    go_wp2_with fail
    clear hv9
    refine HBack.out.mono ?_
    rintro e w10 ⟨rfl, wv10, d', hA10, hBT, hT10⟩
    have hW10 := hA9.below hT10 hW9
    clear hA9 hT10 hW9 HBack
    obtain ⟨hbw, hbr, _, _, hbd⟩ := hBT
    have hbd2 : d'.dur = d1.dur.set 47 F ∨ d'.dur = (d1.dur.set 47 F).set 18 s8 := by
      rcases hbd with h | ⟨y, hy, h⟩
      · left; rw [h]; exact hdr4
      · right
        rw [hws4] at hy
        obtain rfl : y = ⟨d2.writes, 18, s8, l8⟩ := by simpa using hy
        rw [h, hdr4]
    clear hbd
    rcases hbd2 with hbd2 | hbd2
    · have hlen : ({ d' with cut := -1, down := false } : Dk).dur.length = 48 := by show d'.dur.length = 48; rw [hbd2, List.length_set, L48]
      have hS18 : slGot (({ d' with cut := -1, down := false } : Dk).rd 18) = sayV none := by
        rw [Dk.rd_nil (d := { d' with cut := -1, down := false }) hbw]
        show slGot (d'.dur.getD 18 []) = _
        rw [hbd2, getD_set _ _ _ _ (by rw [L48]; decide), if_neg (by decide), D18]; exact slGot_zero'
      have hS19 : slGot (({ d' with cut := -1, down := false } : Dk).rd 19) = sayV (some (2, 3, x7)) := by
        rw [Dk.rd_nil (d := { d' with cut := -1, down := false }) hbw]
        show slGot (d'.dur.getD 19 []) = _
        rw [hbd2, getD_set _ _ _ _ (by rw [L48]; decide), if_neg (by decide), D19]; exact G7.out
      have H47 : Hid (({ d' with cut := -1, down := false } : Dk).rd 47 = F) := by
        show Dk.rd _ 47 = F
        rw [Dk.rd_nil (d := { d' with cut := -1, down := false }) hbw]
        show d'.dur.getD 47 [] = F
        rw [hbd2, getD_set _ _ _ _ (by rw [L48]; decide), if_pos rfl]
      generalize hd5 : ({ d' with cut := -1, down := false } : Dk) = d5 at *
      have hdn5 : d5.down = false := by rw [← hd5]
      clear hd5
      go_wp2_with fail
      refine (inewest hA10 2 3 (by decide) (by decide) (by rw [hlen]; decide) hdn5 _ _ hS18 hS19).mono ?_
      rintro e w11 ⟨rfl, hb11⟩
      rw [nw7]
      have hb11a : Below w10.heap.size w10 (w11.alloc (.cells x7.cells 37)) := hb11.alloc hb11.size _
      have hA11 := hA10.beyond hb11a
      have hW11 := below2 hW10 hb11a
      have hX11 := Blk.new w11 37 x7.cells
      clear hA10 hW10 hb11 hb11a hS18 hS19
      generalize hv11 : w11.alloc (.cells x7.cells 37) = v11 at *
      go_wp2_with fail
      clear hv11
      have key := dread hA11 47 (by rw [hlen]; decide) hdn5
      rw [H47.out] at key
      have HKey := Lib.hid key
      clear key
      refine HKey.out.mono ?_
      rintro e w12 ⟨rfl, hb12⟩
      have hX12 := hX11.beyond hb12
      have hW12 := below2 hW11 hb12
      clear hA11 hW11 hX11 hb12 HKey H47
      go_upto_region 10 with (fail)
      have l0 : ∀ d os, (ldV 37 (.pointer (some ⟨w11.heap.size, 0, none⟩))).run Try.prog (grow (redrawn w12 d) os) = .ok (.agg x7.cells) (grow (redrawn w12 d) os) := fun d os => run_ldB (hX12.beyond (below_regrown w12 d os))
      have m0 : ∀ d os, Calls Try.prog 34 #[.int .i64 6, .int .i64 v] (grow (redrawn w12 d) os) fun e w'' => e = .returned (.agg x7.cells) ∧ ∃ p : Regrown, w'' = grow (redrawn w12 p.d) p.os := fun d os => Calls.regrown_of (M6.out _)
      have m1 : ∀ d os, Calls Try.prog 31 #[.agg x7.cells, .agg x7.cells] (grow (redrawn w12 d) os) fun e w'' => e = .returned (.bool true) ∧ ∃ p : Regrown, w'' = grow (redrawn w12 p.d) p.os := fun d os => Calls.regrown_of (same_yes _ _)
      have m2 : ∀ d os, Calls Try.prog 34 #[.int .i64 7, .int .i64 v] (grow (redrawn w12 d) os) fun e w'' => e = .returned (.agg x8.cells) ∧ ∃ p : Regrown, w'' = grow (redrawn w12 p.d) p.os := fun d os => Calls.regrown_of (M7.out _)
      have m3 : ∀ d os, Calls Try.prog 31 #[.agg x8.cells, .agg x8.cells] (grow (redrawn w12 d) os) fun e w'' => e = .returned (.bool true) ∧ ∃ p : Regrown, w'' = grow (redrawn w12 p.d) p.os := fun d os => Calls.regrown_of (same_yes _ _)
      refine wp_region_quiet_below mixed (by kernel_rfl) ?_
      repeat (go_big_quiet_step (first | with_reducible exact m0 _ _ | with_reducible exact m1 _ _ | with_reducible exact m2 _ _ | with_reducible exact m3 _ _))
      refine wpQuiet_nil ?_
      intro _ hw'
      obtain ⟨⟨dq, osq⟩, hw''⟩ := hw'
      subst hw''
      have hb13 := below_regrown w12 dq osq
      generalize grow (redrawn w12 dq) osq = w13 at *
      have hX13 := hX12.beyond hb13
      have hW13 := below2 hW12 hb13
      have c0 : w13.cell? ⟨w11.heap.size, 0, none⟩ = some (.int .i64 7) := by rw [← N7.out]; exact (hX13.cell 0).trans (cells_0 _)
      clear l0 m0 m1 m2 m3 hX12 hW12 hb13
      go_wp2_with fail
      refine (iawake_any _).mono ?_
      rintro e wz ⟨rfl, hbz⟩
      go_wp2_with fail
      go_ret
      exact ⟨rfl, below2 hW13 hbz⟩
    · have hlen : ({ d' with cut := -1, down := false } : Dk).dur.length = 48 := by show d'.dur.length = 48; rw [hbd2, List.length_set, List.length_set, L48]
      have hS18 : slGot (({ d' with cut := -1, down := false } : Dk).rd 18) = sayV (some (2, 3, x8)) := by
        rw [Dk.rd_nil (d := { d' with cut := -1, down := false }) hbw]
        show slGot (d'.dur.getD 18 []) = _
        rw [hbd2, getD_set _ _ _ _ (by rw [List.length_set, L48]; decide), if_pos rfl]; exact G8.out
      have hS19 : slGot (({ d' with cut := -1, down := false } : Dk).rd 19) = sayV (some (2, 3, x7)) := by
        rw [Dk.rd_nil (d := { d' with cut := -1, down := false }) hbw]
        show slGot (d'.dur.getD 19 []) = _
        rw [hbd2, getD_set _ _ _ _ (by rw [List.length_set, L48]; decide), if_neg (by decide), getD_set _ _ _ _ (by rw [L48]; decide), if_neg (by decide), D19]; exact G7.out
      have H47 : Hid (({ d' with cut := -1, down := false } : Dk).rd 47 = F) := by
        show Dk.rd _ 47 = F
        rw [Dk.rd_nil (d := { d' with cut := -1, down := false }) hbw]
        show d'.dur.getD 47 [] = F
        rw [hbd2, getD_set _ _ _ _ (by rw [List.length_set, L48]; decide), if_neg (by decide), getD_set _ _ _ _ (by rw [L48]; decide), if_pos rfl]
      generalize hd5 : ({ d' with cut := -1, down := false } : Dk) = d5 at *
      have hdn5 : d5.down = false := by rw [← hd5]
      clear hd5
      go_wp2_with fail
      refine (inewest hA10 2 3 (by decide) (by decide) (by rw [hlen]; decide) hdn5 _ _ hS18 hS19).mono ?_
      rintro e w11 ⟨rfl, hb11⟩
      rw [nw8 x7 x8 (by rw [N7.out, N8.out]; decide)]
      have hb11a : Below w10.heap.size w10 (w11.alloc (.cells x8.cells 37)) := hb11.alloc hb11.size _
      have hA11 := hA10.beyond hb11a
      have hW11 := below2 hW10 hb11a
      have hX11 := Blk.new w11 37 x8.cells
      clear hA10 hW10 hb11 hb11a hS18 hS19
      generalize hv11 : w11.alloc (.cells x8.cells 37) = v11 at *
      go_wp2_with fail
      clear hv11
      have key := dread hA11 47 (by rw [hlen]; decide) hdn5
      rw [H47.out] at key
      have HKey := Lib.hid key
      clear key
      refine HKey.out.mono ?_
      rintro e w12 ⟨rfl, hb12⟩
      have hX12 := hX11.beyond hb12
      have hW12 := below2 hW11 hb12
      clear hA11 hW11 hX11 hb12 HKey H47
      go_upto_region 10 with (fail)
      have l0 : ∀ d os, (ldV 37 (.pointer (some ⟨w11.heap.size, 0, none⟩))).run Try.prog (grow (redrawn w12 d) os) = .ok (.agg x8.cells) (grow (redrawn w12 d) os) := fun d os => run_ldB (hX12.beyond (below_regrown w12 d os))
      have m0 : ∀ d os, Calls Try.prog 34 #[.int .i64 6, .int .i64 v] (grow (redrawn w12 d) os) fun e w'' => e = .returned (.agg x7.cells) ∧ ∃ p : Regrown, w'' = grow (redrawn w12 p.d) p.os := fun d os => Calls.regrown_of (M6.out _)
      have m1 : ∀ d os, Calls Try.prog 31 #[.agg x8.cells, .agg x7.cells] (grow (redrawn w12 d) os) fun e w'' => e = .returned (.bool false) ∧ ∃ p : Regrown, w'' = grow (redrawn w12 p.d) p.os := fun d os => Calls.regrown_of (S78.out _)
      have m2 : ∀ d os, Calls Try.prog 34 #[.int .i64 7, .int .i64 v] (grow (redrawn w12 d) os) fun e w'' => e = .returned (.agg x8.cells) ∧ ∃ p : Regrown, w'' = grow (redrawn w12 p.d) p.os := fun d os => Calls.regrown_of (M7.out _)
      have m3 : ∀ d os, Calls Try.prog 31 #[.agg x8.cells, .agg x8.cells] (grow (redrawn w12 d) os) fun e w'' => e = .returned (.bool true) ∧ ∃ p : Regrown, w'' = grow (redrawn w12 p.d) p.os := fun d os => Calls.regrown_of (same_yes _ _)
      refine wp_region_quiet_below mixed (by kernel_rfl) ?_
      repeat (go_big_quiet_step (first | with_reducible exact m0 _ _ | with_reducible exact m1 _ _ | with_reducible exact m2 _ _ | with_reducible exact m3 _ _))
      refine wpQuiet_nil ?_
      intro _ hw'
      obtain ⟨⟨dq, osq⟩, hw''⟩ := hw'
      subst hw''
      have hb13 := below_regrown w12 dq osq
      generalize grow (redrawn w12 dq) osq = w13 at *
      have hX13 := hX12.beyond hb13
      have hW13 := below2 hW12 hb13
      have c0 : w13.cell? ⟨w11.heap.size, 0, none⟩ = some (.int .i64 8) := by rw [← N8.out]; exact (hX13.cell 0).trans (cells_0 _)
      clear l0 m0 m1 m2 m3 hX12 hW12 hb13
      go_wp2_with fail
      refine (HF.out _).mono ?_
      rintro e w14 ⟨rfl, hb14⟩
      have hW14 := below2 hW13 hb14
      have c1 : w14.cell? ⟨w11.heap.size, 0, none⟩ = some (.int .i64 8) := by rw [← N8.out]; exact ((hX13.beyond hb14).cell 0).trans (cells_0 _)
      go_wp2_with fail
      refine (iawake_any _).mono ?_
      rintro e wz ⟨rfl, hbz⟩
      go_wp2_with fail
      go_ret
      exact ⟨rfl, below2 hW14 hbz⟩
  · subst h0
    refine (isave_yes hA7 2 18 3 x8 s8 l8 S8.out (by decide) (by decide) OK8.out (by rw [N8.out]; decide) (by show 18 < d2.dur.length; rw [hdr2, L48]; decide) (.inr how2) rfl (by show d2.writes < 800000; rw [hwr2]; decide) (by show cutDown ((2 : Nat) : Int) ≠ 0; decide)).mono ?_
    rintro e w8 ⟨rfl, hA8, hT8⟩
    have hW8 := hA7.below hT8 hW7
    clear hA7 hW7 hT8
    have hdr4 : ((((d2.cutAt 2).flushed 2).write 2 18 s8 l8).flushed 2).dur = (d1.dur.set 47 F).set 18 s8 := by
      show putAll (putAll d2.dur d2.ws) [_] = _
      rw [hws2, hdr2]; rfl
    have hws4 : ((((d2.cutAt 2).flushed 2).write 2 18 s8 l8).flushed 2).ws = [] := rfl
    generalize (((d2.cutAt 2).flushed 2).write 2 18 s8 l8).flushed 2 = d4 at *
    have hb9 : Below w8.heap.size w8 (w8.alloc (.cells #[.slice none 0 0, .slice none 0 0, .slice a len cap] 32)) := (Below.refl _ _).alloc (Nat.le_refl _) _
    have hK := hA8.loc 32 #[.slice none 0 0, .slice none 0 0, .slice a len cap]
    have hA9 := hA8.beyond hb9
    have hW9 := below2 hW8 hb9
    have HBack := Lib.hid (dback hA9 ⟨0, 0, F, lF⟩ (.inl hws4) a len cap hK (plc_row HRow.out hW9) (by omega))
    clear hA8 hb9 hK
    generalize hv9 : w8.alloc (.cells #[.slice none 0 0, .slice none 0 0, .slice a len cap] 32) = v9 at *
    go_wp2_with fail
    clear hv9
    refine HBack.out.mono ?_
    rintro e w10 ⟨rfl, wv10, d', hA10, hBT, hT10⟩
    have hW10 := hA9.below hT10 hW9
    clear hA9 hT10 hW9 HBack
    obtain ⟨hbw, hbr, _, _, hbd⟩ := hBT
    have hbd2 : d'.dur = (d1.dur.set 47 F).set 18 s8 := by
      rcases hbd with h | ⟨y, hy, h⟩
      · rw [h]; exact hdr4
      · rw [hws4] at hy; cases hy
    clear hbd
    have hlen : ({ d' with cut := -1, down := false } : Dk).dur.length = 48 := by show d'.dur.length = 48; rw [hbd2, List.length_set, List.length_set, L48]
    have hS18 : slGot (({ d' with cut := -1, down := false } : Dk).rd 18) = sayV (some (2, 3, x8)) := by
      rw [Dk.rd_nil (d := { d' with cut := -1, down := false }) hbw]
      show slGot (d'.dur.getD 18 []) = _
      rw [hbd2, getD_set _ _ _ _ (by rw [List.length_set, L48]; decide), if_pos rfl]; exact G8.out
    have hS19 : slGot (({ d' with cut := -1, down := false } : Dk).rd 19) = sayV (some (2, 3, x7)) := by
      rw [Dk.rd_nil (d := { d' with cut := -1, down := false }) hbw]
      show slGot (d'.dur.getD 19 []) = _
      rw [hbd2, getD_set _ _ _ _ (by rw [List.length_set, L48]; decide), if_neg (by decide), getD_set _ _ _ _ (by rw [L48]; decide), if_neg (by decide), D19]; exact G7.out
    have H47 : Hid (({ d' with cut := -1, down := false } : Dk).rd 47 = F) := by
      show Dk.rd _ 47 = F
      rw [Dk.rd_nil (d := { d' with cut := -1, down := false }) hbw]
      show d'.dur.getD 47 [] = F
      rw [hbd2, getD_set _ _ _ _ (by rw [List.length_set, L48]; decide), if_neg (by decide), getD_set _ _ _ _ (by rw [L48]; decide), if_pos rfl]
    generalize hd5 : ({ d' with cut := -1, down := false } : Dk) = d5 at *
    have hdn5 : d5.down = false := by rw [← hd5]
    clear hd5
    go_wp2_with fail
    refine (inewest hA10 2 3 (by decide) (by decide) (by rw [hlen]; decide) hdn5 _ _ hS18 hS19).mono ?_
    rintro e w11 ⟨rfl, hb11⟩
    rw [nw8 x7 x8 (by rw [N7.out, N8.out]; decide)]
    have hb11a : Below w10.heap.size w10 (w11.alloc (.cells x8.cells 37)) := hb11.alloc hb11.size _
    have hA11 := hA10.beyond hb11a
    have hW11 := below2 hW10 hb11a
    have hX11 := Blk.new w11 37 x8.cells
    clear hA10 hW10 hb11 hb11a hS18 hS19
    generalize hv11 : w11.alloc (.cells x8.cells 37) = v11 at *
    go_wp2_with fail
    clear hv11
    have key := dread hA11 47 (by rw [hlen]; decide) hdn5
    rw [H47.out] at key
    have HKey := Lib.hid key
    clear key
    refine HKey.out.mono ?_
    rintro e w12 ⟨rfl, hb12⟩
    have hX12 := hX11.beyond hb12
    have hW12 := below2 hW11 hb12
    clear hA11 hW11 hX11 hb12 HKey H47
    go_upto_region 10 with (fail)
    have l0 : ∀ d os, (ldV 37 (.pointer (some ⟨w11.heap.size, 0, none⟩))).run Try.prog (grow (redrawn w12 d) os) = .ok (.agg x8.cells) (grow (redrawn w12 d) os) := fun d os => run_ldB (hX12.beyond (below_regrown w12 d os))
    have m0 : ∀ d os, Calls Try.prog 34 #[.int .i64 6, .int .i64 v] (grow (redrawn w12 d) os) fun e w'' => e = .returned (.agg x7.cells) ∧ ∃ p : Regrown, w'' = grow (redrawn w12 p.d) p.os := fun d os => Calls.regrown_of (M6.out _)
    have m1 : ∀ d os, Calls Try.prog 31 #[.agg x8.cells, .agg x7.cells] (grow (redrawn w12 d) os) fun e w'' => e = .returned (.bool false) ∧ ∃ p : Regrown, w'' = grow (redrawn w12 p.d) p.os := fun d os => Calls.regrown_of (S78.out _)
    have m2 : ∀ d os, Calls Try.prog 34 #[.int .i64 7, .int .i64 v] (grow (redrawn w12 d) os) fun e w'' => e = .returned (.agg x8.cells) ∧ ∃ p : Regrown, w'' = grow (redrawn w12 p.d) p.os := fun d os => Calls.regrown_of (M7.out _)
    have m3 : ∀ d os, Calls Try.prog 31 #[.agg x8.cells, .agg x8.cells] (grow (redrawn w12 d) os) fun e w'' => e = .returned (.bool true) ∧ ∃ p : Regrown, w'' = grow (redrawn w12 p.d) p.os := fun d os => Calls.regrown_of (same_yes _ _)
    refine wp_region_quiet_below mixed (by kernel_rfl) ?_
    repeat (go_big_quiet_step (first | with_reducible exact m0 _ _ | with_reducible exact m1 _ _ | with_reducible exact m2 _ _ | with_reducible exact m3 _ _))
    refine wpQuiet_nil ?_
    intro _ hw'
    obtain ⟨⟨dq, osq⟩, hw''⟩ := hw'
    subst hw''
    have hb13 := below_regrown w12 dq osq
    generalize grow (redrawn w12 dq) osq = w13 at *
    have hX13 := hX12.beyond hb13
    have hW13 := below2 hW12 hb13
    have c0 : w13.cell? ⟨w11.heap.size, 0, none⟩ = some (.int .i64 8) := by rw [← N8.out]; exact (hX13.cell 0).trans (cells_0 _)
    clear l0 m0 m1 m2 m3 hX12 hW12 hb13
    go_wp2_with fail
    refine (HF.out _).mono ?_
    rintro e w14 ⟨rfl, hb14⟩
    have hW14 := below2 hW13 hb14
    have c1 : w14.cell? ⟨w11.heap.size, 0, none⟩ = some (.int .i64 8) := by rw [← N8.out]; exact ((hX13.beyond hb14).cell 0).trans (cells_0 _)
    go_wp2_with fail
    refine (iawake_any _).mono ?_
    rintro e wz ⟨rfl, hbz⟩
    go_wp2_with fail
    go_ret
    exact ⟨rfl, below2 hW14 hbz⟩
end
theorem imageCuts_walk (v cut : Int) (a : Option Addr) (len cap : Nat) (zs : List Int) (w : World) (hrow : IsRow .i64 w a len cap zs) (_hlen : len ≤ 140737488351232) :
    Calls Try.prog 13 #[.int .i64 v, .int .i64 cut, .slice a len cap] w fun e w' => e = .returned (.bool true) ∧ Below w.heap.size w w' := by
  by_cases h : 20 < len
  · exact imageCuts_long v cut a len cap w h
  · exact imageCuts_short v cut a len cap zs w hrow (by omega)
end Go.Proofs.Ytmpkcehjmjopdaa
