import Derived.Test.YtmpkcehjmjopdaaImgK
namespace Go.Proofs.Ytmpkcehjmjopdaa
open Go.RowKit Go.Sort

theorem plc_small (v n : Int) (h0 : 0 ≤ v) (h1 : v < n) : plc v n = v := by
  unfold plc
  exact Int.emod_eq_of_lt h0 h1
theorem mkSl_num' (f i : Nat) (hf : f + i < 1048576) : (mkSl ((f : Int) + (i : Int)) i).num = 1 + f + i := by
  show 1 + plc ((f : Int) + (i : Int)) 1048576 = _
  rw [plc_small _ _ (by omega) (by omega)]; omega
theorem block_not_zero {x : Sl} {h g : Int} (hok : x.ok h g = true) : (x.block h g == zeros256) = false := by
  rw [beq_eq_false_iff_ne]
  intro e
  have h1 := slGot_block' hok
  rw [e, slGot_zero'] at h1
  simp [sayV] at h1
/-- the save that a copy holds behind so many saves -/
def lastOf (f i p : Nat) : Option Nat := if 1 ≤ i ∧ (f + i) % 2 = p then some (i - 1) else if 2 ≤ i ∧ (f + i - 1) % 2 = p then some (i - 2) else none
def conOf (h f i p : Nat) : List UInt8 :=
  match lastOf f i p with
  | none => zeros256
  | some j => (mkSl ((f : Int) + (j : Int)) j).block h 9
def sayOf (h f i p : Nat) : Option (Int × Int × Sl) :=
  match lastOf f i p with
  | none => none
  | some j => some (h, 9, mkSl ((f : Int) + (j : Int)) j)
theorem conOf_say (h f i p : Nat) (h1 : 1 ≤ h) (h2 : h ≤ 16) : slGot (conOf h f i p) = sayV (sayOf h f i p) := by
  unfold conOf sayOf
  cases lastOf f i p with
  | none => exact slGot_zero'
  | some j => exact slGot_block' (mkSl_ok _ _ _ _ (by omega) (by omega) (by decide) (by decide))
theorem conOf_step (h f i p : Nat) (hp : p < 2) : conOf h f (i + 1) p = if (f + i + 1) % 2 = p then (mkSl ((f : Int) + (i : Int)) i).block h 9 else conOf h f i p := by
  unfold conOf lastOf
  by_cases e : (f + i + 1) % 2 = p
  · rw [if_pos e, if_pos ⟨by omega, by omega⟩]; rfl
  · rw [if_neg e, if_neg (fun c => e (by have := c.2; omega))]
    by_cases hi : 1 ≤ i
    · rw [if_pos ⟨by omega, by omega⟩, if_pos ⟨hi, by omega⟩]
      rw [show i + 1 - 2 = i - 1 by omega]
    · rw [if_neg (by omega), if_neg (by omega), if_neg (by omega)]
theorem conOf_zero (h f p : Nat) : conOf h f 0 p = zeros256 := by
  unfold conOf lastOf
  rw [if_neg (by omega), if_neg (by omega)]
theorem conOf_two (h f k p : Nat) (h1 : 1 ≤ h) (h2 : h ≤ 16) (hk : 2 ≤ k) (hp : p < 2) : (conOf h f k p == zeros256) = false := by
  unfold conOf
  obtain ⟨j, hj⟩ : ∃ j, lastOf f k p = some j := by
    unfold lastOf
    by_cases e : (f + k) % 2 = p
    · exact ⟨_, if_pos ⟨by omega, e⟩⟩
    · exact ⟨_, by rw [if_neg (fun c => e c.2), if_pos ⟨by omega, by omega⟩]⟩
  rw [hj]
  exact block_not_zero (mkSl_ok _ _ _ _ (by omega) (by omega) (by decide) (by decide))
/-- the newest of both copies is the last save -/
theorem newest_last (h f k : Nat) (hk : 1 ≤ k) (hf : f + k < 1000000) : (nwUpto (h : Int) 9 (sayOf h f k 0) (sayOf h f k 1) 2).2 = true ∧ (nwUpto (h : Int) 9 (sayOf h f k 0) (sayOf h f k 1) 2).1.num = (f : Int) + (k : Int) := by
  have n1 : (mkSl ((f : Int) + ((k - 1 : Nat) : Int)) ((k - 1 : Nat) : Int)).num = (f : Int) + k := by rw [mkSl_num' _ _ (by omega)]; omega
  by_cases h2 : 2 ≤ k
  · have n2 : (mkSl ((f : Int) + ((k - 2 : Nat) : Int)) ((k - 2 : Nat) : Int)).num = (f : Int) + k - 1 := by rw [mkSl_num' _ _ (by omega)]; omega
    by_cases e : (f + k) % 2 = 0
    · have e0 : lastOf f k 0 = some (k - 1) := if_pos ⟨by omega, e⟩
      have e1 : lastOf f k 1 = some (k - 2) := by unfold lastOf; rw [if_neg (by omega), if_pos ⟨by omega, by omega⟩]
      have hlt : ¬ (f : Int) + k < (mkSl ((f : Int) + ((k - 2 : Nat) : Int)) ((k - 2 : Nat) : Int)).num := by omega
      simp [sayOf, e0, e1, nwUpto, nwStep, hlt, n1]
    · have e1 : lastOf f k 1 = some (k - 1) := if_pos ⟨by omega, by omega⟩
      have e0 : lastOf f k 0 = some (k - 2) := by unfold lastOf; rw [if_neg (by omega), if_pos ⟨by omega, by omega⟩]
      have hlt : (mkSl ((f : Int) + ((k - 2 : Nat) : Int)) ((k - 2 : Nat) : Int)).num < (f : Int) + k := by omega
      simp [sayOf, e0, e1, nwUpto, nwStep, hlt, n1]
  · by_cases e : (f + k) % 2 = 0
    · have e0 : lastOf f k 0 = some (k - 1) := if_pos ⟨by omega, e⟩
      have e1 : lastOf f k 1 = none := by unfold lastOf; rw [if_neg (by omega), if_neg (by omega)]
      simp [sayOf, e0, e1, nwUpto, nwStep, n1]
    · have e1 : lastOf f k 1 = some (k - 1) := if_pos ⟨by omega, by omega⟩
      have e0 : lastOf f k 0 = none := by unfold lastOf; rw [if_neg (by omega), if_neg (by omega)]
      simp [sayOf, e0, e1, nwUpto, nwStep, n1]

section
attribute [local go_sem ↓] ld37 st37
attribute [local go_sem] st_new
set_option maxRecDepth 100000 in
set_option maxHeartbeats 4000000 in
theorem imageOthers_walk (house num n : Int) (w : World) :
    Calls Try.prog 12 #[.int .i64 house, .int .i64 num, .int .i64 n] w fun e w' => e = .returned (.bool true) ∧ Below w.heap.size w w' := by
  obtain ⟨h, h1, h2, hh, hplc⟩ := place_h house w
  have hadd : (1 : Int) + ((h : Int) - 1) = h := by omega
  clear hh
  go_enter Try.func12, Try.ntmps12
  go_wp2_with fail
  refine hplc.mono ?_
  rintro e w' ⟨rfl, rfl⟩
  clear hplc
  go_wp2_with fail
  refine (dnew60 _).mono ?_
  rintro e w1 ⟨g, gd, rfl, hA1, hb1⟩
  go_wp2_with fail
  refine (place_any n 6 _ (by omega) (by omega)).mono ?_
  rintro e w' ⟨rfl, rfl⟩
  have p0 := plc_nonneg n (n := 6) (by omega)
  have p1 := plc_lt n (n := 6) (by omega)
  generalize plc n 6 = p at *
  obtain ⟨k, rfl⟩ : ∃ k : Nat, p = (k : Int) - 1 := ⟨(p + 1).toNat, by omega⟩
  have hadd2 : (1 : Int) + ((k : Int) - 1) = k := by omega
  have hk1 : 1 ≤ k := by omega
  have hk6 : k ≤ 6 := by omega
  clear p0 p1
  go_wp2_with fail
  refine (place_any num 1000 _ (by omega) (by omega)).mono ?_
  rintro e w' ⟨rfl, rfl⟩
  have p0 := plc_nonneg num (n := 1000) (by omega)
  have p1 := plc_lt num (n := 1000) (by omega)
  generalize plc num 1000 = p at *
  obtain ⟨f, rfl⟩ := Int.eq_ofNat_of_zero_le p0
  have hf : f < 1000 := by omega
  clear p0 p1
  go_wp2_with fail
  go_loopw [11] (fun i wr => ∃ (i' : Nat) (d : Dk), i' ≤ k ∧ i = .int .i64 i' ∧ DkAt wr w.heap.size g gd (.slice none 0 0) d ∧ d.ws = [] ∧ d.down = false ∧ d.cut = -1 ∧ d.dur.length = 60 ∧ d.writes = i' ∧
      Hid (∀ j, j < 60 → d.dur.getD j [] = if j = 14 + 2 * h then conOf h f i' 0 else if j = 15 + 2 * h then conOf h f i' 1 else zeros256) ∧ Below w.heap.size w wr) (fun i _ => k - (intOf i).toNat)
  case atStart => exact ⟨0, _, by omega, rfl, hA1, rfl, rfl, rfl, dkNew_len 60, rfl, (fun j hj => by rw [dkNew_get 60 j hj, conOf_zero, conOf_zero]; simp), hb1⟩
  case round =>
    clear hA1 hb1
    obtain ⟨i, d, hi, rfl, hA, hws, hd, hct, hdl, hwr, hcon, hW⟩ := hrel
    by_cases hik : i < k
    · have HM := Lib.hid (made_any ((f : Int) + (i : Int)) i wr)
      have hn := mkSl_num' f i (by omega)
      have hok := mkSl_ok ((f : Int) + (i : Int)) i h 9 (by omega) (by omega) (by decide) (by decide)
      have HC := Lib.hid (fun p hp => conOf_step h f i p hp)
      obtain ⟨s, hs⟩ : ∃ s, s = (mkSl ((f : Int) + (i : Int)) i).block h 9 := ⟨_, rfl⟩
      have hsl : s.length = 256 := by rw [hs]; exact Sl.block_length _ _ _
      rw [← hs] at HC
      generalize mkSl ((f : Int) + (i : Int)) i = x at *
      have HOK := Lib.hid hok
      have HS := Lib.hid hs
      have HN := Lib.hid hn
      clear hok hs hn
      go_wp2_with fail
      refine HM.out.mono ?_
      rintro e w2 ⟨rfl, hb2⟩
      have hA2 := hA.beyond hb2
      have hW2 := below2 hW hb2
      clear hA hb2 hW HM
      obtain ⟨q, hq⟩ : ∃ q, q = 14 + 2 * h + (f + i + 1) % 2 := ⟨_, rfl⟩
      go_wp2_with fail
      refine (isave_yes hA2 h q 9 x s hsl HS.out h1 h2 HOK.out (by rw [HN.out, hq]; omega) (by rw [hdl]; omega) (.inl hws) hd (by omega) (by rw [hct]; decide)).mono ?_
      rintro e w3 ⟨rfl, hA3, hT3⟩
      have hW3 := hA2.below hT3 hW2
      rw [saved_eq _ _ _ hsl hws] at hA3
      clear hA2 hT3 hW2
      have HQ := Lib.hid hq
      clear hq
      go_wp2_with fail
      go_roundw
      case rel =>
        refine ⟨i + 1, _, by omega, by go_num, hA3, rfl, by show decide (cutDown d.cut = 0) = false; rw [hct]; rfl, by show cutDown d.cut = -1; rw [hct]; rfl, by show (List.set _ _ _).length = 60; rw [List.length_set]; exact hdl, by show d.writes + 1 = i + 1; rw [hwr], ?_, hW3⟩
        intro j hj
        show (List.set _ _ _).getD j [] = _
        rw [getD_set _ _ _ _ (by rw [hdl, HQ.out]; omega), hcon.out j hj, HC.out 0 (by omega), HC.out 1 (by omega), HQ.out]
        by_cases e : (f + i + 1) % 2 = 0
        · rw [e]
          by_cases ej : j = 14 + 2 * h
          · rw [if_pos (by omega), if_pos ej, if_pos rfl]
          · rw [if_neg (by omega), if_neg ej, if_neg ej]
            by_cases ej2 : j = 15 + 2 * h
            · rw [if_pos ej2, if_pos ej2, if_neg (by decide)]
            · rw [if_neg ej2, if_neg ej2]
        · have e1 : (f + i + 1) % 2 = 1 := by omega
          rw [e1]
          by_cases ej : j = 15 + 2 * h
          · rw [if_pos (by omega), if_neg (by omega), if_pos ej, if_pos rfl]
          · rw [if_neg (by omega)]
            by_cases ej2 : j = 14 + 2 * h
            · rw [if_pos ej2, if_pos ej2, if_neg (by decide)]
            · rw [if_neg ej2, if_neg ej2, if_neg ej, if_neg ej]
      case measure => simp [intOf]; omega
    · obtain rfl : i = k := by omega
      go_wp2_with fail
      have hA16 : (16 : Int) + 2 * ((h : Int) - 1) = ((14 + 2 * h : Nat) : Int) := by omega
      have hA17 : (17 : Int) + 2 * ((h : Int) - 1) = ((15 + 2 * h : Nat) : Int) := by omega
      have HZ : Hid (∀ p, p < 2 → 1 < i → (conOf h f i p == zeros256) = false) := fun p hp hk => conOf_two h f i p h1 h2 hk hp
      have HS0 := Lib.hid (conOf_say h f i 0 h1 h2)
      have HS1 := Lib.hid (conOf_say h f i 1 h1 h2)
      have HN := Lib.hid (newest_last h f i (by omega) (by omega))
      have HA := Lib.hid hA
      have HW := Lib.hid hW
      have hzz : (zeros256 == zeros256) = true := beq_self_eq_true _
      clear hA
      obtain ⟨a, ha⟩ : ∃ a, a = 14 + 2 * h := ⟨_, rfl⟩
      obtain ⟨b, hb⟩ : ∃ b, b = 15 + 2 * h := ⟨_, rfl⟩
      rw [← ha] at hA16
      rw [← hb] at hA17
      have Ha := Lib.hid ha
      have Hb := Lib.hid hb
      clear ha hb
      go_loopw [12] (fun j wx => ∃ j' : Nat, j' ≤ 60 ∧ j = .int .i64 j' ∧ DkAt wx w.heap.size g gd (.slice none 0 0) d ∧ Below w.heap.size w wx) (fun j _ => 60 - (intOf j).toNat)
      case atStart => exact ⟨0, by omega, rfl, HA.out, hW⟩
      case round =>
        clear hW
        obtain ⟨j, hj, rfl, hA, hW⟩ := hrel
        by_cases hj60 : j < 60
        · have hcj := hcon.out j hj60
          rw [← Ha.out, ← Hb.out] at hcj
          have key := ddurable hA j (by rw [hdl]; exact hj60)
          by_cases ja : j = a
          · rw [if_pos ja] at hcj
            have t1 : ((j : Int) == (a : Int)) = true := by simp [ja]
            have t1' : (j == a) = true := by simp [ja]
            rw [hcj] at key
            have HKey := Lib.hid key
            clear key hcj ja
            have hne := HZ.out 0 (by omega)
            generalize conOf h f i 0 = s at *
            by_cases hi1 : 1 < i
            · have hne := hne hi1
              have t3 : decide ((1 : Int) < (i : Int)) = true := by simp; omega
              have t4 : decide (1 < i) = true := by simpa using hi1
              clear hi1
              go_wp2_with fail
              refine HKey.out.mono ?_
              rintro e w' ⟨rfl, rfl⟩
              go_wp2_with fail
              refine (zero_any _).mono ?_
              rintro e wz ⟨rfl, hbz⟩
              go_wp2_with fail
              go_roundw
              case rel => exact ⟨j + 1, by omega, by go_num, hA.beyond hbz, below2 hW hbz⟩
              case measure => simp [intOf]; omega
            · have t3 : decide ((1 : Int) < (i : Int)) = false := by simp; omega
              have t4 : decide (1 < i) = false := by simpa using hi1
              clear hi1 hne
              go_wp2_with fail
              refine HKey.out.mono ?_
              rintro e w' ⟨rfl, rfl⟩
              go_wp2_with fail
              go_roundw
              case rel => exact ⟨j + 1, by omega, by go_num, hA, hW⟩
              case measure => simp [intOf]; omega
          · rw [if_neg ja] at hcj
            have t1 : ((j : Int) == (a : Int)) = false := by rw [beq_eq_false_iff_ne]; omega
            have t1' : (j == a) = false := by simpa using ja
            clear ja
            by_cases jb : j = b
            · rw [if_pos jb] at hcj
              have t2 : ((j : Int) == (b : Int)) = true := by simp [jb]
              have t2' : (j == b) = true := by simp [jb]
              rw [hcj] at key
              have HKey := Lib.hid key
              clear key hcj jb
              have hne := HZ.out 1 (by omega)
              generalize conOf h f i 1 = s at *
              by_cases hi1 : 1 < i
              · have hne := hne hi1
                have t3 : decide ((1 : Int) < (i : Int)) = true := by simp; omega
                have t4 : decide (1 < i) = true := by simpa using hi1
                clear hi1
                go_wp2_with fail
                refine HKey.out.mono ?_
                rintro e w' ⟨rfl, rfl⟩
                go_wp2_with fail
                refine (zero_any _).mono ?_
                rintro e wz ⟨rfl, hbz⟩
                go_wp2_with fail
                go_roundw
                case rel => exact ⟨j + 1, by omega, by go_num, hA.beyond hbz, below2 hW hbz⟩
                case measure => simp [intOf]; omega
              · have t3 : decide ((1 : Int) < (i : Int)) = false := by simp; omega
                have t4 : decide (1 < i) = false := by simpa using hi1
                clear hi1 hne
                go_wp2_with fail
                refine HKey.out.mono ?_
                rintro e w' ⟨rfl, rfl⟩
                go_wp2_with fail
                go_roundw
                case rel => exact ⟨j + 1, by omega, by go_num, hA, hW⟩
                case measure => simp [intOf]; omega
            · rw [if_neg jb] at hcj
              have t2 : ((j : Int) == (b : Int)) = false := by rw [beq_eq_false_iff_ne]; omega
              have t2' : (j == b) = false := by simpa using jb
              rw [hcj] at key
              have HKey := Lib.hid key
              clear key hcj jb
              go_wp2_with fail
              refine HKey.out.mono ?_
              rintro e w' ⟨rfl, rfl⟩
              go_wp2_with fail
              refine (zero_any _).mono ?_
              rintro e wz ⟨rfl, hbz⟩
              go_wp2_with fail
              go_roundw
              case rel => exact ⟨j + 1, by omega, by go_num, hA.beyond hbz, below2 hW hbz⟩
              case measure => simp [intOf]; omega
        · obtain rfl : j = 60 := by omega
          have hcA := hcon.out (14 + 2 * h) (by omega)
          rw [if_pos rfl] at hcA
          have hcB := hcon.out (15 + 2 * h) (by omega)
          rw [if_neg (by omega), if_pos rfl] at hcB
          have key := inewest hA h 9 h1 h2 (by rw [hdl]; omega) hd _ _ (by rw [Dk.rd_nil hws, hcA]; exact HS0.out) (by rw [Dk.rd_nil hws, hcB]; exact HS1.out)
          obtain ⟨hn1, hn2⟩ := HN.out
          generalize nwUpto (h : Int) 9 (sayOf h f i 0) (sayOf h f i 1) 2 = st at *
          obtain ⟨x, bb⟩ := st
          dsimp only at key hn1 hn2
          subst hn1
          have HKey := Lib.hid key
          have HN2 := Lib.hid hn2
          clear key hn2 hcA hcB
          go_wp2_with fail
          refine HKey.out.mono ?_
          rintro e w6 ⟨rfl, hb6⟩
          have c0 : (w6.alloc (.cells x.cells 37)).cell? ⟨w6.heap.size, 0, none⟩ = some (.int .i64 ((f : Int) + (i : Int))) := by rw [← HN2.out]; exact (Blk.new w6 37 x.cells).cell 0
          have hbb : Below wr.heap.size wr (w6.alloc (.cells x.cells 37)) := hb6.alloc hb6.size _
          have hA7 := hA.beyond hbb
          have hW7 := below2 hW hbb
          have hwd := dwrites hA7
          rw [hwr] at hwd
          clear hA hb6 hbb HKey
          go_wp2_with fail
          refine hwd.mono ?_
          rintro e w' ⟨rfl, rfl⟩
          go_wp2_with fail
          refine (iawake_any _).mono ?_
          rintro e wz ⟨rfl, hbz⟩
          go_wp2_with fail
          go_ret
          exact ⟨rfl, below2 hW7 hbz⟩
end
end Go.Proofs.Ytmpkcehjmjopdaa
