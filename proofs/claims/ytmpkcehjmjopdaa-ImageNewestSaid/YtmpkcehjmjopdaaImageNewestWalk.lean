import Derived.Test.YtmpkcehjmjopdaaImgL
namespace Go.Proofs.Ytmpkcehjmjopdaa
open Go.RowKit Go.Sort

/-- the slot that a copy has, if it has one -/
def slO (o : Option Sl) : Sl := o.getD slZero
def conO (h g : Int) (o : Option Sl) : List UInt8 :=
  match o with
  | none => zeros256
  | some x => x.block h g
def okO (h g : Int) (o : Option Sl) : Prop := ∀ x, o = some x → x.ok h g = true
theorem conO_say {h g : Int} {o : Option Sl} (ho : okO h g o) : slGot (conO h g o) = sayV (o.map fun x => (h, g, x)) := by
  cases o with
  | none => exact slGot_zero'
  | some x => exact slGot_block' (ho x rfl)
theorem okO_num {h g : Int} {o : Option Sl} (ho : okO h g o) : o = none ∧ (slO o).num = 0 ∨ (∃ x, o = some x ∧ slO o = x ∧ 1 ≤ x.num) := by
  cases o with
  | none => exact .inl ⟨rfl, rfl⟩
  | some x =>
    refine .inr ⟨x, rfl, rfl, ?_⟩
    have := ho x rfl
    unfold Sl.ok at this
    simp only [Bool.and_eq_true] at this
    exact (Sl.chk_bounds this.2).1.1
/-- the newest of two copies, one of which there is -/
def wantO (o0 o1 : Option Sl) : Sl := if (slO o0).num < (slO o1).num then slO o1 else slO o0
theorem newest_want {h g : Int} {o0 o1 : Option Sl} (h0 : okO h g o0) (h1 : okO h g o1) (hs : o0 ≠ none ∨ o1 ≠ none) : nwUpto h g (o0.map fun x => (h, g, x)) (o1.map fun x => (h, g, x)) 2 = (wantO o0 o1, true) := by
  unfold wantO
  rcases okO_num h0 with ⟨rfl, n0⟩ | ⟨x0, rfl, e0, n0⟩ <;> rcases okO_num h1 with ⟨rfl, n1⟩ | ⟨x1, rfl, e1, n1⟩
  · simp at hs
  · rw [n0, e1, if_pos (by omega)]
    simp [nwUpto, nwStep]
  · rw [n1, e0, if_neg (by omega)]
    simp [nwUpto, nwStep]
  · rw [e0, e1]
    by_cases hl : x0.num < x1.num
    · rw [if_pos hl]; simp [nwUpto, nwStep, hl]
    · rw [if_neg hl]; simp [nwUpto, nwStep, hl]
theorem newest_gen (h g : Int) (o0 o1 : Option Sl) : nwUpto h (g + 1) (o0.map fun x => (h, g, x)) (o1.map fun x => (h, g, x)) 2 = (slZero, false) := by
  have hne : ¬ g = g + 1 := by omega
  cases o0 <;> cases o1 <;> simp [nwUpto, nwStep, hne]

/-- two slots, one behind the other -/
def twoC (A B : Sl) : Array Value := (A.cells.toList ++ B.cells.toList).toArray
theorem sl_len (A : Sl) : A.cells.toList.length = 13 := rfl
theorem twoC_range0 {w : World} {b : Nat} {t : TypeId} {A B : Sl} (h : Blk w b t (twoC A B)) : w.rangeAt b 0 A.cells.toList := by
  intro j v hv
  rw [Nat.zero_add, h.cell, twoC, List.getElem?_toArray, List.getElem?_append_left (List.getElem?_eq_some_iff.1 hv).1, hv]
theorem twoC_range1 {w : World} {b : Nat} {t : TypeId} {A B : Sl} (h : Blk w b t (twoC A B)) : w.rangeAt b 13 B.cells.toList := by
  intro j v hv
  rw [h.cell, twoC, List.getElem?_toArray, List.getElem?_append_right (by rw [sl_len]; omega), sl_len, Nat.add_sub_cancel_left, hv]
theorem twoC_ld0 {w : World} {b : Nat} {t : TypeId} {A B : Sl} (h : Blk w b t (twoC A B)) : (ldV 37 (.pointer (some ⟨b, 0, none⟩))).run Try.prog w = .ok (.agg A.cells) w :=
  run_loadAt_mid w b 0 37 A.cells.toList _ (twoC_range0 h) Try.underlying37 rfl (by kernel_rfl)
theorem twoC_ld1 {w : World} {b : Nat} {t : TypeId} {A B : Sl} (h : Blk w b t (twoC A B)) : (ldV 37 (.pointer (some ⟨b, 13, none⟩))).run Try.prog w = .ok (.agg B.cells) w :=
  run_loadAt_mid w b 13 37 B.cells.toList _ (twoC_range1 h) Try.underlying37 rfl (by kernel_rfl)
theorem twoC_there {w : World} {b : Nat} {t : TypeId} {A B : Sl} (h : Blk w b t (twoC A B)) (o : Nat) (ho : o ≤ 13) : w.there b o 13 := by
  intro j hj
  refine ⟨?_, h.frozen _⟩
  rw [h.cell, twoC, List.getElem?_toArray, List.getElem?_eq_getElem (by rw [List.length_append, sl_len, sl_len]; omega)]; rfl
theorem twoC_st {w : World} {b : Nat} {t : TypeId} {A B : Sl} (h : Blk w b t (twoC A B)) (o : Nat) (ho : o ≤ 13) (x : Sl) : (stV 37 (.pointer (some ⟨b, o, none⟩)) (.agg x.cells)).run Try.prog w = .ok () (w.setCells b o x.cells.toList) :=
  run_storeAt_mid w b o 37 x.cells (twoC_there h o ho) (by kernel_rfl) (cells_one x)
theorem put_two0 (a b x : List Value) (h : x.length = a.length) : putAt (a ++ b).toArray 0 x = (x ++ b).toArray := by
  have h4 := putAt_mid x a b h []
  simpa using h4
theorem put_two1 (a b x : List Value) (h : x.length = b.length) (n : Nat) (hn : a.length = n) : putAt (a ++ b).toArray n x = (a ++ x).toArray := by
  have h4 := putAt_mid x b [] h a
  rw [hn] at h4
  simpa using h4
theorem twoC_set0 {w : World} {b : Nat} {t : TypeId} {A B : Sl} (h : Blk w b t (twoC A B)) (x : Sl) : Blk (w.setCells b 0 x.cells.toList) b t (twoC x B) := by
  have h3 := h.setCells x.cells.toList 0
  have h5 : putAt (twoC A B) 0 x.cells.toList = twoC x B := put_two0 _ _ _ (by rw [sl_len, sl_len])
  rw [h5] at h3
  exact h3
theorem twoC_set1 {w : World} {b : Nat} {t : TypeId} {A B : Sl} (h : Blk w b t (twoC A B)) (x : Sl) : Blk (w.setCells b 13 x.cells.toList) b t (twoC A x) := by
  have h3 := h.setCells x.cells.toList 13
  have h5 : putAt (twoC A B) 13 x.cells.toList = twoC A x := put_two1 _ _ _ (by rw [sl_len, sl_len]) 13 (sl_len A)
  rw [h5] at h3
  exact h3
theorem twoC_c0 {w : World} {b : Nat} {t : TypeId} {A B : Sl} (h : Blk w b t (twoC A B)) : w.cell? ⟨b, 0, none⟩ = some (.int .i64 A.num) := twoC_range0 h 0 _ rfl
theorem twoC_c1 {w : World} {b : Nat} {t : TypeId} {A B : Sl} (h : Blk w b t (twoC A B)) : w.cell? ⟨b, 13, none⟩ = some (.int .i64 B.num) := twoC_range1 h 0 _ rfl
/-- one of two slots turned -/
theorem twoC_stk {w : World} {b : Nat} {t : TypeId} {o0 o1 : Option Sl} (h : Blk w b t (twoC (slO o0) (slO o1))) (k : Nat) (hk : k < 2) (x : Sl) :
    (stV 37 (.pointer (some ⟨b, k * 13, none⟩)) (.agg x.cells)).run Try.prog w = .ok () (w.setCells b (k * 13) x.cells.toList) ∧
    Blk (w.setCells b (k * 13) x.cells.toList) b t (twoC (slO (if k = 0 then some x else o0)) (slO (if k = 1 then some x else o1))) := by
  obtain rfl | rfl : k = 0 ∨ k = 1 := by omega
  · exact ⟨twoC_st h 0 (by omega) x, twoC_set0 h x⟩
  · exact ⟨twoC_st h 13 (by omega) x, twoC_set1 h x⟩
section
attribute [local go_sem ↓] ld37 st37
attribute [local go_sem] st_new
set_option maxRecDepth 100000 in
theorem imageNewest_long (house gen : Int) (a : Option Addr) (len cap : Nat) (w : World) (hlong : 40 < len) :
    Calls Try.prog 18 #[.int .i64 house, .int .i64 gen, .slice a len cap] w fun e w' => e = .returned (.bool true) ∧ Below w.heap.size w w' := by
  obtain ⟨h, h1, h2, hh, hplc⟩ := place_h house w
  have hadd : (1 : Int) + ((h : Int) - 1) = h := by omega
  have t40 : decide ((40 : Int) < (len : Int)) = true := by simp; omega
  have t40' : decide (40 < len) = true := by simpa using hlong
  clear hh
  go_enter Try.func18, Try.ntmps18
  go_wp2_with fail
  refine hplc.mono ?_
  rintro e w' ⟨rfl, rfl⟩
  clear hplc
  go_wp2_with fail
  refine (place_any gen 60000 _ (by omega) (by omega)).mono ?_
  rintro e w' ⟨rfl, rfl⟩
  have p0 := plc_nonneg gen (n := 60000) (by omega)
  have p1 := plc_lt gen (n := 60000) (by omega)
  generalize plc gen 60000 = p at *
  go_wp2_with fail
  refine (dnew48 _).mono ?_
  rintro e w1 ⟨g, gd, rfl, hA1, hb1⟩
  go_wp2_with fail
  refine (iawake_any _).mono ?_
  rintro e wz ⟨rfl, hbz⟩
  go_wp2_with fail
  go_ret
  exact ⟨rfl, below2 hb1 hbz⟩

set_option maxRecDepth 100000 in
set_option maxHeartbeats 4000000 in
theorem imageNewest_short (house gen : Int) (a : Option Addr) (len cap : Nat) (zs : List Int) (w : World) (hrow : IsRow .i64 w a len cap zs) (hshort : len ≤ 40) :
    Calls Try.prog 18 #[.int .i64 house, .int .i64 gen, .slice a len cap] w fun e w' => e = .returned (.bool true) ∧ Below w.heap.size w w' := by
  obtain ⟨h, h1, h2, hh, hplc⟩ := place_h house w
  have hadd : (1 : Int) + ((h : Int) - 1) = h := by omega
  obtain ⟨h', hh'⟩ : ∃ h' : Nat, (1 : Int) + (h : Int) % 16 = (h' : Int) := ⟨1 + h % 16, by omega⟩
  have h1' : 1 ≤ h' := by omega
  have h2' : h' ≤ 16 := by omega
  have hne : h' ≠ h := by omega
  have HRow := Lib.hid hrow
  have t40 : decide ((40 : Int) < (len : Int)) = false := by simp; omega
  have t40' : decide (40 < len) = false := by simp; omega
  clear hh hrow
  go_enter Try.func18, Try.ntmps18
  go_wp2_with fail
  refine hplc.mono ?_
  rintro e w' ⟨rfl, rfl⟩
  clear hplc
  go_wp2_with fail
  refine (place_any gen 60000 _ (by omega) (by omega)).mono ?_
  rintro e w' ⟨rfl, rfl⟩
  have p0 := plc_nonneg gen (n := 60000) (by omega)
  have p1 := plc_lt gen (n := 60000) (by omega)
  generalize plc gen 60000 = p at *
  obtain ⟨gg, rfl⟩ : ∃ gg, p = gg - 1 := ⟨p + 1, by omega⟩
  have hadd2 : (1 : Int) + (gg - 1) = gg := by omega
  have hg1 : 1 ≤ gg := by omega
  have hg2 : gg ≤ 60000 := by omega
  clear p0 p1
  go_wp2_with fail
  refine (dnew48 _).mono ?_
  rintro e w1 ⟨g, gd, rfl, hA1, hb1⟩
  have hL1 : Loc (w1.alloc (.cells #[.int .i64 0, .int .i64 0, .int .i64 0, .int .i64 0, .int .i64 0, .int .i64 0, .int .i64 0, .int .i64 0, .int .i64 0, .int .i64 0, .int .i64 0, .int .i64 0, .int .i64 0, .int .i64 0, .int .i64 0, .int .i64 0, .int .i64 0, .int .i64 0, .int .i64 0, .int .i64 0, .int .i64 0, .int .i64 0, .int .i64 0, .int .i64 0, .int .i64 0, .int .i64 0] 73)) g gd (.slice none 0 0) w1.heap.size 73 (twoC (slO none) (slO none)) := hA1.loc 73 (twoC slZero slZero)
  have hA2 : DkAt (w1.alloc (.cells #[.int .i64 0, .int .i64 0, .int .i64 0, .int .i64 0, .int .i64 0, .int .i64 0, .int .i64 0, .int .i64 0, .int .i64 0, .int .i64 0, .int .i64 0, .int .i64 0, .int .i64 0, .int .i64 0, .int .i64 0, .int .i64 0, .int .i64 0, .int .i64 0, .int .i64 0, .int .i64 0, .int .i64 0, .int .i64 0, .int .i64 0, .int .i64 0, .int .i64 0, .int .i64 0] 73)) w.heap.size g gd (.slice none 0 0) (dkNew 48) := hA1.beyond ((Below.refl _ _).alloc (Nat.le_refl _) _)
  have hW2 : Below w.heap.size w (w1.alloc (.cells #[.int .i64 0, .int .i64 0, .int .i64 0, .int .i64 0, .int .i64 0, .int .i64 0, .int .i64 0, .int .i64 0, .int .i64 0, .int .i64 0, .int .i64 0, .int .i64 0, .int .i64 0, .int .i64 0, .int .i64 0, .int .i64 0, .int .i64 0, .int .i64 0, .int .i64 0, .int .i64 0, .int .i64 0, .int .i64 0, .int .i64 0, .int .i64 0, .int .i64 0, .int .i64 0] 73)) := hb1.alloc hb1.size _
  go_wp2_with fail
  generalize w1.alloc (.cells #[.int .i64 0, .int .i64 0, .int .i64 0, .int .i64 0, .int .i64 0, .int .i64 0, .int .i64 0, .int .i64 0, .int .i64 0, .int .i64 0, .int .i64 0, .int .i64 0, .int .i64 0, .int .i64 0, .int .i64 0, .int .i64 0, .int .i64 0, .int .i64 0, .int .i64 0, .int .i64 0, .int .i64 0, .int .i64 0, .int .i64 0, .int .i64 0, .int .i64 0, .int .i64 0] 73) = v1 at *
  have hB10 : w.heap.size ≤ w1.heap.size := hb1.size
  generalize w1.heap.size = b10 at *
  clear hA1 hb1
  go_loopw [11] (fun i wr => ∃ (i' : Nat) (d : Dk) (o0 o1 : Option Sl), i' ≤ len ∧ i = .int .i64 i' ∧ DkAt wr w.heap.size g gd (.slice none 0 0) d ∧ d.ws = [] ∧ d.down = false ∧ d.cut = -1 ∧ d.dur.length = 48 ∧ d.writes = i' ∧ okO h gg o0 ∧ okO h gg o1 ∧
      Hid (∀ j, j < 48 → d.dur.getD j [] = if j = 14 + 2 * h then conO h gg o0 else if j = 15 + 2 * h then conO h gg o1 else zeros256) ∧ Loc wr g gd (.slice none 0 0) b10 73 (twoC (slO o0) (slO o1)) ∧ Below w.heap.size w wr) (fun i _ => len - (intOf i).toNat)
  case atStart => exact ⟨0, _, none, none, by omega, rfl, hA2, rfl, rfl, rfl, dkNew_len 48, rfl, (fun x hx => by cases hx), (fun x hx => by cases hx), (fun j hj => by rw [dkNew_get 48 j hj]; simp [conO]), hL1, hW2⟩
  case round =>
    clear hA2 hW2 hL1
    obtain ⟨i, d, o0, o1, hi, rfl, hA, hws, hd, hct, hdl, hwr, ho0, ho1, hcon, hL, hW⟩ := hrel
    by_cases hil : i < len
    · obtain ⟨bb, oo, rfl, hbw, _, _, hcell, _⟩ := HRow.out.cells (by omega)
      have cz : wr.cell? ⟨bb, oo + i, none⟩ = some (.int .i64 (zs.getD i 0)) := (hW.cell hbw).trans (hcell i hil)
      generalize zs.getD i 0 = z at *
      have HM := Lib.hid (made_any z i wr)
      have hok := mkSl_ok z i h gg (by omega) (by omega) hg1 (by omega)
      have hnum := mkSl_num z i
      obtain ⟨s, hs⟩ : ∃ s, s = (mkSl z i).block h gg := ⟨_, rfl⟩
      have hsl : s.length = 256 := by rw [hs]; exact Sl.block_length _ _ _
      generalize mkSl z i = x at *
      have HOK := Lib.hid hok
      have HS := Lib.hid hs
      obtain ⟨kk, hkk⟩ : ∃ kk : Nat, x.num % 2 = (kk : Int) := ⟨(x.num % 2).toNat, by omega⟩
      have hkt : x.num.tmod 2 = (kk : Int) := by rw [Int.tmod_eq_emod_of_nonneg (by omega)]; exact hkk
      have hk2 : kk < 2 := by omega
      clear hok hs hcell
      go_wp2_with fail
      refine HM.out.mono ?_
      rintro e w2 ⟨rfl, hb2⟩
      have hb2a : Below wr.heap.size wr (w2.alloc (.cells x.cells 37)) := hb2.alloc hb2.size _
      have hX2 := (hA.beyond hb2).loc 37 x.cells
      have hA2 := hA.beyond hb2a
      have hL2 := hL.to (.of_below hb2a)
      have hW2 := below2 hW hb2a
      have hT2 : DkTo wr (w2.alloc (.cells x.cells 37)) g gd (.slice none 0 0) (.slice none 0 0) := .of_below hb2a
      have hldx := run_ldB hX2.blk
      clear hA hb2 hb2a HM cz hW
      have hq : ((14 + 2 * h + kk : Nat) : Int) = 14 + 2 * h + x.num % 2 := by rw [hkk]; omega
      generalize hv2 : w2.alloc (.cells x.cells 37) = v2 at *
      go_wp2_with fail
      clear hv2
      refine (isave_yes hA2 h (14 + 2 * h + kk) gg x s hsl HS.out h1 h2 HOK.out hq (by rw [hdl]; omega) (.inl hws) hd (by omega) (by rw [hct]; decide)).mono ?_
      rintro e w3 ⟨rfl, hA3, hT3⟩
      have hW3 := hA2.below hT3 hW2
      rw [saved_eq _ _ _ hsl hws] at hA3
      have hL3 := hL2.to hT3
      have hX3 := hX2.to hT3
      have hldx3 := run_ldB hX3.blk
      have cx3 : w3.cell? ⟨w2.heap.size, 0, none⟩ = some (.int .i64 x.num) := (hX3.blk.cell 0).trans (cells_0 x)
      obtain ⟨hstk, hB4⟩ := twoC_stk hL3.blk kk hk2 x
      clear hA2 hT3 hW2 hL2 hX2 hldx hL hq hT2
      have hA4 : DkAt (w3.setCells b10 (kk * 13) x.cells.toList) w.heap.size g gd (.slice none 0 0) (d.saved h (14 + 2 * h + kk) s) :=
        { hA3 with
          top := Blk.setCells_far (Ne.symm hL3.n1) _ _ hA3.top
          sec := Blk.setCells_far (Ne.symm hL3.n2) _ _ hA3.sec
          row := World.ownsRow_nil _ _ _ _ }
      have hW4 := below_setCells (show w.heap.size ≤ b10 from hB10) x.cells.toList (kk * 13) hW3
      have hL4 : Loc (w3.setCells b10 (kk * 13) x.cells.toList) g gd (.slice none 0 0) b10 73 _ := ⟨hB4, hL3.n1, hL3.n2, hL3.n3⟩
      have ho0' : okO h gg (if kk = 0 then some x else o0) := by
        intro y hy
        split at hy
        · obtain rfl := Option.some.inj hy; exact HOK.out
        · exact ho0 y hy
      have ho1' : okO h gg (if kk = 1 then some x else o1) := by
        intro y hy
        split at hy
        · obtain rfl := Option.some.inj hy; exact HOK.out
        · exact ho1 y hy
      have hsome : (if kk = 0 then some x else o0) ≠ none ∨ (if kk = 1 then some x else o1) ≠ none := by
        obtain rfl | rfl : kk = 0 ∨ kk = 1 := by omega
        · left; simp
        · right; simp
      have hcon5 : Hid (∀ j, j < 48 → (d.saved h (14 + 2 * h + kk) s).dur.getD j [] = if j = 14 + 2 * h then conO h gg (if kk = 0 then some x else o0) else if j = 15 + 2 * h then conO h gg (if kk = 1 then some x else o1) else zeros256) := by
        intro j hj
        show (List.set _ _ _).getD j [] = _
        rw [getD_set _ _ _ _ (by rw [hdl]; omega), hcon.out j hj, HS.out]
        obtain rfl | rfl : kk = 0 ∨ kk = 1 := by omega
        · by_cases ej : j = 14 + 2 * h
          · rw [if_pos (by omega), if_pos ej]; rfl
          · rw [if_neg (by omega), if_neg ej, if_neg ej]; simp
        · by_cases ej : j = 15 + 2 * h
          · rw [if_pos (by omega), if_neg (by omega), if_pos ej]; rfl
          · rw [if_neg (by omega), if_neg ej, if_neg ej]; simp
      have hd5 : (d.saved h (14 + 2 * h + kk) s).down = false := by show decide (cutDown d.cut = 0) = false; rw [hct]; rfl
      have hct5 : (d.saved h (14 + 2 * h + kk) s).cut = -1 := by show cutDown d.cut = -1; rw [hct]; rfl
      have hdl5 : (d.saved h (14 + 2 * h + kk) s).dur.length = 48 := by show (List.set _ _ _).length = 48; rw [List.length_set]; exact hdl
      have hwr5 : (d.saved h (14 + 2 * h + kk) s).writes = i + 1 := by show d.writes + 1 = i + 1; rw [hwr]
      have hws5 : (d.saved h (14 + 2 * h + kk) s).ws = [] := rfl
      generalize d.saved h (14 + 2 * h + kk) s = d5 at *
      generalize (if kk = 0 then some x else o0) = o0' at *
      generalize (if kk = 1 then some x else o1) = o1' at *
      have hS0 : slGot (d5.rd (14 + 2 * h)) = sayV (o0'.map fun x => ((h : Int), gg, x)) := by
        rw [Dk.rd_nil hws5, hcon5.out _ (by omega), if_pos rfl]; exact conO_say ho0'
      have hS1 : slGot (d5.rd (15 + 2 * h)) = sayV (o1'.map fun x => ((h : Int), gg, x)) := by
        rw [Dk.rd_nil hws5, hcon5.out _ (by omega), if_neg (by omega), if_pos rfl]; exact conO_say ho1'
      have hS2 : slGot (d5.rd (14 + 2 * h')) = sayV none := by
        rw [Dk.rd_nil hws5, hcon5.out _ (by omega), if_neg (by omega), if_neg (by omega)]; exact slGot_zero'
      have hS3 : slGot (d5.rd (15 + 2 * h')) = sayV none := by
        rw [Dk.rd_nil hws5, hcon5.out _ (by omega), if_neg (by omega), if_neg (by omega)]; exact slGot_zero'
      have HWant := Lib.hid (newest_want ho0' ho1' hsome)
      have l0 := twoC_ld0 hB4
      have HB4 := Lib.hid hB4
      clear hB4 hA3 hW3 hL3 hX3 HOK HS hcon ho0 ho1 hsome
      have cb1 := twoC_c1 HB4.out
      have lb1 := twoC_ld1 HB4.out
      generalize hv4 : w3.setCells b10 (kk * 13) x.cells.toList = v4 at *
      have hb5 : Below v4.heap.size v4 (v4.alloc (.cells (slO o0').cells 37)) := (Below.refl _ _).alloc (Nat.le_refl _) _
      have hQ5 := Blk.new v4 37 (slO o0').cells
      have cb5 : (v4.alloc (.cells (slO o0').cells 37)).cell? ⟨b10, 13, none⟩ = some (.int .i64 (slO o1').num) := twoC_c1 (HB4.out.alloc _)
      have lb5 := twoC_ld1 (HB4.out.alloc (.cells (slO o0').cells 37))
      have cq5 : (v4.alloc (.cells (slO o0').cells 37)).cell? ⟨v4.heap.size, 0, none⟩ = some (.int .i64 (slO o0').num) := (hQ5.cell 0).trans (cells_0 _)
      have hWt : Hid (wantO o0' o1' = if (slO o0').num < (slO o1').num then slO o1' else slO o0') := rfl
      clear cb1 lb1 HB4
      generalize hv5 : v4.alloc (.cells (slO o0').cells 37) = v5 at *
      by_cases hlt : (slO o0').num < (slO o1').num
      · have tl : decide ((slO o0').num < (slO o1').num) = true := by simpa using hlt
        have HE : Hid (slO o1' = wantO o0' o1') := by show _ = _; rw [hWt.out, if_pos hlt]
        have hstw := run_stB (x := slO o1') hQ5 rfl
        have hWn := hQ5.row (slO o1').cells
        have hbq := below_row hb5 (Nat.le_refl v4.heap.size) (slO o1').cells
        clear hlt hWt hb5 hQ5
        go_wp2_with fail
        clear hv5 hv4 hstw cb5 lb5 cq5 l0 hldx3 cx3 hstk
        generalize v5.setRow v4.heap.size (slO o1').cells = vq at *
        rw [HE.out] at hWn
        have hA5 := hA4.beyond hbq
        have hW5 := below2 hW4 hbq
        have hT5 : DkTo v4 vq g gd (.slice none 0 0) (.slice none 0 0) := .of_below hbq
        clear hA4 hW4 hbq
        refine (inewest hA5 h gg h1 h2 (by rw [hdl5]; omega) hd5 _ _ hS0 hS1).mono ?_
        rintro e w6 ⟨rfl, hb6⟩
        rw [HWant.out]
        have hA6 := (hA5.beyond hb6).beyond ((Below.refl _ _).alloc (Nat.le_refl _) (.cells (wantO o0' o1').cells 37))
        have hW6 := below3 hW5 hb6 ((Below.refl _ _).alloc (Nat.le_refl _) (.cells (wantO o0' o1').cells 37))
        have hT6 := (hT5.trans (.of_below hb6)).trans (.of_below ((Below.refl _ _).alloc (Nat.le_refl _) (.cells (wantO o0' o1').cells 37)))
        have hWn6 := (hWn.beyond hb6).alloc (.cells (wantO o0' o1').cells 37)
        have hY6 := Blk.new w6 37 (wantO o0' o1').cells
        clear hA5 hW5 hT5 hWn hb6
        generalize hv6 : w6.alloc (.cells (wantO o0' o1').cells 37) = v6 at *
        go_wp2_with fail
        clear hv6
        refine (inewest hA6 h (gg + 1) h1 h2 (by rw [hdl5]; omega) hd5 _ _ hS0 hS1).mono ?_
        rintro e w7 ⟨rfl, hb7⟩
        rw [newest_gen]
        have hb7a : Below v6.heap.size v6 (w7.alloc (.cells slZero.cells 37)) := hb7.alloc hb7.size _
        have hA7 := hA6.beyond hb7a
        have hW7 := below2 hW6 hb7a
        have hT7 := hT6.trans (.of_below hb7a)
        have hWn7 := hWn6.beyond hb7a
        have hY7 := hY6.beyond hb7a
        clear hA6 hW6 hT6 hWn6 hY6 hb7 hb7a
        generalize hv7 : w7.alloc (.cells slZero.cells 37) = v7 at *
        go_wp2_with fail
        clear hv7
        refine (inewest hA7 h' gg h1' h2' (by rw [hdl5]; omega) hd5 none none hS2 hS3).mono ?_
        rintro e w8 ⟨rfl, hb8⟩
        have hb8a : Below v7.heap.size v7 (w8.alloc (.cells slZero.cells 37)) := hb8.alloc hb8.size _
        have e8 : nwUpto (h' : Int) gg none none 2 = (slZero, false) := rfl
        rw [e8]
        have hA8 := hA7.beyond hb8a
        have hW8 := below2 hW7 hb8a
        have hT8 := hT7.trans (.of_below hb8a)
        have hWn8 := hWn7.beyond hb8a
        have hY8 := hY7.beyond hb8a
        have hl1 := run_ldB hWn8
        have hl2 := run_ldB hY8
        clear hA7 hW7 hT7 hWn7 hY7 hb8 hb8a e8
        generalize hv8 : w8.alloc (.cells slZero.cells 37) = v8 at *
        go_wp2_with fail
        clear hv8
        refine (same_yes _ _).mono ?_
        rintro e w9 ⟨rfl, hb9⟩
        have hA9 := hA8.beyond hb9
        have hW9 := below2 hW8 hb9
        have hT9 := hT8.trans (.of_below hb9)
        clear hA8 hW8 hT8 hWn8 hY8 hl1 hl2 hb9
        go_wp2_with fail
        go_roundw
        case rel => exact ⟨i + 1, _, o0', o1', by omega, by go_num, hA9, hws5, hd5, hct5, hdl5, hwr5, ho0', ho1', hcon5, hL4.to hT9, hW9⟩
        case measure => simp [intOf]; omega
      · have tl : decide ((slO o0').num < (slO o1').num) = false := by simpa using hlt
        have HE : Hid (slO o0' = wantO o0' o1') := by show _ = _; rw [hWt.out, if_neg hlt]
        clear hlt hWt
        go_wp2_with fail
        clear hv5 hv4 cb5 lb5 cq5 l0 hldx3 cx3 hstk
        rw [HE.out] at hQ5
        have hWn := hQ5
        have hA5 := hA4.beyond hb5
        have hW5 := below2 hW4 hb5
        have hT5 : DkTo v4 v5 g gd (.slice none 0 0) (.slice none 0 0) := .of_below hb5
        clear hA4 hW4 hb5 hQ5
        refine (inewest hA5 h gg h1 h2 (by rw [hdl5]; omega) hd5 _ _ hS0 hS1).mono ?_
        rintro e w6 ⟨rfl, hb6⟩
        rw [HWant.out]
        have hA6 := (hA5.beyond hb6).beyond ((Below.refl _ _).alloc (Nat.le_refl _) (.cells (wantO o0' o1').cells 37))
        have hW6 := below3 hW5 hb6 ((Below.refl _ _).alloc (Nat.le_refl _) (.cells (wantO o0' o1').cells 37))
        have hT6 := (hT5.trans (.of_below hb6)).trans (.of_below ((Below.refl _ _).alloc (Nat.le_refl _) (.cells (wantO o0' o1').cells 37)))
        have hWn6 := (hWn.beyond hb6).alloc (.cells (wantO o0' o1').cells 37)
        have hY6 := Blk.new w6 37 (wantO o0' o1').cells
        clear hA5 hW5 hT5 hWn hb6
        generalize hv6 : w6.alloc (.cells (wantO o0' o1').cells 37) = v6 at *
        go_wp2_with fail
        clear hv6
        refine (inewest hA6 h (gg + 1) h1 h2 (by rw [hdl5]; omega) hd5 _ _ hS0 hS1).mono ?_
        rintro e w7 ⟨rfl, hb7⟩
        rw [newest_gen]
        have hb7a : Below v6.heap.size v6 (w7.alloc (.cells slZero.cells 37)) := hb7.alloc hb7.size _
        have hA7 := hA6.beyond hb7a
        have hW7 := below2 hW6 hb7a
        have hT7 := hT6.trans (.of_below hb7a)
        have hWn7 := hWn6.beyond hb7a
        have hY7 := hY6.beyond hb7a
        clear hA6 hW6 hT6 hWn6 hY6 hb7 hb7a
        generalize hv7 : w7.alloc (.cells slZero.cells 37) = v7 at *
        go_wp2_with fail
        clear hv7
        refine (inewest hA7 h' gg h1' h2' (by rw [hdl5]; omega) hd5 none none hS2 hS3).mono ?_
        rintro e w8 ⟨rfl, hb8⟩
        have hb8a : Below v7.heap.size v7 (w8.alloc (.cells slZero.cells 37)) := hb8.alloc hb8.size _
        have e8 : nwUpto (h' : Int) gg none none 2 = (slZero, false) := rfl
        rw [e8]
        have hA8 := hA7.beyond hb8a
        have hW8 := below2 hW7 hb8a
        have hT8 := hT7.trans (.of_below hb8a)
        have hWn8 := hWn7.beyond hb8a
        have hY8 := hY7.beyond hb8a
        have hl1 := run_ldB hWn8
        have hl2 := run_ldB hY8
        clear hA7 hW7 hT7 hWn7 hY7 hb8 hb8a e8
        generalize hv8 : w8.alloc (.cells slZero.cells 37) = v8 at *
        go_wp2_with fail
        clear hv8
        refine (same_yes _ _).mono ?_
        rintro e w9 ⟨rfl, hb9⟩
        have hA9 := hA8.beyond hb9
        have hW9 := below2 hW8 hb9
        have hT9 := hT8.trans (.of_below hb9)
        clear hA8 hW8 hT8 hWn8 hY8 hl1 hl2 hb9
        go_wp2_with fail
        go_roundw
        case rel => exact ⟨i + 1, _, o0', o1', by omega, by go_num, hA9, hws5, hd5, hct5, hdl5, hwr5, ho0', ho1', hcon5, hL4.to hT9, hW9⟩
        case measure => simp [intOf]; omega
    · obtain rfl : i = len := by omega
      have hcA := hcon.out (14 + 2 * h) (by omega)
      rw [if_pos rfl] at hcA
      go_wp2_with fail
      refine (iwipe hA h (14 + 2 * h) (15 + 2 * h) h1 h2 rfl rfl (by omega) hd hct hws (by omega)).mono ?_
      rintro e w2 ⟨rfl, wv2, hA2, hT2⟩
      have hW2 := hA.below hT2 hW
      have hd2 : (d.wiped (14 + 2 * h) (15 + 2 * h) 2).down = false := by
        show decide (cutDown (cutDown d.cut) = 0) = false
        rw [hct]; rfl
      have ho2 : (d.wiped (14 + 2 * h) (15 + 2 * h) 2).own = 0 := rfl
      have hdur2 : putAll (d.wiped (14 + 2 * h) (15 + 2 * h) 2).dur (d.wiped (14 + 2 * h) (15 + 2 * h) 2).ws = (d.dur.set (14 + 2 * h) zeros256).set (15 + 2 * h) zeros256 := by
        show putAll d.dur ((d.ws ++ [_]) ++ [_]) = _
        rw [hws]; rfl
      clear hA hT2 hW
      go_wp2_with fail
      refine (dflush hA2 0 (by decide) (.inr ho2) hd2).mono ?_
      rintro e w3 ⟨rfl, hA3, hT3⟩
      have hW3 := hA2.below hT3 hW2
      have hd3 : ((d.wiped (14 + 2 * h) (15 + 2 * h) 2).flushed 0).down = false := hd2
      have hw3 : ((d.wiped (14 + 2 * h) (15 + 2 * h) 2).flushed 0).ws = [] := rfl
      have hdur3 : ((d.wiped (14 + 2 * h) (15 + 2 * h) 2).flushed 0).dur = (d.dur.set (14 + 2 * h) zeros256).set (15 + 2 * h) zeros256 := hdur2
      generalize (d.wiped (14 + 2 * h) (15 + 2 * h) 2).flushed 0 = d3 at *
      have hS0 : slGot (d3.rd (14 + 2 * h)) = sayV none := by
        rw [Dk.rd_nil hw3, hdur3, getD_set _ _ _ _ (by rw [List.length_set]; omega), if_neg (by omega), getD_set _ _ _ _ (by omega), if_pos rfl]; exact slGot_zero'
      have hS1 : slGot (d3.rd (15 + 2 * h)) = sayV none := by
        rw [Dk.rd_nil hw3, hdur3, getD_set _ _ _ _ (by rw [List.length_set]; omega), if_pos rfl]; exact slGot_zero'
      clear hA2 hT3 hW2 hd2 hdur2 hcA
      go_wp2_with fail
      refine (inewest hA3 h gg h1 h2 (by rw [hdur3, List.length_set, List.length_set]; omega) hd3 none none hS0 hS1).mono ?_
      rintro e w4 ⟨rfl, hb4⟩
      have e4 : nwUpto (h : Int) gg none none 2 = (slZero, false) := rfl
      rw [e4]
      have hb4a : Below w3.heap.size w3 (w4.alloc (.cells slZero.cells 37)) := hb4.alloc hb4.size _
      have hA4 := hA3.beyond hb4a
      have hW4 := below2 hW3 hb4a
      clear hA3 hW3 hb4 hb4a e4
      generalize hv4 : w4.alloc (.cells slZero.cells 37) = v4 at *
      go_wp2_with fail
      clear hv4
      refine (made_any 1 1 _).mono ?_
      rintro e w5 ⟨rfl, hb5⟩
      generalize mkSl 1 1 = x
      have hX5 := Blk.new w5 37 x.cells
      have hb5a : Below v4.heap.size v4 (w5.alloc (.cells x.cells 37)) := hb5.alloc hb5.size _
      have hW5 := below2 hW4 hb5a
      have c1 : (w5.alloc (.cells x.cells 37)).cell? ⟨w5.heap.size, 1, none⟩ = some (.int .i64 x.life) := hX5.cell 1
      have f1 := hX5.frozen 1
      have hX6 : Blk ((w5.alloc (.cells x.cells 37)).setCell ⟨w5.heap.size, 1, none⟩ (.int .i64 0)) w5.heap.size 37 (Sl.mk x.num 0 x.clock x.seg x.at_ x.next x.seq x.m0 x.m1 x.m2 x.m3 x.sb x.sn).cells := hX5.set_ 1 (.int .i64 0)
      have hW6 := hW5.setCell (p := ⟨w5.heap.size, 1, none⟩) (by show w.heap.size ≤ w5.heap.size; have := hW4.size; have := hb5.size; omega) (.int .i64 0)
      have hno : (Sl.mk x.num 0 x.clock x.seg x.at_ x.next x.seq x.m0 x.m1 x.m2 x.m3 x.sb x.sn).ok h gg = false := by
        unfold Sl.ok Sl.chk Sl.chkA
        simp [inb]
      have hldb := run_ldB hX6
      clear hA4 hW4 hb5 hb5a hW5 hX5
      generalize hv5 : w5.alloc (.cells x.cells 37) = v5 at *
      go_wp2_with fail
      clear hv5
      refine (isave_bad _ g h gg _ hno).mono ?_
      rintro e w7 ⟨rfl, hb7⟩
      have hW7 := below2 hW6 hb7
      go_wp2_with fail
      refine (iawake_any _).mono ?_
      rintro e wz ⟨rfl, hbz⟩
      go_wp2_with fail
      go_ret
      exact ⟨rfl, below2 hW7 hbz⟩
end
theorem imageNewest_walk (house gen : Int) (a : Option Addr) (len cap : Nat) (zs : List Int) (w : World) (hrow : IsRow .i64 w a len cap zs) (_hlen : len ≤ 140737488351232) :
    Calls Try.prog 18 #[.int .i64 house, .int .i64 gen, .slice a len cap] w fun e w' => e = .returned (.bool true) ∧ Below w.heap.size w w' := by
  by_cases h : 40 < len
  · exact imageNewest_long house gen a len cap w h
  · exact imageNewest_short house gen a len cap zs w hrow (by omega)
end Go.Proofs.Ytmpkcehjmjopdaa
