import Derived.Test.YtmpkcehjmjopdaaImgM
import Derived.Maps.Keyed
namespace Go.Proofs.Ytmpkcehjmjopdaa
open Go.RowKit Go.Sort

/-! ### A map that holds nothing yet -/
def lkV (T : TypeId) (a b : Value) (c : Bool) : Sem Value := Instr.lookup T a b c
def muV (T : TypeId) (a b c : Value) : Sem Unit := Instr.mapUpdate T a b c
theorem lk92 (a b : Value) (c : Bool) : Instr.lookup 92 a b c = lkV 92 a b c := rfl
theorem mu92 (a b c : Value) : Instr.mapUpdate 92 a b c = muV 92 a b c := rfl
theorem zero3 (w : World) : (zeroValue 3).run Try.prog w = .ok (.int .i64 0) w := by kernel_rfl
theorem key_check (em : Bool) (k : Int) (hk : (Lit.int .i64 k).wf = true) (w : World) : (Instr.checkKey em 10000 3 (.int .i64 k)).run Try.prog w = .ok () w :=
  (Maps.int_keyed Try.underlying3).check w em (Maps.keyOf_int_mk Try.underlying3 hk)
theorem key_find (k : Int) (hk : (Lit.int .i64 k).wf = true) (w : World) : (Instr.findKey 3 (.int .i64 k) []).run Try.prog w = .ok none w := by
  rcases (Maps.int_keyed Try.underlying3).find w (Maps.keyOf_int_mk Try.underlying3 hk) [] (fun e he => by cases he) with ⟨h, _⟩ | ⟨j, e, _, h, _⟩
  · exact h
  · simp at h
theorem run_lk92 {w : World} {b : Nat} (h : w.heap[b]? = some (.map #[] 0)) (k : Int) (hk : (Lit.int .i64 k).wf = true) : (lkV 92 (.map (some b)) (.int .i64 k) true).run Try.prog w = .ok (.tuple #[.int .i64 0, .bool false]) w := by
  simp only [lkV, Instr.lookup, Sem.run_bind, run_underlying Try.underlying92, Result.andThen_ok, MapKept.run_getObj_map h, Sem.run_pure, key_check _ k hk, key_find k hk, zero3, if_true]
theorem run_mu92 {w : World} {b : Nat} (h : w.heap[b]? = some (.map #[] 0)) (k v : Int) (hk : (Lit.int .i64 k).wf = true) : ∃ o, (muV 92 (.map (some b)) (.int .i64 k) (.int .i64 v)).run Try.prog w = .ok () (ChangeMaps.setBlock w b o) := by
  refine ⟨Obj.map (#[].push ⟨.int .i64 k, .int .i64 v, 0⟩) 1, ?_⟩
  simp only [muV, Instr.mapUpdate, Sem.run_bind, run_underlying Try.underlying92, Result.andThen_ok, MapKept.run_getObj_map h, key_check _ k hk, key_find k hk, MapKept.run_setObj_map _ h]
  rfl
theorem setBlock_far (w : World) (b k : Nat) (o : Obj) (h : k ≠ b) : (ChangeMaps.setBlock w b o).heap[k]? = w.heap[k]? := by
  show (w.heap.setIfInBounds b o)[k]? = _
  rw [Array.getElem?_setIfInBounds, if_neg (fun e => h e.symm)]
theorem setBlock_size (w : World) (b : Nat) (o : Obj) : (ChangeMaps.setBlock w b o).heap.size = w.heap.size := by
  show (w.heap.setIfInBounds b o).size = _
  simp

theorem DkAt.of_blocks {w w' : World} {B g gd : Nat} {wv : Value} {d : Dk} (h : DkAt w B g gd wv d) (h1 : w'.heap[g]? = w.heap[g]?) (h2 : w'.heap[gd]? = w.heap[gd]?) (h3 : ∀ k, wv.ownBlock = some k → w'.heap[k]? = w.heap[k]?) : DkAt w' B g gd wv d :=
  { h with top := h1.trans h.top, sec := h2.trans h.sec, row := ownsRow_of_block h.row h3 }
/-- nil over nil -/
theorem DkAt.setNil' {w : World} {B g gd : Nat} {wv : Value} {d : Dk} (h : DkAt w B g gd wv d) (k : Nat) (hk : k < 17) (hw : k ≠ d.own ∨ d.ws = []) : DkAt (w.setCell ⟨g, 1 + k, none⟩ (.slice none 0 0)) B g gd wv d :=
  { h with
    top := by
      have h1 := h.top.set_ (1 + k) (.slice none 0 0)
      have h2 : (d.cells gd wv).setIfInBounds (1 + k) (.slice none 0 0) = d.cells gd wv := by
        apply Array.ext'
        rw [Array.toList_setIfInBounds, Nat.add_comm]
        unfold Dk.cells
        simp only [dkCells, List.set_cons_succ]
        rw [List.set_append_left _ _ (by rw [dkWaits_length]; exact hk)]
        have h3 : (dkWaits d.own wv).set k (.slice none 0 0) = dkWaits d.own wv := by
          apply List.ext_getElem?
          intro j
          rw [List.getElem?_set]
          split
          · rename_i e
            subst e
            rw [if_pos (by rw [dkWaits_length]; exact hk), dkWaits_get _ _ _ hk]
            rcases hw with hw | hw
            · rw [if_neg hw]
            · rw [h.nilw hw]; simp
          · rfl
        rw [h3]
      rwa [h2] at h1
    sec := h.sec.far (p := ⟨g, 1 + k, none⟩) (Ne.symm h.ne) _
    row := ownsRow_of_block h.row fun j hj => Below.heap_setCell _ _ _ _ (fun e : j = g => h.neg (by rw [← e]; exact hj)) }
/-- what there may be behind a loss of power -/
def BackTo (d d' : Dk) : Prop := d'.ws = [] ∧ d'.writes = d.writes ∧ d'.cut = d.cut ∧ d'.down = d.down ∧ (d'.dur = d.dur ∨ ∃ x ∈ d.ws, d'.dur = d.dur.set x.i x.s)
theorem wf_sector (n : Nat) (h : n < 100000) : (Lit.int .i64 (n : Int)).wf = true := by
  have h1 : IntKind.i64.min = -9223372036854775808 := rfl
  have h2 : IntKind.i64.max = 9223372036854775807 := rfl
  simp only [Lit.wf, Bool.and_eq_true, decide_eq_true_eq, h1, h2]
  omega

section
attribute [local go_sem ↓] al89 al91 ld89 ld91 ld84 st89 st91 ix84 lk92 mu92
attribute [local go_sem] run_al89 run_al91
set_option maxRecDepth 100000 in
set_option maxHeartbeats 4000000 in
theorem dback {w : World} {B g gd kb : Nat} {wv : Value} {d : Dk} (H : DkAt w B g gd wv d) (x : Wr) (hx : d.ws = [] ∨ d.own = 2 ∧ d.ws = [x]) (pa : Option Addr) (plen pcap : Nat)
    (hK : Loc w g gd wv kb 32 #[.slice none 0 0, .slice none 0 0, .slice pa plen pcap]) (hP : ∀ wr, Below B w wr → Plc wr pa plen) (hpl : plen ≤ 1000) :
    Calls Try.prog 44 #[.pointer (some ⟨g, 0, none⟩), .slice (some ⟨kb, 0, none⟩) 3 3] w fun e w' => e = .returned (.tuple #[]) ∧ ∃ wv' d', DkAt w' B g gd wv' { d' with cut := -1, down := false } ∧ BackTo d d' ∧ DkTo w w' g gd wv wv' := by
  have hmm := @run_makeMap Try.prog
  have hb1 : Below w.heap.size w (w.alloc (.map #[] 0)) := (Below.refl _ w).alloc (Nat.le_refl _) _
  have hA1 := H.beyond hb1
  have hT1 : DkTo w (w.alloc (.map #[] 0)) g gd wv wv := .of_below hb1
  have hM1 : (w.alloc (.map #[] 0)).heap[w.heap.size]? = some (.map #[] 0) := heap_alloc_new w _
  have hld := hA1.ld84
  have HH := Lib.hid H
  have HX := Lib.hid hx
  have HP := Lib.hid hP
  have HK := Lib.hid hK
  clear hx hP hK H
  go_enter Try.func44, Try.ntmps44
  go_wp2_with fail
  clear hmm hld
  go_loopw [16] (fun k wr => ∃ (k' : Nat) (wv' : Value) (d' : Dk), k' ≤ 17 ∧ k = .int .i64 k' ∧ DkAt wr B g gd wv' d' ∧ DkTo w wr g gd wv wv' ∧ (k' ≤ 2 → wv' = wv ∧ d' = d ∧ wr.heap[w.heap.size]? = some (.map #[] 0)) ∧ (2 < k' → BackTo d d')) (fun k _ => 17 - (intOf k).toNat)
  case atStart => exact ⟨0, wv, d, by omega, rfl, hA1, hT1, (fun _ => ⟨rfl, rfl, hM1⟩), fun h => absurd h (by omega)⟩
  case round =>
    clear hA1 hT1 hM1 hb1
    obtain ⟨k, wv', d', hk, rfl, hA, hT, hlo, hhi⟩ := hrel
    by_cases hk17 : k < 17
    · have hix := run_ix84 d.own wv k hk17
      by_cases hk3 : k < 3
      · obtain ⟨rfl, rfl, hM⟩ := hlo (by omega)
        have t3 : decide ((k : Int) < 3) = true := by simp; omega
        have t3' : decide (k < 3) = true := by simpa using hk3
        -- the list and the places of this owner
        obtain ⟨p0, n0, cap0, hv, hO, hn2⟩ : ∃ p0 n0 cap0, (if k = d'.own then wv' else Value.slice none 0 0) = .slice p0 n0 cap0 ∧ One wr p0 n0 x ∧ (0 < n0 → k = 2 ∧ d'.own = 2 ∧ d'.ws = [x]) := by
          rcases HX.out with h0 | ⟨h2, h0⟩
          · have hw : wv' = .slice none 0 0 := hA.nilw h0
            exact ⟨none, 0, 0, by rw [hw]; simp, ⟨by omega, fun h => absurd h (by omega)⟩, fun h => absurd h (by omega)⟩
          · by_cases hk2 : k = 2
            · rw [if_pos (by rw [h2]; exact hk2)]
              have hrow := hA.row
              rw [h0] at hrow
              obtain ⟨b, cap, hwv, _, hbl⟩ := hrow.form (Nat.zero_lt_one)
              refine ⟨some ⟨b, 0, none⟩, 1, cap, hwv, ⟨by omega, fun _ => ⟨b, rfl, hbl, ?_⟩⟩, fun _ => ⟨hk2, h2, h0⟩⟩
              rw [hwv] at hrow
              intro j v hj
              have := hrow.cells (g := b) rfl j v (by simpa [wcells] using hj)
              simpa [Addr.add_lit] using this
            · rw [if_neg (by rw [h2]; exact hk2)]
              exact ⟨none, 0, 0, rfl, ⟨by omega, fun h => absurd h (by omega)⟩, fun h => absurd h (by omega)⟩
        obtain ⟨qa, ql, qc, hcell, hQ, hql⟩ : ∃ qa ql qc, wr.cell? ⟨kb, k, none⟩ = some (.slice qa ql qc) ∧ Plc wr qa ql ∧ ql ≤ 1000 := by
          have hKr := (HK.out.to hT).blk
          obtain rfl | rfl | rfl : k = 0 ∨ k = 1 ∨ k = 2 := by omega
          · exact ⟨none, 0, 0, hKr.cell 0, fun h => absurd h (by omega), by omega⟩
          · exact ⟨none, 0, 0, hKr.cell 1, fun h => absurd h (by omega), by omega⟩
          · exact ⟨pa, plen, pcap, hKr.cell 2, HP.out wr (HH.out.below hT (Below.refl _ _)), hpl⟩
        have hix2 := hix wr
        rw [hv] at hix2
        clear hix
        have HKey := Lib.hid (dkept wr p0 n0 cap0 x qa ql qc hO hQ hql)
        clear hv hO hQ
        go_wp2_with fail
        refine HKey.out.mono ?_
        rintro e w2 ⟨p, n, cap, rfl, hO2, hn, hb2⟩
        have hml : w.heap.size < wr.heap.size := by
          rcases Nat.lt_or_ge w.heap.size wr.heap.size with h | h
          · exact h
          · rw [Array.getElem?_eq_none h] at hM; cases hM
        have hA2 := hA.beyond hb2
        have hT2 := hT.trans (.of_below hb2)
        have hM2 := (hb2.block _ hml).trans hM
        clear hA hT hb2 hix2 hcell HKey hM
        go_wp2_with fail
        have hnk : 0 < n → k = 2 ∧ d'.own = 2 ∧ d'.ws = [x] := fun h => hn2 (by omega)
        clear hn2
        have hn1 := hO2.1
        obtain ⟨xw, xi, xs, xl⟩ := x
        have HNK := Lib.hid hnk
        have HO2 := Lib.hid hO2
        clear hnk hO2
        go_loopw [31] (fun j wr => ∃ (j' : Nat) (d2 : Dk), j' ≤ n ∧ j = .int .i64 j' ∧ DkAt wr B g gd wv' d2 ∧ DkTo w wr g gd wv' wv' ∧ (j' = 0 → d2 = d' ∧ wr.heap[w.heap.size]? = some (.map #[] 0) ∧ One wr p n ⟨xw, xi, xs, xl⟩) ∧ (0 < j' → d2 = { d' with dur := d'.dur.set xi xs })) (fun j _ => n - (intOf j).toNat)
        case atStart => exact ⟨0, d', by omega, rfl, hA2, hT2, (fun _ => ⟨rfl, hM2, HO2.out⟩), fun h => absurd h (by omega)⟩
        case round =>
          clear hA2 hT2 hM2 HO2
          obtain ⟨j, d2, hj, rfl, hA, hT, hj0, hj1⟩ := hrel
          by_cases hjn : j < n
          · obtain rfl : j = 0 := by omega
            obtain ⟨rfl, hM, hO⟩ := hj0 rfl
            obtain ⟨_, how, hws⟩ := HNK.out (by omega)
            obtain ⟨b, rfl, hbl, hrg⟩ := hO.2 (by omega)
            have hxn : xi < d2.dur.length := (hA.inn _ (by rw [hws]; exact List.mem_cons_self ..)).1
            have hwf := wf_sector xi (by have := hA.n1; omega)
            have hml2 : w.heap.size < wr.heap.size := by
              rcases Nat.lt_or_ge w.heap.size wr.heap.size with h | h
              · exact h
              · rw [Array.getElem?_eq_none h] at hM; cases hM
            have l91 := run_ldm91 (w := wr) (b := b) (o := 0) (n := xw) (i := xi) (s := xs) hrg xl
            have hst := run_st91_new wr xw xi xs xl
            have hX := Blk.new wr 91 (wrCells xw xi xs).toArray
            have hb3 : Below wr.heap.size wr (wr.alloc (.cells (wrCells xw xi xs).toArray 91)) := (Below.refl _ _).alloc (Nat.le_refl _) _
            have hA3 := hA.beyond hb3
            have hT3 := hT.trans (.of_below hb3)
            have hM3 := (hb3.block _ hml2).trans hM
            generalize hv1 : wr.alloc (.cells (wrCells xw xi xs).toArray 91) = v1 at *
            have c0 : v1.cell? ⟨wr.heap.size, 0, none⟩ = some (.int .i64 xw) := hX.cell 0
            have c1 : v1.cell? ⟨wr.heap.size, 1, none⟩ = some (.int .i64 xi) := hX.cell 1
            have hlk := run_lk92 hM3 xi hwf
            obtain ⟨ob, hmu⟩ := run_mu92 hM3 xi xw hwf
            have hfar := fun k hk => setBlock_far v1 w.heap.size k ob hk
            have hgw : g ≠ w.heap.size := by have := HH.out.lt; omega
            have hgdw : gd ≠ w.heap.size := by have := HH.out.sec.lt; omega
            have hA4 : DkAt (ChangeMaps.setBlock v1 w.heap.size ob) B g gd wv' d2 := hA3.of_blocks (hfar _ hgw) (hfar _ hgdw) (fun k hk => hfar _ (fun e => by have := (HH.out.row.lt k hk).2; omega))
            have hT4 : DkTo w (ChangeMaps.setBlock v1 w.heap.size ob) g gd wv' wv' := ⟨hT3.os, hT3.tape, hT3.output, by rw [setBlock_size]; exact hT3.size, fun k hk h1 h2 h3 => (hfar k (by omega)).trans (hT3.block k hk h1 h2 h3), fun _ _ e => e⟩
            have hX4 : Blk (ChangeMaps.setBlock v1 w.heap.size ob) wr.heap.size 91 (wrCells xw xi xs).toArray := (hfar _ (by omega)).trans hX
            clear hA hT hrg hM hO hb3 hA3 hT3 hM3 hX hfar hj0 hj1
            generalize ChangeMaps.setBlock v1 w.heap.size ob = v2 at *
            have k0 := hA4.c0
            have k1 : v2.cell? ⟨wr.heap.size, 1, none⟩ = some (.int .i64 xi) := hX4.cell 1
            have hr2 : v2.rangeAt wr.heap.size 2 (bcells xs) := by
              intro q v hv
              rw [hX4.cell, List.getElem?_toArray, wrCells, Nat.add_comm]
              exact hv
            have l89 := run_ldm89 ((World.rangeAt_drew _ _ _ _).2 hr2) xl
            have hA5 := hA4.beyond (Below.refl _ _).drew
            have hT5 := hT4.trans (.of_below (Below.refl _ _).drew)
            have th := dcells_there hA5.sec hA5.dur xi hxn
            have s89 := run_stm89 th xl
            have hA6 := Lib.hid (hA5.setSec xi hxn xs xl)
            have hT6 := Lib.hid (hT5.setCells (w' := v2) (b := gd) (.inr rfl) (bcells xs) (xi * 256))
            clear hA4 hT4 hA5 hT5 hr2 th hX4
            generalize d2.dur.length = nn at *
            go_wp2_with fail
            go_region
            all_goals
              go_wp2_with fail
              go_roundw
              case rel => exact ⟨1, _, by omega, by go_num, hA6.out, hT6.out, (fun h => absurd h (by omega)), fun _ => rfl⟩
              case measure => simp [intOf]; omega
          · obtain rfl : j = n := by omega
            have hown : d2.own = d'.own ∧ d2.ws = d'.ws := by
              by_cases h0 : j = 0
              · rw [(hj0 h0).1]; exact ⟨rfl, rfl⟩
              · rw [hj1 (by omega)]; exact ⟨rfl, rfl⟩
            have cw := hA.cw k hk17
            have fw := hA.fz (1 + k)
            have hgw : g ≠ w.heap.size := by have := HH.out.lt; omega
            generalize (if k = d2.own then wv' else Value.slice none 0 0) = u at *
            by_cases hk2 : k = 2
            · have hsn := Lib.hid (hA.setNil k hk17 (by
                rw [hown.1, hown.2]
                rcases HX.out with h0 | ⟨h2, _⟩
                · exact .inl h0
                · exact .inr (by rw [h2]; exact hk2.symm)))
              have hbt : Hid (BackTo d' { d2 with own := k, ws := [] }) := by
                by_cases h0 : j = 0
                · rw [(hj0 h0).1]; exact ⟨rfl, rfl, rfl, rfl, .inl rfl⟩
                · obtain ⟨_, _, hws⟩ := HNK.out (by omega)
                  rw [hj1 (by omega)]
                  exact ⟨rfl, rfl, rfl, rfl, .inr ⟨_, by rw [hws]; exact List.mem_cons_self .., rfl⟩⟩
              have hTn : DkTo w (wr.setCell ⟨g, 1 + k, none⟩ (.slice none 0 0)) g gd wv' (.slice none 0 0) := hT.trans ((DkTo.refl wr g gd wv').setCell (.inl rfl) _ |>.trans ⟨rfl, rfl, rfl, Nat.le_refl _, fun _ _ _ _ _ => rfl, fun _ _ _ e => by cases e⟩)
              have HK2 := Lib.hid hk2
              clear hA hT hj0 hj1 hown hk2
              go_wp2_with fail
              go_roundw
              case rel => exact ⟨k + 1, _, _, by omega, by go_num, hsn.out, hTn, (fun h => absurd h (by have := HK2.out; omega)), fun _ => hbt.out⟩
              case measure => simp [intOf]; omega
            · have h0 : j = 0 := by
                rcases Nat.eq_zero_or_pos j with h | h
                · exact h
                · exact absurd (HNK.out h).1 hk2
              obtain ⟨rfl, hM, _⟩ := hj0 h0
              have hsn := Lib.hid (hA.setNil' k hk17 (by
                rcases HX.out with h0 | ⟨h2, _⟩
                · exact .inr h0
                · exact .inl (by rw [h2]; exact hk2)))
              have hTn := Lib.hid (hT.setCell (p := ⟨g, 1 + k, none⟩) (.inl rfl) (.slice none 0 0))
              have hMn := Lib.hid ((Below.heap_setCell wr ⟨g, 1 + k, none⟩ (.slice none 0 0) w.heap.size (Ne.symm hgw)).trans hM)
              have HK2 := Lib.hid hk2
              clear hA hT hj0 hj1 hown hk2 hM h0
              go_wp2_with fail
              go_roundw
              case rel => exact ⟨k + 1, _, _, by omega, by go_num, hsn.out, hTn.out, (fun _ => ⟨rfl, rfl, hMn.out⟩), fun h => absurd h (by have := HK2.out; omega)⟩
              case measure => simp [intOf]; omega
      · have hB := hhi (by omega)
        have t3 : decide ((k : Int) < 3) = false := by simp; omega
        have t3' : decide (k < 3) = false := by simpa using hk3
        have hix2 := hix wr
        have cw := hA.cw k hk17
        have fw := hA.fz (1 + k)
        have hsn := Lib.hid (hA.setNil' k hk17 (.inr hB.1))
        have hTn := Lib.hid (hT.setCell (p := ⟨g, 1 + k, none⟩) (.inl rfl) (.slice none 0 0))
        have HB := Lib.hid hB
        clear hix hA hT hB hlo hhi
        generalize (if k = d.own then wv else Value.slice none 0 0) = u1 at *
        generalize (if k = d'.own then wv' else Value.slice none 0 0) = u2 at *
        go_wp2_with fail
        go_roundw
        case rel => exact ⟨k + 1, _, _, by omega, by go_num, hsn.out, hTn.out, (fun h => absurd h (by omega)), fun _ => HB.out⟩
        case measure => simp [intOf]; omega
    · obtain rfl : k = 17 := by omega
      have hB := hhi (by omega)
      have c19 := hA.c19
      have c20 := hA.c20
      have f19 := hA.fz 19
      have f20 := hA.fz 20
      have hB7 := (hA.top.set_ 19 (.int .i64 (-1))).set_ 20 (.bool false)
      have h9 : ((d'.cells gd wv').setIfInBounds 19 (.int .i64 (-1))).setIfInBounds 20 (.bool false) = ({ d' with cut := -1, down := false } : Dk).cells gd wv' := by
        unfold Dk.cells
        rw [dkCells_s19, dkCells_s20]
      rw [h9] at hB7
      have hA7 : DkAt ((wr.setCell ⟨g, 19, none⟩ (.int .i64 (-1))).setCell ⟨g, 20, none⟩ (.bool false)) B g gd wv' { d' with cut := -1, down := false } :=
        { hA with
          top := hB7
          sec := (hA.sec.far (p := ⟨g, 19, none⟩) (Ne.symm hA.ne) _).far (p := ⟨g, 20, none⟩) (Ne.symm hA.ne) _
          row := ownsRow_of_block hA.row fun j hj => by
            have hjg : j ≠ g := fun e : j = g => hA.neg (by rw [← e]; exact hj)
            rw [Below.heap_setCell _ _ _ _ hjg, Below.heap_setCell _ _ _ _ hjg]
          ct := by show (-1 : Int) ≤ -1 ∧ (-1 : Int) ≤ 1000000; decide }
      have hT7 := (hT.setCell (p := ⟨g, 19, none⟩) (.inl rfl) (.int .i64 (-1))).setCell (p := ⟨g, 20, none⟩) (.inl rfl) (.bool false)
      have HA7 := Lib.hid hA7
      have HB := Lib.hid hB
      clear hA hT hB hB7 h9 hhi hlo hA7
      go_wp2_with fail
      go_end0
      exact ⟨rfl, wv', d', HA7.out, HB.out, hT7⟩
end
end Go.Proofs.Ytmpkcehjmjopdaa
