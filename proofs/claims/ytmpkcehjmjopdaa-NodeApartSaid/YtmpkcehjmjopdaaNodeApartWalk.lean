import Derived.Test.YtmpkcehjmjopdaaNodeF
namespace Go.Proofs.Ytmpkcehjmjopdaa
open Go.RowKit
def apNd : Nd := (Nd.mk 1 1 0 0 0 [0, 0, 0, 0, 0, 0, 0, 0, 0, 0, 0, 0, 0, 0] rfl)
def apP (i : Nat) (v : Int) : List Int := ([0, 0, 0, 0, 0, 0, 0, 0, 0, 0, 0, 0, 0, 0] : List Int).set i v
theorem apP_len (i : Nat) (v : Int) : (apP i v).length = 14 := by simp [apP]
theorem nblock_inj {x y : Nd} (hx : x.chk = true) (hy : y.chk = true) (he : x.block = y.block) : x = y := by
  have a := nd_back hx
  rw [he, nd_back hy] at a
  exact a.symm
theorem apP_chk (i : Nat) (v : Int) (h0 : 0 ≤ v) (h1 : v ≤ 100) : (apP i v).all (fun m => inb m 0 16383) = true := by
  rw [List.all_eq_true]
  intro m hm
  rcases List.mem_or_eq_of_mem_set hm with h | h
  · have : m = 0 := by simpa using h
    subst this; rfl
  · subst h; simp [inb, h0]; omega
theorem apP_cells (i : Nat) (v : Int) : apNd.cells.setIfInBounds (5 + i) (.int .i64 v) = (Nd.mk 1 1 0 0 0 (apP i v) (apP_len i v)).cells := by
  apply Array.ext'
  rw [Array.toList_setIfInBounds]
  show List.set (_ :: _ :: _ :: _ :: _ :: icells _) (5 + i) _ = _ :: _ :: _ :: _ :: _ :: icells (List.set _ i v)
  rw [show 5 + i = i + 1 + 1 + 1 + 1 + 1 by omega]
  simp only [List.set_cons_succ, icells, List.map_set]
  rfl
theorem apP_get (i : Nat) (v : Int) (hi : i < 14) : (apP i v).getD i 0 = v := by simp [apP, List.getD, hi]
theorem run_st_apn (w : World) : (stV 65 (.pointer (some ⟨w.heap.size, 0, none⟩)) (.agg #[.int .i64 1, .int .i64 1, .int .i64 0, .int .i64 0, .int .i64 0, .int .i64 0, .int .i64 0, .int .i64 0, .int .i64 0, .int .i64 0, .int .i64 0, .int .i64 0, .int .i64 0, .int .i64 0, .int .i64 0, .int .i64 0, .int .i64 0, .int .i64 0, .int .i64 0])).run Try.prog (w.alloc (.cells #[.int .i64 0, .int .i64 0, .int .i64 0, .int .i64 0, .int .i64 0, .int .i64 0, .int .i64 0, .int .i64 0, .int .i64 0, .int .i64 0, .int .i64 0, .int .i64 0, .int .i64 0, .int .i64 0, .int .i64 0, .int .i64 0, .int .i64 0, .int .i64 0, .int .i64 0] 65)) = .ok () (w.alloc (.cells apNd.cells 65)) := nst_new w apNd
section
attribute [local go_sem ↓] ld65 st65
attribute [local go_sem] nst_new run_st_apn

set_option maxRecDepth 100000 in
set_option maxHeartbeats 4000000 in
theorem nodeApart_walk (how v v' : Int) (w : World) :
    Calls Try.prog 17 #[.int .i64 how, .int .i64 v, .int .i64 v'] w fun e w' => e = .returned (.bool true) ∧ Below w.heap.size w w' := by
  have hB : Blk (w.alloc (.cells apNd.cells 65)) w.heap.size 65 apNd.cells := Blk.new w 65 _
  have hW : Below w.heap.size w (w.alloc (.cells apNd.cells 65)) := (Below.refl _ w).alloc (Nat.le_refl _) _
  have hB2 := hB.alloc (.cells apNd.cells 65)
  have hW2 := hW.alloc hW.size (.cells apNd.cells 65)
  have hC2 := Blk.new (w.alloc (.cells apNd.cells 65)) 65 apNd.cells
  rw [World.size_alloc] at hC2
  have hld := run_ldN hB
  have hst := nst_new (w.alloc (.cells apNd.cells 65)) apNd
  rw [World.size_alloc] at hst
  go_enter Try.func17, Try.ntmps17
  go_wp2_with fail
  refine (place_any v 100 _ (by omega) (by omega)).mono ?_
  rintro e w1 ⟨rfl, rfl⟩
  have p0 := plc_nonneg v (n := 100) (by omega)
  have p1 := plc_lt v (n := 100) (by omega)
  generalize plc v 100 = a at *
  go_wp2_with fail
  refine (place_any v' 100 _ (by omega) (by omega)).mono ?_
  rintro e w1 ⟨rfl, rfl⟩
  have p2 := plc_nonneg v' (n := 100) (by omega)
  have p3 := plc_lt v' (n := 100) (by omega)
  generalize plc v' 100 = b at *
  go_wp2_with fail
  clear hld hst
  refine (place_any how 5 _ (by omega) (by omega)).mono ?_
  rintro e wq ⟨rfl, rfl⟩
  have q0 := plc_nonneg how (n := 5) (by omega)
  have q1 := plc_lt how (n := 5) (by omega)
  generalize plc how 5 = q at *
  have hbl : w.heap.size < w.heap.size + 1 := by omega
  generalize w.heap.size + 1 = b1 at *
  generalize hv3 : (w.alloc (.cells apNd.cells 65)).alloc (.cells apNd.cells 65) = v3 at *
  clear hv3 hB hW
  obtain rfl | rfl | rfl | rfl | rfl : q = 0 ∨ q = 1 ∨ q = 2 ∨ q = 3 ∨ q = 4 := by omega
  · have hx : Blk ((v3.setCell ⟨w.heap.size, 0, none⟩ (.int .i64 (1 + a))).setCell ⟨b1, 0, none⟩ (.int .i64 (1 + b))) w.heap.size 65 (Nd.mk (1 + a) 1 0 0 0 [0, 0, 0, 0, 0, 0, 0, 0, 0, 0, 0, 0, 0, 0] rfl).cells := (hB2.set_ 0 (.int .i64 (1 + a))).far (p := ⟨b1, 0, none⟩) (by show w.heap.size ≠ b1; omega) _
    have hy : Blk ((v3.setCell ⟨w.heap.size, 0, none⟩ (.int .i64 (1 + a))).setCell ⟨b1, 0, none⟩ (.int .i64 (1 + b))) b1 65 (Nd.mk (1 + b) 1 0 0 0 [0, 0, 0, 0, 0, 0, 0, 0, 0, 0, 0, 0, 0, 0] rfl).cells := (hC2.far (p := ⟨w.heap.size, 0, none⟩) (by show b1 ≠ w.heap.size; omega) (.int .i64 (1 + a))).set_ 0 (.int .i64 (1 + b))
    have ok1 : (Nd.mk (1 + a) 1 0 0 0 [0, 0, 0, 0, 0, 0, 0, 0, 0, 0, 0, 0, 0, 0] rfl).chk = true := by simp [Nd.chk, Nd.chkA, inb]; try omega
    have ok2 : (Nd.mk (1 + b) 1 0 0 0 [0, 0, 0, 0, 0, 0, 0, 0, 0, 0, 0, 0, 0, 0] rfl).chk = true := by simp [Nd.chk, Nd.chkA, inb]; try omega
    have hW4 := (hW2.setCell (p := ⟨w.heap.size, 0, none⟩) (Nat.le_refl _) (.int .i64 (1 + a))).setCell (p := ⟨b1, 0, none⟩) (by show w.heap.size ≤ b1; omega) (.int .i64 (1 + b))
    have c0 : v3.cell? ⟨w.heap.size, 0, none⟩ = some (.int .i64 1) := hB2.cell 0
    have f0 := hB2.frozen 0
    have c1 : v3.cell? ⟨b1, 0, none⟩ = some (.int .i64 1) := hC2.cell 0
    have f1 := hC2.frozen 0
    have hld1 := run_ldN hx
    clear q0 q1
    go_wp2_with fail
    refine (nputX (Nd.mk (1 + a) 1 0 0 0 [0, 0, 0, 0, 0, 0, 0, 0, 0, 0, 0, 0, 0, 0] rfl) _).mono ?_
    rintro e w5 ⟨ok, L5, rfl, hok, hL1, hL0, hb5⟩
    have hok2 : Hid (ok = true) := hok.out.trans ok1
    obtain rfl := hok2.out
    have hLa : Hid (L5 = (Nd.mk (1 + a) 1 0 0 0 [0, 0, 0, 0, 0, 0, 0, 0, 0, 0, 0, 0, 0, 0] rfl).block) := hL1.out rfl
    clear hok hL1 hL0 hok2 hld1
    have hW5 := hW4.trans (hb5.mono hW4.size)
    have hld2 := run_ldN (hy.beyond hb5)
    clear hb5 hW4
    go_wp2_with fail
    refine (nputX (Nd.mk (1 + b) 1 0 0 0 [0, 0, 0, 0, 0, 0, 0, 0, 0, 0, 0, 0, 0, 0] rfl) _).mono ?_
    rintro e w6 ⟨ok, L6, rfl, hok, hL1, hL0, hb6⟩
    have hok2 : Hid (ok = true) := hok.out.trans ok2
    obtain rfl := hok2.out
    have hLb : Hid (L6 = (Nd.mk (1 + b) 1 0 0 0 [0, 0, 0, 0, 0, 0, 0, 0, 0, 0, 0, 0, 0, 0] rfl).block) := hL1.out rfl
    clear hok hL1 hL0 hok2 hld2
    have hW6 := hW5.trans (hb6.mono hW5.size)
    clear hb6 hW5 hx hy
    by_cases hab : a = b
    · subst hab
      have hLL : (L5 == L6) = true := by rw [hLa.out, hLb.out]; simp
      clear hLa hLb
      go_wp2_with fail
      refine (nawake_any _).mono ?_
      rintro e wz ⟨rfl, hbz⟩
      go_wp2_with fail
      go_ret
      exact ⟨rfl, below2 hW6 hbz⟩
    · have hLL : (L5 == L6) = false := by
        rw [beq_eq_false_iff_ne, hLa.out, hLb.out]
        intro he
        have := nblock_inj ok1 ok2 he
        simp only [Nd.mk.injEq] at this
        omega
      have hne : ((1 + a) == (1 + b)) = false := by rw [beq_eq_false_iff_ne]; omega
      clear hLa hLb hab
      go_wp2_with fail
      refine (nawake_any _).mono ?_
      rintro e wz ⟨rfl, hbz⟩
      go_wp2_with fail
      go_ret
      exact ⟨rfl, below2 hW6 hbz⟩
  · have hx : Blk ((v3.setCell ⟨w.heap.size, 2, none⟩ (.int .i64 (1 + a))).setCell ⟨b1, 2, none⟩ (.int .i64 (1 + b))) w.heap.size 65 (Nd.mk 1 1 (1 + a) 0 0 [0, 0, 0, 0, 0, 0, 0, 0, 0, 0, 0, 0, 0, 0] rfl).cells := (hB2.set_ 2 (.int .i64 (1 + a))).far (p := ⟨b1, 2, none⟩) (by show w.heap.size ≠ b1; omega) _
    have hy : Blk ((v3.setCell ⟨w.heap.size, 2, none⟩ (.int .i64 (1 + a))).setCell ⟨b1, 2, none⟩ (.int .i64 (1 + b))) b1 65 (Nd.mk 1 1 (1 + b) 0 0 [0, 0, 0, 0, 0, 0, 0, 0, 0, 0, 0, 0, 0, 0] rfl).cells := (hC2.far (p := ⟨w.heap.size, 2, none⟩) (by show b1 ≠ w.heap.size; omega) (.int .i64 (1 + a))).set_ 2 (.int .i64 (1 + b))
    have ok1 : (Nd.mk 1 1 (1 + a) 0 0 [0, 0, 0, 0, 0, 0, 0, 0, 0, 0, 0, 0, 0, 0] rfl).chk = true := by simp [Nd.chk, Nd.chkA, inb]; try omega
    have ok2 : (Nd.mk 1 1 (1 + b) 0 0 [0, 0, 0, 0, 0, 0, 0, 0, 0, 0, 0, 0, 0, 0] rfl).chk = true := by simp [Nd.chk, Nd.chkA, inb]; try omega
    have hW4 := (hW2.setCell (p := ⟨w.heap.size, 2, none⟩) (Nat.le_refl _) (.int .i64 (1 + a))).setCell (p := ⟨b1, 2, none⟩) (by show w.heap.size ≤ b1; omega) (.int .i64 (1 + b))
    have c0 : v3.cell? ⟨w.heap.size, 2, none⟩ = some (.int .i64 0) := hB2.cell 2
    have f0 := hB2.frozen 2
    have c1 : v3.cell? ⟨b1, 2, none⟩ = some (.int .i64 0) := hC2.cell 2
    have f1 := hC2.frozen 2
    have hld1 := run_ldN hx
    clear q0 q1
    go_wp2_with fail
    refine (nputX (Nd.mk 1 1 (1 + a) 0 0 [0, 0, 0, 0, 0, 0, 0, 0, 0, 0, 0, 0, 0, 0] rfl) _).mono ?_
    rintro e w5 ⟨ok, L5, rfl, hok, hL1, hL0, hb5⟩
    have hok2 : Hid (ok = true) := hok.out.trans ok1
    obtain rfl := hok2.out
    have hLa : Hid (L5 = (Nd.mk 1 1 (1 + a) 0 0 [0, 0, 0, 0, 0, 0, 0, 0, 0, 0, 0, 0, 0, 0] rfl).block) := hL1.out rfl
    clear hok hL1 hL0 hok2 hld1
    have hW5 := hW4.trans (hb5.mono hW4.size)
    have hld2 := run_ldN (hy.beyond hb5)
    clear hb5 hW4
    go_wp2_with fail
    refine (nputX (Nd.mk 1 1 (1 + b) 0 0 [0, 0, 0, 0, 0, 0, 0, 0, 0, 0, 0, 0, 0, 0] rfl) _).mono ?_
    rintro e w6 ⟨ok, L6, rfl, hok, hL1, hL0, hb6⟩
    have hok2 : Hid (ok = true) := hok.out.trans ok2
    obtain rfl := hok2.out
    have hLb : Hid (L6 = (Nd.mk 1 1 (1 + b) 0 0 [0, 0, 0, 0, 0, 0, 0, 0, 0, 0, 0, 0, 0, 0] rfl).block) := hL1.out rfl
    clear hok hL1 hL0 hok2 hld2
    have hW6 := hW5.trans (hb6.mono hW5.size)
    clear hb6 hW5 hx hy
    by_cases hab : a = b
    · subst hab
      have hLL : (L5 == L6) = true := by rw [hLa.out, hLb.out]; simp
      clear hLa hLb
      go_wp2_with fail
      refine (nawake_any _).mono ?_
      rintro e wz ⟨rfl, hbz⟩
      go_wp2_with fail
      go_ret
      exact ⟨rfl, below2 hW6 hbz⟩
    · have hLL : (L5 == L6) = false := by
        rw [beq_eq_false_iff_ne, hLa.out, hLb.out]
        intro he
        have := nblock_inj ok1 ok2 he
        simp only [Nd.mk.injEq] at this
        omega
      have hne : ((1 + a) == (1 + b)) = false := by rw [beq_eq_false_iff_ne]; omega
      clear hLa hLb hab
      go_wp2_with fail
      refine (nawake_any _).mono ?_
      rintro e wz ⟨rfl, hbz⟩
      go_wp2_with fail
      go_ret
      exact ⟨rfl, below2 hW6 hbz⟩
  · have hx : Blk ((v3.setCell ⟨w.heap.size, 3, none⟩ (.int .i64 (1 + a))).setCell ⟨b1, 3, none⟩ (.int .i64 (1 + b))) w.heap.size 65 (Nd.mk 1 1 0 (1 + a) 0 [0, 0, 0, 0, 0, 0, 0, 0, 0, 0, 0, 0, 0, 0] rfl).cells := (hB2.set_ 3 (.int .i64 (1 + a))).far (p := ⟨b1, 3, none⟩) (by show w.heap.size ≠ b1; omega) _
    have hy : Blk ((v3.setCell ⟨w.heap.size, 3, none⟩ (.int .i64 (1 + a))).setCell ⟨b1, 3, none⟩ (.int .i64 (1 + b))) b1 65 (Nd.mk 1 1 0 (1 + b) 0 [0, 0, 0, 0, 0, 0, 0, 0, 0, 0, 0, 0, 0, 0] rfl).cells := (hC2.far (p := ⟨w.heap.size, 3, none⟩) (by show b1 ≠ w.heap.size; omega) (.int .i64 (1 + a))).set_ 3 (.int .i64 (1 + b))
    have ok1 : (Nd.mk 1 1 0 (1 + a) 0 [0, 0, 0, 0, 0, 0, 0, 0, 0, 0, 0, 0, 0, 0] rfl).chk = true := by simp [Nd.chk, Nd.chkA, inb]; try omega
    have ok2 : (Nd.mk 1 1 0 (1 + b) 0 [0, 0, 0, 0, 0, 0, 0, 0, 0, 0, 0, 0, 0, 0] rfl).chk = true := by simp [Nd.chk, Nd.chkA, inb]; try omega
    have hW4 := (hW2.setCell (p := ⟨w.heap.size, 3, none⟩) (Nat.le_refl _) (.int .i64 (1 + a))).setCell (p := ⟨b1, 3, none⟩) (by show w.heap.size ≤ b1; omega) (.int .i64 (1 + b))
    have c0 : v3.cell? ⟨w.heap.size, 3, none⟩ = some (.int .i64 0) := hB2.cell 3
    have f0 := hB2.frozen 3
    have c1 : v3.cell? ⟨b1, 3, none⟩ = some (.int .i64 0) := hC2.cell 3
    have f1 := hC2.frozen 3
    have hld1 := run_ldN hx
    clear q0 q1
    go_wp2_with fail
    refine (nputX (Nd.mk 1 1 0 (1 + a) 0 [0, 0, 0, 0, 0, 0, 0, 0, 0, 0, 0, 0, 0, 0] rfl) _).mono ?_
    rintro e w5 ⟨ok, L5, rfl, hok, hL1, hL0, hb5⟩
    have hok2 : Hid (ok = true) := hok.out.trans ok1
    obtain rfl := hok2.out
    have hLa : Hid (L5 = (Nd.mk 1 1 0 (1 + a) 0 [0, 0, 0, 0, 0, 0, 0, 0, 0, 0, 0, 0, 0, 0] rfl).block) := hL1.out rfl
    clear hok hL1 hL0 hok2 hld1
    have hW5 := hW4.trans (hb5.mono hW4.size)
    have hld2 := run_ldN (hy.beyond hb5)
    clear hb5 hW4
    go_wp2_with fail
    refine (nputX (Nd.mk 1 1 0 (1 + b) 0 [0, 0, 0, 0, 0, 0, 0, 0, 0, 0, 0, 0, 0, 0] rfl) _).mono ?_
    rintro e w6 ⟨ok, L6, rfl, hok, hL1, hL0, hb6⟩
    have hok2 : Hid (ok = true) := hok.out.trans ok2
    obtain rfl := hok2.out
    have hLb : Hid (L6 = (Nd.mk 1 1 0 (1 + b) 0 [0, 0, 0, 0, 0, 0, 0, 0, 0, 0, 0, 0, 0, 0] rfl).block) := hL1.out rfl
    clear hok hL1 hL0 hok2 hld2
    have hW6 := hW5.trans (hb6.mono hW5.size)
    clear hb6 hW5 hx hy
    by_cases hab : a = b
    · subst hab
      have hLL : (L5 == L6) = true := by rw [hLa.out, hLb.out]; simp
      clear hLa hLb
      go_wp2_with fail
      refine (nawake_any _).mono ?_
      rintro e wz ⟨rfl, hbz⟩
      go_wp2_with fail
      go_ret
      exact ⟨rfl, below2 hW6 hbz⟩
    · have hLL : (L5 == L6) = false := by
        rw [beq_eq_false_iff_ne, hLa.out, hLb.out]
        intro he
        have := nblock_inj ok1 ok2 he
        simp only [Nd.mk.injEq] at this
        omega
      have hne : ((1 + a) == (1 + b)) = false := by rw [beq_eq_false_iff_ne]; omega
      clear hLa hLb hab
      go_wp2_with fail
      refine (nawake_any _).mono ?_
      rintro e wz ⟨rfl, hbz⟩
      go_wp2_with fail
      go_ret
      exact ⟨rfl, below2 hW6 hbz⟩
  · have hx : Blk ((v3.setCell ⟨w.heap.size, 4, none⟩ (.int .i64 (1 + a))).setCell ⟨b1, 4, none⟩ (.int .i64 (1 + b))) w.heap.size 65 (Nd.mk 1 1 0 0 (1 + a) [0, 0, 0, 0, 0, 0, 0, 0, 0, 0, 0, 0, 0, 0] rfl).cells := (hB2.set_ 4 (.int .i64 (1 + a))).far (p := ⟨b1, 4, none⟩) (by show w.heap.size ≠ b1; omega) _
    have hy : Blk ((v3.setCell ⟨w.heap.size, 4, none⟩ (.int .i64 (1 + a))).setCell ⟨b1, 4, none⟩ (.int .i64 (1 + b))) b1 65 (Nd.mk 1 1 0 0 (1 + b) [0, 0, 0, 0, 0, 0, 0, 0, 0, 0, 0, 0, 0, 0] rfl).cells := (hC2.far (p := ⟨w.heap.size, 4, none⟩) (by show b1 ≠ w.heap.size; omega) (.int .i64 (1 + a))).set_ 4 (.int .i64 (1 + b))
    have ok1 : (Nd.mk 1 1 0 0 (1 + a) [0, 0, 0, 0, 0, 0, 0, 0, 0, 0, 0, 0, 0, 0] rfl).chk = true := by simp [Nd.chk, Nd.chkA, inb]; try omega
    have ok2 : (Nd.mk 1 1 0 0 (1 + b) [0, 0, 0, 0, 0, 0, 0, 0, 0, 0, 0, 0, 0, 0] rfl).chk = true := by simp [Nd.chk, Nd.chkA, inb]; try omega
    have hW4 := (hW2.setCell (p := ⟨w.heap.size, 4, none⟩) (Nat.le_refl _) (.int .i64 (1 + a))).setCell (p := ⟨b1, 4, none⟩) (by show w.heap.size ≤ b1; omega) (.int .i64 (1 + b))
    have c0 : v3.cell? ⟨w.heap.size, 4, none⟩ = some (.int .i64 0) := hB2.cell 4
    have f0 := hB2.frozen 4
    have c1 : v3.cell? ⟨b1, 4, none⟩ = some (.int .i64 0) := hC2.cell 4
    have f1 := hC2.frozen 4
    have hld1 := run_ldN hx
    clear q0 q1
    go_wp2_with fail
    refine (nputX (Nd.mk 1 1 0 0 (1 + a) [0, 0, 0, 0, 0, 0, 0, 0, 0, 0, 0, 0, 0, 0] rfl) _).mono ?_
    rintro e w5 ⟨ok, L5, rfl, hok, hL1, hL0, hb5⟩
    have hok2 : Hid (ok = true) := hok.out.trans ok1
    obtain rfl := hok2.out
    have hLa : Hid (L5 = (Nd.mk 1 1 0 0 (1 + a) [0, 0, 0, 0, 0, 0, 0, 0, 0, 0, 0, 0, 0, 0] rfl).block) := hL1.out rfl
    clear hok hL1 hL0 hok2 hld1
    have hW5 := hW4.trans (hb5.mono hW4.size)
    have hld2 := run_ldN (hy.beyond hb5)
    clear hb5 hW4
    go_wp2_with fail
    refine (nputX (Nd.mk 1 1 0 0 (1 + b) [0, 0, 0, 0, 0, 0, 0, 0, 0, 0, 0, 0, 0, 0] rfl) _).mono ?_
    rintro e w6 ⟨ok, L6, rfl, hok, hL1, hL0, hb6⟩
    have hok2 : Hid (ok = true) := hok.out.trans ok2
    obtain rfl := hok2.out
    have hLb : Hid (L6 = (Nd.mk 1 1 0 0 (1 + b) [0, 0, 0, 0, 0, 0, 0, 0, 0, 0, 0, 0, 0, 0] rfl).block) := hL1.out rfl
    clear hok hL1 hL0 hok2 hld2
    have hW6 := hW5.trans (hb6.mono hW5.size)
    clear hb6 hW5 hx hy
    by_cases hab : a = b
    · subst hab
      have hLL : (L5 == L6) = true := by rw [hLa.out, hLb.out]; simp
      clear hLa hLb
      go_wp2_with fail
      refine (nawake_any _).mono ?_
      rintro e wz ⟨rfl, hbz⟩
      go_wp2_with fail
      go_ret
      exact ⟨rfl, below2 hW6 hbz⟩
    · have hLL : (L5 == L6) = false := by
        rw [beq_eq_false_iff_ne, hLa.out, hLb.out]
        intro he
        have := nblock_inj ok1 ok2 he
        simp only [Nd.mk.injEq] at this
        omega
      have hne : ((1 + a) == (1 + b)) = false := by rw [beq_eq_false_iff_ne]; omega
      clear hLa hLb hab
      go_wp2_with fail
      refine (nawake_any _).mono ?_
      rintro e wz ⟨rfl, hbz⟩
      go_wp2_with fail
      go_ret
      exact ⟨rfl, below2 hW6 hbz⟩
  · obtain ⟨i, hi, hi14⟩ : ∃ i : Nat, (1 + a) % 14 = (i : Int) ∧ i < 14 := ⟨((1 + a) % 14).toNat, by omega, by omega⟩
    have hx : Blk ((v3.setCell ⟨w.heap.size, 5 + i, none⟩ (.int .i64 (1 + a))).setCell ⟨b1, 5 + i, none⟩ (.int .i64 (1 + b))) w.heap.size 65 (Nd.mk 1 1 0 0 0 (apP i (1 + a)) (apP_len i (1 + a))).cells := by
      have := (hB2.set_ (5 + i) (.int .i64 (1 + a))).far (p := ⟨b1, 5 + i, none⟩) (by show w.heap.size ≠ b1; omega) (.int .i64 (1 + b))
      rwa [apP_cells i _] at this
    have hy : Blk ((v3.setCell ⟨w.heap.size, 5 + i, none⟩ (.int .i64 (1 + a))).setCell ⟨b1, 5 + i, none⟩ (.int .i64 (1 + b))) b1 65 (Nd.mk 1 1 0 0 0 (apP i (1 + b)) (apP_len i (1 + b))).cells := by
      have := (hC2.far (p := ⟨w.heap.size, 5 + i, none⟩) (by show b1 ≠ w.heap.size; omega) (.int .i64 (1 + a))).set_ (5 + i) (.int .i64 (1 + b))
      rwa [apP_cells i _] at this
    have ok1 : (Nd.mk 1 1 0 0 0 (apP i (1 + a)) (apP_len i (1 + a))).chk = true := by unfold Nd.chk; rw [apP_chk i _ (by omega) (by omega)]; rfl
    have ok2 : (Nd.mk 1 1 0 0 0 (apP i (1 + b)) (apP_len i (1 + b))).chk = true := by unfold Nd.chk; rw [apP_chk i _ (by omega) (by omega)]; rfl
    have hW4 := (hW2.setCell (p := ⟨w.heap.size, 5 + i, none⟩) (Nat.le_refl _) (.int .i64 (1 + a))).setCell (p := ⟨b1, 5 + i, none⟩) (by show w.heap.size ≤ b1; omega) (.int .i64 (1 + b))
    have c0 := (hB2.cell (5 + i)).trans (apNd.cellp i hi14)
    have f0 := hB2.frozen (5 + i)
    have c1 := (hC2.cell (5 + i)).trans (apNd.cellp i hi14)
    have f1 := hC2.frozen (5 + i)
    have hld1 := run_ldN hx
    clear q0 q1
    go_wp2_with fail
    refine (nputX (Nd.mk 1 1 0 0 0 (apP i (1 + a)) (apP_len i (1 + a))) _).mono ?_
    rintro e w5 ⟨ok, L5, rfl, hok, hL1, hL0, hb5⟩
    have hok2 : Hid (ok = true) := hok.out.trans ok1
    obtain rfl := hok2.out
    have hLa : Hid (L5 = (Nd.mk 1 1 0 0 0 (apP i (1 + a)) (apP_len i (1 + a))).block) := hL1.out rfl
    clear hok hL1 hL0 hok2 hld1
    have hW5 := hW4.trans (hb5.mono hW4.size)
    have hld2 := run_ldN (hy.beyond hb5)
    clear hb5 hW4
    go_wp2_with fail
    refine (nputX (Nd.mk 1 1 0 0 0 (apP i (1 + b)) (apP_len i (1 + b))) _).mono ?_
    rintro e w6 ⟨ok, L6, rfl, hok, hL1, hL0, hb6⟩
    have hok2 : Hid (ok = true) := hok.out.trans ok2
    obtain rfl := hok2.out
    have hLb : Hid (L6 = (Nd.mk 1 1 0 0 0 (apP i (1 + b)) (apP_len i (1 + b))).block) := hL1.out rfl
    clear hok hL1 hL0 hok2 hld2
    have hW6 := hW5.trans (hb6.mono hW5.size)
    clear hb6 hW5 hx hy
    by_cases hab : a = b
    · subst hab
      have hLL : (L5 == L6) = true := by rw [hLa.out, hLb.out]; simp
      clear hLa hLb
      go_wp2_with fail
      refine (nawake_any _).mono ?_
      rintro e wz ⟨rfl, hbz⟩
      go_wp2_with fail
      go_ret
      exact ⟨rfl, below2 hW6 hbz⟩
    · have hLL : (L5 == L6) = false := by
        rw [beq_eq_false_iff_ne, hLa.out, hLb.out]
        intro he
        have := nblock_inj ok1 ok2 he
        have h2 := congrArg (fun y => y.p.getD i 0) this
        dsimp only at h2
        rw [apP_get i _ hi14, apP_get i _ hi14] at h2
        omega
      have hne : ((1 + a) == (1 + b)) = false := by rw [beq_eq_false_iff_ne]; omega
      clear hLa hLb hab
      go_wp2_with fail
      refine (nawake_any _).mono ?_
      rintro e wz ⟨rfl, hbz⟩
      go_wp2_with fail
      go_ret
      exact ⟨rfl, below2 hW6 hbz⟩
end
end Go.Proofs.Ytmpkcehjmjopdaa
