import Derived.Test.YtmpkcehjmjopdaaNodeF
namespace Go.Proofs.Ytmpkcehjmjopdaa
open Go.RowKit
/-- each number of a node at its last place -/
def edNd : Nd := ⟨255, 1, 100, 150528, 1099511627776, [16383, 16382, 16381, 16380, 16379, 16378, 16377, 16376, 16375, 16374, 16373, 16372, 16371, 16370], rfl⟩
theorem edNd_ok : edNd.chk = true := by decide +kernel
theorem edNd_p (k : Nat) (hk : k < 14) : edNd.p.getD k 0 = 16383 - (k : Int) := by
  match k, hk with
  | 0, _ | 1, _ | 2, _ | 3, _ | 4, _ | 5, _ | 6, _ | 7, _ | 8, _ | 9, _ | 10, _ | 11, _ | 12, _ | 13, _ => rfl
theorem nchk_A {x : Nd} (h : x.chkA = false) : x.chk = false := by unfold Nd.chk; rw [h]; rfl
def edP (i : Nat) (v : Int) : List Int := edNd.p.set i v
theorem edP_len (i : Nat) (v : Int) : (edP i v).length = 14 := by simp [edP, edNd]
theorem edP_chk (i : Nat) (v : Int) (hi : i < 14) (h1 : 16383 < v) : (Nd.mk 255 1 100 150528 1099511627776 (edP i v) (edP_len i v)).chk = false := by
  unfold Nd.chk
  have : (edP i v).all (fun m => inb m 0 16383) = false := by
    rw [List.all_eq_false]
    have hl : i < (edP i v).length := by rw [edP_len]; exact hi
    refine ⟨v, ?_, ?_⟩
    · have := List.getElem_mem hl
      simpa [edP] using this
    · simp [inb]; omega
  rw [this, Bool.and_false]
theorem edP_cells (i : Nat) (v : Int) : edNd.cells.setIfInBounds (5 + i) (.int .i64 v) = (Nd.mk 255 1 100 150528 1099511627776 (edP i v) (edP_len i v)).cells := by
  apply Array.ext'
  rw [Array.toList_setIfInBounds]
  show List.set (_ :: _ :: _ :: _ :: _ :: icells _) (5 + i) _ = _ :: _ :: _ :: _ :: _ :: icells (List.set _ i v)
  rw [show 5 + i = i + 1 + 1 + 1 + 1 + 1 by omega]
  simp only [List.set_cons_succ, icells, List.map_set]
  rfl
theorem run_st_edn (w : World) : (stV 65 (.pointer (some ⟨w.heap.size, 0, none⟩)) (.agg #[.int .i64 255, .int .i64 1, .int .i64 100, .int .i64 150528, .int .i64 1099511627776, .int .i64 0, .int .i64 0, .int .i64 0, .int .i64 0, .int .i64 0, .int .i64 0, .int .i64 0, .int .i64 0, .int .i64 0, .int .i64 0, .int .i64 0, .int .i64 0, .int .i64 0, .int .i64 0])).run Try.prog (w.alloc (.cells #[.int .i64 0, .int .i64 0, .int .i64 0, .int .i64 0, .int .i64 0, .int .i64 0, .int .i64 0, .int .i64 0, .int .i64 0, .int .i64 0, .int .i64 0, .int .i64 0, .int .i64 0, .int .i64 0, .int .i64 0, .int .i64 0, .int .i64 0, .int .i64 0, .int .i64 0] 65)) = .ok () (w.alloc (.cells (edNd.upto 0).cells 65)) := nst_new w (edNd.upto 0)
section
attribute [local go_sem ↓] ld65 st65
attribute [local go_sem] nst_new run_st_edn

set_option maxRecDepth 100000 in
set_option maxHeartbeats 4000000 in
theorem nodeEdges_walk (how v : Int) (w : World) :
    Calls Try.prog 16 #[.int .i64 how, .int .i64 v] w fun e w' => e = .returned (.bool true) ∧ Below w.heap.size w w' := by
  have hB : Blk (w.alloc (.cells (edNd.upto 0).cells 65)) w.heap.size 65 (edNd.upto 0).cells := Blk.new w 65 _
  have hW : Below w.heap.size w (w.alloc (.cells (edNd.upto 0).cells 65)) := (Below.refl _ w).alloc (Nat.le_refl _) _
  have HOK := Lib.hid edNd_ok
  have HP := Lib.hid edNd_p
  go_enter Try.func16, Try.ntmps16
  go_wp2_with fail
  refine (place_any v 1000 _ (by omega) (by omega)).mono ?_
  rintro e w1 ⟨rfl, rfl⟩
  have p0 := plc_nonneg v (n := 1000) (by omega)
  have p1 := plc_lt v (n := 1000) (by omega)
  generalize plc v 1000 = k0 at *
  go_wp2_with fail
  generalize w.alloc (.cells (edNd.upto 0).cells 65) = v0 at *
  go_loopw [7] (fun i wr => ∃ k : Nat, k ≤ 14 ∧ i = .int .i64 k ∧ Blk wr w.heap.size 65 (edNd.upto k).cells ∧ Below w.heap.size w wr) (fun i _ => 14 - (intOf i).toNat)
  case atStart => exact ⟨0, by omega, rfl, hB, hW⟩
  case round =>
    obtain ⟨k, hk, rfl, hBr, hWr⟩ := hrel
    clear hB hW
    by_cases hlt : k < 14
    · have c0 := (hBr.cell (5 + k)).trans ((edNd.upto k).cellp k hlt)
      have f0 := hBr.frozen (5 + k)
      have hst := hBr.set_ (5 + k) (.int .i64 (edNd.p.getD k 0))
      rw [Nd.upto_set edNd k hlt, HP.out k hlt] at hst
      have Hst := Lib.hid hst
      clear hst
      generalize (edNd.upto k).p.getD k 0 = m at *
      go_wp2_with fail
      go_roundw
      case rel => exact ⟨k + 1, by omega, by go_num, Hst.out, hWr.setCell (Nat.le_refl _) _⟩
      case measure => simp [intOf]; omega
    · obtain rfl : k = 14 := by omega
      rw [Nd.upto_14] at hBr
      have hld := run_ldN hBr
      go_wp2_with fail
      refine (nputX edNd _).mono ?_
      rintro e w1 ⟨ok, L, rfl, hok, hL1, hL0, hb1⟩
      have hok2 : Hid (ok = true) := by show _ = _; rw [hok.out]; exact HOK.out
      have hB1 := hBr.beyond hb1
      have hW1 := below2 hWr hb1
      obtain rfl := hok2.out
      have HG : Hid (ndGot L = .tuple #[.agg edNd.cells, .bool true]) := by show _ = _; rw [hL1.out rfl]; exact ndGot_block HOK.out
      have hlen : L.length = 256 := by rw [hL1.out rfl]; exact (nd_summed _).length
      have hll : L.length ≤ 256 := by omega
      clear hok hL1 hL0 hok2 hb1 hlen hBr hWr hld
      go_wp2_with fail
      refine (nget_any ⟨L.toArray⟩ _ (by show L.toArray.size ≤ _; simp; omega)).mono ?_
      rintro e w3 ⟨rfl, hb3⟩
      rw [show (⟨L.toArray⟩ : ByteArray).data.toList = L from rfl, HG.out]
      have hB3 := (hB1.beyond hb3).alloc (.cells edNd.cells 65)
      have hW3 := (below2 hW1 hb3).alloc (below2 hW1 hb3).size (.cells edNd.cells 65)
      have hY3 := Blk.new w3 65 edNd.cells
      have c7 : (w3.alloc (.cells edNd.cells 65)).cell? ⟨w3.heap.size, 18, none⟩ = some (.int .i64 16370) := hY3.cell 18
      have c12 : (w3.alloc (.cells edNd.cells 65)).cell? ⟨w3.heap.size, 3, none⟩ = some (.int .i64 150528) := hY3.cell 3
      clear hb3 hB1 hW1 hY3
      go_wp2_with fail
      clear c7 c12
      refine (place_any how 8 _ (by omega) (by omega)).mono ?_
      rintro e wq ⟨rfl, rfl⟩
      have q0 := plc_nonneg how (n := 8) (by omega)
      have q1 := plc_lt how (n := 8) (by omega)
      generalize plc how 8 = q at *
      generalize hv3 : w3.alloc (.cells edNd.cells 65) = v3 at *
      clear hv3 HP
      obtain rfl | rfl | rfl | rfl | rfl | rfl | rfl | rfl : q = 0 ∨ q = 1 ∨ q = 2 ∨ q = 3 ∨ q = 4 ∨ q = 5 ∨ q = 6 ∨ q = 7 := by omega
      · have hx : Blk (v3.setCell ⟨w.heap.size, 0, none⟩ (.int .i64 (255 + (1 + k0)))) w.heap.size 65 (Nd.mk (255 + (1 + k0)) 1 100 150528 1099511627776 [16383, 16382, 16381, 16380, 16379, 16378, 16377, 16376, 16375, 16374, 16373, 16372, 16371, 16370] rfl).cells := hB3.set_ 0 (.int .i64 (255 + (1 + k0)))
        have hno : Hid ((Nd.mk (255 + (1 + k0)) 1 100 150528 1099511627776 [16383, 16382, 16381, 16380, 16379, 16378, 16377, 16376, 16375, 16374, 16373, 16372, 16371, 16370] rfl).chk = false) := nchk_A (by simp [Nd.chkA, inb]; try omega)
        have hW4 := hW3.setCell (p := ⟨w.heap.size, 0, none⟩) (Nat.le_refl _) (.int .i64 (255 + (1 + k0)))
        have c0 : v3.cell? ⟨w.heap.size, 0, none⟩ = some (.int .i64 255) := hB3.cell 0
        have f0 := hB3.frozen 0
        have hld := run_ldN hx
        clear q0 q1
        go_wp2_with fail
        refine (nputX (Nd.mk (255 + (1 + k0)) 1 100 150528 1099511627776 [16383, 16382, 16381, 16380, 16379, 16378, 16377, 16376, 16375, 16374, 16373, 16372, 16371, 16370] rfl) _).mono ?_
        rintro e w5 ⟨ok, L5, rfl, hok, hL1, hL0, hb5⟩
        have hok2 : Hid (ok = false) := hok.out.trans hno.out
        obtain rfl := hok2.out
        obtain rfl := hL0.out rfl
        clear hok hL1 hL0 hok2 hld c0 f0
        have hW5 := hW4.trans (hb5.mono hW4.size)
        have hx5 := hx.beyond hb5
        have hld := run_ldN hx5
        clear hb5 hx
        go_wp2_with fail
        refine (ncheckX (Nd.mk (255 + (1 + k0)) 1 100 150528 1099511627776 [16383, 16382, 16381, 16380, 16379, 16378, 16377, 16376, 16375, 16374, 16373, 16372, 16371, 16370] rfl) _).mono ?_
        rintro e w6 ⟨rfl, hb6⟩
        rw [hno.out]
        have hW6 := hW5.trans (hb6.mono hW5.size)
        clear hb6 hx5 hld hno
        go_wp2_with fail
        refine (nawake_any _).mono ?_
        rintro e wz ⟨rfl, hbz⟩
        go_wp2_with fail
        go_ret
        exact ⟨rfl, below2 hW6 hbz⟩
      · have hx : Blk (v3.setCell ⟨w.heap.size, 1, none⟩ (.int .i64 (2 + (1 + k0)))) w.heap.size 65 (Nd.mk 255 (2 + (1 + k0)) 100 150528 1099511627776 [16383, 16382, 16381, 16380, 16379, 16378, 16377, 16376, 16375, 16374, 16373, 16372, 16371, 16370] rfl).cells := hB3.set_ 1 (.int .i64 (2 + (1 + k0)))
        have hno : Hid ((Nd.mk 255 (2 + (1 + k0)) 100 150528 1099511627776 [16383, 16382, 16381, 16380, 16379, 16378, 16377, 16376, 16375, 16374, 16373, 16372, 16371, 16370] rfl).chk = false) := nchk_A (by simp [Nd.chkA, inb]; try omega)
        have hW4 := hW3.setCell (p := ⟨w.heap.size, 1, none⟩) (Nat.le_refl _) (.int .i64 (2 + (1 + k0)))
        have c0 : v3.cell? ⟨w.heap.size, 1, none⟩ = some (.int .i64 1) := hB3.cell 1
        have f0 := hB3.frozen 1
        have hld := run_ldN hx
        clear q0 q1
        go_wp2_with fail
        refine (nputX (Nd.mk 255 (2 + (1 + k0)) 100 150528 1099511627776 [16383, 16382, 16381, 16380, 16379, 16378, 16377, 16376, 16375, 16374, 16373, 16372, 16371, 16370] rfl) _).mono ?_
        rintro e w5 ⟨ok, L5, rfl, hok, hL1, hL0, hb5⟩
        have hok2 : Hid (ok = false) := hok.out.trans hno.out
        obtain rfl := hok2.out
        obtain rfl := hL0.out rfl
        clear hok hL1 hL0 hok2 hld c0 f0
        have hW5 := hW4.trans (hb5.mono hW4.size)
        have hx5 := hx.beyond hb5
        have hld := run_ldN hx5
        clear hb5 hx
        go_wp2_with fail
        refine (ncheckX (Nd.mk 255 (2 + (1 + k0)) 100 150528 1099511627776 [16383, 16382, 16381, 16380, 16379, 16378, 16377, 16376, 16375, 16374, 16373, 16372, 16371, 16370] rfl) _).mono ?_
        rintro e w6 ⟨rfl, hb6⟩
        rw [hno.out]
        have hW6 := hW5.trans (hb6.mono hW5.size)
        clear hb6 hx5 hld hno
        go_wp2_with fail
        refine (nawake_any _).mono ?_
        rintro e wz ⟨rfl, hbz⟩
        go_wp2_with fail
        go_ret
        exact ⟨rfl, below2 hW6 hbz⟩
      · have hx : Blk (v3.setCell ⟨w.heap.size, 2, none⟩ (.int .i64 (100 + (1 + k0)))) w.heap.size 65 (Nd.mk 255 1 (100 + (1 + k0)) 150528 1099511627776 [16383, 16382, 16381, 16380, 16379, 16378, 16377, 16376, 16375, 16374, 16373, 16372, 16371, 16370] rfl).cells := hB3.set_ 2 (.int .i64 (100 + (1 + k0)))
        have hno : Hid ((Nd.mk 255 1 (100 + (1 + k0)) 150528 1099511627776 [16383, 16382, 16381, 16380, 16379, 16378, 16377, 16376, 16375, 16374, 16373, 16372, 16371, 16370] rfl).chk = false) := nchk_A (by simp [Nd.chkA, inb]; try omega)
        have hW4 := hW3.setCell (p := ⟨w.heap.size, 2, none⟩) (Nat.le_refl _) (.int .i64 (100 + (1 + k0)))
        have c0 : v3.cell? ⟨w.heap.size, 2, none⟩ = some (.int .i64 100) := hB3.cell 2
        have f0 := hB3.frozen 2
        have hld := run_ldN hx
        clear q0 q1
        go_wp2_with fail
        refine (nputX (Nd.mk 255 1 (100 + (1 + k0)) 150528 1099511627776 [16383, 16382, 16381, 16380, 16379, 16378, 16377, 16376, 16375, 16374, 16373, 16372, 16371, 16370] rfl) _).mono ?_
        rintro e w5 ⟨ok, L5, rfl, hok, hL1, hL0, hb5⟩
        have hok2 : Hid (ok = false) := hok.out.trans hno.out
        obtain rfl := hok2.out
        obtain rfl := hL0.out rfl
        clear hok hL1 hL0 hok2 hld c0 f0
        have hW5 := hW4.trans (hb5.mono hW4.size)
        have hx5 := hx.beyond hb5
        have hld := run_ldN hx5
        clear hb5 hx
        go_wp2_with fail
        refine (ncheckX (Nd.mk 255 1 (100 + (1 + k0)) 150528 1099511627776 [16383, 16382, 16381, 16380, 16379, 16378, 16377, 16376, 16375, 16374, 16373, 16372, 16371, 16370] rfl) _).mono ?_
        rintro e w6 ⟨rfl, hb6⟩
        rw [hno.out]
        have hW6 := hW5.trans (hb6.mono hW5.size)
        clear hb6 hx5 hld hno
        go_wp2_with fail
        refine (nawake_any _).mono ?_
        rintro e wz ⟨rfl, hbz⟩
        go_wp2_with fail
        go_ret
        exact ⟨rfl, below2 hW6 hbz⟩
      · have hx : Blk (v3.setCell ⟨w.heap.size, 3, none⟩ (.int .i64 (150528 + (1 + k0)))) w.heap.size 65 (Nd.mk 255 1 100 (150528 + (1 + k0)) 1099511627776 [16383, 16382, 16381, 16380, 16379, 16378, 16377, 16376, 16375, 16374, 16373, 16372, 16371, 16370] rfl).cells := hB3.set_ 3 (.int .i64 (150528 + (1 + k0)))
        have hno : Hid ((Nd.mk 255 1 100 (150528 + (1 + k0)) 1099511627776 [16383, 16382, 16381, 16380, 16379, 16378, 16377, 16376, 16375, 16374, 16373, 16372, 16371, 16370] rfl).chk = false) := nchk_A (by simp [Nd.chkA, inb]; try omega)
        have hW4 := hW3.setCell (p := ⟨w.heap.size, 3, none⟩) (Nat.le_refl _) (.int .i64 (150528 + (1 + k0)))
        have c0 : v3.cell? ⟨w.heap.size, 3, none⟩ = some (.int .i64 150528) := hB3.cell 3
        have f0 := hB3.frozen 3
        have hld := run_ldN hx
        clear q0 q1
        go_wp2_with fail
        refine (nputX (Nd.mk 255 1 100 (150528 + (1 + k0)) 1099511627776 [16383, 16382, 16381, 16380, 16379, 16378, 16377, 16376, 16375, 16374, 16373, 16372, 16371, 16370] rfl) _).mono ?_
        rintro e w5 ⟨ok, L5, rfl, hok, hL1, hL0, hb5⟩
        have hok2 : Hid (ok = false) := hok.out.trans hno.out
        obtain rfl := hok2.out
        obtain rfl := hL0.out rfl
        clear hok hL1 hL0 hok2 hld c0 f0
        have hW5 := hW4.trans (hb5.mono hW4.size)
        have hx5 := hx.beyond hb5
        have hld := run_ldN hx5
        clear hb5 hx
        go_wp2_with fail
        refine (ncheckX (Nd.mk 255 1 100 (150528 + (1 + k0)) 1099511627776 [16383, 16382, 16381, 16380, 16379, 16378, 16377, 16376, 16375, 16374, 16373, 16372, 16371, 16370] rfl) _).mono ?_
        rintro e w6 ⟨rfl, hb6⟩
        rw [hno.out]
        have hW6 := hW5.trans (hb6.mono hW5.size)
        clear hb6 hx5 hld hno
        go_wp2_with fail
        refine (nawake_any _).mono ?_
        rintro e wz ⟨rfl, hbz⟩
        go_wp2_with fail
        go_ret
        exact ⟨rfl, below2 hW6 hbz⟩
      · have hx : Blk (v3.setCell ⟨w.heap.size, 4, none⟩ (.int .i64 (1099511627776 + (1 + k0)))) w.heap.size 65 (Nd.mk 255 1 100 150528 (1099511627776 + (1 + k0)) [16383, 16382, 16381, 16380, 16379, 16378, 16377, 16376, 16375, 16374, 16373, 16372, 16371, 16370] rfl).cells := hB3.set_ 4 (.int .i64 (1099511627776 + (1 + k0)))
        have hno : Hid ((Nd.mk 255 1 100 150528 (1099511627776 + (1 + k0)) [16383, 16382, 16381, 16380, 16379, 16378, 16377, 16376, 16375, 16374, 16373, 16372, 16371, 16370] rfl).chk = false) := nchk_A (by simp [Nd.chkA, inb]; try omega)
        have hW4 := hW3.setCell (p := ⟨w.heap.size, 4, none⟩) (Nat.le_refl _) (.int .i64 (1099511627776 + (1 + k0)))
        have c0 : v3.cell? ⟨w.heap.size, 4, none⟩ = some (.int .i64 1099511627776) := hB3.cell 4
        have f0 := hB3.frozen 4
        have hld := run_ldN hx
        clear q0 q1
        go_wp2_with fail
        refine (nputX (Nd.mk 255 1 100 150528 (1099511627776 + (1 + k0)) [16383, 16382, 16381, 16380, 16379, 16378, 16377, 16376, 16375, 16374, 16373, 16372, 16371, 16370] rfl) _).mono ?_
        rintro e w5 ⟨ok, L5, rfl, hok, hL1, hL0, hb5⟩
        have hok2 : Hid (ok = false) := hok.out.trans hno.out
        obtain rfl := hok2.out
        obtain rfl := hL0.out rfl
        clear hok hL1 hL0 hok2 hld c0 f0
        have hW5 := hW4.trans (hb5.mono hW4.size)
        have hx5 := hx.beyond hb5
        have hld := run_ldN hx5
        clear hb5 hx
        go_wp2_with fail
        refine (ncheckX (Nd.mk 255 1 100 150528 (1099511627776 + (1 + k0)) [16383, 16382, 16381, 16380, 16379, 16378, 16377, 16376, 16375, 16374, 16373, 16372, 16371, 16370] rfl) _).mono ?_
        rintro e w6 ⟨rfl, hb6⟩
        rw [hno.out]
        have hW6 := hW5.trans (hb6.mono hW5.size)
        clear hb6 hx5 hld hno
        go_wp2_with fail
        refine (nawake_any _).mono ?_
        rintro e wz ⟨rfl, hbz⟩
        go_wp2_with fail
        go_ret
        exact ⟨rfl, below2 hW6 hbz⟩
      · obtain ⟨i, hi, hi14⟩ : ∃ i : Nat, (1 + k0) % 14 = (i : Int) ∧ i < 14 := ⟨((1 + k0) % 14).toNat, by omega, by omega⟩
        have hx : Blk (v3.setCell ⟨w.heap.size, 5 + i, none⟩ (.int .i64 (16383 + (1 + k0)))) w.heap.size 65 (Nd.mk 255 1 100 150528 1099511627776 (edP i (16383 + (1 + k0))) (edP_len i (16383 + (1 + k0)))).cells := by
          have := hB3.set_ (5 + i) (.int .i64 (16383 + (1 + k0)))
          rwa [edP_cells i _] at this
        have hno : Hid ((Nd.mk 255 1 100 150528 1099511627776 (edP i (16383 + (1 + k0))) (edP_len i (16383 + (1 + k0)))).chk = false) := edP_chk i _ hi14 (by omega)
        have hW4 := hW3.setCell (p := ⟨w.heap.size, 5 + i, none⟩) (Nat.le_refl _) (.int .i64 (16383 + (1 + k0)))
        have c0 := (hB3.cell (5 + i)).trans (edNd.cellp i hi14)
        have f0 := hB3.frozen (5 + i)
        have hld := run_ldN hx
        clear q0 q1
        go_wp2_with fail
        refine (nputX (Nd.mk 255 1 100 150528 1099511627776 (edP i (16383 + (1 + k0))) (edP_len i (16383 + (1 + k0)))) _).mono ?_
        rintro e w5 ⟨ok, L5, rfl, hok, hL1, hL0, hb5⟩
        have hok2 : Hid (ok = false) := hok.out.trans hno.out
        obtain rfl := hok2.out
        obtain rfl := hL0.out rfl
        clear hok hL1 hL0 hok2 hld c0 f0
        have hW5 := hW4.trans (hb5.mono hW4.size)
        have hx5 := hx.beyond hb5
        have hld := run_ldN hx5
        clear hb5 hx
        go_wp2_with fail
        refine (ncheckX (Nd.mk 255 1 100 150528 1099511627776 (edP i (16383 + (1 + k0))) (edP_len i (16383 + (1 + k0)))) _).mono ?_
        rintro e w6 ⟨rfl, hb6⟩
        rw [hno.out]
        have hW6 := hW5.trans (hb6.mono hW5.size)
        clear hb6 hx5 hld hno
        go_wp2_with fail
        refine (nawake_any _).mono ?_
        rintro e wz ⟨rfl, hbz⟩
        go_wp2_with fail
        go_ret
        exact ⟨rfl, below2 hW6 hbz⟩
      · have hx : Blk ((v3.setCell ⟨w.heap.size, 1, none⟩ (.int .i64 2)).setCell ⟨w.heap.size, 3, none⟩ (.int .i64 (256 * ((1 + k0) % 100) + 1 + (1 + k0) % 255))) w.heap.size 65 (Nd.mk 255 2 100 (256 * ((1 + k0) % 100) + 1 + (1 + k0) % 255) 1099511627776 [16383, 16382, 16381, 16380, 16379, 16378, 16377, 16376, 16375, 16374, 16373, 16372, 16371, 16370] rfl).cells := (hB3.set_ 1 (.int .i64 2)).set_ 3 (.int .i64 (256 * ((1 + k0) % 100) + 1 + (1 + k0) % 255))
        have hno : Hid ((Nd.mk 255 2 100 (256 * ((1 + k0) % 100) + 1 + (1 + k0) % 255) 1099511627776 [16383, 16382, 16381, 16380, 16379, 16378, 16377, 16376, 16375, 16374, 16373, 16372, 16371, 16370] rfl).chk = false) := nchk_A (by
          have : ((256 * ((1 + k0) % 100) + 1 + (1 + k0) % 255).tmod 256 == 0) = false := by
            rw [beq_eq_false_iff_ne, Int.tmod_eq_emod_of_nonneg (by omega)]; omega
          simp only [Nd.chkA, this]; simp)
        have hW4 := (hW3.setCell (p := ⟨w.heap.size, 1, none⟩) (Nat.le_refl _) (.int .i64 2)).setCell (p := ⟨w.heap.size, 3, none⟩) (Nat.le_refl _) (.int .i64 (256 * ((1 + k0) % 100) + 1 + (1 + k0) % 255))
        have c0 : v3.cell? ⟨w.heap.size, 1, none⟩ = some (.int .i64 1) := hB3.cell 1
        have f0 := hB3.frozen 1
        have c1 : v3.cell? ⟨w.heap.size, 3, none⟩ = some (.int .i64 150528) := hB3.cell 3
        have f1 := hB3.frozen 3
        have hld := run_ldN hx
        clear q0 q1
        go_wp2_with fail
        refine (nputX (Nd.mk 255 2 100 (256 * ((1 + k0) % 100) + 1 + (1 + k0) % 255) 1099511627776 [16383, 16382, 16381, 16380, 16379, 16378, 16377, 16376, 16375, 16374, 16373, 16372, 16371, 16370] rfl) _).mono ?_
        rintro e w5 ⟨ok, L5, rfl, hok, hL1, hL0, hb5⟩
        have hok2 : Hid (ok = false) := hok.out.trans hno.out
        obtain rfl := hok2.out
        obtain rfl := hL0.out rfl
        clear hok hL1 hL0 hok2 hld c0 f0
        have hW5 := hW4.trans (hb5.mono hW4.size)
        have hx5 := hx.beyond hb5
        have hld := run_ldN hx5
        clear hb5 hx
        go_wp2_with fail
        refine (ncheckX (Nd.mk 255 2 100 (256 * ((1 + k0) % 100) + 1 + (1 + k0) % 255) 1099511627776 [16383, 16382, 16381, 16380, 16379, 16378, 16377, 16376, 16375, 16374, 16373, 16372, 16371, 16370] rfl) _).mono ?_
        rintro e w6 ⟨rfl, hb6⟩
        rw [hno.out]
        have hW6 := hW5.trans (hb6.mono hW5.size)
        clear hb6 hx5 hld hno
        go_wp2_with fail
        refine (nawake_any _).mono ?_
        rintro e wz ⟨rfl, hbz⟩
        go_wp2_with fail
        go_ret
        exact ⟨rfl, below2 hW6 hbz⟩
      · have hx : Blk (v3.setCell ⟨w.heap.size, 2, none⟩ (.int .i64 (-(1 + k0)))) w.heap.size 65 (Nd.mk 255 1 (-(1 + k0)) 150528 1099511627776 [16383, 16382, 16381, 16380, 16379, 16378, 16377, 16376, 16375, 16374, 16373, 16372, 16371, 16370] rfl).cells := hB3.set_ 2 (.int .i64 (-(1 + k0)))
        have hno : Hid ((Nd.mk 255 1 (-(1 + k0)) 150528 1099511627776 [16383, 16382, 16381, 16380, 16379, 16378, 16377, 16376, 16375, 16374, 16373, 16372, 16371, 16370] rfl).chk = false) := nchk_A (by simp [Nd.chkA, inb]; try omega)
        have hW4 := hW3.setCell (p := ⟨w.heap.size, 2, none⟩) (Nat.le_refl _) (.int .i64 (-(1 + k0)))
        have c0 : v3.cell? ⟨w.heap.size, 2, none⟩ = some (.int .i64 100) := hB3.cell 2
        have f0 := hB3.frozen 2
        have hld := run_ldN hx
        clear q0 q1
        go_wp2_with fail
        refine (nputX (Nd.mk 255 1 (-(1 + k0)) 150528 1099511627776 [16383, 16382, 16381, 16380, 16379, 16378, 16377, 16376, 16375, 16374, 16373, 16372, 16371, 16370] rfl) _).mono ?_
        rintro e w5 ⟨ok, L5, rfl, hok, hL1, hL0, hb5⟩
        have hok2 : Hid (ok = false) := hok.out.trans hno.out
        obtain rfl := hok2.out
        obtain rfl := hL0.out rfl
        clear hok hL1 hL0 hok2 hld c0 f0
        have hW5 := hW4.trans (hb5.mono hW4.size)
        have hx5 := hx.beyond hb5
        have hld := run_ldN hx5
        clear hb5 hx
        go_wp2_with fail
        refine (ncheckX (Nd.mk 255 1 (-(1 + k0)) 150528 1099511627776 [16383, 16382, 16381, 16380, 16379, 16378, 16377, 16376, 16375, 16374, 16373, 16372, 16371, 16370] rfl) _).mono ?_
        rintro e w6 ⟨rfl, hb6⟩
        rw [hno.out]
        have hW6 := hW5.trans (hb6.mono hW5.size)
        clear hb6 hx5 hld hno
        go_wp2_with fail
        refine (nawake_any _).mono ?_
        rintro e wz ⟨rfl, hbz⟩
        go_wp2_with fail
        go_ret
        exact ⟨rfl, below2 hW6 hbz⟩
end
end Go.Proofs.Ytmpkcehjmjopdaa
