import Derived.Test.YtmpkcehjmjopdaaImgN
namespace Go.Proofs.Ytmpkcehjmjopdaa
open Go.RowKit Go.Sort

/-- the power is cut behind so many writes -/
def Dk.cutAt (d : Dk) (n : Nat) : Dk := { d with cut := n, down := decide (n = 0) }
set_option maxHeartbeats 400000 in
theorem dcut {w : World} {B g gd : Nat} {wv : Value} {d : Dk} (H : DkAt w B g gd wv d) (n : Nat) (hn : n ≤ 100) (hd : d.down = false) :
    Calls Try.prog 43 #[.pointer (some ⟨g, 0, none⟩), .int .i64 n] w fun e w' => e = .returned (.tuple #[]) ∧ DkAt w' B g gd wv (d.cutAt n) ∧ DkTo w w' g gd wv wv := by
  have c19 := H.c19
  have c20 := H.c20
  rw [hd] at c20
  have f19 := H.fz 19
  have f20 := H.fz 20
  have hmax : max (n : Int) (-1) = n := by omega
  have hB7 := (H.top.set_ 19 (.int .i64 n)).set_ 20 (.bool ((n : Int) == 0))
  have h9 : ((d.cells gd wv).setIfInBounds 19 (.int .i64 n)).setIfInBounds 20 (.bool ((n : Int) == 0)) = (d.cutAt n).cells gd wv := by
    unfold Dk.cells Dk.cutAt
    rw [dkCells_s19, dkCells_s20]
    have : ((n : Int) == 0) = decide (n = 0) := by
      by_cases h : n = 0
      · subst h; rfl
      · have : ¬ (n : Int) = 0 := by omega
        simp [h]
    rw [this]
  rw [h9] at hB7
  have hA7 : DkAt ((w.setCell ⟨g, 19, none⟩ (.int .i64 n)).setCell ⟨g, 20, none⟩ (.bool ((n : Int) == 0))) B g gd wv (d.cutAt n) :=
    { H with
      top := hB7
      sec := (H.sec.far (p := ⟨g, 19, none⟩) (Ne.symm H.ne) _).far (p := ⟨g, 20, none⟩) (Ne.symm H.ne) _
      row := ownsRow_of_block H.row fun j hj => by
        have hjg : j ≠ g := fun e : j = g => H.neg (by rw [← e]; exact hj)
        rw [Below.heap_setCell _ _ _ _ hjg, Below.heap_setCell _ _ _ _ hjg]
      ct := by show (-1 : Int) ≤ n ∧ (n : Int) ≤ 1000000; omega }
  have hT7 := ((DkTo.refl w g gd wv).setCell (p := ⟨g, 19, none⟩) (.inl rfl) (.int .i64 n)).setCell (p := ⟨g, 20, none⟩) (.inl rfl) (.bool ((n : Int) == 0))
  have HA7 := Lib.hid hA7
  have HT7 := Lib.hid hT7
  clear hA7 hT7 hB7 h9 H
  go_enter Try.func43, Try.ntmps43
  go_wp2_with fail
  go_end0
  exact ⟨rfl, HA7.out, HT7.out⟩

set_option maxRecDepth 100000 in
set_option maxHeartbeats 2000000 in
/-- slots of unlike numbers are not the same -/
theorem same_num (x : Sl) (m : Int) (hm : m ≠ x.num) (w : World) : Calls Try.prog 31 #[.agg (Sl.mk m x.life x.clock x.seg x.at_ x.next x.seq x.m0 x.m1 x.m2 x.m3 x.sb x.sn).cells, .agg x.cells] w fun e w' => e = .returned (.bool false) ∧ Below w.heap.size w w' := by
  have g0 : Blk ((w.alloc (.cells (Sl.mk m x.life x.clock x.seg x.at_ x.next x.seq x.m0 x.m1 x.m2 x.m3 x.sb x.sn).cells 37)).alloc (.cells x.cells 37)) w.heap.size 37 (Sl.mk m x.life x.clock x.seg x.at_ x.next x.seq x.m0 x.m1 x.m2 x.m3 x.sb x.sn).cells := (Blk.new w 37 _).alloc _
  have g1 : Blk ((w.alloc (.cells (Sl.mk m x.life x.clock x.seg x.at_ x.next x.seq x.m0 x.m1 x.m2 x.m3 x.sb x.sn).cells 37)).alloc (.cells x.cells 37)) (w.heap.size + 1) 37 x.cells := by
    have := Blk.new (w.alloc (.cells (Sl.mk m x.life x.clock x.seg x.at_ x.next x.seq x.m0 x.m1 x.m2 x.m3 x.sb x.sn).cells 37)) 37 x.cells
    rwa [World.size_alloc] at this
  have gw : Below w.heap.size w ((w.alloc (.cells (Sl.mk m x.life x.clock x.seg x.at_ x.next x.seq x.m0 x.m1 x.m2 x.m3 x.sb x.sn).cells 37)).alloc (.cells x.cells 37)) := ((Below.refl _ w).alloc (Nat.le_refl _) _).alloc (by simp) _
  have hne : (m == x.num) = false := by rw [beq_eq_false_iff_ne]; exact hm
  clear hm
  go_enter Try.func31, Try.ntmps31
  go_wp2_with fail
  generalize (w.alloc (.cells (Sl.mk m x.life x.clock x.seg x.at_ x.next x.seq x.m0 x.m1 x.m2 x.m3 x.sb x.sn).cells 37)).alloc (.cells x.cells 37) = v0 at *
  generalize w.heap.size + 1 = b1 at *
  go_loopw [5] (fun i wr => ∃ k : Nat, k ≤ 4 ∧ i = .int .i64 k ∧ Blk wr w.heap.size 37 (Sl.mk m x.life x.clock x.seg x.at_ x.next x.seq x.m0 x.m1 x.m2 x.m3 x.sb x.sn).cells ∧ Blk wr b1 37 x.cells ∧ Below w.heap.size w wr) (fun i _ => 4 - (intOf i).toNat)
  case atStart => exact ⟨0, by omega, rfl, g0, g1, gw⟩
  case round =>
    obtain ⟨k, hk, rfl, g0, g1, gw⟩ := hrel
    by_cases hk4 : k < 4
    · have hm1 : (Sl.mk m x.life x.clock x.seg x.at_ x.next x.seq x.m0 x.m1 x.m2 x.m3 x.sb x.sn).cells[7 + k]? = some (.int .i64 (x.maps.getD k 0)) := cells_map (Sl.mk m x.life x.clock x.seg x.at_ x.next x.seq x.m0 x.m1 x.m2 x.m3 x.sb x.sn) k hk4
      have hm2 := cells_map x k hk4
      generalize x.maps.getD k 0 = mm at *
      have c0 : wr.cell? ⟨w.heap.size, 7 + k, none⟩ = some (.int .i64 mm) := by rw [g0.cell, hm1]
      have c1 : wr.cell? ⟨b1, 7 + k, none⟩ = some (.int .i64 mm) := by rw [g1.cell, hm2]
      clear hm1 hm2
      go_wp2_with fail
      go_region
      all_goals
        go_wp2_with fail
        go_roundw
        case rel => exact ⟨k + 1, by omega, by go_num, g0.drew, g1.drew, gw.drew⟩
        case measure => simp [intOf]; omega
    · obtain rfl : k = 4 := by omega
      have c0 : wr.cell? ⟨w.heap.size, 0, none⟩ = some (.int .i64 m) := g0.cell 0
      have d0 : wr.cell? ⟨b1, 0, none⟩ = some (.int .i64 x.num) := g1.cell 0
      go_wp2_with fail
      go_ret
      exact ⟨rfl, gw⟩

/-- the block by the number 9, so many bytes of it -/
def fillTo (k : Nat) : List UInt8 := (List.range 256).map fun i => if i < k then UInt8.ofNat (9 + i * 5) else 0
def filled9 : List UInt8 := fillTo 256
theorem fillTo_length (k : Nat) : (fillTo k).length = 256 := by simp [fillTo]
theorem fillTo_set (k : Nat) (hk : k < 256) : (fillTo k).set k (UInt8.ofNat (9 + k * 5)) = fillTo (k + 1) := by
  apply List.ext_getElem?
  intro i
  rw [List.getElem?_set, fillTo_length]
  simp only [fillTo, List.getElem?_map]
  by_cases h1 : k = i
  · subst h1
    rw [if_pos rfl, if_pos hk, List.getElem?_range hk]
    simp
  · rw [if_neg h1]
    by_cases h2 : i < 256
    · rw [List.getElem?_range h2]
      have : (i < k + 1) = (i < k) := by simp; omega
      simp [this]
    · rw [List.getElem?_eq_none (by simp; omega)]
      rfl
theorem fillTo_zero : fillTo 0 = zeros256 := by
  unfold fillTo zeros256
  rw [List.eq_replicate_iff]
  refine ⟨by simp, fun b hb => ?_⟩
  simp at hb
  exact hb.2.symm
set_option maxRecDepth 100000 in
set_option maxHeartbeats 400000 in
theorem filled_any (w : World) : Calls Try.prog 42 #[.int .i64 9] w fun e w' => e = .returned (.string ⟨filled9.toArray⟩) ∧ Below w.heap.size w w' := by
  have hmk := mk_256 w
  have hB0 : Blk (w.alloc (.cells zblk 5)) w.heap.size 5 (bcells (fillTo 0)).toArray := by rw [fillTo_zero]; exact Blk.new w 5 zblk
  have hb0 : Below w.heap.size w (w.alloc (.cells zblk 5)) := (Below.refl _ w).alloc (Nat.le_refl _) _
  go_enter Try.func42, Try.ntmps42
  go_wp2_with fail
  clear hmk
  generalize w.alloc (.cells zblk 5) = v0 at *
  go_loopw [4] (fun i wr => ∃ k : Nat, k ≤ 256 ∧ i = .int .i64 k ∧ Blk wr w.heap.size 5 (bcells (fillTo k)).toArray ∧ Below w.heap.size w wr) (fun i _ => 256 - (intOf i).toNat)
  case atStart => exact ⟨0, by omega, rfl, hB0, hb0⟩
  case round =>
    clear hB0 hb0
    obtain ⟨k, hk, rfl, hB, hW⟩ := hrel
    by_cases hlt : k < 256
    · have hc : wr.cell? ⟨w.heap.size, k, none⟩ = some (.int .u8 ((fillTo k).getD k 0).toNat) := by
        rw [hB.cell, List.getElem?_toArray]; exact bcells_at _ _ (by rw [fillTo_length]; exact hlt)
      have hf := hB.frozen k
      have hv : (9 + (k : Int) * 5) % 256 = ((UInt8.ofNat (9 + k * 5)).toNat : Int) := by rw [UInt8.toNat_ofNat']; omega
      have hst := hB.set_ k (.int .u8 (UInt8.ofNat (9 + k * 5)).toNat)
      have hss := bcells_set (fillTo k) k (by rw [fillTo_length]; exact hlt) #[] (UInt8.ofNat (9 + k * 5))
      rw [Array.append_empty, Array.append_empty, fillTo_set k hlt] at hss
      rw [hss] at hst
      have HST := Lib.hid hst
      have HV := Lib.hid hv
      generalize (fillTo k).getD k 0 = u at *
      have hW2 := hW.setCell (p := ⟨w.heap.size, k, none⟩) (Nat.le_refl _) (.int .u8 ((9 + (k : Int) * 5) % 256))
      clear hst hss hB hW hv
      go_wp2_with fail
      go_roundw
      case rel => exact ⟨k + 1, by omega, by go_num, by rw [HV.out]; exact HST.out, hW2⟩
      case measure => simp [intOf]; omega
    · obtain rfl : k = 256 := by omega
      have hcv := conv_blk (W := wr) (g := w.heap.size) (t := 5) (l := fillTo 256) (x := #[]) (by simpa using hB) 256
      rw [fillTo_length] at hcv
      have HE : Hid (filled9 = fillTo 256) := rfl
      generalize fillTo 256 = F at *
      go_wp2_with fail
      go_ret
      exact ⟨by rw [HE.out]; rfl, hW⟩
end Go.Proofs.Ytmpkcehjmjopdaa
